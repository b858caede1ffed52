/- Contracts: slices.Equal of slots and of instructions. -/
import Derived.Test.YtgakphichcihjaaGPm
import Derived.BigQuiet
import Derived.Deep.QuietTactic
import Derived.Laws.StructEq
import Derived.Laws.Tables
import Derived.Test.YtgakphichcihjaaGSc
namespace Go.Proofs.Ytgakphichcihjaa.pm
open Go.RowKit
set_option linter.unusedVariables false
set_option maxRecDepth 10000

def eqL {α : Type} (eq : α → α → Bool) : List α → List α → Bool
  | [], [] => true
  | x :: r, y :: s => eq x y && eqL eq r s
  | _, _ => false
theorem eqL_len {α : Type} {eq : α → α → Bool} : ∀ {l m : List α}, l.length ≠ m.length → eqL eq l m = false
  | [], [], h => absurd rfl h
  | [], _ :: _, _ => rfl
  | _ :: _, [], _ => rfl
  | x :: r, y :: s, h => by
    unfold eqL
    rw [eqL_len (l := r) (m := s) (by simpa using h), Bool.and_false]
theorem eqL_all {α : Type} {eq : α → α → Bool} {z : α} : ∀ {l m : List α}, l.length = m.length → (∀ j, j < l.length → eq (l.getD j z) (m.getD j z) = true) → eqL eq l m = true
  | [], [], _, _ => rfl
  | [], _ :: _, h, _ => by simp at h
  | _ :: _, [], h, _ => by simp at h
  | x :: r, y :: s, h, ha => by
    unfold eqL
    rw [eqL_all (z := z) (l := r) (m := s) (by simpa using h) (fun j hj => by simpa using ha (j + 1) (by simpa using hj)), Bool.and_true]
    simpa using ha 0 (by simp)
theorem eqL_one {α : Type} {eq : α → α → Bool} {z : α} : ∀ {l m : List α} {k : Nat}, k < l.length → k < m.length → eq (l.getD k z) (m.getD k z) = false → eqL eq l m = false
  | [], _, _, h, _, _ => by simp at h
  | _ :: _, [], _, _, h, _ => by simp at h
  | x :: r, y :: s, 0, _, _, h => by
    unfold eqL
    have : eq x y = false := by simpa using h
    rw [this, Bool.false_and]
  | x :: r, y :: s, k + 1, h1, h2, h => by
    unfold eqL
    rw [eqL_one (z := z) (l := r) (m := s) (k := k) (by simpa using h1) (by simpa using h2) (by simpa using h), Bool.and_false]
def slEq (a b : Int × Int) : Bool := a.1 == b.1 && a.2 == b.2
def inEq (a b : Ins) : Bool := a.op == b.op && a.a == b.a && a.b == b.b && a.c == b.c && a.imm == b.imm
theorem eq_slot (a b c d : Int) (w : World) : (Op.equalIn 10000 128 (.agg #[.int .i64 a, .int .i64 b]) (.agg #[.int .i64 c, .int .i64 d])).run Try.prog w = .ok (a == c && b == d) w := by
  have u3 := Try.underlying3
  have a3 := Try.isAgg3
  have z3 := Try.sizeOf3
  have hS : Try.prog.underlying 128 = some (.struct (Try.prog.fieldsOf 128)) := by kernel_rfl
  have hp : Try.prog.stoodInHeld 128 = false := by kernel_rfl
  rw [show (10000 : Nat) = 9999 + 1 from rfl, run_equalIn_agg w 9999 128 _ _ hS hp]
  simp only [Program.fieldsOf, Try.underlying128]
  go_simp
  by_cases h1 : a = c <;> by_cases h2 : b = d <;> simp [h1, h2]
theorem neq_slot (a b c d : Int) (w : World) : (binOp .neq 128 (.agg #[.int .i64 a, .int .i64 b]) (.agg #[.int .i64 c, .int .i64 d])).run Try.prog w = .ok (.bool (!(a == c && b == d))) w := by
  rw [run_neq_struct, eq_slot]; rfl
theorem eq_ins (a b c d i a' b' c' d' i' : Int) (w : World) : (Op.equalIn 10000 45 (.agg #[.int .i64 a, .int .i64 b, .int .i64 c, .int .i64 d, .int .u64 i]) (.agg #[.int .i64 a', .int .i64 b', .int .i64 c', .int .i64 d', .int .u64 i'])).run Try.prog w = .ok (a == a' && b == b' && c == c' && d == d' && i == i') w := by
  have u3 := Try.underlying3
  have a3 := Try.isAgg3
  have z3 := Try.sizeOf3
  have u4 := Try.underlying43
  have a4 := Try.isAgg43
  have z4 := Try.sizeOf43
  have hS : Try.prog.underlying 45 = some (.struct (Try.prog.fieldsOf 45)) := by kernel_rfl
  have hp : Try.prog.stoodInHeld 45 = false := by kernel_rfl
  rw [show (10000 : Nat) = 9999 + 1 from rfl, run_equalIn_agg w 9999 45 _ _ hS hp]
  simp only [Program.fieldsOf, Try.underlying45]
  go_simp
  by_cases h1 : a = a' <;> by_cases h2 : b = b' <;> by_cases h3 : c = c' <;> by_cases h4 : d = d' <;> by_cases h5 : i = i' <;> simp [h1, h2, h3, h4, h5]
theorem neq_ins (a b c d i a' b' c' d' i' : Int) (w : World) : (binOp .neq 45 (.agg #[.int .i64 a, .int .i64 b, .int .i64 c, .int .i64 d, .int .u64 i]) (.agg #[.int .i64 a', .int .i64 b', .int .i64 c', .int .i64 d', .int .u64 i'])).run Try.prog w = .ok (.bool (!(a == a' && b == b' && c == c' && d == d' && i == i'))) w := by
  rw [run_neq_struct, eq_ins]; rfl
set_option maxHeartbeats 1000000 in
theorem equal_code (A1 A2 : Option Addr) (l m : List Ins) (c1 c2 : Nat) (w : World) (lo hi lo' hi' : Nat) (h1 : Nx w lo hi A1 l) (h2 : Nx w lo' hi' A2 m) (hl : l.length ≤ maxLen) (hm : m.length ≤ maxLen) :
    Calls Try.prog 36 #[.slice A1 l.length c1, .slice A2 m.length c2] w fun e w' => e = .returned (.bool (eqL inEq l m)) ∧ ∃ k, w' = w.drewN k := by
  have H1 := Lib.hid h1
  have H2 := Lib.hid h2
  have hli : (l.length : Int) ≤ 9223372036854775807 := by unfold maxLen at hl; omega
  clear h1 h2
  by_cases hlen : l.length = m.length
  · have e0 : ((l.length : Int) != (m.length : Int)) = false := by simp [hlen]
    have HLM := Lib.hid hlen
    clear hlen
    go_enter Try.func36, Try.ntmps36
    go_wp2
    go_loopw [13] (fun v wr => ∃ k q : Nat, k ≤ l.length ∧ v = .int .i64 k ∧ Hid (∀ j, j < k → inEq (l.getD j Ins.z) (m.getD j Ins.z) = true) ∧ Hid (wr = w.drewN q)) (fun v _ => l.length - (intOf v).toNat)
    case atStart => exact ⟨0, 0, by omega, rfl, Lib.hid (fun j hj => by omega), Lib.hid rfl⟩
    case round =>
      obtain ⟨k, q, hk, rfl, HZ, HW⟩ := hrel
      have hk0 : (0 : Int) ≤ (k : Int) := by omega
      obtain rfl := HW.out
      by_cases hlt : k < l.length
      · have hki : (k : Int) < (l.length : Int) := by omega
        have hkm : k < m.length := by have := HLM.out; omega
        have hkmi : (k : Int) < (m.length : Int) := by omega
        obtain ⟨a1, rfl, hb1, x0, x1, x2, x3, x4⟩ := H1.out.whole hlt
        obtain ⟨a2, rfl, hb2, y0, y1, y2, y3, y4⟩ := H2.out.whole hkm
        obtain ⟨s, hs⟩ : ∃ s, s = l.getD k Ins.z := ⟨_, rfl⟩
        obtain ⟨t, ht⟩ : ∃ t, t = m.getD k Ins.z := ⟨_, rfl⟩
        rw [← hs] at x0 x1 x2 x3 x4
        rw [← ht] at y0 y1 y2 y3 y4
        rcases hq : inEq s t with _ | _
        · have hne : ∀ W, (binOp .neq 45 (.agg #[.int .i64 s.op, .int .i64 s.a, .int .i64 s.b, .int .i64 s.c, .int .u64 s.imm]) (.agg #[.int .i64 t.op, .int .i64 t.a, .int .i64 t.b, .int .i64 t.c, .int .u64 t.imm])).run Try.prog W = .ok (.bool true) W := fun W => (neq_ins s.op s.a s.b s.c s.imm t.op t.a t.b t.c t.imm W).trans (congrArg (fun b => Result.ok (Value.bool (!b)) W) hq)
          have HE : Hid (eqL inEq l m = false) := Lib.hid (eqL_one (z := Ins.z) hlt hkm (by rw [← hs, ← ht]; exact hq))
          clear hs ht hq HZ
          go_wp2_with fail
          go_quiet (fail)
          go_wp2
          go_ret
          exact ⟨ret_bool (by rw [HE.out]), q + nq, by first | rfl | exact World.drewN_drewN _ _ _⟩
        · have hne : ∀ W, (binOp .neq 45 (.agg #[.int .i64 s.op, .int .i64 s.a, .int .i64 s.b, .int .i64 s.c, .int .u64 s.imm]) (.agg #[.int .i64 t.op, .int .i64 t.a, .int .i64 t.b, .int .i64 t.c, .int .u64 t.imm])).run Try.prog W = .ok (.bool false) W := fun W => (neq_ins s.op s.a s.b s.c s.imm t.op t.a t.b t.c t.imm W).trans (congrArg (fun b => Result.ok (Value.bool (!b)) W) hq)
          have HZ' : Hid (∀ j, j < k + 1 → inEq (l.getD j Ins.z) (m.getD j Ins.z) = true) := Lib.hid (fun j hj => by
            rcases Nat.lt_or_ge j k with h | h
            · exact HZ.out j h
            · obtain rfl : j = k := by omega
              rw [← hs, ← ht]; exact hq)
          clear hs ht hq HZ
          go_wp2_with fail
          go_quiet (fail)
          go_wp2
          go_roundw
          case rel => exact ⟨k + 1, _, by omega, by go_num, HZ', Lib.hid rfl⟩
          case measure => simp [intOf]; omega
      · obtain rfl : k = l.length := by omega
        have HE : Hid (eqL inEq l m = true) := Lib.hid (eqL_all (z := Ins.z) HLM.out HZ.out)
        clear HZ
        go_wp2
        go_ret
        exact ⟨ret_bool (by rw [HE.out]), q, rfl⟩
  · have e0 : ((l.length : Int) != (m.length : Int)) = true := by simp; omega
    have HE : Hid (eqL inEq l m = false) := Lib.hid (eqL_len hlen)
    clear hlen
    go_enter Try.func36, Try.ntmps36
    go_wp2
    go_ret
    exact ⟨ret_bool (by rw [HE.out]), 0, rfl⟩
def sameFn (f g : Fn) : Bool := f.params == g.params && eqL slEq f.slots g.slots && eqL inEq f.code g.code
/-- a function as a value -/
def FvV (prm : Int) (As : Option Addr) (ns cs : Nat) (Ai : Option Addr) (ni ci : Nat) : Value := .agg #[.int .i64 prm, .slice As ns cs, .slice Ai ni ci]
end Go.Proofs.Ytgakphichcihjaa.pm
namespace Go.Proofs.Ytgakphichcihjaa.pm
open Go.RowKit
set_option linter.unusedVariables false
set_option maxRecDepth 10000
/-- the cells of a value -/
def ucells (x : Int × Int) : List Value := [.int .u64 x.1, .int .u64 x.2]
theorem ucells_len (x : Int × Int) : (ucells x).length = 2 := rfl
def Ux (w : World) (lo hi : Nat) (A : Option Addr) (l : List (Int × Int)) : Prop := Rx w lo hi 2 A l.length (l.flatMap ucells)
section
variable {lo hi lo' hi' : Nat} {w w' : World} {A : Option Addr} {k : Nat} {l : List (Int × Int)}
theorem Ux.keep (h : Ux w lo hi A l) (hk : Kp lo hi w w') : Ux w' lo hi A l := Rx.keep h hk
theorem Ux.more (h : Ux w lo hi A l) (hl : lo' ≤ lo) (hh : hi ≤ hi') : Ux w lo' hi' A l := Rx.more h hl hh
theorem Ux.whole (h : Ux w lo hi A l) (hk : k < l.length) : ∃ ad, A = some ad ∧ ad.block < hi ∧ w.cell? (ad.add (k * 2)) = some (.int .u64 (l.getD k (0, 0)).1) ∧ w.cell? ⟨(ad.add (k * 2)).block, (ad.add (k * 2)).off + 1, none⟩ = some (.int .u64 (l.getD k (0, 0)).2) := by
  obtain ⟨ad, e, hb, hc⟩ := h.1.2 (by omega)
  have g0 : ∀ j, j < 2 → (l.flatMap ucells)[k * 2 + j]? = (ucells (l.getD k (0, 0)))[j]? := fun j hj => flat_get ucells_len (0, 0) l k j (by omega) hj
  have c1 : w.cell? ((ad.add (k * 2)).add 1) = some (.int .u64 (l.getD k (0, 0)).2) := by
    rw [add_of_add]
    exact hc (k * 2 + 1) _ (by simpa [ucells] using g0 1 (by omega))
  rw [add_pos _ 1 (by omega)] at c1
  exact ⟨ad, e, hb, hc (k * 2) _ (by simpa [ucells] using g0 0 (by omega)), c1⟩
end
theorem eq_val (a b c d : Int) (w : World) : (Op.equalIn 10000 54 (.agg #[.int .u64 a, .int .u64 b]) (.agg #[.int .u64 c, .int .u64 d])).run Try.prog w = .ok (a == c && b == d) w := by
  have u4 := Try.underlying43
  have a4 := Try.isAgg43
  have z4 := Try.sizeOf43
  have hS : Try.prog.underlying 54 = some (.struct (Try.prog.fieldsOf 54)) := by kernel_rfl
  have hp : Try.prog.stoodInHeld 54 = false := by kernel_rfl
  rw [show (10000 : Nat) = 9999 + 1 from rfl, run_equalIn_agg w 9999 54 _ _ hS hp]
  simp only [Program.fieldsOf, Try.underlying54]
  go_simp
  by_cases h1 : a = c <;> by_cases h2 : b = d <;> simp [h1, h2]
theorem neq_val (a b c d : Int) (w : World) : (binOp .neq 54 (.agg #[.int .u64 a, .int .u64 b]) (.agg #[.int .u64 c, .int .u64 d])).run Try.prog w = .ok (.bool (!(a == c && b == d))) w := by
  rw [run_neq_struct, eq_val]; rfl
theorem eql_val (a b c d : Int) (w : World) : (binOp .eql 54 (.agg #[.int .u64 a, .int .u64 b]) (.agg #[.int .u64 c, .int .u64 d])).run Try.prog w = .ok (.bool (a == c && b == d)) w := by
  rw [run_eql_struct, eq_val]; rfl
set_option maxHeartbeats 1000000 in
theorem refequal_vals (A1 A2 : Option Addr) (l m : List (Int × Int)) (c1 c2 : Nat) (w : World) (lo hi lo' hi' : Nat) (h1 : Ux w lo hi A1 l) (h2 : Ux w lo' hi' A2 m) (hl : l.length ≤ maxLen) (hm : m.length ≤ maxLen) :
    Calls Try.prog 25 #[.slice A1 l.length c1, .slice A2 m.length c2] w fun e w' => e = .returned (.bool (eqL slEq l m)) ∧ ∃ k, w' = w.drewN k := by
  have H1 := Lib.hid h1
  have H2 := Lib.hid h2
  have hli : (l.length : Int) ≤ 9223372036854775807 := by unfold maxLen at hl; omega
  clear h1 h2
  by_cases hlen : l.length = m.length
  · have e0 : ((l.length : Int) != (m.length : Int)) = false := by simp [hlen]
    have HLM := Lib.hid hlen
    clear hlen
    go_enter Try.func25, Try.ntmps25
    go_wp2
    go_loopw [5] (fun v wr => ∃ k q : Nat, k ≤ l.length ∧ v = .int .i64 k ∧ Hid (∀ j, j < k → slEq (l.getD j (0, 0)) (m.getD j (0, 0)) = true) ∧ Hid (wr = w.drewN q)) (fun v _ => l.length - (intOf v).toNat)
    case atStart => exact ⟨0, 0, by omega, rfl, Lib.hid (fun j hj => by omega), Lib.hid rfl⟩
    case round =>
      obtain ⟨k, q, hk, rfl, HZ, HW⟩ := hrel
      have hk0 : (0 : Int) ≤ (k : Int) := by omega
      obtain rfl := HW.out
      by_cases hlt : k < l.length
      · have hki : (k : Int) < (l.length : Int) := by omega
        have hkm : k < m.length := by have := HLM.out; omega
        have hkmi : (k : Int) < (m.length : Int) := by omega
        obtain ⟨a1, rfl, hb1, x0, x1⟩ := H1.out.whole hlt
        obtain ⟨a2, rfl, hb2, y0, y1⟩ := H2.out.whole hkm
        obtain ⟨s, hs⟩ : ∃ s, s = l.getD k (0, 0) := ⟨_, rfl⟩
        obtain ⟨t, ht⟩ : ∃ t, t = m.getD k (0, 0) := ⟨_, rfl⟩
        rw [← hs] at x0 x1
        rw [← ht] at y0 y1
        rcases hq : slEq s t with _ | _
        · have hne : ∀ W, (binOp .neq 54 (.agg #[.int .u64 s.1, .int .u64 s.2]) (.agg #[.int .u64 t.1, .int .u64 t.2])).run Try.prog W = .ok (.bool true) W := fun W => (neq_val s.1 s.2 t.1 t.2 W).trans (congrArg (fun b => Result.ok (Value.bool (!b)) W) hq)
          have HE : Hid (eqL slEq l m = false) := Lib.hid (eqL_one (z := (0, 0)) hlt hkm (by rw [← hs, ← ht]; exact hq))
          clear hs ht hq HZ
          go_wp2_with fail
          go_quiet (fail)
          go_wp2
          go_ret
          exact ⟨ret_bool (by rw [HE.out]), q + nq, by first | rfl | exact World.drewN_drewN _ _ _⟩
        · have hne : ∀ W, (binOp .neq 54 (.agg #[.int .u64 s.1, .int .u64 s.2]) (.agg #[.int .u64 t.1, .int .u64 t.2])).run Try.prog W = .ok (.bool false) W := fun W => (neq_val s.1 s.2 t.1 t.2 W).trans (congrArg (fun b => Result.ok (Value.bool (!b)) W) hq)
          have HZ' : Hid (∀ j, j < k + 1 → slEq (l.getD j (0, 0)) (m.getD j (0, 0)) = true) := Lib.hid (fun j hj => by
            rcases Nat.lt_or_ge j k with h | h
            · exact HZ.out j h
            · obtain rfl : j = k := by omega
              rw [← hs, ← ht]; exact hq)
          clear hs ht hq HZ
          go_wp2_with fail
          go_quiet (fail)
          go_wp2
          go_roundw
          case rel => exact ⟨k + 1, _, by omega, by go_num, HZ', Lib.hid rfl⟩
          case measure => simp [intOf]; omega
      · obtain rfl : k = l.length := by omega
        have HE : Hid (eqL slEq l m = true) := Lib.hid (eqL_all (z := (0, 0)) HLM.out HZ.out)
        clear HZ
        go_wp2
        go_ret
        exact ⟨ret_bool (by rw [HE.out]), q, rfl⟩
  · have e0 : ((l.length : Int) != (m.length : Int)) = true := by simp; omega
    have HE : Hid (eqL slEq l m = false) := Lib.hid (eqL_len hlen)
    clear hlen
    go_enter Try.func25, Try.ntmps25
    go_wp2
    go_ret
    exact ⟨ret_bool (by rw [HE.out]), 0, rfl⟩
end Go.Proofs.Ytgakphichcihjaa.pm
namespace Go.Proofs.Ytgakphichcihjaa.pm
open Go.RowKit
set_option linter.unusedVariables false
set_option maxRecDepth 10000
structure Oc where
  kind : Int
  code : Int
  lo : Int
  hi : Int
  tr : List (Int × Int)
  st : Int
def ocs (o : Oc) (A : Option Addr) (c : Nat) : Array Value := #[.int .i64 o.kind, .int .u64 o.code, .int .u64 o.lo, .int .u64 o.hi, .slice A o.tr.length c, .int .i64 o.st]
def sameO (a b : Oc) : Bool := a.kind == b.kind && a.code == b.code && (a.lo == b.lo && a.hi == b.hi) && eqL slEq a.tr b.tr && a.st == b.st
def endO (a : Oc) : Bool := a.kind == 0 || a.kind == 1 || a.kind == 2
set_option maxHeartbeats 2000000 in
theorem refsame8_any (a b : Oc) (A1 A2 : Option Addr) (c1 c2 : Nat) (w : World) (lo hi lo' hi' : Nat) (hh : hi ≤ w.heap.size) (hh' : hi' ≤ w.heap.size) (h1 : Ux w lo hi A1 a.tr) (h2 : Ux w lo' hi' A2 b.tr) (hl : a.tr.length ≤ maxLen) (hm : b.tr.length ≤ maxLen) :
    Calls Try.prog 24 #[.agg (ocs a A1 c1), .agg (ocs b A2 c2)] w fun e w' => e = .returned (.bool (sameO a b)) ∧ Below w.heap.size w w' := by
  obtain ⟨W1, hW1⟩ : ∃ W1, W1 = (w.alloc (.cells (ocs a A1 c1) 57)).alloc (.cells (ocs b A2 c2) 57) := ⟨_, rfl⟩
  have hB1 : Below w.heap.size w W1 := by rw [hW1]; exact ((Below.refl _ _).alloc (Nat.le_refl _) _).alloc (by simp) _
  have hF : Blk W1 w.heap.size 57 (ocs a A1 c1) := by rw [hW1]; exact (Blk.new _ _ _).alloc _
  have hG : Blk W1 (w.heap.size + 1) 57 (ocs b A2 c2) := by rw [hW1]; exact Blk.newAt (by simp)
  have HCO := Lib.hid (refequal_vals A1 A2 a.tr b.tr c1 c2 W1 _ _ _ _ (h1.keep (Kp.of_below hB1 hh)) (h2.keep (Kp.of_below hB1 hh')) hl hm)
  have HB1 := Lib.hid hB1
  have HW1 := Lib.hid hW1
  unfold ocs at hF hG HW1 ⊢
  obtain ⟨x0, x1, x2, x3, x4, x5, -, -, -, -, -, -, xz⟩ := hF.c6
  obtain ⟨y0, y1, y2, y3, y4, y5, -, -, -, -, -, -, yz⟩ := hG.c6
  obtain ⟨q, hq⟩ : ∃ q, q = eqL slEq a.tr b.tr := ⟨_, rfl⟩
  have HQ := Lib.hid hq
  rw [← hq] at HCO
  clear hF hG hW1 hB1 h1 h2 hl hm hq
  rcases ek : (a.kind == b.kind) with _ | _
  · have HE : Hid (sameO a b = false) := Lib.hid (by unfold sameO; rw [← HQ.out]; simp_all)
    go_enter Try.func24, Try.ntmps24
    go_upto_region 1 with (fail)
    rw [← HW1.out]
    go_wp2_with fail
    have HB2 := HB1
    go_ret
    exact ⟨ret_bool (by rw [HE.out]; try simp_all), HB2.out⟩
  · skip
    rcases ec : (a.code == b.code) with _ | _
    · have HE : Hid (sameO a b = false) := Lib.hid (by unfold sameO; rw [← HQ.out]; simp_all)
      go_enter Try.func24, Try.ntmps24
      go_upto_region 1 with (fail)
      rw [← HW1.out]
      go_wp2_with fail
      have HB2 := HB1
      go_ret
      exact ⟨ret_bool (by rw [HE.out]; try simp_all), HB2.out⟩
    · skip
      rcases ev : (a.lo == b.lo && a.hi == b.hi) with _ | _
      · have HE : Hid (sameO a b = false) := Lib.hid (by unfold sameO; rw [← HQ.out]; simp_all)
        have hv : ∀ W, (binOp .eql 54 (.agg #[.int .u64 a.lo, .int .u64 a.hi]) (.agg #[.int .u64 b.lo, .int .u64 b.hi])).run Try.prog W = .ok (.bool false) W := fun W => (eql_val _ _ _ _ W).trans (by rw [ev])
        go_enter Try.func24, Try.ntmps24
        go_upto_region 1 with (fail)
        rw [← HW1.out]
        go_wp2_with fail
        have HB2 := HB1
        go_ret
        exact ⟨ret_bool (by rw [HE.out]; try simp_all), HB2.out⟩
      · skip
        rcases es : (a.st == b.st) with _ | _
        · have HE : Hid (sameO a b = false) := Lib.hid (by unfold sameO; rw [← HQ.out]; simp_all)
          have hv : ∀ W, (binOp .eql 54 (.agg #[.int .u64 a.lo, .int .u64 a.hi]) (.agg #[.int .u64 b.lo, .int .u64 b.hi])).run Try.prog W = .ok (.bool true) W := fun W => (eql_val _ _ _ _ W).trans (by rw [ev])
          go_enter Try.func24, Try.ntmps24
          go_upto_region 1 with (fail)
          rw [← HW1.out]
          go_wp2_with fail
          have HB2 := HB1
          go_ret
          exact ⟨ret_bool (by rw [HE.out]; try simp_all), HB2.out⟩
        · skip
          rcases q with _ | _
          · have HE : Hid (sameO a b = false) := Lib.hid (by unfold sameO; rw [← HQ.out]; simp_all)
            have hv : ∀ W, (binOp .eql 54 (.agg #[.int .u64 a.lo, .int .u64 a.hi]) (.agg #[.int .u64 b.lo, .int .u64 b.hi])).run Try.prog W = .ok (.bool true) W := fun W => (eql_val _ _ _ _ W).trans (by rw [ev])
            go_enter Try.func24, Try.ntmps24
            go_upto_region 1 with (fail)
            rw [← HW1.out]
            go_wp2_with fail
            refine HCO.out.mono ?_
            rintro e w2 ⟨rfl, k, rfl⟩
            have HB2 := Lib.hid (below_drewN HB1.out k)
            clear HCO
            go_wp2
            go_ret
            exact ⟨ret_bool (by rw [HE.out]; try simp_all), HB2.out⟩
          · have HE : Hid (sameO a b = true) := Lib.hid (by unfold sameO; rw [← HQ.out]; simp_all)
            have hv : ∀ W, (binOp .eql 54 (.agg #[.int .u64 a.lo, .int .u64 a.hi]) (.agg #[.int .u64 b.lo, .int .u64 b.hi])).run Try.prog W = .ok (.bool true) W := fun W => (eql_val _ _ _ _ W).trans (by rw [ev])
            go_enter Try.func24, Try.ntmps24
            go_upto_region 1 with (fail)
            rw [← HW1.out]
            go_wp2_with fail
            refine HCO.out.mono ?_
            rintro e w2 ⟨rfl, k, rfl⟩
            have HB2 := Lib.hid (below_drewN HB1.out k)
            clear HCO
            go_wp2
            go_ret
            exact ⟨ret_bool (by rw [HE.out]; try simp_all), HB2.out⟩
end Go.Proofs.Ytgakphichcihjaa.pm
