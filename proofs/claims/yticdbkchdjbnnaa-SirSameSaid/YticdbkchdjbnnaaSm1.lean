/- Contracts: slices.Equal of slots and of instructions. -/
import Derived.Test.YticdbkchdjbnnaaPx
import Derived.BigQuiet
import Derived.Deep.QuietTactic
import Derived.Laws.StructEq
import Derived.Laws.Tables
namespace Go.Proofs.Yticdbkchdjbnnaa.pm
open Go.RowKit
set_option linter.unusedVariables false
set_option maxRecDepth 10000

def eqL {α : Type} (eq : α → α → Bool) : List α → List α → Bool
  | [], [] => true
  | x :: r, y :: s => eq x y && eqL eq r s
  | _, _ => false
theorem eqL_len {α : Type} {eq : α → α → Bool} : ∀ {l m : List α}, l.length ≠ m.length → eqL eq l m = false
  | [], [], h => absurd rfl h
  | [], _ :: _, _ => rfl
  | _ :: _, [], _ => rfl
  | x :: r, y :: s, h => by
    unfold eqL
    rw [eqL_len (l := r) (m := s) (by simpa using h), Bool.and_false]
theorem eqL_all {α : Type} {eq : α → α → Bool} {z : α} : ∀ {l m : List α}, l.length = m.length → (∀ j, j < l.length → eq (l.getD j z) (m.getD j z) = true) → eqL eq l m = true
  | [], [], _, _ => rfl
  | [], _ :: _, h, _ => by simp at h
  | _ :: _, [], h, _ => by simp at h
  | x :: r, y :: s, h, ha => by
    unfold eqL
    rw [eqL_all (z := z) (l := r) (m := s) (by simpa using h) (fun j hj => by simpa using ha (j + 1) (by simpa using hj)), Bool.and_true]
    simpa using ha 0 (by simp)
theorem eqL_one {α : Type} {eq : α → α → Bool} {z : α} : ∀ {l m : List α} {k : Nat}, k < l.length → k < m.length → eq (l.getD k z) (m.getD k z) = false → eqL eq l m = false
  | [], _, _, h, _, _ => by simp at h
  | _ :: _, [], _, _, h, _ => by simp at h
  | x :: r, y :: s, 0, _, _, h => by
    unfold eqL
    have : eq x y = false := by simpa using h
    rw [this, Bool.false_and]
  | x :: r, y :: s, k + 1, h1, h2, h => by
    unfold eqL
    rw [eqL_one (z := z) (l := r) (m := s) (k := k) (by simpa using h1) (by simpa using h2) (by simpa using h), Bool.and_false]
def slEq (a b : Int × Int) : Bool := a.1 == b.1 && a.2 == b.2
def inEq (a b : Ins) : Bool := a.op == b.op && a.a == b.a && a.b == b.b && a.c == b.c && a.imm == b.imm
theorem eq_slot (a b c d : Int) (w : World) : (Op.equalIn 10000 54 (.agg #[.int .i64 a, .int .i64 b]) (.agg #[.int .i64 c, .int .i64 d])).run Try.prog w = .ok (a == c && b == d) w := by
  have u3 := Try.underlying3
  have a3 := Try.isAgg3
  have z3 := Try.sizeOf3
  have hS : Try.prog.underlying 54 = some (.struct (Try.prog.fieldsOf 54)) := by kernel_rfl
  have hp : Try.prog.stoodInHeld 54 = false := by kernel_rfl
  rw [show (10000 : Nat) = 9999 + 1 from rfl, run_equalIn_agg w 9999 54 _ _ hS hp]
  simp only [Program.fieldsOf, Try.underlying54]
  go_simp
  by_cases h1 : a = c <;> by_cases h2 : b = d <;> simp [h1, h2]
theorem neq_slot (a b c d : Int) (w : World) : (binOp .neq 54 (.agg #[.int .i64 a, .int .i64 b]) (.agg #[.int .i64 c, .int .i64 d])).run Try.prog w = .ok (.bool (!(a == c && b == d))) w := by
  rw [run_neq_struct, eq_slot]; rfl
theorem eq_ins (a b c d i a' b' c' d' i' : Int) (w : World) : (Op.equalIn 10000 50 (.agg #[.int .i64 a, .int .i64 b, .int .i64 c, .int .i64 d, .int .u64 i]) (.agg #[.int .i64 a', .int .i64 b', .int .i64 c', .int .i64 d', .int .u64 i'])).run Try.prog w = .ok (a == a' && b == b' && c == c' && d == d' && i == i') w := by
  have u3 := Try.underlying3
  have a3 := Try.isAgg3
  have z3 := Try.sizeOf3
  have u4 := Try.underlying48
  have a4 := Try.isAgg48
  have z4 := Try.sizeOf48
  have hS : Try.prog.underlying 50 = some (.struct (Try.prog.fieldsOf 50)) := by kernel_rfl
  have hp : Try.prog.stoodInHeld 50 = false := by kernel_rfl
  rw [show (10000 : Nat) = 9999 + 1 from rfl, run_equalIn_agg w 9999 50 _ _ hS hp]
  simp only [Program.fieldsOf, Try.underlying50]
  go_simp
  by_cases h1 : a = a' <;> by_cases h2 : b = b' <;> by_cases h3 : c = c' <;> by_cases h4 : d = d' <;> by_cases h5 : i = i' <;> simp [h1, h2, h3, h4, h5]
theorem neq_ins (a b c d i a' b' c' d' i' : Int) (w : World) : (binOp .neq 50 (.agg #[.int .i64 a, .int .i64 b, .int .i64 c, .int .i64 d, .int .u64 i]) (.agg #[.int .i64 a', .int .i64 b', .int .i64 c', .int .i64 d', .int .u64 i'])).run Try.prog w = .ok (.bool (!(a == a' && b == b' && c == c' && d == d' && i == i'))) w := by
  rw [run_neq_struct, eq_ins]; rfl
set_option maxHeartbeats 1000000 in
theorem equal_slots (A1 A2 : Option Addr) (l m : List (Int × Int)) (c1 c2 : Nat) (w : World) (lo hi lo' hi' : Nat) (h1 : Sx w lo hi A1 l) (h2 : Sx w lo' hi' A2 m) (hl : l.length ≤ maxLen) (hm : m.length ≤ maxLen) :
    Calls Try.prog 24 #[.slice A1 l.length c1, .slice A2 m.length c2] w fun e w' => e = .returned (.bool (eqL slEq l m)) ∧ ∃ k, w' = w.drewN k := by
  have H1 := Lib.hid h1
  have H2 := Lib.hid h2
  have hli : (l.length : Int) ≤ 9223372036854775807 := by unfold maxLen at hl; omega
  clear h1 h2
  by_cases hlen : l.length = m.length
  · have e0 : ((l.length : Int) != (m.length : Int)) = false := by simp [hlen]
    have HLM := Lib.hid hlen
    clear hlen
    go_enter Try.func24, Try.ntmps24
    go_wp2
    go_loopw [13] (fun v wr => ∃ k q : Nat, k ≤ l.length ∧ v = .int .i64 k ∧ Hid (∀ j, j < k → slEq (l.getD j (0, 0)) (m.getD j (0, 0)) = true) ∧ Hid (wr = w.drewN q)) (fun v _ => l.length - (intOf v).toNat)
    case atStart => exact ⟨0, 0, by omega, rfl, Lib.hid (fun j hj => by omega), Lib.hid rfl⟩
    case round =>
      obtain ⟨k, q, hk, rfl, HZ, HW⟩ := hrel
      have hk0 : (0 : Int) ≤ (k : Int) := by omega
      obtain rfl := HW.out
      by_cases hlt : k < l.length
      · have hki : (k : Int) < (l.length : Int) := by omega
        have hkm : k < m.length := by have := HLM.out; omega
        have hkmi : (k : Int) < (m.length : Int) := by omega
        obtain ⟨a1, rfl, hb1, x0, x1⟩ := H1.out.whole hlt
        obtain ⟨a2, rfl, hb2, y0, y1⟩ := H2.out.whole hkm
        obtain ⟨s, hs⟩ : ∃ s, s = l.getD k (0, 0) := ⟨_, rfl⟩
        obtain ⟨t, ht⟩ : ∃ t, t = m.getD k (0, 0) := ⟨_, rfl⟩
        rw [← hs] at x0 x1
        rw [← ht] at y0 y1
        rcases hq : slEq s t with _ | _
        · have hne : ∀ W, (binOp .neq 54 (.agg #[.int .i64 s.1, .int .i64 s.2]) (.agg #[.int .i64 t.1, .int .i64 t.2])).run Try.prog W = .ok (.bool true) W := fun W => (neq_slot s.1 s.2 t.1 t.2 W).trans (congrArg (fun b => Result.ok (Value.bool (!b)) W) hq)
          have HE : Hid (eqL slEq l m = false) := Lib.hid (eqL_one (z := (0, 0)) hlt hkm (by rw [← hs, ← ht]; exact hq))
          clear hs ht hq HZ
          go_wp2_with fail
          go_quiet (fail)
          go_wp2
          go_ret
          exact ⟨ret_bool (by rw [HE.out]), q + nq, by first | rfl | exact World.drewN_drewN _ _ _⟩
        · have hne : ∀ W, (binOp .neq 54 (.agg #[.int .i64 s.1, .int .i64 s.2]) (.agg #[.int .i64 t.1, .int .i64 t.2])).run Try.prog W = .ok (.bool false) W := fun W => (neq_slot s.1 s.2 t.1 t.2 W).trans (congrArg (fun b => Result.ok (Value.bool (!b)) W) hq)
          have HZ' : Hid (∀ j, j < k + 1 → slEq (l.getD j (0, 0)) (m.getD j (0, 0)) = true) := Lib.hid (fun j hj => by
            rcases Nat.lt_or_ge j k with h | h
            · exact HZ.out j h
            · obtain rfl : j = k := by omega
              rw [← hs, ← ht]; exact hq)
          clear hs ht hq HZ
          go_wp2_with fail
          go_quiet (fail)
          go_wp2
          go_roundw
          case rel => exact ⟨k + 1, _, by omega, by go_num, HZ', Lib.hid rfl⟩
          case measure => simp [intOf]; omega
      · obtain rfl : k = l.length := by omega
        have HE : Hid (eqL slEq l m = true) := Lib.hid (eqL_all (z := (0, 0)) HLM.out HZ.out)
        clear HZ
        go_wp2
        go_ret
        exact ⟨ret_bool (by rw [HE.out]), q, rfl⟩
  · have e0 : ((l.length : Int) != (m.length : Int)) = true := by simp; omega
    have HE : Hid (eqL slEq l m = false) := Lib.hid (eqL_len hlen)
    clear hlen
    go_enter Try.func24, Try.ntmps24
    go_wp2
    go_ret
    exact ⟨ret_bool (by rw [HE.out]), 0, rfl⟩
set_option maxHeartbeats 1000000 in
theorem equal_code (A1 A2 : Option Addr) (l m : List Ins) (c1 c2 : Nat) (w : World) (lo hi lo' hi' : Nat) (h1 : Nx w lo hi A1 l) (h2 : Nx w lo' hi' A2 m) (hl : l.length ≤ maxLen) (hm : m.length ≤ maxLen) :
    Calls Try.prog 25 #[.slice A1 l.length c1, .slice A2 m.length c2] w fun e w' => e = .returned (.bool (eqL inEq l m)) ∧ ∃ k, w' = w.drewN k := by
  have H1 := Lib.hid h1
  have H2 := Lib.hid h2
  have hli : (l.length : Int) ≤ 9223372036854775807 := by unfold maxLen at hl; omega
  clear h1 h2
  by_cases hlen : l.length = m.length
  · have e0 : ((l.length : Int) != (m.length : Int)) = false := by simp [hlen]
    have HLM := Lib.hid hlen
    clear hlen
    go_enter Try.func25, Try.ntmps25
    go_wp2
    go_loopw [13] (fun v wr => ∃ k q : Nat, k ≤ l.length ∧ v = .int .i64 k ∧ Hid (∀ j, j < k → inEq (l.getD j Ins.z) (m.getD j Ins.z) = true) ∧ Hid (wr = w.drewN q)) (fun v _ => l.length - (intOf v).toNat)
    case atStart => exact ⟨0, 0, by omega, rfl, Lib.hid (fun j hj => by omega), Lib.hid rfl⟩
    case round =>
      obtain ⟨k, q, hk, rfl, HZ, HW⟩ := hrel
      have hk0 : (0 : Int) ≤ (k : Int) := by omega
      obtain rfl := HW.out
      by_cases hlt : k < l.length
      · have hki : (k : Int) < (l.length : Int) := by omega
        have hkm : k < m.length := by have := HLM.out; omega
        have hkmi : (k : Int) < (m.length : Int) := by omega
        obtain ⟨a1, rfl, hb1, x0, x1, x2, x3, x4⟩ := H1.out.whole hlt
        obtain ⟨a2, rfl, hb2, y0, y1, y2, y3, y4⟩ := H2.out.whole hkm
        obtain ⟨s, hs⟩ : ∃ s, s = l.getD k Ins.z := ⟨_, rfl⟩
        obtain ⟨t, ht⟩ : ∃ t, t = m.getD k Ins.z := ⟨_, rfl⟩
        rw [← hs] at x0 x1 x2 x3 x4
        rw [← ht] at y0 y1 y2 y3 y4
        rcases hq : inEq s t with _ | _
        · have hne : ∀ W, (binOp .neq 50 (.agg #[.int .i64 s.op, .int .i64 s.a, .int .i64 s.b, .int .i64 s.c, .int .u64 s.imm]) (.agg #[.int .i64 t.op, .int .i64 t.a, .int .i64 t.b, .int .i64 t.c, .int .u64 t.imm])).run Try.prog W = .ok (.bool true) W := fun W => (neq_ins s.op s.a s.b s.c s.imm t.op t.a t.b t.c t.imm W).trans (congrArg (fun b => Result.ok (Value.bool (!b)) W) hq)
          have HE : Hid (eqL inEq l m = false) := Lib.hid (eqL_one (z := Ins.z) hlt hkm (by rw [← hs, ← ht]; exact hq))
          clear hs ht hq HZ
          go_wp2_with fail
          go_quiet (fail)
          go_wp2
          go_ret
          exact ⟨ret_bool (by rw [HE.out]), q + nq, by first | rfl | exact World.drewN_drewN _ _ _⟩
        · have hne : ∀ W, (binOp .neq 50 (.agg #[.int .i64 s.op, .int .i64 s.a, .int .i64 s.b, .int .i64 s.c, .int .u64 s.imm]) (.agg #[.int .i64 t.op, .int .i64 t.a, .int .i64 t.b, .int .i64 t.c, .int .u64 t.imm])).run Try.prog W = .ok (.bool false) W := fun W => (neq_ins s.op s.a s.b s.c s.imm t.op t.a t.b t.c t.imm W).trans (congrArg (fun b => Result.ok (Value.bool (!b)) W) hq)
          have HZ' : Hid (∀ j, j < k + 1 → inEq (l.getD j Ins.z) (m.getD j Ins.z) = true) := Lib.hid (fun j hj => by
            rcases Nat.lt_or_ge j k with h | h
            · exact HZ.out j h
            · obtain rfl : j = k := by omega
              rw [← hs, ← ht]; exact hq)
          clear hs ht hq HZ
          go_wp2_with fail
          go_quiet (fail)
          go_wp2
          go_roundw
          case rel => exact ⟨k + 1, _, by omega, by go_num, HZ', Lib.hid rfl⟩
          case measure => simp [intOf]; omega
      · obtain rfl : k = l.length := by omega
        have HE : Hid (eqL inEq l m = true) := Lib.hid (eqL_all (z := Ins.z) HLM.out HZ.out)
        clear HZ
        go_wp2
        go_ret
        exact ⟨ret_bool (by rw [HE.out]), q, rfl⟩
  · have e0 : ((l.length : Int) != (m.length : Int)) = true := by simp; omega
    have HE : Hid (eqL inEq l m = false) := Lib.hid (eqL_len hlen)
    clear hlen
    go_enter Try.func25, Try.ntmps25
    go_wp2
    go_ret
    exact ⟨ret_bool (by rw [HE.out]), 0, rfl⟩
def sameFn (f g : Fn) : Bool := f.params == g.params && eqL slEq f.slots g.slots && eqL inEq f.code g.code
/-- a function as a value -/
def FvV (prm : Int) (As : Option Addr) (ns cs : Nat) (Ai : Option Addr) (ni ci : Nat) : Value := .agg #[.int .i64 prm, .slice As ns cs, .slice Ai ni ci]
set_option maxHeartbeats 1000000 in
theorem samefunc_any (f g : Fn) (As Ai Bs Bi : Option Addr) (cs ci ds di : Nat) (w : World) (lo hi lo' hi' : Nat) (hh : hi ≤ w.heap.size) (hh' : hi' ≤ w.heap.size) (h1 : Sx w lo hi As f.slots) (h2 : Nx w lo hi Ai f.code) (h3 : Sx w lo' hi' Bs g.slots) (h4 : Nx w lo' hi' Bi g.code)
    (m1 : f.slots.length ≤ maxLen) (m2 : f.code.length ≤ maxLen) (m3 : g.slots.length ≤ maxLen) (m4 : g.code.length ≤ maxLen) :
    Calls Try.prog 13 #[.agg #[.int .i64 f.params, .slice As f.slots.length cs, .slice Ai f.code.length ci], .agg #[.int .i64 g.params, .slice Bs g.slots.length ds, .slice Bi g.code.length di]] w fun e w' => e = .returned (.bool (sameFn f g)) ∧ Below w.heap.size w w' := by
  obtain ⟨W1, hW1⟩ : ∃ W1, W1 = (w.alloc (.cells #[.int .i64 f.params, .slice As f.slots.length cs, .slice Ai f.code.length ci] 40)).alloc (.cells #[.int .i64 g.params, .slice Bs g.slots.length ds, .slice Bi g.code.length di] 40) := ⟨_, rfl⟩
  have hB1 : Below w.heap.size w W1 := by rw [hW1]; exact ((Below.refl _ _).alloc (Nat.le_refl _) _).alloc (by simp) _
  have hF : Blk W1 w.heap.size 40 #[.int .i64 f.params, .slice As f.slots.length cs, .slice Ai f.code.length ci] := by rw [hW1]; exact (Blk.new _ _ _).alloc _
  have hG : Blk W1 (w.heap.size + 1) 40 #[.int .i64 g.params, .slice Bs g.slots.length ds, .slice Bi g.code.length di] := by rw [hW1]; exact Blk.newAt (by simp)
  obtain ⟨x0, x1, x2, -, -, -, xz⟩ := hF.c3
  obtain ⟨y0, y1, y2, -, -, -, yz⟩ := hG.c3
  have H1 : Hid (Sx W1 lo hi As f.slots) := Lib.hid (h1.keep (Kp.of_below hB1 hh))
  have H2 : Hid (Nx W1 lo hi Ai f.code) := Lib.hid (h2.keep (Kp.of_below hB1 hh))
  have H3 : Hid (Sx W1 lo' hi' Bs g.slots) := Lib.hid (h3.keep (Kp.of_below hB1 hh'))
  have H4 : Hid (Nx W1 lo' hi' Bi g.code) := Lib.hid (h4.keep (Kp.of_below hB1 hh'))
  have HB1 := Lib.hid hB1
  have HW1 := Lib.hid hW1
  clear hW1 hB1 hF hG h1 h2 h3 h4
  by_cases hp : f.params = g.params
  · have e0 : (f.params == g.params) = true := by simp [hp]
    have HP := Lib.hid hp
    clear hp
    rcases hs : eqL slEq f.slots g.slots with _ | _
    · have HS := Lib.hid hs
      have HE : Hid (sameFn f g = false) := Lib.hid (by unfold sameFn; rw [hs]; simp)
      clear hs
      go_enter Try.func13, Try.ntmps13
      go_upto_region 1 with (fail)
      rw [← HW1.out]
      go_wp2_with fail
      refine (equal_slots As Bs f.slots g.slots cs ds _ _ _ _ _ H1.out H3.out m1 m3).mono ?_
      rintro e w3 ⟨rfl, q, rfl⟩
      rw [HS.out]
      go_wp2
      go_ret
      exact ⟨ret_bool (by rw [HE.out]), below_drewN HB1.out q⟩
    · have HS := Lib.hid hs
      have HE : Hid (sameFn f g = eqL inEq f.code g.code) := Lib.hid (by unfold sameFn; rw [hs, HP.out]; simp)
      clear hs
      go_enter Try.func13, Try.ntmps13
      go_upto_region 1 with (fail)
      rw [← HW1.out]
      go_wp2_with fail
      refine (equal_slots As Bs f.slots g.slots cs ds _ _ _ _ _ H1.out H3.out m1 m3).mono ?_
      rintro e w3 ⟨rfl, q, rfl⟩
      rw [HS.out]
      go_wp2_with fail
      refine (equal_code Ai Bi f.code g.code ci di _ _ _ _ _ (H2.out.keep ((Kp.refl _ _ _).drewN q)) (H4.out.keep ((Kp.refl _ _ _).drewN q)) m2 m4).mono ?_
      rintro e w4 ⟨rfl, q', rfl⟩
      go_wp2
      go_ret
      exact ⟨ret_bool (by rw [HE.out]), below_drewN HB1.out _⟩
  · have e0 : (f.params == g.params) = false := by simp [hp]
    have HE : Hid (sameFn f g = false) := Lib.hid (by unfold sameFn; rw [e0]; simp)
    clear hp
    go_enter Try.func13, Try.ntmps13
    go_upto_region 1 with (fail)
    rw [← HW1.out]
    go_wp2
    go_ret
    exact ⟨ret_bool (by rw [HE.out]), HB1.out⟩
set_option maxHeartbeats 2000000 in
theorem equalfunc_any (A1 A2 : Option Addr) (p r : List Fn) (c1 c2 : Nat) (w : World) (lo hi lo' hi' : Nat) (hh : hi ≤ w.heap.size) (hh' : hi' ≤ w.heap.size) (h1 : Fx w lo hi A1 p) (h2 : Fx w lo' hi' A2 r) (hl : p.length ≤ maxLen) (hm : r.length ≤ maxLen) :
    Calls Try.prog 21 #[.slice A1 p.length c1, .slice A2 r.length c2, .func (.func 13) #[] #[]] w fun e w' => e = .returned (.bool (eqL sameFn p r)) ∧ Below w.heap.size w w' := by
  have H1 := Lib.hid h1
  have H2 := Lib.hid h2
  have hli : (p.length : Int) ≤ 9223372036854775807 := by unfold maxLen at hl; omega
  clear h1 h2
  by_cases hlen : p.length = r.length
  · have e0 : ((p.length : Int) != (r.length : Int)) = false := by simp [hlen]
    have HLM := Lib.hid hlen
    clear hlen
    go_enter Try.func21, Try.ntmps21
    go_wp2
    go_loopw [17] (fun v wr => ∃ k : Nat, k ≤ p.length ∧ v = .int .i64 k ∧ Hid (∀ j, j < k → sameFn (p.getD j Fn.z) (r.getD j Fn.z) = true) ∧ Hid (Below w.heap.size w wr)) (fun v _ => p.length - (intOf v).toNat)
    case atStart => exact ⟨0, by omega, rfl, Lib.hid (fun j hj => by omega), Lib.hid (Below.refl _ _)⟩
    case round =>
      obtain ⟨k, hk, rfl, HZ, HB⟩ := hrel
      have hk0 : (0 : Int) ≤ (k : Int) := by omega
      by_cases hlt : k < p.length
      · have hki : (k : Int) < (p.length : Int) := by omega
        have hkm : k < r.length := by have := HLM.out; omega
        have hkmi : (k : Int) < (r.length : Int) := by omega
        have hszr := HB.out.size
        obtain ⟨a1, As, cs, Ai, ci, rfl, hb1, x0, x1, x2, -, -, sx1, nx1, ⟨s1, -⟩, n1, -⟩ := (H1.out.keep (Kp.of_below HB.out hh)).whole hlt
        obtain ⟨f, hf⟩ : ∃ s, s = p.getD k Fn.z := ⟨_, rfl⟩
        rw [← hf] at x0 x1 x2 sx1 nx1 s1 n1
        have hfr := (H2.out.keep (Kp.of_below HB.out hh')).keep ((Kp.refl _ _ _).alloc (by omega) (.cells #[.int .i64 f.params, .slice As f.slots.length cs, .slice Ai f.code.length ci] 40))
        obtain ⟨a2, Bs, ds, Bi, di, rfl, hb2, y0, y1, y2, -, -, sx2, nx2, ⟨s2, -⟩, n2, -⟩ := hfr.whole hkm
        obtain ⟨g, hg⟩ : ∃ t, t = r.getD k Fn.z := ⟨_, rfl⟩
        clear hfr
        rw [← hg] at y0 y1 y2 sx2 nx2 s2 n2
        have HS1 := Lib.hid sx1
        have HN1 := Lib.hid nx1
        have HS2 := Lib.hid sx2
        have HN2 := Lib.hid nx2
        have HFF := Lib.hid hf
        have HGG := Lib.hid hg
        have l1 : a1.block < wr.heap.size := by omega
        have l2 : a2.block < wr.heap.size := by omega
        clear hf hg sx1 nx1 sx2 nx2
        go_wp2_with fail
        have HK2 : Hid (Kp 0 wr.heap.size wr ((wr.alloc (.cells #[.int .i64 f.params, .slice As f.slots.length cs, .slice Ai f.code.length ci] 40)).alloc (.cells #[.int .i64 g.params, .slice Bs g.slots.length ds, .slice Bi g.code.length di] 40))) := Lib.hid (((Kp.refl _ _ _).alloc (Nat.le_refl _) _).alloc (by simp) _)
        refine (samefunc_any f g As Ai Bs Bi cs ci ds di _ lo hi lo' hi' (by simp; omega) (by simp; omega) (HS1.out.keep (HK2.out.less (Nat.zero_le _) (by omega))) (HN1.out.keep (HK2.out.less (Nat.zero_le _) (by omega))) (HS2.out.keep ((Kp.refl _ _ _).alloc (by simp; omega) _)) (HN2.out.keep ((Kp.refl _ _ _).alloc (by simp; omega) _)) s1 n1 s2 n2).mono ?_
        rintro e w5 ⟨rfl, bel5⟩
        have HB5 : Hid (Below w.heap.size w w5) := Lib.hid (((HB.out.alloc hszr _).alloc (by simp; omega) _).trans (bel5.mono (by simp; omega)))
        clear bel5 x0 x1 x2 y0 y1 y2
        rcases hq : sameFn f g with _ | _
        · have HE : Hid (eqL sameFn p r = false) := Lib.hid (eqL_one (z := Fn.z) hlt hkm (by rw [← HFF.out, ← HGG.out]; exact hq))
          clear hq HZ
          go_wp2
          go_ret
          exact ⟨ret_bool (by rw [HE.out]), HB5.out⟩
        · have HZ' : Hid (∀ j, j < k + 1 → sameFn (p.getD j Fn.z) (r.getD j Fn.z) = true) := Lib.hid (fun j hj => by
            rcases Nat.lt_or_ge j k with h | h
            · exact HZ.out j h
            · obtain rfl : j = k := by omega
              rw [← HFF.out, ← HGG.out]; exact hq)
          clear hq HZ
          go_wp2
          go_roundw
          case rel => exact ⟨k + 1, by omega, by go_num, HZ', HB5⟩
          case measure => simp [intOf]; omega
      · obtain rfl : k = p.length := by omega
        have HE : Hid (eqL sameFn p r = true) := Lib.hid (eqL_all (z := Fn.z) HLM.out HZ.out)
        clear HZ
        go_wp2
        go_ret
        exact ⟨ret_bool (by rw [HE.out]), HB.out⟩
  · have e0 : ((p.length : Int) != (r.length : Int)) = true := by simp; omega
    have HE : Hid (eqL sameFn p r = false) := Lib.hid (eqL_len hlen)
    clear hlen
    go_enter Try.func21, Try.ntmps21
    go_wp2
    go_ret
    exact ⟨ret_bool (by rw [HE.out]), Below.refl _ _⟩
set_option maxHeartbeats 400000 in
theorem same_any (A1 A2 : Option Addr) (p r : List Fn) (c1 c2 : Nat) (w : World) (lo hi lo' hi' : Nat) (hh : hi ≤ w.heap.size) (hh' : hi' ≤ w.heap.size) (h1 : Fx w lo hi A1 p) (h2 : Fx w lo' hi' A2 r) (hl : p.length ≤ maxLen) (hm : r.length ≤ maxLen) :
    Calls Try.prog 9 #[.agg #[.slice A1 p.length c1], .agg #[.slice A2 r.length c2]] w fun e w' => e = .returned (.bool (eqL sameFn p r)) ∧ Below w.heap.size w w' := by
  have HK2 : Hid (Kp 0 w.heap.size w ((w.alloc (.cells #[.slice A1 p.length c1] 24)).alloc (.cells #[.slice A2 r.length c2] 24))) := Lib.hid (((Kp.refl _ _ _).alloc (Nat.le_refl _) _).alloc (by simp) _)
  have HC := Lib.hid (equalfunc_any A1 A2 p r c1 c2 ((w.alloc (.cells #[.slice A1 p.length c1] 24)).alloc (.cells #[.slice A2 r.length c2] 24)) lo hi lo' hi' (by simp; omega) (by simp; omega) (h1.keep (HK2.out.less (Nat.zero_le _) hh)) (h2.keep (HK2.out.less (Nat.zero_le _) hh')) hl hm)
  clear h1 h2
  go_enter Try.func9, Try.ntmps9
  go_wp2_with fail
  refine HC.out.mono ?_
  rintro e w3 ⟨rfl, bel⟩
  go_wp2
  go_ret
  exact ⟨rfl, (((Below.refl _ _).alloc (Nat.le_refl _) _).alloc (by simp) _).trans (bel.mono (by simp; omega))⟩
end Go.Proofs.Yticdbkchdjbnnaa.pm
