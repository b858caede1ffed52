/- Contracts: slices.Equal of slots and of instructions. -/
import Derived.Laws.StructEq
import Derived.Laws.Tables
import Derived.Test.YtcnndoefgjbmiaaGreatGSc
set_option linter.unusedVariables false
set_option maxRecDepth 10000
set_option maxHeartbeats 8000000
namespace Go.Proofs.YtcnndoefgjbmiaaGreat.pm
open Go.RowKit
def eqL {α : Type} (eq : α → α → Bool) : List α → List α → Bool
 | [], [] => true
 | x :: r, y :: s => eq x y && eqL eq r s
 | _, _ => false
theorem eqL_len {α : Type} {eq : α → α → Bool} : ∀ {l m : List α}, l.length ≠ m.length → eqL eq l m = false
 | [], [], h => absurd rfl h
 | [], _ :: _, _ => rfl
 | _ :: _, [], _ => rfl
 | x :: r, y :: s, h => by
  unfold eqL
  rw [eqL_len (l := r) (m := s) (by simpa using h), Bool.and_false]
theorem eqL_all {α : Type} {eq : α → α → Bool} {z : α} : ∀ {l m : List α}, l.length = m.length → (∀ j, j < l.length → eq (l.getD j z) (m.getD j z) = true) → eqL eq l m = true
 | [], [], _, _ => rfl
 | [], _ :: _, h, _ => by simp at h
 | _ :: _, [], h, _ => by simp at h
 | x :: r, y :: s, h, ha => by
  unfold eqL
  rw [eqL_all (z := z) (l := r) (m := s) (by simpa using h) (fun j hj => by simpa using ha (j + 1) (by simpa using hj)), Bool.and_true]
  simpa using ha 0 (by simp)
theorem eqL_one {α : Type} {eq : α → α → Bool} {z : α} : ∀ {l m : List α} {k : Nat}, k < l.length → k < m.length → eq (l.getD k z) (m.getD k z) = false → eqL eq l m = false
 | [], _, _, h, _, _ => by simp at h
 | _ :: _, [], _, _, h, _ => by simp at h
 | x :: r, y :: s, 0, _, _, h => by
  unfold eqL
  have : eq x y = false := by simpa using h
  rw [this, Bool.false_and]
 | x :: r, y :: s, k + 1, h1, h2, h => by
  unfold eqL
  rw [eqL_one (z := z) (l := r) (m := s) (k := k) (by simpa using h1) (by simpa using h2) (by simpa using h), Bool.and_false]
def slEq (a b : Int × Int) : Bool := a.1 == b.1 && a.2 == b.2
def ucells (x : Int × Int) : List Value := [.int .u64 x.1, .int .u64 x.2]
theorem ucells_len (x : Int × Int) : (ucells x).length = 2 := rfl
def Ux (w : World) (lo hi : Nat) (A : Option Addr) (l : List (Int × Int)) : Prop := Rx w lo hi 2 A l.length (l.flatMap ucells)
section
variable {lo hi lo' hi' : Nat} {w w' : World} {A : Option Addr} {k : Nat} {l : List (Int × Int)}
theorem Ux.keep (h : Ux w lo hi A l) (hk : Kp lo hi w w') : Ux w' lo hi A l := Rx.keep h hk
theorem Ux.whole (h : Ux w lo hi A l) (hk : k < l.length) : ∃ ad, A = some ad ∧ ad.block < hi ∧ w.cell? (ad.add (k * 2)) = some (.int .u64 (l.getD k (0, 0)).1) ∧ w.cell? ⟨(ad.add (k * 2)).block, (ad.add (k * 2)).off + 1, none⟩ = some (.int .u64 (l.getD k (0, 0)).2) := by
 obtain ⟨ad, e, hb, hc⟩ := h.1.2 (by omega)
 have g0 : ∀ j, j < 2 → (l.flatMap ucells)[k * 2 + j]? = (ucells (l.getD k (0, 0)))[j]? := fun j hj => flat_get ucells_len (0, 0) l k j (by omega) hj
 have c1 : w.cell? ((ad.add (k * 2)).add 1) = some (.int .u64 (l.getD k (0, 0)).2) := by
  rw [add_of_add]
  exact hc (k * 2 + 1) _ (by simpa [ucells] using g0 1 (by omega))
 rw [add_pos _ 1 (by omega)] at c1
 exact ⟨ad, e, hb, hc (k * 2) _ (by simpa [ucells] using g0 0 (by omega)), c1⟩
end
theorem eq_val (a b c d : Int) (w : World) : (Op.equalIn 10000 38 (.agg #[.int .u64 a, .int .u64 b]) (.agg #[.int .u64 c, .int .u64 d])).run Tryz.prog w = .ok (a == c && b == d) w := by
 have u4 := Tryz.underlying36
 have a4 := Tryz.isAgg36
 have z4 := Tryz.sizeOf36
 have hS : Tryz.prog.underlying 38 = some (.struct (Tryz.prog.fieldsOf 38)) := by kernel_rfl
 have hp : Tryz.prog.stoodInHeld 38 = false := by kernel_rfl
 rw [show (10000 : Nat) = 9999 + 1 from rfl, run_equalIn_agg w 9999 38 _ _ hS hp]
 simp only [Program.fieldsOf, Tryz.underlying38]
 go_simp
 by_cases h1 : a = c <;> by_cases h2 : b = d <;> simp [h1, h2]
theorem neq_val (a b c d : Int) (w : World) : (binOp .neq 38 (.agg #[.int .u64 a, .int .u64 b]) (.agg #[.int .u64 c, .int .u64 d])).run Tryz.prog w = .ok (.bool (!(a == c && b == d))) w := by
 rw [run_neq_struct, eq_val]; rfl
theorem eql_val (a b c d : Int) (w : World) : (binOp .eql 38 (.agg #[.int .u64 a, .int .u64 b]) (.agg #[.int .u64 c, .int .u64 d])).run Tryz.prog w = .ok (.bool (a == c && b == d)) w := by
 rw [run_eql_struct, eq_val]; rfl
theorem refequal_vals (A1 A2 : Option Addr) (l m : List (Int × Int)) (c1 c2 : Nat) (w : World) (lo hi lo' hi' : Nat) (h1 : Ux w lo hi A1 l) (h2 : Ux w lo' hi' A2 m) (hl : l.length ≤ maxLen) (hm : m.length ≤ maxLen) :
 Calls Tryz.prog 21 #[.slice A1 l.length c1, .slice A2 m.length c2] w fun e w' => e = .returned (.bool (eqL slEq l m)) ∧ ∃ k, w' = w.drewN k := by
 have H1 := hQ h1
 have H2 := hQ h2
 have hli : (l.length : Int) ≤ 9223372036854775807 := by unfold maxLen at hl; omega
 clear h1 h2
 by_cases hlen : l.length = m.length
 · have e0 : ((l.length : Int) != (m.length : Int)) = false := by simp [hlen]
   have HLM := hQ hlen
   clear hlen
   go_enter Tryz.func21, Tryz.ntmps21
   go_wp2
   go_loopw [5] (fun v wr => ∃ k q : Nat, k ≤ l.length ∧ v = .int .i64 k ∧ Hid (∀ j, j < k → slEq (l.getD j (0, 0)) (m.getD j (0, 0)) = true) ∧ Hid (wr = w.drewN q)) (fun v _ => l.length - (intOf v).toNat)
   case atStart => exact ⟨0, 0, by omega, rfl, hQ (fun j hj => by omega), hQ rfl⟩
   case round =>
    obtain ⟨k, q, hk, rfl, HZ, HW⟩ := hrel
    have hk0 : (0 : Int) ≤ (k : Int) := by omega
    obtain rfl := HW.out
    by_cases hlt : k < l.length
    · have hki : (k : Int) < (l.length : Int) := by omega
      have hkm : k < m.length := by have := HLM.out; omega
      have hkmi : (k : Int) < (m.length : Int) := by omega
      obtain ⟨a1, rfl, hb1, x0, x1⟩ := H1.out.whole hlt
      obtain ⟨a2, rfl, hb2, y0, y1⟩ := H2.out.whole hkm
      obtain ⟨s, hs⟩ : ∃ s, s = l.getD k (0, 0) := ⟨_, rfl⟩
      obtain ⟨t, ht⟩ : ∃ t, t = m.getD k (0, 0) := ⟨_, rfl⟩
      rw [← hs] at x0 x1
      rw [← ht] at y0 y1
      rcases hq : slEq s t with _ | _
      · have hne : ∀ W, (binOp .neq 38 (.agg #[.int .u64 s.1, .int .u64 s.2]) (.agg #[.int .u64 t.1, .int .u64 t.2])).run Tryz.prog W = .ok (.bool true) W := fun W => (neq_val s.1 s.2 t.1 t.2 W).trans (congrArg (fun b => Result.ok (Value.bool (!b)) W) hq)
        have HE : Hid (eqL slEq l m = false) := hQ (eqL_one (z := (0, 0)) hlt hkm (by rw [← hs, ← ht]; exact hq))
        clear hs ht hq HZ
        go_wp2_with fail
        go_quiet (fail)
        go_wp2
        go_ret
        exact ⟨ret_bool (by rw [HE.out]), q + nq, by first | rfl | exact World.drewN_drewN _ _ _⟩
      · have hne : ∀ W, (binOp .neq 38 (.agg #[.int .u64 s.1, .int .u64 s.2]) (.agg #[.int .u64 t.1, .int .u64 t.2])).run Tryz.prog W = .ok (.bool false) W := fun W => (neq_val s.1 s.2 t.1 t.2 W).trans (congrArg (fun b => Result.ok (Value.bool (!b)) W) hq)
        have HZ' : Hid (∀ j, j < k + 1 → slEq (l.getD j (0, 0)) (m.getD j (0, 0)) = true) := hQ (fun j hj => by
         rcases Nat.lt_or_ge j k with h | h
         · exact HZ.out j h
         · obtain rfl : j = k := by omega
           rw [← hs, ← ht]; exact hq)
        clear hs ht hq HZ
        go_wp2_with fail
        go_quiet (fail)
        go_wp2
        go_roundw
        case rel => exact ⟨k + 1, _, by omega, by go_num, HZ', hQ rfl⟩
        case measure => simp [intOf]; omega
    · obtain rfl : k = l.length := by omega
      have HE : Hid (eqL slEq l m = true) := hQ (eqL_all (z := (0, 0)) HLM.out HZ.out)
      clear HZ
      go_wp2
      go_ret
      exact ⟨ret_bool (by rw [HE.out]), q, rfl⟩
 · have e0 : ((l.length : Int) != (m.length : Int)) = true := by simp; omega
   have HE : Hid (eqL slEq l m = false) := hQ (eqL_len hlen)
   clear hlen
   go_enter Tryz.func21, Tryz.ntmps21
   go_wp2
   go_ret
   exact ⟨ret_bool (by rw [HE.out]), 0, rfl⟩
structure Oc where
 kind : Int
 code : Int
 lo : Int
 hi : Int
 tr : List (Int × Int)
 st : Int
def ocs (o : Oc) (A : Option Addr) (c : Nat) : Array Value := #[.int .i64 o.kind, .int .u64 o.code, .int .u64 o.lo, .int .u64 o.hi, .slice A o.tr.length c, .int .i64 o.st]
def sameO (a b : Oc) : Bool := a.kind == b.kind && a.code == b.code && (a.lo == b.lo && a.hi == b.hi) && eqL slEq a.tr b.tr && a.st == b.st
theorem refsame8_any (a b : Oc) (A1 A2 : Option Addr) (c1 c2 : Nat) (w : World) (lo hi lo' hi' : Nat) (hh : hi ≤ w.heap.size) (hh' : hi' ≤ w.heap.size) (h1 : Ux w lo hi A1 a.tr) (h2 : Ux w lo' hi' A2 b.tr) (hl : a.tr.length ≤ maxLen) (hm : b.tr.length ≤ maxLen) :
 Calls Tryz.prog 12 #[.agg (ocs a A1 c1), .agg (ocs b A2 c2)] w fun e w' => e = .returned (.bool (sameO a b)) ∧ Below w.heap.size w w' := by
 obtain ⟨W1, hW1⟩ : ∃ W1, W1 = (w.alloc (.cells (ocs a A1 c1) 41)).alloc (.cells (ocs b A2 c2) 41) := ⟨_, rfl⟩
 have hB1 : Below w.heap.size w W1 := by rw [hW1]; exact (bR.alloc nL _).alloc (by simp) _
 have hF : Blk W1 w.heap.size 41 (ocs a A1 c1) := by rw [hW1]; exact (Blk.new _ _ _).alloc _
 have hG : Blk W1 (w.heap.size + 1) 41 (ocs b A2 c2) := by rw [hW1]; exact Blk.newAt (by simp)
 have HCO := hQ (refequal_vals A1 A2 a.tr b.tr c1 c2 W1 _ _ _ _ (h1.keep (Kp.of_below hB1 hh)) (h2.keep (Kp.of_below hB1 hh')) hl hm)
 have HB1 := hQ hB1
 have HW1 := hQ hW1
 unfold ocs at hF hG HW1 ⊢
 obtain ⟨x0, x1, x2, x3, x4, x5, -, -, -, -, -, -, xz⟩ := hF.c6
 obtain ⟨y0, y1, y2, y3, y4, y5, -, -, -, -, -, -, yz⟩ := hG.c6
 obtain ⟨q, hq⟩ : ∃ q, q = eqL slEq a.tr b.tr := ⟨_, rfl⟩
 have HQ := hQ hq
 rw [← hq] at HCO
 clear hF hG hW1 hB1 h1 h2 hl hm hq
 rcases ek : (a.kind == b.kind) with _ | _
 · have HE : Hid (sameO a b = false) := hQ (by unfold sameO; rw [← HQ.out]; simp_all)
   go_enter Tryz.func12, Tryz.ntmps12
   go_upto_region 1 with (fail)
   rw [← HW1.out]
   go_wp2_with fail
   have HB2 := HB1
   go_ret
   exact ⟨ret_bool (by rw [HE.out]; try simp_all), HB2.out⟩
 · skip
   rcases ec : (a.code == b.code) with _ | _
   · have HE : Hid (sameO a b = false) := hQ (by unfold sameO; rw [← HQ.out]; simp_all)
     go_enter Tryz.func12, Tryz.ntmps12
     go_upto_region 1 with (fail)
     rw [← HW1.out]
     go_wp2_with fail
     have HB2 := HB1
     go_ret
     exact ⟨ret_bool (by rw [HE.out]; try simp_all), HB2.out⟩
   · skip
     rcases ev : (a.lo == b.lo && a.hi == b.hi) with _ | _
     · have HE : Hid (sameO a b = false) := hQ (by unfold sameO; rw [← HQ.out]; simp_all)
       have hv : ∀ W, (binOp .eql 38 (.agg #[.int .u64 a.lo, .int .u64 a.hi]) (.agg #[.int .u64 b.lo, .int .u64 b.hi])).run Tryz.prog W = .ok (.bool false) W := fun W => (eql_val _ _ _ _ W).trans (by rw [ev])
       go_enter Tryz.func12, Tryz.ntmps12
       go_upto_region 1 with (fail)
       rw [← HW1.out]
       go_wp2_with fail
       have HB2 := HB1
       go_ret
       exact ⟨ret_bool (by rw [HE.out]; try simp_all), HB2.out⟩
     · skip
       rcases es : (a.st == b.st) with _ | _
       · have HE : Hid (sameO a b = false) := hQ (by unfold sameO; rw [← HQ.out]; simp_all)
         have hv : ∀ W, (binOp .eql 38 (.agg #[.int .u64 a.lo, .int .u64 a.hi]) (.agg #[.int .u64 b.lo, .int .u64 b.hi])).run Tryz.prog W = .ok (.bool true) W := fun W => (eql_val _ _ _ _ W).trans (by rw [ev])
         go_enter Tryz.func12, Tryz.ntmps12
         go_upto_region 1 with (fail)
         rw [← HW1.out]
         go_wp2_with fail
         have HB2 := HB1
         go_ret
         exact ⟨ret_bool (by rw [HE.out]; try simp_all), HB2.out⟩
       · skip
         rcases q with _ | _
         · have HE : Hid (sameO a b = false) := hQ (by unfold sameO; rw [← HQ.out]; simp_all)
           have hv : ∀ W, (binOp .eql 38 (.agg #[.int .u64 a.lo, .int .u64 a.hi]) (.agg #[.int .u64 b.lo, .int .u64 b.hi])).run Tryz.prog W = .ok (.bool true) W := fun W => (eql_val _ _ _ _ W).trans (by rw [ev])
           go_enter Tryz.func12, Tryz.ntmps12
           go_upto_region 1 with (fail)
           rw [← HW1.out]
           go_wp2_with fail
           refine HCO.out.mono ?_
           rintro e w2 ⟨rfl, k, rfl⟩
           have HB2 := hQ (below_drewN HB1.out k)
           clear HCO
           go_wp2
           go_ret
           exact ⟨ret_bool (by rw [HE.out]; try simp_all), HB2.out⟩
         · have HE : Hid (sameO a b = true) := hQ (by unfold sameO; rw [← HQ.out]; simp_all)
           have hv : ∀ W, (binOp .eql 38 (.agg #[.int .u64 a.lo, .int .u64 a.hi]) (.agg #[.int .u64 b.lo, .int .u64 b.hi])).run Tryz.prog W = .ok (.bool true) W := fun W => (eql_val _ _ _ _ W).trans (by rw [ev])
           go_enter Tryz.func12, Tryz.ntmps12
           go_upto_region 1 with (fail)
           rw [← HW1.out]
           go_wp2_with fail
           refine HCO.out.mono ?_
           rintro e w2 ⟨rfl, k, rfl⟩
           have HB2 := hQ (below_drewN HB1.out k)
           clear HCO
           go_wp2
           go_ret
           exact ⟨ret_bool (by rw [HE.out]; try simp_all), HB2.out⟩
end Go.Proofs.YtcnndoefgjbmiaaGreat.pm
