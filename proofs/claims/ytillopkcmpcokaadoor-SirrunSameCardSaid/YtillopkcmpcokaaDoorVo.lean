/- Outcomes: Same and Ends. -/
import Derived.Test.YtillopkcmpcokaaDoorVe
import Derived.Test.YtillopkcmpcokaaDoorSc3
namespace Go.Proofs.YtillopkcmpcokaaDoor.pm
open Go.RowKit
set_option linter.unusedVariables false
set_option maxRecDepth 10000
structure Oc where
  kind : Int
  code : Int
  lo : Int
  hi : Int
  tr : List (Int × Int)
  st : Int
def ocs (o : Oc) (A : Option Addr) (c : Nat) : Array Value := #[.int .i64 o.kind, .int .u64 o.code, .int .u64 o.lo, .int .u64 o.hi, .slice A o.tr.length c, .int .i64 o.st]
def sameO (a b : Oc) : Bool := a.kind == b.kind && a.code == b.code && (a.lo == b.lo && a.hi == b.hi) && eqL slEq a.tr b.tr && a.st == b.st
def endO (a : Oc) : Bool := a.kind == 0 || a.kind == 1 || a.kind == 2
set_option maxHeartbeats 2000000 in
theorem same8_any (a b : Oc) (A1 A2 : Option Addr) (c1 c2 : Nat) (w : World) (lo hi lo' hi' : Nat) (hh : hi ≤ w.heap.size) (hh' : hi' ≤ w.heap.size) (h1 : Ux w lo hi A1 a.tr) (h2 : Ux w lo' hi' A2 b.tr) (hl : a.tr.length ≤ maxLen) (hm : b.tr.length ≤ maxLen) :
    Calls Tryd.prog 21 #[.agg (ocs a A1 c1), .agg (ocs b A2 c2)] w fun e w' => e = .returned (.bool (sameO a b)) ∧ Below w.heap.size w w' := by
  obtain ⟨W1, hW1⟩ : ∃ W1, W1 = (w.alloc (.cells (ocs a A1 c1) 36)).alloc (.cells (ocs b A2 c2) 36) := ⟨_, rfl⟩
  have hB1 : Below w.heap.size w W1 := by rw [hW1]; exact ((Below.refl _ _).alloc (Nat.le_refl _) _).alloc (by simp) _
  have hF : Blk W1 w.heap.size 36 (ocs a A1 c1) := by rw [hW1]; exact (Blk.new _ _ _).alloc _
  have hG : Blk W1 (w.heap.size + 1) 36 (ocs b A2 c2) := by rw [hW1]; exact Blk.newAt (by simp)
  have HCO := Lib.hid (equal_vals A1 A2 a.tr b.tr c1 c2 W1 _ _ _ _ (h1.keep (Kp.of_below hB1 hh)) (h2.keep (Kp.of_below hB1 hh')) hl hm)
  have HB1 := Lib.hid hB1
  have HW1 := Lib.hid hW1
  unfold ocs at hF hG HW1 ⊢
  obtain ⟨x0, x1, x2, x3, x4, x5, -, -, -, -, -, -, xz⟩ := hF.c6
  obtain ⟨y0, y1, y2, y3, y4, y5, -, -, -, -, -, -, yz⟩ := hG.c6
  obtain ⟨q, hq⟩ : ∃ q, q = eqL slEq a.tr b.tr := ⟨_, rfl⟩
  have HQ := Lib.hid hq
  rw [← hq] at HCO
  clear hF hG hW1 hB1 h1 h2 hl hm hq
  rcases ek : (a.kind == b.kind) with _ | _
  · have HE : Hid (sameO a b = false) := Lib.hid (by unfold sameO; rw [← HQ.out]; simp_all)
    go_enter Tryd.func21, Tryd.ntmps21
    go_upto_region 1 with (fail)
    rw [← HW1.out]
    go_wp2_with fail
    have HB2 := HB1
    go_ret
    exact ⟨ret_bool (by rw [HE.out]; try simp_all), HB2.out⟩
  · skip
    rcases ec : (a.code == b.code) with _ | _
    · have HE : Hid (sameO a b = false) := Lib.hid (by unfold sameO; rw [← HQ.out]; simp_all)
      go_enter Tryd.func21, Tryd.ntmps21
      go_upto_region 1 with (fail)
      rw [← HW1.out]
      go_wp2_with fail
      have HB2 := HB1
      go_ret
      exact ⟨ret_bool (by rw [HE.out]; try simp_all), HB2.out⟩
    · skip
      rcases ev : (a.lo == b.lo && a.hi == b.hi) with _ | _
      · have HE : Hid (sameO a b = false) := Lib.hid (by unfold sameO; rw [← HQ.out]; simp_all)
        have hv : ∀ W, (binOp .eql 33 (.agg #[.int .u64 a.lo, .int .u64 a.hi]) (.agg #[.int .u64 b.lo, .int .u64 b.hi])).run Tryd.prog W = .ok (.bool false) W := fun W => (eql_val _ _ _ _ W).trans (by rw [ev])
        go_enter Tryd.func21, Tryd.ntmps21
        go_upto_region 1 with (fail)
        rw [← HW1.out]
        go_wp2_with fail
        have HB2 := HB1
        go_ret
        exact ⟨ret_bool (by rw [HE.out]; try simp_all), HB2.out⟩
      · skip
        rcases q with _ | _
        · have HE : Hid (sameO a b = false) := Lib.hid (by unfold sameO; rw [← HQ.out]; simp_all)
          have hv : ∀ W, (binOp .eql 33 (.agg #[.int .u64 a.lo, .int .u64 a.hi]) (.agg #[.int .u64 b.lo, .int .u64 b.hi])).run Tryd.prog W = .ok (.bool true) W := fun W => (eql_val _ _ _ _ W).trans (by rw [ev])
          go_enter Tryd.func21, Tryd.ntmps21
          go_upto_region 1 with (fail)
          rw [← HW1.out]
          go_wp2_with fail
          refine HCO.out.mono ?_
          rintro e w2 ⟨rfl, k, rfl⟩
          have HB2 := Lib.hid (below_drewN HB1.out k)
          clear HCO
          go_wp2
          go_ret
          exact ⟨ret_bool (by rw [HE.out]; try simp_all), HB2.out⟩
        · skip
          rcases es : (a.st == b.st) with _ | _
          · have HE : Hid (sameO a b = false) := Lib.hid (by unfold sameO; rw [← HQ.out]; simp_all)
            have hv : ∀ W, (binOp .eql 33 (.agg #[.int .u64 a.lo, .int .u64 a.hi]) (.agg #[.int .u64 b.lo, .int .u64 b.hi])).run Tryd.prog W = .ok (.bool true) W := fun W => (eql_val _ _ _ _ W).trans (by rw [ev])
            go_enter Tryd.func21, Tryd.ntmps21
            go_upto_region 1 with (fail)
            rw [← HW1.out]
            go_wp2_with fail
            refine HCO.out.mono ?_
            rintro e w2 ⟨rfl, k, rfl⟩
            have HB2 := Lib.hid (below_drewN HB1.out k)
            clear HCO
            go_wp2
            go_ret
            exact ⟨ret_bool (by rw [HE.out]; try simp_all), HB2.out⟩
          · have HE : Hid (sameO a b = true) := Lib.hid (by unfold sameO; rw [← HQ.out]; simp_all)
            have hv : ∀ W, (binOp .eql 33 (.agg #[.int .u64 a.lo, .int .u64 a.hi]) (.agg #[.int .u64 b.lo, .int .u64 b.hi])).run Tryd.prog W = .ok (.bool true) W := fun W => (eql_val _ _ _ _ W).trans (by rw [ev])
            go_enter Tryd.func21, Tryd.ntmps21
            go_upto_region 1 with (fail)
            rw [← HW1.out]
            go_wp2_with fail
            refine HCO.out.mono ?_
            rintro e w2 ⟨rfl, k, rfl⟩
            have HB2 := Lib.hid (below_drewN HB1.out k)
            clear HCO
            go_wp2
            go_ret
            exact ⟨ret_bool (by rw [HE.out]; try simp_all), HB2.out⟩
set_option maxHeartbeats 2000000 in
theorem refsame8_any (a b : Oc) (A1 A2 : Option Addr) (c1 c2 : Nat) (w : World) (lo hi lo' hi' : Nat) (hh : hi ≤ w.heap.size) (hh' : hi' ≤ w.heap.size) (h1 : Ux w lo hi A1 a.tr) (h2 : Ux w lo' hi' A2 b.tr) (hl : a.tr.length ≤ maxLen) (hm : b.tr.length ≤ maxLen) :
    Calls Tryd.prog 12 #[.agg (ocs a A1 c1), .agg (ocs b A2 c2)] w fun e w' => e = .returned (.bool (sameO a b)) ∧ Below w.heap.size w w' := by
  obtain ⟨W1, hW1⟩ : ∃ W1, W1 = (w.alloc (.cells (ocs a A1 c1) 36)).alloc (.cells (ocs b A2 c2) 36) := ⟨_, rfl⟩
  have hB1 : Below w.heap.size w W1 := by rw [hW1]; exact ((Below.refl _ _).alloc (Nat.le_refl _) _).alloc (by simp) _
  have hF : Blk W1 w.heap.size 36 (ocs a A1 c1) := by rw [hW1]; exact (Blk.new _ _ _).alloc _
  have hG : Blk W1 (w.heap.size + 1) 36 (ocs b A2 c2) := by rw [hW1]; exact Blk.newAt (by simp)
  have HCO := Lib.hid (refequal_vals A1 A2 a.tr b.tr c1 c2 W1 _ _ _ _ (h1.keep (Kp.of_below hB1 hh)) (h2.keep (Kp.of_below hB1 hh')) hl hm)
  have HB1 := Lib.hid hB1
  have HW1 := Lib.hid hW1
  unfold ocs at hF hG HW1 ⊢
  obtain ⟨x0, x1, x2, x3, x4, x5, -, -, -, -, -, -, xz⟩ := hF.c6
  obtain ⟨y0, y1, y2, y3, y4, y5, -, -, -, -, -, -, yz⟩ := hG.c6
  obtain ⟨q, hq⟩ : ∃ q, q = eqL slEq a.tr b.tr := ⟨_, rfl⟩
  have HQ := Lib.hid hq
  rw [← hq] at HCO
  clear hF hG hW1 hB1 h1 h2 hl hm hq
  rcases ek : (a.kind == b.kind) with _ | _
  · have HE : Hid (sameO a b = false) := Lib.hid (by unfold sameO; rw [← HQ.out]; simp_all)
    go_enter Tryd.func12, Tryd.ntmps12
    go_upto_region 1 with (fail)
    rw [← HW1.out]
    go_wp2_with fail
    have HB2 := HB1
    go_ret
    exact ⟨ret_bool (by rw [HE.out]; try simp_all), HB2.out⟩
  · skip
    rcases ec : (a.code == b.code) with _ | _
    · have HE : Hid (sameO a b = false) := Lib.hid (by unfold sameO; rw [← HQ.out]; simp_all)
      go_enter Tryd.func12, Tryd.ntmps12
      go_upto_region 1 with (fail)
      rw [← HW1.out]
      go_wp2_with fail
      have HB2 := HB1
      go_ret
      exact ⟨ret_bool (by rw [HE.out]; try simp_all), HB2.out⟩
    · skip
      rcases ev : (a.lo == b.lo && a.hi == b.hi) with _ | _
      · have HE : Hid (sameO a b = false) := Lib.hid (by unfold sameO; rw [← HQ.out]; simp_all)
        have hv : ∀ W, (binOp .eql 33 (.agg #[.int .u64 a.lo, .int .u64 a.hi]) (.agg #[.int .u64 b.lo, .int .u64 b.hi])).run Tryd.prog W = .ok (.bool false) W := fun W => (eql_val _ _ _ _ W).trans (by rw [ev])
        go_enter Tryd.func12, Tryd.ntmps12
        go_upto_region 1 with (fail)
        rw [← HW1.out]
        go_wp2_with fail
        have HB2 := HB1
        go_ret
        exact ⟨ret_bool (by rw [HE.out]; try simp_all), HB2.out⟩
      · skip
        rcases es : (a.st == b.st) with _ | _
        · have HE : Hid (sameO a b = false) := Lib.hid (by unfold sameO; rw [← HQ.out]; simp_all)
          have hv : ∀ W, (binOp .eql 33 (.agg #[.int .u64 a.lo, .int .u64 a.hi]) (.agg #[.int .u64 b.lo, .int .u64 b.hi])).run Tryd.prog W = .ok (.bool true) W := fun W => (eql_val _ _ _ _ W).trans (by rw [ev])
          go_enter Tryd.func12, Tryd.ntmps12
          go_upto_region 1 with (fail)
          rw [← HW1.out]
          go_wp2_with fail
          have HB2 := HB1
          go_ret
          exact ⟨ret_bool (by rw [HE.out]; try simp_all), HB2.out⟩
        · skip
          rcases q with _ | _
          · have HE : Hid (sameO a b = false) := Lib.hid (by unfold sameO; rw [← HQ.out]; simp_all)
            have hv : ∀ W, (binOp .eql 33 (.agg #[.int .u64 a.lo, .int .u64 a.hi]) (.agg #[.int .u64 b.lo, .int .u64 b.hi])).run Tryd.prog W = .ok (.bool true) W := fun W => (eql_val _ _ _ _ W).trans (by rw [ev])
            go_enter Tryd.func12, Tryd.ntmps12
            go_upto_region 1 with (fail)
            rw [← HW1.out]
            go_wp2_with fail
            refine HCO.out.mono ?_
            rintro e w2 ⟨rfl, k, rfl⟩
            have HB2 := Lib.hid (below_drewN HB1.out k)
            clear HCO
            go_wp2
            go_ret
            exact ⟨ret_bool (by rw [HE.out]; try simp_all), HB2.out⟩
          · have HE : Hid (sameO a b = true) := Lib.hid (by unfold sameO; rw [← HQ.out]; simp_all)
            have hv : ∀ W, (binOp .eql 33 (.agg #[.int .u64 a.lo, .int .u64 a.hi]) (.agg #[.int .u64 b.lo, .int .u64 b.hi])).run Tryd.prog W = .ok (.bool true) W := fun W => (eql_val _ _ _ _ W).trans (by rw [ev])
            go_enter Tryd.func12, Tryd.ntmps12
            go_upto_region 1 with (fail)
            rw [← HW1.out]
            go_wp2_with fail
            refine HCO.out.mono ?_
            rintro e w2 ⟨rfl, k, rfl⟩
            have HB2 := Lib.hid (below_drewN HB1.out k)
            clear HCO
            go_wp2
            go_ret
            exact ⟨ret_bool (by rw [HE.out]; try simp_all), HB2.out⟩
set_option maxHeartbeats 800000 in
theorem ends8_any (a : Oc) (A1 : Option Addr) (c1 : Nat) (w : World) :
    Calls Tryd.prog 19 #[.agg (ocs a A1 c1)] w fun e w' => e = .returned (.bool (endO a)) ∧ Below w.heap.size w w' := by
  obtain ⟨W1, hW1⟩ : ∃ W1, W1 = w.alloc (.cells (ocs a A1 c1) 36) := ⟨_, rfl⟩
  have hB1 : Below w.heap.size w W1 := by rw [hW1]; exact (Below.refl _ _).alloc (Nat.le_refl _) _
  have hF : Blk W1 w.heap.size 36 (ocs a A1 c1) := by rw [hW1]; exact Blk.new _ _ _
  have HB1 := Lib.hid hB1
  have HW1 := Lib.hid hW1
  unfold ocs at hF HW1 ⊢
  obtain ⟨x0, x1, x2, x3, x4, x5, -, -, -, -, -, -, xz⟩ := hF.c6
  clear hF hW1 hB1
  · rcases e0 : (a.kind == 0) with _ | _
    · rcases e1 : (a.kind == 1) with _ | _
      · rcases e2 : (a.kind == 2) with _ | _
        · have HE : Hid (endO a = false) := Lib.hid (by unfold endO; simp_all)
          go_enter Tryd.func19, Tryd.ntmps19
          go_upto_region 1 with (fail)
          rw [← HW1.out]
          go_wp2
          go_ret
          exact ⟨ret_bool (by rw [HE.out]; try simp_all), HB1.out⟩
        · have HE : Hid (endO a = true) := Lib.hid (by unfold endO; simp_all)
          go_enter Tryd.func19, Tryd.ntmps19
          go_upto_region 1 with (fail)
          rw [← HW1.out]
          go_wp2
          go_ret
          exact ⟨ret_bool (by rw [HE.out]; try simp_all), HB1.out⟩
      · have HE : Hid (endO a = true) := Lib.hid (by unfold endO; simp_all)
        go_enter Tryd.func19, Tryd.ntmps19
        go_upto_region 1 with (fail)
        rw [← HW1.out]
        go_wp2
        go_ret
        exact ⟨ret_bool (by rw [HE.out]; try simp_all), HB1.out⟩
    · have HE : Hid (endO a = true) := Lib.hid (by unfold endO; simp_all)
      go_enter Tryd.func19, Tryd.ntmps19
      go_upto_region 1 with (fail)
      rw [← HW1.out]
      go_wp2
      go_ret
      exact ⟨ret_bool (by rw [HE.out]; try simp_all), HB1.out⟩
set_option maxHeartbeats 800000 in
theorem refends8_any (a : Oc) (A1 : Option Addr) (c1 : Nat) (w : World) :
    Calls Tryd.prog 20 #[.agg (ocs a A1 c1)] w fun e w' => e = .returned (.bool (endO a)) ∧ Below w.heap.size w w' := by
  obtain ⟨W1, hW1⟩ : ∃ W1, W1 = w.alloc (.cells (ocs a A1 c1) 36) := ⟨_, rfl⟩
  have hB1 : Below w.heap.size w W1 := by rw [hW1]; exact (Below.refl _ _).alloc (Nat.le_refl _) _
  have hF : Blk W1 w.heap.size 36 (ocs a A1 c1) := by rw [hW1]; exact Blk.new _ _ _
  have HB1 := Lib.hid hB1
  have HW1 := Lib.hid hW1
  unfold ocs at hF HW1 ⊢
  obtain ⟨x0, x1, x2, x3, x4, x5, -, -, -, -, -, -, xz⟩ := hF.c6
  clear hF hW1 hB1
  · rcases e0 : (a.kind == 0) with _ | _
    · rcases e1 : (a.kind == 1) with _ | _
      · rcases e2 : (a.kind == 2) with _ | _
        · have HE : Hid (endO a = false) := Lib.hid (by unfold endO; simp_all)
          go_enter Tryd.func20, Tryd.ntmps20
          go_upto_region 1 with (fail)
          rw [← HW1.out]
          go_wp2
          go_ret
          exact ⟨ret_bool (by rw [HE.out]; try simp_all), HB1.out⟩
        · have HE : Hid (endO a = true) := Lib.hid (by unfold endO; simp_all)
          go_enter Tryd.func20, Tryd.ntmps20
          go_upto_region 1 with (fail)
          rw [← HW1.out]
          go_wp2
          go_ret
          exact ⟨ret_bool (by rw [HE.out]; try simp_all), HB1.out⟩
      · have HE : Hid (endO a = true) := Lib.hid (by unfold endO; simp_all)
        go_enter Tryd.func20, Tryd.ntmps20
        go_upto_region 1 with (fail)
        rw [← HW1.out]
        go_wp2
        go_ret
        exact ⟨ret_bool (by rw [HE.out]; try simp_all), HB1.out⟩
    · have HE : Hid (endO a = true) := Lib.hid (by unfold endO; simp_all)
      go_enter Tryd.func20, Tryd.ntmps20
      go_upto_region 1 with (fail)
      rw [← HW1.out]
      go_wp2
      go_ret
      exact ⟨ret_bool (by rw [HE.out]; try simp_all), HB1.out⟩
end Go.Proofs.YtillopkcmpcokaaDoor.pm
