/- VarintRead: the walk of the law. -/
import Derived.Test.YtcpmlcdeddmdmaaRdi
import Derived.Test.YtcpmlcdeddmdmaaVcLaw
namespace Go.Proofs.Ytcpmlcdeddmdmaa.vr
open Go.RowKit
set_option linter.unusedVariables false

set_option maxHeartbeats 2000000 in
set_option maxRecDepth 10000 in
theorem law (A : Option Addr) (n c : Nat) (l : List Nat) (x : Int) (h0 : -9223372036854775808 ≤ x) (h1 : x ≤ 9223372036854775807) (w : World) (hb : Bs w w.heap.size A n l) (hn : n ≤ maxLen) :
    Calls Try.prog 9 #[.slice A n c, .int .i64 x] w fun e w' => e = .returned (.bool true) ∧ Below w.heap.size w w' := by
  have H0 := Lib.hid h0
  have H1 := Lib.hid h1
  have HM := Lib.hid hn
  clear h0 h1
  unfold maxLen at hn
  by_cases hle : n ≤ 1000
  · go_enter Try.func9, Try.ntmps9
    go_wp2_with fail
    refine (awake01 w).mono ?_
    rintro e w1 ⟨rfl, rfl⟩
    go_wp2_with fail
    have hmod := vc.mod_any x H0.out H1.out (n + 1) (by omega) (by omega) w
    have hml := vc.modOf_lt x (n + 1) (by omega)
    generalize vc.modOf x (n + 1) = m at *
    refine hmod.mono ?_
    rintro e w1 ⟨rfl, rfl⟩
    clear hmod
    go_wp2_with fail
    have hb1 := hb.alloc (Nat.le_refl _) (.cells #[.int .i64 x, .int .i64 0, .int .i64 m] 3)
    have HB := Lib.hid hb1
    clear hb hb1
    have HBel := Lib.hid ((Below.refl w.heap.size w).alloc (Nat.le_refl _) (.cells #[.int .i64 x, .int .i64 0, .int .i64 m] 3))
    go_loop [37] (fun i => ∃ k : Nat, k ≤ 3 ∧ i = .int .i64 k) (fun i => 3 - (intOf i).toNat)
    case atStart => exact ⟨0, by omega, rfl⟩
    case round =>
      obtain ⟨k, hk, rfl⟩ := hrel
      have hk3 : k = 0 ∨ k = 1 ∨ k = 2 ∨ k = 3 := by omega
      rcases hk3 with rfl | rfl | rfl | rfl
      rotate_left 3
      · go_wp2
        go_ret
        exact ⟨rfl, HBel.out⟩
      all_goals
        go_wp2_with fail
        refine (uint_any A n c l _ (by first | exact H0.out | omega) (by first | exact H1.out | omega) _ _ HB.out (by omega)).mono ?_
        rintro e w1 ⟨rfl, rfl⟩
        unfold retU
        go_wp2_with fail
        refine (refuint_any A n c l _ (by first | exact H0.out | omega) (by first | exact H1.out | omega) _ _ HB.out (by omega)).mono ?_
        rintro e w1 ⟨rfl, rfl⟩
        unfold retU
        go_wp2_with fail
        refine (int_any A n c l _ (by first | exact H0.out | omega) (by first | exact H1.out | omega) _ _ HB.out (by omega)).mono ?_
        rintro e w1 ⟨rfl, rfl⟩
        unfold retI
        go_wp2_with fail
        refine (refint_any A n c l _ (by first | exact H0.out | omega) (by first | exact H1.out | omega) _ _ HB.out (by omega)).mono ?_
        rintro e w1 ⟨rfl, rfl⟩
        unfold retI
        go_wp2
        go_round
        case rel => first | exact ⟨1, by omega, rfl⟩ | exact ⟨2, by omega, rfl⟩ | exact ⟨3, by omega, rfl⟩
        case measure => simp [intOf]
  · have hgt : (1000 : Int) < (n : Int) := by omega
    go_enter Try.func9, Try.ntmps9
    go_wp2_with fail
    refine (awake01 w).mono ?_
    rintro e w1 ⟨rfl, rfl⟩
    go_wp2
    go_ret
    exact ⟨rfl, Below.refl _ _⟩
end Go.Proofs.Ytcpmlcdeddmdmaa.vr
