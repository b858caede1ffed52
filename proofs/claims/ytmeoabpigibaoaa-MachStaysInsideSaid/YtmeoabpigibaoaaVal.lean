/- Contracts of the package value and of its reference: Size, Bytes, FromBytes. -/
import Derived.Test.YtmeoabpigibaoaaValPlain
namespace Go.Proofs.Ytmeoabpigibaoaa
open Go.RowKit
set_option linter.unusedVariables false
set_option maxRecDepth 10000

set_option maxRecDepth 10000 in
theorem size_any (x : Int) (h0 : -9223372036854775808 ≤ x) (h1 : x ≤ 9223372036854775807) (w : World) :
    Calls Try.prog 53 #[.int .i64 x] w fun e w' => e = .returned (.bool (sizeB x)) ∧ w = w' := by
  by_cases h : 1 ≤ x ∧ x ≤ 16
  · obtain ⟨h2, h3⟩ := h
    obtain ⟨n, rfl⟩ := Int.eq_ofNat_of_zero_le (show 0 ≤ x by omega)
    have hand := i64_and_nat n (n - 1) (by omega) (by omega)
    rw [show ((n - 1 : Nat) : Int) = (n : Int) - 1 by omega] at hand
    have HP := Lib.hid (sizeB_and n (by omega) (by omega))
    go_enter Try.func53, Try.ntmps53
    go_wp2
    go_ret
    exact ⟨ret_bool (by rw [← HP.out, Bool.eq_iff_iff, beq_iff_eq, decide_eq_true_iff]; omega), rfl⟩
  · have hp : sizeB x = false := by
      rcases hb : sizeB x with _ | _
      · rfl
      · have := (sizeB_iff x).1 hb
        omega
    have HP := Lib.hid hp
    have hx : x < 1 ∨ (1 ≤ x ∧ 16 < x) := by omega
    clear hp h
    rcases hx with h | ⟨h, h'⟩
    all_goals
      go_enter Try.func53, Try.ntmps53
      go_wp2
      go_ret
      exact ⟨ret_bool (by rw [HP.out]), rfl⟩
theorem refsize_any (x : Int) (h0 : -9223372036854775808 ≤ x) (h1 : x ≤ 9223372036854775807) (w : World) :
    Calls Try.prog 59 #[.int .i64 x] w fun e w' => e = .returned (.bool (sizeB x)) ∧ w = w' := by
  have HP : Hid (sizeB x = true ↔ x = 1 ∨ x = 2 ∨ x = 4 ∨ x = 8 ∨ x = 16) := sizeB_iff x
  go_enter Try.func59, Try.ntmps59
  go_wp2
  all_goals
    go_ret
    refine ⟨ret_bool ?_, rfl⟩
    rw [Bool.eq_iff_iff, HP.out]
    simp
    try omega

end Go.Proofs.Ytmeoabpigibaoaa
