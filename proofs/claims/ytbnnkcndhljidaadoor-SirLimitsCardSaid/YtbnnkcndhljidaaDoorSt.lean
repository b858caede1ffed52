/- Contracts: Power of the program and of the reference. -/
import Derived.Test.YtbnnkcndhljidaaDoorSl
namespace Go.Proofs.YtbnnkcndhljidaaDoor
open Go.RowKit
set_option linter.unusedVariables false

set_option maxRecDepth 10000 in
theorem power_any (x : Int) (h0 : -9223372036854775808 ≤ x) (h1 : x ≤ 9223372036854775807) (w : World) :
    Calls Tryd.prog 21 #[.int .i64 x] w fun e w' => e = .returned (.bool (powB x)) ∧ w = w' := by
  by_cases h : 1 ≤ x ∧ x ≤ 16777216
  · obtain ⟨h2, h3⟩ := h
    obtain ⟨n, rfl⟩ := Int.eq_ofNat_of_zero_le (show 0 ≤ x by omega)
    have hand := i64_and_nat n (n - 1) (by omega) (by omega)
    rw [show ((n - 1 : Nat) : Int) = (n : Int) - 1 by omega] at hand
    have HP := Lib.hid (powB_and n (by omega) (by omega))
    go_enter Tryd.func21, Tryd.ntmps21
    go_wp2
    go_ret
    exact ⟨ret_bool (by rw [← HP.out, Bool.eq_iff_iff, beq_iff_eq, decide_eq_true_iff]; omega), rfl⟩
  · have hp : powB x = false := by
      rcases hb : powB x with _ | _
      · rfl
      · exact absurd (powB_range x hb) h
    have HP := Lib.hid hp
    have hx : x < 1 ∨ (1 ≤ x ∧ 16777216 < x) := by omega
    clear hp h
    rcases hx with h | ⟨h, h'⟩
    all_goals
      go_enter Tryd.func21, Tryd.ntmps21
      go_wp2
      go_ret
      exact ⟨ret_bool (by rw [HP.out]), rfl⟩

end Go.Proofs.YtbnnkcndhljidaaDoor
