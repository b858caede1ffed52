/- Contracts: Power of the program and of the reference. -/
import Derived.Test.YtmeoabpigibaoaaSl
namespace Go.Proofs.Ytmeoabpigibaoaa
open Go.RowKit
set_option linter.unusedVariables false

set_option maxRecDepth 10000 in
theorem power_any (x : Int) (h0 : -9223372036854775808 ≤ x) (h1 : x ≤ 9223372036854775807) (w : World) :
    Calls Try.prog 19 #[.int .i64 x] w fun e w' => e = .returned (.bool (powB x)) ∧ w = w' := by
  by_cases h : 1 ≤ x ∧ x ≤ 16777216
  · obtain ⟨h2, h3⟩ := h
    obtain ⟨n, rfl⟩ := Int.eq_ofNat_of_zero_le (show 0 ≤ x by omega)
    have hand := i64_and_nat n (n - 1) (by omega) (by omega)
    rw [show ((n - 1 : Nat) : Int) = (n : Int) - 1 by omega] at hand
    have HP := Lib.hid (powB_and n (by omega) (by omega))
    go_enter Try.func19, Try.ntmps19
    go_wp2
    go_ret
    exact ⟨ret_bool (by rw [← HP.out, Bool.eq_iff_iff, beq_iff_eq, decide_eq_true_iff]; omega), rfl⟩
  · have hp : powB x = false := by
      rcases hb : powB x with _ | _
      · rfl
      · exact absurd (powB_range x hb) h
    have HP := Lib.hid hp
    have hx : x < 1 ∨ (1 ≤ x ∧ 16777216 < x) := by omega
    clear hp h
    rcases hx with h | ⟨h, h'⟩
    all_goals
      go_enter Try.func19, Try.ntmps19
      go_wp2
      go_ret
      exact ⟨ret_bool (by rw [HP.out]), rfl⟩

set_option maxRecDepth 10000 in
theorem refpower_any (x : Int) (h0 : -9223372036854775808 ≤ x) (h1 : x ≤ 9223372036854775807) (w : World) :
    Calls Try.prog 23 #[.int .i64 x] w fun e w' => e = .returned (.bool (powB x)) ∧ w = w' := by
  go_enter Try.func23, Try.ntmps23
  go_wp2
  go_loop [3] (fun v => ∃ j p : Nat, j ≤ 25 ∧ v = .int .i64 p ∧ Hid (p = 2 ^ j) ∧ p ≤ 33554432 ∧ Hid (∀ i, i < j → x ≠ ((2 ^ i : Nat) : Int))) (fun v => 33554433 - (intOf v).toNat)
  case atStart => exact ⟨0, 1, by omega, rfl, Lib.hid rfl, by omega, Lib.hid (fun i h => absurd h (by omega))⟩
  case round =>
    obtain ⟨j, p, hj, rfl, HP, hp, HN⟩ := hrel
    by_cases hj24 : j ≤ 24
    · have hp24 : p ≤ 16777216 := by rw [HP.out]; exact (pow24 hj24).2
      have hp1 : 1 ≤ p := by rw [HP.out]; exact (pow24 hj24).1
      by_cases hx : x = p
      · have hb : powB x = true := (powB_iff x).2 ⟨j, hj24, by rw [hx, HP.out]⟩
        have HB := Lib.hid hb
        have hbe : (x == (p : Int)) = true := by simpa using hx
        clear hb hx
        go_wp2
        go_ret
        exact ⟨ret_bool (by rw [HB.out]), rfl⟩
      · have hbe : (x == (p : Int)) = false := by simpa using hx
        have HX := Lib.hid hx
        clear hx
        go_wp2
        go_round
        case rel =>
          refine ⟨j + 1, p * 2, by omega, by go_num, Lib.hid (by rw [HP.out, Nat.pow_succ]), by omega, Lib.hid fun i hi => ?_⟩
          rcases Nat.lt_or_ge i j with h | h
          · exact HN.out i h
          · have : i = j := by omega
            rw [this, ← HP.out]
            exact HX.out
        case measure => simp [intOf]; omega
    · have hj25 : j = 25 := by omega
      have hp25 : p = 33554432 := by rw [HP.out, hj25]
      have hb : powB x = false := by
        rcases hb : powB x with _ | _
        · rfl
        · obtain ⟨k, hk, hx⟩ := (powB_iff x).1 hb
          exact absurd hx (HN.out k (by omega))
      have HB := Lib.hid hb
      have hp26 : 16777216 < p := by omega
      clear hb hj25 hp25
      go_wp2
      go_ret
      exact ⟨ret_bool (by rw [HB.out]), rfl⟩
end Go.Proofs.Ytmeoabpigibaoaa
