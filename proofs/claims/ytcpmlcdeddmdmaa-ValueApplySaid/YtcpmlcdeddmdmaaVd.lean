/- Contracts: less, truth, the quotient of values, of the program. -/
import Derived.Test.YtcpmlcdeddmdmaaVgLaw
import Derived.Test.YtcpmlcdeddmdmaaDw
namespace Go.Proofs.Ytcpmlcdeddmdmaa
open Go.RowKit
set_option linter.unusedVariables false
set_option maxRecDepth 10000

def lessN (a b c d : Nat) : Bool := decide (vN a b < vN c d)
set_option maxHeartbeats 1000000 in
theorem less_any (a b c d : Nat) (ha : a < 18446744073709551616) (hc : c < 18446744073709551616) (w : World) :
    Calls Try.prog 68 #[.agg #[.int .u64 (a : Int), .int .u64 (b : Int)], .agg #[.int .u64 (c : Int), .int .u64 (d : Int)]] w fun e w' => e = .returned (.bool (lessN a b c d)) ∧ Below w.heap.size w w' := by
  rcases Nat.lt_trichotomy b d with h | h | h
  · have hr : lessN a b c d = true := by unfold lessN vN; rw [decide_eq_true_iff]; omega
    rw [hr]
    clear ha hc hr
    have h' : (b : Int) < (d : Int) := by omega
    go_enter Try.func68, Try.ntmps68
    go_wp2
    go_ret
    exact ⟨rfl, by go_grown⟩
  · subst h
    by_cases h : a < c
    · have hr : lessN a b c b = true := by unfold lessN vN; rw [decide_eq_true_iff]; omega
      rw [hr]
      clear ha hc hr
      have h' : (a : Int) < (c : Int) := by omega
      go_enter Try.func68, Try.ntmps68
      go_wp2
      go_ret
      exact ⟨by simp [*], by go_grown⟩
    · have hr : lessN a b c b = false := by unfold lessN vN; rw [decide_eq_false_iff_not]; omega
      rw [hr]
      clear ha hc hr
      have h' : ¬ ((a : Int) < (c : Int)) := by omega
      go_enter Try.func68, Try.ntmps68
      go_wp2
      go_ret
      exact ⟨by simp [*], by go_grown⟩
  · have hr : lessN a b c d = false := by unfold lessN vN; rw [decide_eq_false_iff_not]; omega
    rw [hr]
    clear ha hc hr
    have h' : ¬ ((b : Int) < (d : Int)) := by omega
    have h'' : ¬ ((b : Int) = (d : Int)) := by omega
    have h3 : ¬ (b = d) := by omega
    go_enter Try.func68, Try.ntmps68
    go_wp2
    go_ret
    exact ⟨by first | rfl | simp [*], by go_grown⟩
theorem truth_any (t : Bool) (w : World) :
    Calls Try.prog 67 #[.bool t] w fun e w' => e = fromV (if t = true then 1 else 0) 0 ∧ Below w.heap.size w w' := by
  cases t
  · go_enter Try.func67, Try.ntmps67
    go_wp2
    go_returns
    exact ⟨rfl, by go_grown⟩
  · go_enter Try.func67, Try.ntmps67
    go_wp2
    go_returns
    exact ⟨rfl, by go_grown⟩

theorem div_short (a b c : Nat) (hc : 0 < c) (ha : a < 18446744073709551616) : vN a b / vN c 0 = (b % c * 18446744073709551616 + a) / c + 18446744073709551616 * (b / c) := by
  have e : vN a b = (b % c * 18446744073709551616 + a) + c * (18446744073709551616 * (b / c)) := by
    have h := Nat.div_add_mod b c
    unfold vN
    generalize b % c = r at *
    have : c * (18446744073709551616 * (b / c)) = 18446744073709551616 * (c * (b / c)) := Nat.mul_left_comm _ _ _
    rw [this]
    generalize c * (b / c) = p at *
    omega
  rw [e, show vN c 0 = c by unfold vN; omega, Nat.add_mul_div_left _ _ hc]
theorem div_short_lt (a b c : Nat) (hc : 0 < c) (ha : a < 18446744073709551616) : (b % c * 18446744073709551616 + a) / c < 18446744073709551616 := by
  rw [Nat.div_lt_iff_lt_mul hc]
  have := Nat.mod_lt b hc
  generalize b % c = r at *
  omega
set_option maxHeartbeats 1000000 in
theorem vdiv_short (a b c : Nat) (ha : a < 18446744073709551616) (hb : b < 18446744073709551616) (hc : c < 18446744073709551616) (h0 : 0 < c) (w : World) :
    Calls Try.prog 66 #[.agg #[.int .u64 (a : Int), .int .u64 (b : Int)], .agg #[.int .u64 (c : Int), .int .u64 0]] w fun e w' => e = fromV (loN (vN a b / vN c 0)) (hiN (vN a b / vN c 0)) ∧ Below w.heap.size w w' := by
  have hm := Nat.mod_lt b h0
  have h1 := fun W : World => div64_any (b % c) a c hm ha hc W
  have hlt := div_short_lt a b c h0 ha
  have hbc := Nat.div_le_self b c
  have hlohi : loN (vN a b / vN c 0) = (b % c * 18446744073709551616 + a) / c ∧ hiN (vN a b / vN c 0) = b / c := by
    rw [div_short a b c h0 ha]
    generalize (b % c * 18446744073709551616 + a) / c = q at *
    generalize b / c = h at *
    unfold loN hiN
    exact ⟨by omega, by omega⟩
  obtain ⟨hlo, hhi⟩ := hlohi
  rw [hlo, hhi]
  have hw := wrapDiv' b c hb
  have H1 := Lib.hid h1
  clear h1 hlo hhi hlt hbc hm ha hb hc
  generalize (b % c * 18446744073709551616 + a) / c = q at *
  have c0 : ¬ ((c : Int) = 0) := by omega
  have c1 : ¬ (c = 0) := by omega
  have HW := Lib.hid hw
  clear hw
  unfold fromV
  go_enter Try.func66, Try.ntmps66
  go_wp2_with fail
  go_quiet (fail)
  go_wp2_with fail
  refine (H1.out _).mono ?_
  rintro e w1 ⟨r, rfl, k, rfl⟩
  go_wp2
  go_returns
  exact ⟨by rw [HW.out], Below.setCell (Below.setCell (below_drewN (by go_grown) _) (by simp; omega) _) (by simp; omega) _⟩
end Go.Proofs.Ytcpmlcdeddmdmaa
