/- Contracts of the reference of chapter 2: bit, set, twice, less, truth. -/
import Derived.Test.YtcpmlcdeddmdmaaVq
namespace Go.Proofs.Ytcpmlcdeddmdmaa
open Go.RowKit
set_option linter.unusedVariables false
set_option maxRecDepth 10000

theorem bit_lo (a b k : Nat) (hk : k < 64) : vN a b / 2 ^ k % 2 = a / 2 ^ k % 2 := ld_word a b k hk
theorem bit_hi (a b k : Nat) (ha : a < 18446744073709551616) (hk : 64 ≤ k) : vN a b / 2 ^ k % 2 = b / 2 ^ (k - 64) % 2 := by
  have e : 2 ^ k = 18446744073709551616 * 2 ^ (k - 64) := by
    rw [show (18446744073709551616 : Nat) = 2 ^ 64 from rfl, ← Nat.pow_add]
    congr 1; omega
  rw [e, ← Nat.div_div_eq_div_mul, show vN a b / 18446744073709551616 = b by unfold vN; omega]
theorem or_zero_bit (a k : Nat) (h : a / 2 ^ k % 2 = 0) : a ||| 2 ^ k = a + 2 ^ k := by
  have e1 := Nat.div_add_mod a (2 ^ (k + 1))
  have hp := Nat.two_pow_pos k
  have hm : a % 2 ^ (k + 1) < 2 ^ k := by
    have h1 : a % 2 ^ (k + 1) = 2 ^ k * (a / 2 ^ k % 2) + a % 2 ^ k := by
      rw [Nat.pow_succ, Nat.mod_mul, Nat.add_comm]
    rw [h1, h, Nat.mul_zero, Nat.zero_add]
    exact Nat.mod_lt _ hp
  generalize a % 2 ^ (k + 1) = l at *
  generalize hh : 2 ^ (k + 1) * (a / 2 ^ (k + 1)) = u at *
  have hu : u % 2 ^ (k + 1) = 0 := by rw [← hh]; exact Nat.mul_mod_right _ _
  have hl : l < 2 ^ (k + 1) := by rw [Nat.pow_succ]; omega
  rw [← e1, ← nat_join (k + 1) u l hu hl, Nat.or_assoc, Nat.or_comm l, nat_join k (2 ^ k) l (by simp) hm, nat_join (k + 1) u (2 ^ k + l) hu (by rw [Nat.pow_succ]; omega), nat_join (k + 1) u l hu hl]
  omega
theorem set_word (a k : Nat) (ha : a < 18446744073709551616) (hk : k < 64) (h : a / 2 ^ k % 2 = 0) : bits .or .u64 (a : Int) (IntKind.u64.wrap (2 ^ k)) = ((a + 2 ^ k : Nat) : Int) ∧ a + 2 ^ k < 18446744073709551616 := by
  have hp : 2 ^ k < 18446744073709551616 := Nat.pow_lt_pow_right (by decide) hk
  have e : IntKind.u64.wrap ((2 : Int) ^ k) = ((2 ^ k : Nat) : Int) := by
    rw [IntKind.wrap_u64, show ((2 : Int) ^ k) = ((2 ^ k : Nat) : Int) by simp]
    clear h
    generalize 2 ^ k = p at *
    omega
  have ho := or_zero_bit a k h
  have hlt : a ||| 2 ^ k < 2 ^ 64 := Nat.or_lt_two_pow (by omega) (by omega)
  rw [e, u64_or_nat _ _ ha hp, ho]
  exact ⟨rfl, by omega⟩

set_option maxHeartbeats 1000000 in
theorem bit_any (a b k : Nat) (ha : a < 18446744073709551616) (hb : b < 18446744073709551616) (hk : k < 128) (w : World) :
    Calls Try.prog 79 #[.agg #[.int .u64 (a : Int), .int .u64 (b : Int)], .int .i64 k] w fun e w' => e = .returned (.int .u64 ((vN a b / 2 ^ k % 2 : Nat) : Int)) ∧ Below w.heap.size w w' := by
  rcases Nat.lt_or_ge k 64 with h | h
  · have e1 := bit_and a k ha
    rw [← bit_lo a b k h] at e1
    have E1 := Lib.hid e1
    generalize vN a b / 2 ^ k % 2 = t at *
    have h' : (k : Int) < 64 := by omega
    have h0 : (0 : Int) ≤ (k : Int) := by omega
    clear e1 ha hb hk
    go_enter Try.func79, Try.ntmps79
    go_wp2
    go_ret
    exact ⟨ret_int (by first | exact E1.out | (simpa using E1.out)), by go_grown⟩
  · obtain ⟨j, rfl⟩ : ∃ j, k = 64 + j := ⟨k - 64, by omega⟩
    have e1 := bit_and b j hb
    rw [show j = 64 + j - 64 by omega, ← bit_hi a b (64 + j) ha h] at e1
    rw [show 64 + j - 64 = j by omega] at e1
    have E1 := Lib.hid e1
    generalize vN a b / 2 ^ (64 + j) % 2 = t at *
    have h' : ¬ ((64 : Int) + (j : Int) < 64) := by omega
    have h0 : (0 : Int) ≤ (j : Int) := by omega
    have h1 : (j : Int) < 64 := by omega
    clear e1 ha hb hk h
    go_enter Try.func79, Try.ntmps79
    go_wp2
    go_ret
    exact ⟨ret_int (by first | exact E1.out | (simpa using E1.out)), by go_grown⟩

theorem set_plain (a b k : Nat) (ha : a < 18446744073709551616) (hb : b < 18446744073709551616) (hk : k < 128) (h : vN a b / 2 ^ k % 2 = 0) :
    (k < 64 → bits .or .u64 (a : Int) (IntKind.u64.wrap (2 ^ k)) = ((loN (vN a b + 2 ^ k) : Nat) : Int) ∧ hiN (vN a b + 2 ^ k) = b) ∧
    (∀ j, k = 64 + j → bits .or .u64 (b : Int) (IntKind.u64.wrap (2 ^ j)) = ((hiN (vN a b + 2 ^ k) : Nat) : Int) ∧ loN (vN a b + 2 ^ k) = a) := by
  constructor
  · intro h64
    rw [bit_lo a b k h64] at h
    obtain ⟨e, hlt⟩ := set_word a k ha h64 h
    rw [e]
    generalize 2 ^ k = p at *
    have e2 : vN a b + p = vN (a + p) b := by unfold vN; omega
    rw [e2, loN_vN hlt, hiN_vN hlt hb]
    exact ⟨rfl, rfl⟩
  · rintro j rfl
    rw [bit_hi a b (64 + j) ha (by omega), show 64 + j - 64 = j by omega] at h
    obtain ⟨e, hlt⟩ := set_word b j hb (by omega) h
    rw [e]
    have e2 : vN a b + 2 ^ (64 + j) = vN a (b + 2 ^ j) := by
      unfold vN
      rw [Nat.pow_add, show (2 : Nat) ^ 64 = 18446744073709551616 from rfl]
      omega
    rw [e2, loN_vN ha, hiN_vN ha hlt]
    exact ⟨rfl, rfl⟩
set_option maxHeartbeats 1000000 in
theorem set_any (a b k : Nat) (ha : a < 18446744073709551616) (hb : b < 18446744073709551616) (hk : k < 128) (h : vN a b / 2 ^ k % 2 = 0) (w : World) :
    Calls Try.prog 80 #[.agg #[.int .u64 (a : Int), .int .u64 (b : Int)], .int .i64 k] w fun e w' => e = fromV (loN (vN a b + 2 ^ k)) (hiN (vN a b + 2 ^ k)) ∧ Below w.heap.size w w' := by
  obtain ⟨f1, f2⟩ := set_plain a b k ha hb hk h
  unfold fromV
  rcases Nat.lt_or_ge k 64 with hl | hl
  · obtain ⟨e1, e2⟩ := f1 hl
    have E1 := Lib.hid e1
    have E2 := Lib.hid e2
    clear e1 e2 f1 f2 h
    generalize loN (vN a b + 2 ^ k) = lo at *
    generalize hiN (vN a b + 2 ^ k) = hi at *
    have h' : (k : Int) < 64 := by omega
    have h0 : (0 : Int) ≤ (k : Int) := by omega
    clear ha hb hk
    go_enter Try.func80, Try.ntmps80
    go_wp2_with fail
    go_region
    go_wp2
    go_returns
    exact ⟨by rw [E1.out, E2.out], by first | go_grown | (apply below_drewN; go_grown) | exact Below.setCell (Below.setCell (below_drewN (by go_grown) _) (by simp) _) (by simp) _⟩
  · obtain ⟨j, rfl⟩ : ∃ j, k = 64 + j := ⟨k - 64, by omega⟩
    obtain ⟨e1, e2⟩ := f2 j rfl
    have E1 := Lib.hid e1
    have E2 := Lib.hid e2
    clear e1 e2 f1 f2 h
    generalize loN (vN a b + 2 ^ (64 + j)) = lo at *
    generalize hiN (vN a b + 2 ^ (64 + j)) = hi at *
    have h' : ¬ ((64 : Int) + (j : Int) < 64) := by omega
    have h0 : (0 : Int) ≤ (j : Int) := by omega
    have h1 : (j : Int) < 64 := by omega
    clear ha hb hk
    go_enter Try.func80, Try.ntmps80
    go_wp2_with fail

    go_region
    go_wp2
    go_returns
    exact ⟨by rw [E1.out, E2.out], by first | go_grown | (apply below_drewN; go_grown) | exact Below.setCell (Below.setCell (below_drewN (by go_grown) _) (by simp) _) (by simp) _⟩

theorem twice_any (a b : Nat) (ha : a < 18446744073709551616) (hb : b < 18446744073709551616) (w : World) :
    Calls Try.prog 81 #[.agg #[.int .u64 (a : Int), .int .u64 (b : Int)]] w fun e w' => e = fromV (loN (2 * vN a b)) (hiN (2 * vN a b)) ∧ Below w.heap.size w w' := by
  have e1 : IntKind.u64.wrap ((a : Int) * 2) = ((loN (2 * vN a b) : Nat) : Int) := by
    rw [IntKind.wrap_u64]; unfold loN vN; omega
  have e2 : bits .or .u64 (IntKind.u64.wrap ((b : Int) * 2)) ((a : Int) / 9223372036854775808) = ((hiN (2 * vN a b) : Nat) : Int) := by
    rw [twice_hi a b ha hb]; unfold hiN vN; omega
  have E1 := Lib.hid e1
  have E2 := Lib.hid e2
  clear e1 e2 ha hb
  unfold fromV
  generalize loN (2 * vN a b) = lo at *
  generalize hiN (2 * vN a b) = hi at *
  go_enter Try.func81, Try.ntmps81
  go_wp2
  go_returns
  exact ⟨by rw [E1.out, E2.out], by go_grown⟩
set_option maxHeartbeats 1000000 in
theorem refless_any (a b c d : Nat) (ha : a < 18446744073709551616) (hc : c < 18446744073709551616) (w : World) :
    Calls Try.prog 74 #[.agg #[.int .u64 (a : Int), .int .u64 (b : Int)], .agg #[.int .u64 (c : Int), .int .u64 (d : Int)]] w fun e w' => e = .returned (.bool (lessN a b c d)) ∧ Below w.heap.size w w' := by
  rcases Nat.lt_trichotomy b d with h | h | h
  · have hr : lessN a b c d = true := by unfold lessN vN; rw [decide_eq_true_iff]; omega
    rw [hr]
    clear ha hc hr
    have h' : (b : Int) < (d : Int) := by omega
    go_enter Try.func74, Try.ntmps74
    go_wp2
    go_ret
    exact ⟨rfl, by go_grown⟩
  · subst h
    by_cases h : a < c
    · have hr : lessN a b c b = true := by unfold lessN vN; rw [decide_eq_true_iff]; omega
      rw [hr]
      clear ha hc hr
      have h' : (a : Int) < (c : Int) := by omega
      go_enter Try.func74, Try.ntmps74
      go_wp2
      go_ret
      exact ⟨by simp [*], by go_grown⟩
    · have hr : lessN a b c b = false := by unfold lessN vN; rw [decide_eq_false_iff_not]; omega
      rw [hr]
      clear ha hc hr
      have h' : ¬ ((a : Int) < (c : Int)) := by omega
      go_enter Try.func74, Try.ntmps74
      go_wp2
      go_ret
      exact ⟨by simp [*], by go_grown⟩
  · have hr : lessN a b c d = false := by unfold lessN vN; rw [decide_eq_false_iff_not]; omega
    rw [hr]
    clear ha hc hr
    have h' : ¬ ((b : Int) < (d : Int)) := by omega
    have h'' : ¬ ((b : Int) = (d : Int)) := by omega
    have h3 : ¬ (b = d) := by omega
    go_enter Try.func74, Try.ntmps74
    go_wp2
    go_ret
    exact ⟨by first | rfl | simp [*], by go_grown⟩
theorem reftruth_any (t : Bool) (w : World) :
    Calls Try.prog 73 #[.bool t] w fun e w' => e = fromV (if t = true then 1 else 0) 0 ∧ Below w.heap.size w w' := by
  cases t
  · go_enter Try.func73, Try.ntmps73
    go_wp2
    go_returns
    exact ⟨rfl, by go_grown⟩
  · go_enter Try.func73, Try.ntmps73
    go_wp2
    go_returns
    exact ⟨rfl, by go_grown⟩
end Go.Proofs.Ytcpmlcdeddmdmaa
