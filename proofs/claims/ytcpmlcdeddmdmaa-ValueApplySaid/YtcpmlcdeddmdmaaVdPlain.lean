/- Contract: the quotient of values, where the divisor has two words. -/
import Derived.Test.YtcpmlcdeddmdmaaVd
namespace Go.Proofs.Ytcpmlcdeddmdmaa
open Go.RowKit
set_option linter.unusedVariables false
set_option maxRecDepth 10000

/-- the long division when j bits of the dividend are left -/
structure LdI (X Y j q r : Nat) : Prop where
  rest : r = X / 2 ^ j % Y
  quo : q = 2 ^ j * (X / 2 ^ j / Y)
theorem ld_start {a b Y : Nat} (ha : a < 18446744073709551616) (hb : b < 18446744073709551616) (hY : 18446744073709551616 ≤ Y) : LdI (vN a b) Y 64 0 (vN b 0) := by
  have e : vN a b / 2 ^ 64 = b := by unfold vN; omega
  have e2 : vN b 0 = b := by unfold vN; omega
  refine ⟨by rw [e, e2, Nat.mod_eq_of_lt (by omega)], by rw [e, Nat.div_eq_of_lt (by omega)]⟩
theorem ld_bit (X m : Nat) : X / 2 ^ m = 2 * (X / 2 ^ (m + 1)) + X / 2 ^ m % 2 := by
  rw [Nat.pow_succ, ← Nat.div_div_eq_div_mul]; omega
theorem ld_less {X Y m q r : Nat} (hY : 0 < Y) (h : LdI X Y (m + 1) q r) (hlt : 2 * r + X / 2 ^ m % 2 < Y) : LdI X Y m q (2 * r + X / 2 ^ m % 2) := by
  obtain ⟨h1, h2⟩ := h
  have hb := ld_bit X m
  generalize X / 2 ^ (m + 1) = P at *
  generalize X / 2 ^ m % 2 = t at *
  have e := Nat.div_add_mod P Y
  have ed : X / 2 ^ m = (2 * r + t) + Y * (2 * (P / Y)) := by
    rw [hb, h1, Nat.mul_left_comm Y 2]
    generalize Y * (P / Y) = z at *
    generalize P % Y = y at *
    omega
  refine ⟨?_, ?_⟩
  · rw [ed, Nat.add_mul_mod_self_left, Nat.mod_eq_of_lt hlt]
  · rw [ed, Nat.add_mul_div_left _ _ hY, Nat.div_eq_of_lt hlt, Nat.zero_add, h2, Nat.pow_succ, Nat.mul_assoc]
theorem ld_more {X Y m q r : Nat} (hY : 0 < Y) (h : LdI X Y (m + 1) q r) (hr : r < Y) (ht : X / 2 ^ m % 2 < 2) (hge : Y ≤ 2 * r + X / 2 ^ m % 2) : LdI X Y m (q + 2 ^ m) (2 * r + X / 2 ^ m % 2 - Y) := by
  obtain ⟨h1, h2⟩ := h
  have hb := ld_bit X m
  generalize X / 2 ^ (m + 1) = P at *
  generalize X / 2 ^ m % 2 = t at *
  have e := Nat.div_add_mod P Y
  have ed : X / 2 ^ m = (2 * r + t - Y) + Y * (2 * (P / Y) + 1) := by
    rw [hb, h1, Nat.mul_add, Nat.mul_left_comm Y 2, Nat.mul_one]
    rw [h1] at hge
    generalize Y * (P / Y) = z at *
    generalize P % Y = y at *
    omega
  have hlt : 2 * r + t - Y < Y := by omega
  refine ⟨?_, ?_⟩
  · rw [ed, Nat.add_mul_mod_self_left, Nat.mod_eq_of_lt hlt]
  · rw [ed, Nat.add_mul_div_left _ _ hY, Nat.div_eq_of_lt hlt, Nat.zero_add, h2, Nat.pow_succ, Nat.mul_add, Nat.mul_one, Nat.mul_assoc]
/-- the bit of the dividend, and the doubled rest, as pairs of words -/
theorem ld_word (a b m : Nat) (hm : m < 64) : vN a b / 2 ^ m % 2 = a / 2 ^ m % 2 := by
  have e : vN a b = a + 2 ^ m * (2 ^ (64 - m) * b) := by
    unfold vN
    rw [← Nat.mul_assoc, ← Nat.pow_add, show m + (64 - m) = 64 by omega]
  rw [e, Nat.add_mul_div_left _ _ (Nat.two_pow_pos m), show 64 - m = (63 - m) + 1 by omega, Nat.pow_succ, Nat.mul_right_comm]
  omega
theorem twice_lo (r0 t : Nat) (h0 : r0 < 18446744073709551616) (ht : t < 2) : bits .or .u64 (IntKind.u64.wrap ((r0 : Int) * 2)) (t : Int) = ((2 * r0 % 18446744073709551616 + t : Nat) : Int) := by
  have e : IntKind.u64.wrap ((r0 : Int) * 2) = ((2 * r0 % 18446744073709551616 : Nat) : Int) := by rw [IntKind.wrap_u64]; omega
  rw [e, u64_or_nat _ _ (by omega) (by omega), nat_join 1 _ t (by omega) (by omega)]
theorem twice_hi (r0 r1 : Nat) (h0 : r0 < 18446744073709551616) (h1 : r1 < 18446744073709551616) : bits .or .u64 (IntKind.u64.wrap ((r1 : Int) * 2)) ((r0 : Int) / 9223372036854775808) = ((2 * r1 % 18446744073709551616 + r0 / 9223372036854775808 : Nat) : Int) := by
  have e : IntKind.u64.wrap ((r1 : Int) * 2) = ((2 * r1 % 18446744073709551616 : Nat) : Int) := by rw [IntKind.wrap_u64]; omega
  have e2 : (r0 : Int) / 9223372036854775808 = ((r0 / 9223372036854775808 : Nat) : Int) := by omega
  rw [e, e2, u64_or_nat _ _ (by omega) (by omega), nat_join 1 _ (r0 / 9223372036854775808) (by omega) (by omega)]
theorem twice_vN (r0 r1 t : Nat) (h0 : r0 < 18446744073709551616) (h : 2 * vN r0 r1 + t < M128) (ht : t < 2) : vN (2 * r0 % 18446744073709551616 + t) (2 * r1 % 18446744073709551616 + r0 / 9223372036854775808) = 2 * vN r0 r1 + t := by
  unfold vN M128 at *
  omega
theorem bit_and (a m : Nat) (ha : a < 18446744073709551616) : bits .and .u64 ((a : Int) / 2 ^ m) 1 = ((a / 2 ^ m % 2 : Nat) : Int) := by
  have e : (a : Int) / 2 ^ m = ((a / 2 ^ m : Nat) : Int) := by simp
  have h := Nat.div_le_self a (2 ^ m)
  rw [e]
  generalize a / 2 ^ m = c at *
  have h2 := bits_and_u64_nat c 1 (by omega) (by omega)
  rw [show c &&& 1 = c % 2 from Nat.and_one_is_mod c] at h2
  exact h2
theorem or_bit (q m : Nat) (hq : q < 18446744073709551616) (hm : m < 64) (h : q % 2 ^ (m + 1) = 0) : bits .or .u64 (q : Int) (IntKind.u64.wrap (2 ^ m)) = ((q + 2 ^ m : Nat) : Int) := by
  have hp : 2 ^ m < 18446744073709551616 := Nat.pow_lt_pow_right (by decide) hm
  have e : IntKind.u64.wrap ((2 : Int) ^ m) = ((2 ^ m : Nat) : Int) := by
    rw [IntKind.wrap_u64, show ((2 : Int) ^ m) = ((2 ^ m : Nat) : Int) by simp]; omega
  rw [e, u64_or_nat _ _ hq hp, nat_join (m + 1) q (2 ^ m) h (by rw [Nat.pow_succ]; have := Nat.two_pow_pos m; omega)]
/-- the state of the long division in the walk's words -/
structure LdS (a b c d j q r0 r1 : Nat) : Prop where
  inv : LdI (vN a b) (vN c d) j q (vN r0 r1)
  b0 : r0 < 18446744073709551616
  b1 : r1 < 18446744073709551616
theorem ld_q_lt {X Y j q r : Nat} (h : LdI X Y j q r) (hX : X < M128) (hY : 18446744073709551616 ≤ Y) : q < 18446744073709551616 := by
  have h1 : X / 2 ^ j / Y * Y ≤ X / 2 ^ j := Nat.div_mul_le_self _ _
  have h2 : X / 2 ^ j * 2 ^ j ≤ X := Nat.div_mul_le_self _ _
  have h3 : q * Y ≤ X := by
    rw [h.quo, Nat.mul_assoc, Nat.mul_comm]
    exact Nat.le_trans (Nat.mul_le_mul_right _ h1) h2
  have h4 : q * 18446744073709551616 ≤ q * Y := Nat.mul_le_mul_left q hY
  unfold M128 at hX
  omega
theorem ld_turn {a b c d m q r0 r1 : Nat} (ha : a < 18446744073709551616) (hb : b < 18446744073709551616) (hc : c < 18446744073709551616) (hd : d < 18446744073709551616) (h0 : 0 < d) (hm : m < 64) (h : LdS a b c d (m + 1) q r0 r1) :
    ∃ l u : Nat, bits .or .u64 (IntKind.u64.wrap ((r0 : Int) * 2)) (bits .and .u64 ((a : Int) / 2 ^ m) 1) = (l : Int) ∧ bits .or .u64 (IntKind.u64.wrap ((r1 : Int) * 2)) ((r0 : Int) / 9223372036854775808) = (u : Int) ∧ (l < 18446744073709551616 ∧ u < 18446744073709551616) ∧
      (lessN l u c d = true → LdS a b c d m q l u) ∧
      (lessN l u c d = false → ∃ q' : Nat, bits .or .u64 (q : Int) (IntKind.u64.wrap (2 ^ m)) = (q' : Int) ∧ LdS a b c d m q' (loN (vN l u + (M128 - vN c d))) (hiN (vN l u + (M128 - vN c d)))) := by
  obtain ⟨hi, g0, g1⟩ := h
  have hX := vN_lt ha hb
  have hY := vN_lt hc hd
  have hYY : 18446744073709551616 ≤ vN c d := by unfold vN; omega
  have ht : vN a b / 2 ^ m % 2 < 2 := Nat.mod_lt _ (by decide)
  have hr : vN r0 r1 < vN c d := by rw [hi.rest]; exact Nat.mod_lt _ (by omega)
  have hrx : 2 * vN r0 r1 + vN a b / 2 ^ m % 2 < M128 := by
    have e1 := ld_bit (vN a b) m
    have e2 : vN r0 r1 ≤ vN a b / 2 ^ (m + 1) := by rw [hi.rest]; exact Nat.mod_le _ _
    have e3 := Nat.div_le_self (vN a b) (2 ^ m)
    omega
  have hq := ld_q_lt hi hX hYY
  have hq0 : q % 2 ^ (m + 1) = 0 := by rw [hi.quo]; exact Nat.mul_mod_right _ _
  have hw := ld_word a b m hm
  have e1 := bit_and a m ha
  rw [← hw] at e1
  generalize htt : vN a b / 2 ^ m % 2 = t at *
  have e2 := twice_lo r0 t g0 ht
  have e3 := twice_hi r0 r1 g0 g1
  have e4 := twice_vN r0 r1 t g0 hrx ht
  refine ⟨_, _, by rw [e1]; exact e2, e3, ⟨by omega, ?_⟩, ?_, ?_⟩
  · unfold vN M128 at hrx
    omega
  · intro hl
    have hl : _ < _ := of_decide_eq_true hl
    rw [e4] at hl
    refine ⟨?_, by omega, ?_⟩
    · rw [e4, ← htt]
      exact ld_less (by omega) hi (by rw [htt]; exact hl)
    · unfold vN M128 at hrx
      omega
  · intro hl
    have hl : ¬ (_ < _) := of_decide_eq_false hl
    rw [e4] at hl
    refine ⟨_, or_bit q m hq hm hq0, ?_, loN_lt _, hiN_lt _⟩
    rw [vN_lohi, e4]
    have := ld_more (by omega) hi hr (by rw [htt]; exact ht) (by rw [htt]; omega)
    rw [htt] at this
    have e5 : (2 * vN r0 r1 + t + (M128 - vN c d)) % M128 = 2 * vN r0 r1 + t - vN c d := by
      unfold M128 at *
      omega
    rw [e5]
    exact this
theorem ld_end {a b c d q r0 r1 : Nat} (ha : a < 18446744073709551616) (hb : b < 18446744073709551616) (h0 : 0 < d) (h : LdS a b c d 0 q r0 r1) : loN (vN a b / vN c d) = q ∧ hiN (vN a b / vN c d) = 0 := by
  have hY : 18446744073709551616 ≤ vN c d := by unfold vN; omega
  have hq := ld_q_lt h.inv (vN_lt ha hb) hY
  have e := h.inv.quo
  rw [Nat.pow_zero, Nat.one_mul, Nat.div_one] at e
  rw [← e]
  unfold loN hiN
  exact ⟨by omega, by omega⟩
end Go.Proofs.Ytcpmlcdeddmdmaa
