/- Plain arithmetic bit by bit: sums, products, quotients. -/
import Derived.Test.YtcpmlcdeddmdmaaRa
namespace Go.Proofs.Ytcpmlcdeddmdmaa

/-- the sum of the lowest k bits, and the carry -/
structure AddI (X Y k c o : Nat) : Prop where
  out : o = (X % 2 ^ k + Y % 2 ^ k) % 2 ^ k
  car : c = (X % 2 ^ k + Y % 2 ^ k) / 2 ^ k
theorem addI_0 (X Y : Nat) : AddI X Y 0 0 0 := ⟨by simp [Nat.mod_one], by simp [Nat.mod_one]⟩
theorem mod_succ_bit (X k : Nat) : X % 2 ^ (k + 1) = X % 2 ^ k + 2 ^ k * (X / 2 ^ k % 2) := by rw [Nat.pow_succ, Nat.mod_mul]
theorem addI_step {X Y k c o : Nat} (h : AddI X Y k c o) : o < 2 ^ k ∧ c ≤ 1 ∧ AddI X Y (k + 1) ((X / 2 ^ k % 2 + Y / 2 ^ k % 2 + c) / 2) (o + (X / 2 ^ k % 2 + Y / 2 ^ k % 2 + c) % 2 * 2 ^ k) := by
  obtain ⟨h1, h2⟩ := h
  have hp := Nat.two_pow_pos k
  have hx := Nat.mod_lt X hp
  have hy := Nat.mod_lt Y hp
  have e := Nat.div_add_mod (X % 2 ^ k + Y % 2 ^ k) (2 ^ k)
  have hc : (X % 2 ^ k + Y % 2 ^ k) / 2 ^ k < 2 := by rw [Nat.div_lt_iff_lt_mul hp]; omega
  have ho : o < 2 ^ k := by rw [h1]; exact Nat.mod_lt _ hp
  refine ⟨ho, by omega, ?_⟩
  have e2 : X % 2 ^ (k + 1) + Y % 2 ^ (k + 1) = o + 2 ^ k * (X / 2 ^ k % 2 + Y / 2 ^ k % 2 + c) := by
    rw [mod_succ_bit X k, mod_succ_bit Y k, Nat.mul_add, Nat.mul_add]
    rw [← h1, ← h2] at e
    generalize 2 ^ k * (X / 2 ^ k % 2) = z1 at *
    generalize 2 ^ k * (Y / 2 ^ k % 2) = z2 at *
    generalize 2 ^ k * c = z3 at *
    omega
  generalize X / 2 ^ k % 2 + Y / 2 ^ k % 2 + c = s at *
  have e3 : 2 ^ k * s = 2 ^ (k + 1) * (s / 2) + 2 ^ k * (s % 2) := by
    rw [Nat.pow_succ, Nat.mul_assoc, ← Nat.mul_add]
    congr 1
    omega
  have hlt : o + 2 ^ k * (s % 2) < 2 ^ (k + 1) := by
    have : s % 2 = 0 ∨ s % 2 = 1 := by omega
    rw [Nat.pow_succ]
    rcases this with h | h <;> rw [h] <;> omega
  have e4 : X % 2 ^ (k + 1) + Y % 2 ^ (k + 1) = (o + 2 ^ k * (s % 2)) + 2 ^ (k + 1) * (s / 2) := by rw [e2, e3]; omega
  refine ⟨?_, ?_⟩
  · rw [e4, Nat.add_mul_mod_self_left, Nat.mod_eq_of_lt hlt, Nat.mul_comm (2 ^ k)]
  · rw [e4, Nat.add_mul_div_left _ _ (Nat.two_pow_pos _), Nat.div_eq_of_lt hlt, Nat.zero_add]
theorem addI_128 {X Y c o : Nat} (h : AddI X Y 128 c o) (hX : X < M128) (hY : Y < M128) : o = (X + Y) % M128 := by
  have e : (2 : Nat) ^ 128 = M128 := rfl
  rw [h.out, e, Nat.mod_eq_of_lt hX, Nat.mod_eq_of_lt hY]
theorem low_bit {o k : Nat} (h : o < 2 ^ k) : o / 2 ^ k % 2 = 0 := by rw [Nat.div_eq_of_lt h]
/-- pairs of words are their numbers -/
theorem pair_eq {a b N : Nat} (ha : a < 18446744073709551616) (hb : b < 18446744073709551616) (h : vN a b = N % M128) : a = loN N ∧ b = hiN N := by
  rw [← loN_mod, ← hiN_mod N, ← h, loN_vN ha, hiN_vN ha hb]
  exact ⟨rfl, rfl⟩
theorem add_bit_lt {X Y k c o s : Nat} (h : AddI X Y (k + 1) c (o + 2 ^ k)) (hk : k < 128) : o + 2 ^ k < M128 := by
  rw [h.out]
  exact Nat.lt_of_lt_of_le (Nat.mod_lt _ (Nat.two_pow_pos _)) (Nat.le_trans (Nat.pow_le_pow_right (by decide) (show k + 1 ≤ 128 by omega)) (by decide))

/-- the product with the highest bits of Y -/
def MulI (X Y j o : Nat) : Prop := o = X * (Y / 2 ^ j) % M128
theorem mulI_start (X Y : Nat) (hY : Y < M128) : MulI X Y 128 0 := by
  unfold MulI
  rw [Nat.div_eq_of_lt (show Y < 2 ^ 128 from hY), Nat.mul_zero, Nat.zero_mod]
theorem mulI_step {X Y m o : Nat} (h : MulI X Y (m + 1) o) : (Y / 2 ^ m % 2 = 0 → MulI X Y m ((2 * o) % M128)) ∧ (Y / 2 ^ m % 2 = 1 → MulI X Y m (((2 * o) % M128 + X) % M128)) := by
  unfold MulI at *
  have hb := ld_bit Y m
  have e : (2 * o) % M128 = X * (2 * (Y / 2 ^ (m + 1))) % M128 := by
    rw [h, Nat.mul_mod_mod, Nat.mul_left_comm]
  constructor
  · intro ht
    rw [ht, Nat.add_zero] at hb
    rw [e, hb]
  · intro ht
    rw [ht] at hb
    rw [e, hb, Nat.mod_add_mod, Nat.mul_add, Nat.mul_one]
theorem mulI_end {X Y o : Nat} (h : MulI X Y 0 o) : o = X * Y % M128 := by
  unfold MulI at h
  rw [h, Nat.pow_zero, Nat.div_one]

/-- one turn of the division bit by bit -/
theorem divI_turn {X Y m q r : Nat} (hX : X < M128) (hY : 0 < Y) (hYM : Y < M128) (hm : m < 128) (h : LdI X Y (m + 1) q r) :
    r < M128 ∧ q / 2 ^ m % 2 = 0 ∧ q + 2 ^ m < M128 ∧ (¬ (9223372036854775808 * 18446744073709551616 ≤ r ∨ ¬ ((2 * r) % M128 + X / 2 ^ m % 2 < Y)) → LdI X Y m q ((2 * r) % M128 + X / 2 ^ m % 2)) ∧
    ((9223372036854775808 * 18446744073709551616 ≤ r ∨ ¬ ((2 * r) % M128 + X / 2 ^ m % 2 < Y)) → LdI X Y m (q + 2 ^ m) (((2 * r) % M128 + X / 2 ^ m % 2 + (M128 - Y)) % M128)) := by
  have hr : r < Y := by rw [h.rest]; exact Nat.mod_lt _ hY
  have ht : X / 2 ^ m % 2 < 2 := Nat.mod_lt _ (by decide)
  have hq2 : q % 2 ^ (m + 1) = 0 := by rw [h.quo]; exact Nat.mul_mod_right _ _
  have hqX : q ≤ X := by
    rw [h.quo, Nat.mul_comm]
    exact Nat.le_trans (Nat.mul_le_mul_right _ (Nat.div_le_self _ _)) (Nat.div_mul_le_self _ _)
  refine ⟨by omega, ?_, ?_, ?_, ?_⟩
  · have e1 : q % 2 ^ (m + 1) = q % 2 ^ m + 2 ^ m * (q / 2 ^ m % 2) := mod_succ_bit q m
    rw [hq2] at e1
    have hp := Nat.two_pow_pos m
    rcases Nat.eq_zero_or_pos (q / 2 ^ m % 2) with h0 | h0
    · exact h0
    · have := Nat.mul_pos hp h0
      omega
  · have hp : 2 ^ (m + 1) ∣ M128 := ⟨2 ^ (127 - m), by rw [← Nat.pow_add, show m + 1 + (127 - m) = 128 by omega]; rfl⟩
    obtain ⟨u, hu⟩ := Nat.dvd_of_mod_eq_zero hq2
    obtain ⟨v, hv⟩ := hp
    have hp0 := Nat.two_pow_pos m
    have hlt : 2 ^ (m + 1) * u < 2 ^ (m + 1) * v := by rw [← hu, ← hv]; omega
    have huv : u + 1 ≤ v := Nat.lt_of_mul_lt_mul_left hlt
    have := Nat.mul_le_mul_left (2 ^ (m + 1)) huv
    rw [Nat.mul_add, ← hu, ← hv, Nat.mul_one, Nat.pow_succ] at this
    omega
  · intro hc
    have e : (2 * r) % M128 = 2 * r := by unfold M128 at *; omega
    rw [e] at hc ⊢
    exact ld_less hY h (by omega)
  · intro hc
    have hge : Y ≤ 2 * r + X / 2 ^ m % 2 := by
      rcases hc with hc | hc
      · unfold M128 at *; omega
      · have : (2 * r) % M128 ≤ 2 * r := Nat.mod_le _ _
        omega
    have := ld_more hY h hr ht hge
    have e : ((2 * r) % M128 + X / 2 ^ m % 2 + (M128 - Y)) % M128 = 2 * r + X / 2 ^ m % 2 - Y := by
      generalize X / 2 ^ m % 2 = t at *
      unfold M128 at *
      omega
    rw [e]
    exact this
theorem divI_start (X Y : Nat) (hX : X < M128) : LdI X Y 128 0 0 := by
  have e : X / 2 ^ 128 = 0 := Nat.div_eq_of_lt hX
  exact ⟨by rw [e, Nat.zero_mod], by rw [e, Nat.zero_div, Nat.mul_zero]⟩
theorem divI_end {X Y q r : Nat} (h : LdI X Y 0 q r) : q = X / Y := by
  have e := h.quo
  rw [Nat.pow_zero, Nat.one_mul, Nat.div_one] at e
  exact e
end Go.Proofs.Ytcpmlcdeddmdmaa
