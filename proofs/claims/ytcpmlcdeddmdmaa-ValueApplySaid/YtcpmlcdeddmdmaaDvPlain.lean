/- Plain arithmetic of the long division of two words by one (Knuth's steps). -/
import Derived.Test.YtcpmlcdeddmdmaaApPlain
namespace Go.Proofs.Ytcpmlcdeddmdmaa
set_option maxRecDepth 10000

/-- one half of the quotient is found: the state of the search -/
structure KnI (yn1 u Q q rh : Nat) : Prop where
  sum : q * yn1 + rh = u
  le : Q ≤ q
  top : q ≤ 4294967297
  small : rh < 4294967296

/-- the sizes: a divisor of two halves whose upper half is great, a rest below it, one more half -/
structure KnH (yn1 yn0 u v Y : Nat) : Prop where
  hY : Y = yn1 * 4294967296 + yn0
  h1 : 2147483648 ≤ yn1
  h1' : yn1 < 4294967296
  h0 : yn0 < 4294967296
  hu : u < Y
  hv : v < 4294967296
section
variable {yn1 yn0 u v Y : Nat}
theorem kn_lt (k : KnH yn1 yn0 u v Y) : (u * 4294967296 + v) / Y < 4294967296 := by
  obtain ⟨hY, h1, h1', h0, hu, hv⟩ := k
  rw [Nat.div_lt_iff_lt_mul (by omega)]
  omega
theorem kn_init (k : KnH yn1 yn0 u v Y) : KnI yn1 u ((u * 4294967296 + v) / Y) (u / yn1) (u % yn1) := by
  obtain ⟨hY, h1, h1', h0, hu, hv⟩ := k
  refine ⟨Nat.div_add_mod' u yn1, ?_, ?_, by have := Nat.mod_lt u (show yn1 > 0 by omega); omega⟩
  · rw [Nat.le_div_iff_mul_le (by omega)]
    have h := Nat.div_mul_le_self (u * 4294967296 + v) Y
    generalize (u * 4294967296 + v) / Y = Q at *
    have e : Q * Y = Q * yn1 * 4294967296 + Q * yn0 := by rw [hY, Nat.mul_add, Nat.mul_assoc]
    generalize Q * yn1 = P at *
    generalize Q * yn0 = R at *
    omega
  · have : u / yn1 < 4294967298 := by
      rw [Nat.div_lt_iff_lt_mul (by omega)]
      omega
    omega
theorem kn_more {q rh : Nat} (k : KnH yn1 yn0 u v Y) (h : KnI yn1 u ((u * 4294967296 + v) / Y) q rh) (hc : 4294967296 ≤ q ∨ 4294967296 * rh + v < q * yn0) : (u * 4294967296 + v) / Y < q := by
  have hlt := kn_lt k
  obtain ⟨hY, h1, h1', h0, hu, hv⟩ := k
  rcases hc with hc | hc
  · omega
  · obtain ⟨hs, hle, _, _⟩ := h
    rw [Nat.div_lt_iff_lt_mul (by omega)]
    have e : q * Y = q * yn1 * 4294967296 + q * yn0 := by rw [hY, Nat.mul_add, Nat.mul_assoc]
    rw [e]
    generalize q * yn1 = P at *
    generalize q * yn0 = R at *
    omega
theorem kn_done {q rh : Nat} (k : KnH yn1 yn0 u v Y) (h : KnI yn1 u ((u * 4294967296 + v) / Y) q rh) (hc : ¬ (4294967296 ≤ q ∨ 4294967296 * rh + v < q * yn0)) : q = (u * 4294967296 + v) / Y := by
  obtain ⟨hY, h1, h1', h0, hu, hv⟩ := k
  obtain ⟨hs, hle, _, _⟩ := h
  refine Nat.le_antisymm ?_ hle
  rw [Nat.le_div_iff_mul_le (by omega)]
  have e : q * Y = q * yn1 * 4294967296 + q * yn0 := by rw [hY, Nat.mul_add, Nat.mul_assoc]
  rw [e]
  generalize q * yn1 = P at *
  generalize q * yn0 = R at *
  omega
theorem kn_next {q rh : Nat} (k : KnH yn1 yn0 u v Y) (h : KnI yn1 u ((u * 4294967296 + v) / Y) q rh) (hc : 4294967296 ≤ q ∨ 4294967296 * rh + v < q * yn0) (hr : rh + yn1 < 4294967296) : KnI yn1 u ((u * 4294967296 + v) / Y) (q - 1) (rh + yn1) := by
  have hm := kn_more k h hc
  obtain ⟨hY, h1, h1', h0, hu, hv⟩ := k
  obtain ⟨hs, hle, ht, _⟩ := h
  refine ⟨?_, by omega, by omega, hr⟩
  obtain ⟨p, rfl⟩ : ∃ p, q = p + 1 := ⟨q - 1, by have := Nat.lt_of_le_of_lt (Nat.zero_le _) hm; omega⟩
  rw [Nat.add_sub_cancel]
  rw [Nat.add_mul, Nat.one_mul] at hs
  omega
theorem kn_break {q rh : Nat} (k : KnH yn1 yn0 u v Y) (h : KnI yn1 u ((u * 4294967296 + v) / Y) q rh) (hc : 4294967296 ≤ q ∨ 4294967296 * rh + v < q * yn0) (hr : 4294967296 ≤ rh + yn1) : q - 1 = (u * 4294967296 + v) / Y := by
  have hm := kn_more k h hc
  obtain ⟨hY, h1, h1', h0, hu, hv⟩ := k
  obtain ⟨hs, hle, ht, _⟩ := h
  obtain ⟨p, rfl⟩ : ∃ p, q = p + 1 := ⟨q - 1, by have := Nat.lt_of_le_of_lt (Nat.zero_le _) hm; omega⟩
  rw [Nat.add_sub_cancel]
  rw [Nat.add_mul, Nat.one_mul] at hs
  refine Nat.le_antisymm ?_ (by omega)
  rw [Nat.le_div_iff_mul_le (by omega)]
  have e : p * Y = p * yn1 * 4294967296 + p * yn0 := by rw [hY, Nat.mul_add, Nat.mul_assoc]
  rw [e]
  have hp : p * yn0 ≤ 4294967296 * 4294967295 := Nat.mul_le_mul (by omega) (by omega)
  generalize p * yn1 = P at *
  generalize p * yn0 = R at *
  omega
theorem kn_noover {q rh : Nat} (k : KnH yn1 yn0 u v Y) (h : KnI yn1 u ((u * 4294967296 + v) / Y) q rh) : q * yn0 < 18446744073709551616 ∧ 4294967296 * rh + v < 18446744073709551616 := by
  obtain ⟨hY, h1, h1', h0, hu, hv⟩ := k
  obtain ⟨_, _, ht, hs⟩ := h
  have : q * yn0 ≤ 4294967297 * 4294967295 := Nat.mul_le_mul ht (by omega)
  exact ⟨by omega, by omega⟩
end

/-- the whole: N' = D * 2^32 + v -/
theorem kn_whole (D v Y : Nat) (hY : 0 < Y) : (D * 4294967296 + v) / Y = D / Y * 4294967296 + (D % Y * 4294967296 + v) / Y := by
  have h := Nat.div_add_mod' D Y
  generalize D / Y = Q at *
  generalize D % Y = R at *
  have e : D * 4294967296 + v = (R * 4294967296 + v) + Y * (Q * 4294967296) := by
    have : Y * (Q * 4294967296) = Q * Y * 4294967296 := by rw [← Nat.mul_assoc, Nat.mul_comm Y Q]
    rw [this]
    generalize Q * Y = P at *
    omega
  rw [e, Nat.add_mul_div_left _ _ hY, Nat.add_comm]
theorem kn_scale (N y s : Nat) : N * 2 ^ s / (y * 2 ^ s) = N / y := Nat.mul_div_mul_right N y (Nat.two_pow_pos s)
/-- the two words of N * 2^s -/
theorem kn_shift_hi (hi lo s : Nat) (hs : s ≤ 63) : hi * 2 ^ s + lo / 2 ^ (64 - s) = (hi * 18446744073709551616 + lo) * 2 ^ s / 18446744073709551616 := by
  have e : 18446744073709551616 = 2 ^ (64 - s) * 2 ^ s := by rw [← Nat.pow_add, show 64 - s + s = 64 by omega]
  have e2 : (hi * 18446744073709551616 + lo) * 2 ^ s = lo * 2 ^ s + 18446744073709551616 * (hi * 2 ^ s) := by
    rw [Nat.add_mul, Nat.mul_assoc, Nat.mul_left_comm, Nat.add_comm]
  rw [e2, Nat.add_mul_div_left _ _ (by decide), Nat.add_comm]
  congr 1
  conv => rhs; rw [e]
  rw [Nat.mul_div_mul_right _ _ (Nat.two_pow_pos s)]
theorem kn_shift_lo (hi lo s : Nat) : lo * 2 ^ s % 18446744073709551616 = (hi * 18446744073709551616 + lo) * 2 ^ s % 18446744073709551616 := by
  have e2 : (hi * 18446744073709551616 + lo) * 2 ^ s = lo * 2 ^ s + 18446744073709551616 * (hi * 2 ^ s) := by
    rw [Nat.add_mul, Nat.mul_assoc, Nat.mul_left_comm, Nat.add_comm]
  rw [e2, Nat.add_mul_mod_self_left]
end Go.Proofs.Ytcpmlcdeddmdmaa
