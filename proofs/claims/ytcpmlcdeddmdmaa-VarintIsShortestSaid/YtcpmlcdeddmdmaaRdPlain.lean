/- Reading a varint, as a plain function on lists of numbers below 256. -/
import Derived.Test.YtcpmlcdeddmdmaaPutPlain
namespace Go.Proofs.Ytcpmlcdeddmdmaa

def rdF : Nat → List Nat → Nat → Nat → Nat → Nat × Nat × Nat
  | 0, _, _, _, _ => (0, 0, 2)
  | f + 1, l, p, k, v =>
    if p < l.length then
      if 128 ≤ l.getD p 0 then rdF f l (p + 1) (k + 1) (v + l.getD p 0 % 128 * 128 ^ k)
      else if (k = 9 ∧ 1 < l.getD p 0) ∨ (0 < k ∧ l.getD p 0 = 0) then (0, 0, 2) else (v + l.getD p 0 * 128 ^ k, p + 1, 0)
    else (0, 0, 1)
def rdU (l : List Nat) (x : Int) : Nat × Nat × Nat := if 0 ≤ x ∧ x ≤ l.length then rdF 10 l x.toNat 0 0 else (0, 0, 1)
/-- the int of a zigzag number -/
def uz (v : Nat) : Int := if v % 2 = 0 then ((v / 2 : Nat) : Int) else -((v / 2 : Nat) : Int) - 1

theorem and127 : ∀ x, x < 256 → x &&& 127 = x % 128 := by decide +kernel

section
variable {f : Nat} {l : List Nat} {p k v c : Nat}
theorem rdF_short (hp : ¬ p < l.length) : rdF (f + 1) l p k v = (0, 0, 1) := by simp [rdF, hp]
theorem rdF_big (hp : p < l.length) (hc : l.getD p 0 = c) (h : 128 ≤ c) : rdF (f + 1) l p k v = rdF f l (p + 1) (k + 1) (v + c % 128 * 128 ^ k) := by
  subst hc
  simp only [rdF]
  rw [if_pos hp, if_pos h]
theorem rdF_bad (hp : p < l.length) (hc : l.getD p 0 = c) (h : ¬ 128 ≤ c) (hb : (k = 9 ∧ 1 < c) ∨ (0 < k ∧ c = 0)) : rdF (f + 1) l p k v = (0, 0, 2) := by
  subst hc
  simp only [rdF]
  rw [if_pos hp, if_neg h, if_pos hb]
theorem rdF_ok (hp : p < l.length) (hc : l.getD p 0 = c) (h : ¬ 128 ≤ c) (hb : ¬ ((k = 9 ∧ 1 < c) ∨ (0 < k ∧ c = 0))) : rdF (f + 1) l p k v = (v + c * 128 ^ k, p + 1, 0) := by
  subst hc
  simp only [rdF]
  rw [if_pos hp, if_neg h, if_neg hb]
end
theorem pow_128 (k : Nat) : 2 ^ (7 * k) = 128 ^ k := by rw [Nat.pow_mul]
theorem pow_128_le {k m : Nat} (h : k ≤ m) : 128 ^ k ≤ 128 ^ m := Nat.pow_le_pow_right (by decide) h
theorem or_shift (u k c : Nat) (hu : u < 128 ^ k) (h : c * 128 ^ k < 18446744073709551616) (hu64 : u < 18446744073709551616) :
    bits .or .u64 (u : Int) (IntKind.u64.wrap ((c : Int) * 2 ^ (7 * k))) = ((u + c * 128 ^ k : Nat) : Int) := by
  have e : (c : Int) * 2 ^ (7 * k) = ((c * 128 ^ k : Nat) : Int) := by
    rw [← pow_128]
    simp
  have e2 : IntKind.u64.wrap ((c : Int) * 2 ^ (7 * k)) = ((c * 128 ^ k : Nat) : Int) := by
    rw [e, IntKind.wrap_u64]
    omega
  rw [e2, u64_or_nat _ _ hu64 h, Nat.or_comm, nat_join (7 * k) (c * 128 ^ k) u (by rw [pow_128]; simp) (by rw [pow_128]; exact hu)]
  congr 1
  omega

theorem rdF_lt (f : Nat) (l : List Nat) (p k v : Nat) (hf : k + f = 10) (hv : k ≤ 9 → v < 128 ^ k) : (rdF f l p k v).1 < 18446744073709551616 := by
  induction f generalizing p k v with
  | zero => simp [rdF]
  | succ f ih =>
    have hk : k ≤ 9 := by omega
    have hv := hv hk
    by_cases hp : p < l.length
    · by_cases hc : 128 ≤ l.getD p 0
      · rw [rdF_big hp rfl hc]
        refine ih _ _ _ (by omega) fun h => ?_
        rw [Nat.pow_succ]
        have h2 : l.getD p 0 % 128 * 128 ^ k ≤ 127 * 128 ^ k := Nat.mul_le_mul_right _ (by omega)
        omega
      · by_cases hb : (k = 9 ∧ 1 < l.getD p 0) ∨ (0 < k ∧ l.getD p 0 = 0)
        · rw [rdF_bad hp rfl hc hb]; decide
        · rw [rdF_ok hp rfl hc hb]
          show v + l.getD p 0 * 128 ^ k < 18446744073709551616
          rcases Nat.lt_or_ge k 9 with h9 | h9
          · have h1 := pow_128_le (show k ≤ 8 by omega)
            have h2 : l.getD p 0 * 128 ^ k ≤ 127 * 128 ^ k := Nat.mul_le_mul_right _ (by omega)
            have h3 : 128 ^ 8 = 72057594037927936 := by decide
            omega
          · have hk9 : k = 9 := by omega
            subst hk9
            have h2 : l.getD p 0 * 128 ^ 9 ≤ 1 * 128 ^ 9 := Nat.mul_le_mul_right _ (by omega)
            have h3 : 128 ^ 9 = 9223372036854775808 := by decide
            omega
    · rw [rdF_short hp]; decide
theorem rdU_lt (l : List Nat) (x : Int) : (rdU l x).1 < 18446744073709551616 := by
  unfold rdU
  split
  · exact rdF_lt 10 l _ 0 0 (by omega) (by simp)
  · decide
theorem xor_m1 (a : Nat) (h : a < 9223372036854775808) : bits .xor .i64 (a : Int) (-1) = -(a : Int) - 1 := by
  show IntKind.i64.wrap ((BitVec.ofInt 64 (a : Int) ^^^ BitVec.ofInt 64 (-1)).toNat : Int) = _
  have e1 : (BitVec.ofInt 64 (a : Int)).toNat = a := by
    rw [BitVec.ofInt_natCast, BitVec.toNat_ofNat]; exact Nat.mod_eq_of_lt (by omega)
  have e2 : (BitVec.ofInt 64 (-1)).toNat = 18446744073709551615 := by decide
  rw [BitVec.toNat_xor, e1, e2, Nat.xor_comm, not_nat64 _ (by omega), IntKind.wrap_i64]
  omega
theorem xor_0 (a : Nat) (h : a < 9223372036854775808) : bits .xor .i64 (a : Int) 0 = (a : Int) := by
  show IntKind.i64.wrap ((BitVec.ofInt 64 (a : Int) ^^^ BitVec.ofInt 64 0).toNat : Int) = _
  have e1 : (BitVec.ofInt 64 (a : Int)).toNat = a := by
    rw [BitVec.ofInt_natCast, BitVec.toNat_ofNat]; exact Nat.mod_eq_of_lt (by omega)
  have e2 : (BitVec.ofInt 64 0).toNat = 0 := by decide
  rw [BitVec.toNat_xor, e1, e2, Nat.xor_zero, IntKind.wrap_i64]
  omega
theorem u64_and1 (c : Nat) (h : c < 18446744073709551616) : bits .and .u64 (c : Int) 1 = ((c % 2 : Nat) : Int) := by
  have := u64_and_nat c 1 h (by decide)
  rw [nat_mask1] at this
  exact this
theorem uz_zz (v : Int) : uz (zz v) = v := by
  unfold uz zz
  by_cases h : 0 ≤ v
  · rw [if_pos h, if_pos (by omega)]; omega
  · rw [if_neg h, if_neg (by omega)]; omega
end Go.Proofs.Ytcpmlcdeddmdmaa
