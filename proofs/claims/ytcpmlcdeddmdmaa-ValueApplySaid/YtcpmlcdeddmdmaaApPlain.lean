/- Plain arithmetic of values of 128 bits as pairs of words: sums, differences, products. -/
import Derived.Test.YtcpmlcdeddmdmaaValPlain
namespace Go.Proofs.Ytcpmlcdeddmdmaa

/-- the number of a pair of words -/
def vN (a b : Nat) : Nat := a + 18446744073709551616 * b
def loN (n : Nat) : Nat := n % 18446744073709551616
def hiN (n : Nat) : Nat := n / 18446744073709551616 % 18446744073709551616
def M128 : Nat := 340282366920938463463374607431768211456
theorem loN_lt (n : Nat) : loN n < 18446744073709551616 := by unfold loN; omega
theorem hiN_lt (n : Nat) : hiN n < 18446744073709551616 := by unfold hiN; omega
theorem vN_lohi (n : Nat) : vN (loN n) (hiN n) = n % M128 := by unfold vN loN hiN M128; omega
theorem vN_lt {a b : Nat} (ha : a < 18446744073709551616) (hb : b < 18446744073709551616) : vN a b < M128 := by unfold vN M128; omega
theorem loN_vN {a b : Nat} (ha : a < 18446744073709551616) : loN (vN a b) = a := by unfold loN vN; omega
theorem hiN_vN {a b : Nat} (ha : a < 18446744073709551616) (hb : b < 18446744073709551616) : hiN (vN a b) = b := by unfold hiN vN; omega
theorem loN_mod (n : Nat) : loN (n % M128) = loN n := by unfold loN M128; omega
theorem hiN_mod (n : Nat) : hiN (n % M128) = hiN n := by unfold hiN M128; omega

/-- the word pair of a sum -/
theorem add_lo (a b c d : Nat) : ((a : Int) + c) % 18446744073709551616 = ((loN (vN a b + vN c d) : Nat) : Int) := by unfold loN vN; omega
theorem add_hi (a b c d : Nat) : ((b : Int) + d + ((a : Int) + c) / 18446744073709551616) % 18446744073709551616 = ((hiN (vN a b + vN c d) : Nat) : Int) := by unfold hiN vN; omega
def bor (x y : Int) : Int := if x < y then 1 else 0
theorem bor_01 (x y : Int) : 0 ≤ bor x y ∧ bor x y ≤ 1 := by unfold bor; split <;> decide
theorem sub_lo (a b c d : Nat) (hc : c < 18446744073709551616) (hd : d < 18446744073709551616) : ((a : Int) - c) % 18446744073709551616 = ((loN (vN a b + (M128 - vN c d)) : Nat) : Int) := by unfold loN vN M128; omega
theorem sub_hi (a b c d : Nat) (ha : a < 18446744073709551616) (hc : c < 18446744073709551616) (hd : d < 18446744073709551616) : ((b : Int) - d - bor a c) % 18446744073709551616 = ((hiN (vN a b + (M128 - vN c d)) : Nat) : Int) := by
  unfold hiN vN M128 bor; split <;> omega
theorem mul_split (a b c d : Nat) : vN a b * vN c d = a * c + 18446744073709551616 * (a * d + b * c) + 340282366920938463463374607431768211456 * (b * d) := by
  unfold vN
  rw [Nat.add_mul, Nat.mul_add, Nat.mul_add, show a * (18446744073709551616 * d) = 18446744073709551616 * (a * d) by rw [← Nat.mul_assoc, Nat.mul_comm a, Nat.mul_assoc],
    show 18446744073709551616 * b * c = 18446744073709551616 * (b * c) by rw [Nat.mul_assoc], show 18446744073709551616 * b * (18446744073709551616 * d) = 340282366920938463463374607431768211456 * (b * d) by
      rw [Nat.mul_assoc, ← Nat.mul_assoc b, Nat.mul_comm b, Nat.mul_assoc, ← Nat.mul_assoc]]
  omega
theorem mul_lo (a b c d : Nat) : a * c % 18446744073709551616 = loN (vN a b * vN c d) := by rw [mul_split]; unfold loN; omega
theorem mul_hi (a b c d : Nat) : (a * c / 18446744073709551616 + a * d + b * c) % 18446744073709551616 = hiN (vN a b * vN c d) := by
  rw [mul_split]; unfold hiN
  generalize a * c = p; generalize a * d = q; generalize b * c = r; generalize b * d = s
  omega

/-- laws of numbers below 2^128, for pairs of words -/
theorem ring_comm (x y : Nat) : loN (x + y) = loN (y + x) ∧ hiN (x + y) = hiN (y + x) := by rw [Nat.add_comm]; exact ⟨rfl, rfl⟩
end Go.Proofs.Ytcpmlcdeddmdmaa
