/- The varint of a number as a plain list of numbers below 256, and the zigzag number. -/
import Derived.Test.YtcpmlcdeddmdmaaBase
namespace Go.Proofs.Ytcpmlcdeddmdmaa

def putF : Nat → Nat → List Nat
  | 0, v => [v]
  | f + 1, v => if v < 128 then [v] else (v % 128 + 128) :: putF f (v / 128)
def put (v : Nat) : List Nat := putF 9 v
def zz (v : Int) : Nat := if 0 ≤ v then (2 * v).toNat else (-2 * v - 1).toNat

theorem putF_small (f v : Nat) (h : v < 128) : putF f v = [v] := by
  cases f with
  | zero => rfl
  | succ f => simp [putF, h]
theorem putF_big (f v : Nat) (h : ¬ v < 128) : putF (f + 1) v = (v % 128 + 128) :: putF f (v / 128) := by simp [putF, h]
theorem putF_len (f v : Nat) : 1 ≤ (putF f v).length ∧ (putF f v).length ≤ f + 1 := by
  induction f generalizing v with
  | zero => simp [putF]
  | succ f ih =>
    unfold putF
    split
    · simp
    · have := ih (v / 128)
      simp only [List.length_cons]
      omega
theorem putF_lt (f v : Nat) (h : v < 2 * 128 ^ f) : ∀ x ∈ putF f v, x < 256 := by
  induction f generalizing v with
  | zero =>
    intro x hx
    simp [putF] at hx h
    omega
  | succ f ih =>
    intro x hx
    unfold putF at hx
    split at hx
    · simp at hx; omega
    · rcases List.mem_cons.1 hx with rfl | hx
      · omega
      · exact ih (v / 128) (by rw [Nat.pow_succ] at h; omega) x hx
theorem put_lt (v : Nat) (h : v < 18446744073709551616) : ∀ x ∈ put v, x < 256 := putF_lt 9 v (by omega)
theorem put_len (v : Nat) : 1 ≤ (put v).length ∧ (put v).length ≤ 10 := putF_len 9 v
theorem zz_lt (v : Int) (h : -9223372036854775808 ≤ v) (h' : v ≤ 9223372036854775807) : zz v < 18446744073709551616 := by unfold zz; split <;> omega
theorem or128 : ∀ x, x < 256 → x ||| 128 = x % 128 + 128 := by decide +kernel
theorem not_nat64 (c : Nat) (h : c < 18446744073709551616) : 18446744073709551615 ^^^ c = 18446744073709551615 - c := by
  apply Nat.eq_of_testBit_eq
  intro i
  have e : 18446744073709551615 - c = 2 ^ 64 - (c + 1) := by omega
  rw [e, Nat.testBit_two_pow_sub_succ (by omega), Nat.testBit_xor, show (18446744073709551615 : Nat) = 2 ^ 64 - 1 from rfl, Nat.testBit_two_pow_sub_one]
  by_cases hi : i < 64
  · simp [hi]
  · simp [hi]
    exact Nat.testBit_lt_two_pow (Nat.lt_of_lt_of_le h (Nat.pow_le_pow_right (n := 2) (by decide) (show 64 ≤ i by omega)))
end Go.Proofs.Ytcpmlcdeddmdmaa
