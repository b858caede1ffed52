/- Slices of any one-cell elements that read as lists; sizes that are powers of two. -/
import Derived.Test.YtmeoabpigibaoaaBase
namespace Go.Proofs.Ytmeoabpigibaoaa
open Go.RowKit
set_option linter.unusedVariables false

/-- A slice whose elements, each one cell, read as the list l by f; its block lies below B. -/
def Sl {α : Type} (f : α → Value) (w : World) (B : Nat) (A : Option Addr) (n : Nat) (l : List α) : Prop := Reads w B 1 A n (l.map f)
section
variable {α : Type} {f : α → Value} {w w' : World} {B B' n m : Nat} {A : Option Addr} {l : List α}
theorem Sl.len (h : Sl f w B A n l) : l.length = n := by have := h.1; simpa using this
theorem Sl.below (h : Sl f w B A n l) (hb : Below B w w') : Sl f w' B A n l := Reads.below h hb
theorem Sl.more (h : Sl f w B A n l) (hb : B ≤ B') : Sl f w B' A n l := Reads.more h hb
theorem Sl.alloc (h : Sl f w B A n l) (hB : B ≤ w.heap.size) (o : Obj) : Sl f (w.alloc o) B A n l := Reads.alloc h hB o
theorem Sl.drewN (h : Sl f w B A n l) (k : Nat) : Sl f (w.drewN k) B A n l := Reads.drewN h k
theorem Sl.at_ {k : Nat} (h : Sl f w B A n l) (hk : k < n) : ∃ ad x, A = some ad ∧ ad.block < B ∧ l[k]? = some x ∧ w.cell? (ad.add k) = some (f x) := by
  obtain ⟨ad, u, e, hb, hx, hc⟩ := Reads.at_ h hk
  have hl := h.len
  rw [List.getElem?_map, List.getElem?_eq_getElem (by omega)] at hx
  refine ⟨ad, l[k], e, hb, List.getElem?_eq_getElem (by omega), ?_⟩
  rw [hc, ← hx]; rfl
theorem Sl.none_n {l : List α} (h : Sl f w B none n l) : n = 0 ∧ l = [] := by
  have hl := h.len
  rcases Nat.eq_zero_or_pos n with h0 | h0
  · subst h0; exact ⟨rfl, List.eq_nil_of_length_eq_zero hl⟩
  · obtain ⟨ad, x, h, _⟩ := h.at_ h0
    cases h
theorem Sl.nil (w : World) (B : Nat) : Sl f w B none 0 [] := Reads.none_
theorem Sl.of_own {base c : Nat} {e : TypeId} (h : w.ownsRow base e 1 (.slice A n c) n (l.map f)) : Sl f w w.heap.size A n l := Reads.of_own h
theorem Sl.take (h : Sl f w B A n l) (hm : m ≤ n) : Sl f w B A m (l.take m) := by
  have hl := h.len
  refine ⟨by simp; omega, fun hp => ?_⟩
  obtain ⟨ad, e, hb, hc⟩ := h.2 (by omega)
  refine ⟨ad, e, hb, fun j u hu => hc j u ?_⟩
  rw [List.getElem?_map, List.getElem?_take] at hu
  rw [List.getElem?_map]
  split at hu
  · exact hu
  · simp at hu
end

/-- is it one of the numbers 2^0 to 2^24? -/
def powB (x : Int) : Bool := (List.range 25).any fun k => x == ((2 ^ k : Nat) : Int)
theorem powB_iff (x : Int) : powB x = true ↔ ∃ k, k ≤ 24 ∧ x = ((2 ^ k : Nat) : Int) := by
  unfold powB
  rw [List.any_eq_true]
  constructor
  · rintro ⟨k, hk, h⟩
    exact ⟨k, by have := List.mem_range.1 hk; omega, eq_of_beq h⟩
  · rintro ⟨k, hk, h⟩
    exact ⟨k, List.mem_range.2 (by omega), by rw [h]; exact beq_self_eq_true _⟩
theorem pow24 {k : Nat} (h : k ≤ 24) : 1 ≤ 2 ^ k ∧ 2 ^ k ≤ 16777216 := ⟨Nat.one_le_two_pow, Nat.le_trans (Nat.pow_le_pow_right (by decide) h) (by decide)⟩
theorem powB_range (x : Int) (h : powB x = true) : 1 ≤ x ∧ x ≤ 16777216 := by
  obtain ⟨k, hk, rfl⟩ := (powB_iff x).1 h
  have := pow24 hk
  omega
theorem powB_and (n : Nat) (h0 : 1 ≤ n) (h1 : n ≤ 16777216) : decide (n &&& (n - 1) = 0) = powB (n : Int) := by
  rw [Bool.eq_iff_iff, decide_eq_true_iff, Nat.and_sub_one_eq_zero_iff_isPowerOfTwo (by omega), powB_iff]
  constructor
  · rintro ⟨k, hk⟩
    refine ⟨k, ?_, by rw [hk]⟩
    rcases Nat.lt_or_ge 24 k with h | h
    · have h2 : 2 ^ 25 ≤ 2 ^ k := Nat.pow_le_pow_right (by decide) h
      omega
    · exact h
  · rintro ⟨k, _, hk⟩
    exact ⟨k, by omega⟩
theorem ofInt_i64 (a : Nat) (ha : a < 9223372036854775808) : (BitVec.ofInt 64 (a : Int)).toNat = a := by
  rw [BitVec.ofInt_natCast, BitVec.toNat_ofNat]; exact Nat.mod_eq_of_lt (by omega)
theorem i64_and_nat (a b : Nat) (ha : a < 9223372036854775808) (hb : b < 9223372036854775808) : bits .and .i64 (a : Int) (b : Int) = ((a &&& b : Nat) : Int) := by
  have hx : a &&& b < 2 ^ 63 := Nat.and_lt_two_pow _ (by omega)
  show IntKind.i64.wrap ((BitVec.ofInt 64 (a : Int) &&& BitVec.ofInt 64 (b : Int)).toNat : Int) = _
  rw [BitVec.toNat_and, ofInt_i64 a ha, ofInt_i64 b hb, IntKind.wrap_i64]
  omega
/-- a number less its lowest k bits -/
theorem i64_andNot_pow (a k : Nat) (ha : a < 9223372036854775808) (hk : k ≤ 24) : bits .andNot .i64 (a : Int) ((2 ^ k - 1 : Nat) : Int) = ((a - a % 2 ^ k : Nat) : Int) := by
  have hp := pow24 hk
  show IntKind.i64.wrap ((BitVec.ofInt 64 (a : Int) &&& ~~~ BitVec.ofInt 64 ((2 ^ k - 1 : Nat) : Int)).toNat : Int) = _
  have e : (BitVec.ofInt 64 (a : Int) &&& ~~~ BitVec.ofInt 64 ((2 ^ k - 1 : Nat) : Int)).toNat = a - a % 2 ^ k := by
    rw [BitVec.toNat_and, BitVec.toNat_not, ofInt_i64 a ha, ofInt_i64 _ (by omega)]
    apply Nat.eq_of_testBit_eq
    intro i
    have e2 : a - a % 2 ^ k = 2 ^ k * (a / 2 ^ k) := by have := Nat.div_add_mod a (2 ^ k); omega
    rw [Nat.testBit_and, show 2 ^ 64 - 1 - (2 ^ k - 1) = 2 ^ 64 - (2 ^ k - 1 + 1) by omega, Nat.testBit_two_pow_sub_succ (by omega), Nat.testBit_two_pow_sub_one, e2, Nat.testBit_two_pow_mul, Nat.testBit_div_two_pow]
    by_cases hik : i < k
    · simp [hik]; intro h; omega
    · by_cases hi : i < 64
      · simp [hik, hi, show k ≤ i by omega, Nat.sub_add_cancel (show k ≤ i by omega)]
      · have : a.testBit i = false := Nat.testBit_lt_two_pow (Nat.lt_of_lt_of_le ha (Nat.le_trans (by decide : 9223372036854775808 ≤ 2 ^ 63) (Nat.pow_le_pow_right (by decide) (by omega))))
        simp [this, Nat.sub_add_cancel (show k ≤ i by omega)]
  rw [e, IntKind.wrap_i64]
  have : a - a % 2 ^ k ≤ a := Nat.sub_le _ _
  omega
end Go.Proofs.Ytmeoabpigibaoaa
