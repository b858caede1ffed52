/- Values as two words, their bytes, truncation: plain laws. -/
import Derived.Test.YtmeoabpigibaoaaSl
namespace Go.Proofs.Ytmeoabpigibaoaa

def sizeB (x : Int) : Bool := x == 1 || x == 2 || x == 4 || x == 8 || x == 16
theorem sizeB_iff (x : Int) : sizeB x = true ↔ x = 1 ∨ x = 2 ∨ x = 4 ∨ x = 8 ∨ x = 16 := by simp only [sizeB, Bool.or_eq_true, beq_iff_eq]; omega
theorem sizeB_and (n : Nat) (h0 : 1 ≤ n) (h1 : n ≤ 16) : decide (n &&& (n - 1) = 0) = sizeB (n : Int) := by
  have h : ∀ n : Nat, n < 17 → 1 ≤ n → decide (n &&& (n - 1) = 0) = sizeB (n : Int) := by decide +kernel
  exact h n (by omega) h0
/-- little-endian -/
def le : List Nat → Nat
  | [] => 0
  | c :: r => c + 256 * le r
theorem le_snoc (l : List Nat) (c : Nat) : le (l ++ [c]) = le l + c * 256 ^ l.length := by
  induction l with
  | nil => simp [le]
  | cons x l ih =>
    simp only [List.cons_append, le, ih, List.length_cons, Nat.pow_succ]
    rw [Nat.mul_add, Nat.add_assoc, Nat.mul_comm 256 (c * _), Nat.mul_assoc]
theorem le_lt (l : List Nat) (h : ∀ x ∈ l, x < 256) : le l < 256 ^ l.length := by
  induction l with
  | nil => simp [le]
  | cons x l ih =>
    have h1 := ih fun y hy => h y (by simp [hy])
    have h2 := h x (by simp)
    simp only [le, List.length_cons, Nat.pow_succ]
    omega
def digs (a m : Nat) : List Nat := (List.range m).map fun k => a / 256 ^ k % 256
theorem digs_succ (a m : Nat) : digs a (m + 1) = digs a m ++ [a / 256 ^ m % 256] := by simp [digs, List.range_succ]
theorem digs_len (a m : Nat) : (digs a m).length = m := by simp [digs]
theorem digs_lt (a m : Nat) : ∀ x ∈ digs a m, x < 256 := by
  intro x hx
  obtain ⟨k, _, rfl⟩ := List.mem_map.1 hx
  exact Nat.mod_lt _ (by decide)
theorem le_digs (a m : Nat) : le (digs a m) = a % 256 ^ m := by
  induction m with
  | zero => simp [digs, le, Nat.mod_one]
  | succ m ih =>
    rw [digs_succ, le_snoc, ih, digs_len, Nat.pow_succ, Nat.mod_mul, Nat.mul_comm (256 ^ m)]
/-- byte k of a value -/
def byteV (a b k : Nat) : Nat := if k < 8 then a / 256 ^ k % 256 else b / 256 ^ (k - 8) % 256
def bytesV (a b n : Nat) : List Nat := (List.range n).map (byteV a b)
theorem bytesV_succ (a b n : Nat) : bytesV a b (n + 1) = bytesV a b n ++ [byteV a b n] := by simp [bytesV, List.range_succ]
theorem bytesV_len (a b n : Nat) : (bytesV a b n).length = n := by simp [bytesV]
theorem bytesV_lt (a b n : Nat) : ∀ x ∈ bytesV a b n, x < 256 := by
  intro x hx
  obtain ⟨k, _, rfl⟩ := List.mem_map.1 hx
  unfold byteV
  split <;> exact Nat.mod_lt _ (by decide)
theorem bytesV_take (a b n : Nat) : (bytesV a b n).take 8 = digs a (min n 8) := by
  apply List.ext_getElem?
  intro i
  simp only [bytesV, digs, List.getElem?_take, List.getElem?_map]
  by_cases h8 : i < 8
  · rw [if_pos h8]
    by_cases hn : i < n
    · rw [List.getElem?_range hn, List.getElem?_range (by omega)]
      simp [byteV, h8]
    · rw [List.getElem?_eq_none (by simp; omega), List.getElem?_eq_none (by simp; omega)]
      rfl
  · rw [if_neg h8, List.getElem?_eq_none (by simp; omega)]
    rfl
theorem bytesV_drop (a b n : Nat) (hn : n ≤ 16) : ((bytesV a b n).drop 8).take 8 = digs b (n - 8) := by
  apply List.ext_getElem?
  intro i
  simp only [bytesV, digs, List.getElem?_take, List.getElem?_drop, List.getElem?_map]
  by_cases h8 : i < n - 8
  · rw [if_pos (by omega), List.getElem?_range (by omega), List.getElem?_range h8]
    simp [byteV]
    intro h; omega
  · rw [List.getElem?_eq_none (l := List.range (n - 8)) (by simp; omega), List.getElem?_eq_none (l := List.range n) (by simp; omega)]
    split <;> rfl
/-- the two words of bytes -/
def loV (l : List Nat) : Nat := le (l.take 8)
def hiV (l : List Nat) : Nat := le ((l.drop 8).take 8)
theorem pow256_8 : 256 ^ 8 = 18446744073709551616 := by decide
theorem le8_lt (l : List Nat) (h : ∀ x ∈ l, x < 256) (hl : l.length ≤ 8) : le l < 18446744073709551616 := by
  have := le_lt l h
  have h2 : 256 ^ l.length ≤ 256 ^ 8 := Nat.pow_le_pow_right (by decide) hl
  rw [← pow256_8]
  omega
theorem loV_lt (l : List Nat) (h : ∀ x ∈ l, x < 256) : loV l < 18446744073709551616 := le8_lt _ (fun x hx => h x (List.mem_of_mem_take hx)) (by simp; omega)
theorem hiV_lt (l : List Nat) (h : ∀ x ∈ l, x < 256) : hiV l < 18446744073709551616 := le8_lt _ (fun x hx => h x (List.mem_of_mem_drop (List.mem_of_mem_take hx))) (by simp; omega)
theorem loV_snoc (l : List Nat) (c : Nat) (h : l.length < 8) : loV (l ++ [c]) = loV l + c * 256 ^ l.length := by
  unfold loV
  rw [List.take_of_length_le (by simp; omega), List.take_of_length_le (by omega), le_snoc]
theorem hiV_snoc_lo (l : List Nat) (c : Nat) (h : l.length < 8) : hiV (l ++ [c]) = hiV l := by
  unfold hiV
  rw [List.drop_of_length_le (by simp; omega), List.drop_of_length_le (by omega)]
theorem loV_snoc_hi (l : List Nat) (c : Nat) (h : 8 ≤ l.length) : loV (l ++ [c]) = loV l := by
  unfold loV
  rw [List.take_append_of_le_length h]
theorem hiV_snoc (l : List Nat) (c : Nat) (h : 8 ≤ l.length) (h' : l.length < 16) : hiV (l ++ [c]) = hiV l + c * 256 ^ (l.length - 8) := by
  unfold hiV
  rw [List.drop_append_of_le_length h, List.take_of_length_le (by simp; omega), List.take_of_length_le (by simp; omega), le_snoc, List.length_drop]
/-- what is kept of a value in n bytes -/
def truncV (a b n : Nat) : Nat × Nat := (a % 256 ^ (min n 8), b % 256 ^ (n - 8))
theorem loV_bytes (a b n : Nat) : loV (bytesV a b n) = (truncV a b n).1 := by unfold loV truncV; rw [bytesV_take, le_digs]
theorem hiV_bytes (a b n : Nat) (h : n ≤ 16) : hiV (bytesV a b n) = (truncV a b n).2 := by unfold hiV truncV; rw [bytesV_drop _ _ _ h, le_digs]
theorem truncV_16 (a b : Nat) (ha : a < 18446744073709551616) (hb : b < 18446744073709551616) : truncV a b 16 = (a, b) := by
  unfold truncV
  rw [show min 16 8 = 8 from rfl, show 16 - 8 = 8 from rfl, pow256_8, Nat.mod_eq_of_lt ha, Nat.mod_eq_of_lt hb]
theorem truncV_idem (a b n : Nat) : truncV (truncV a b n).1 (truncV a b n).2 n = truncV a b n := by unfold truncV; simp
theorem truncV_lt (a b n : Nat) (ha : a < 18446744073709551616) (hb : b < 18446744073709551616) : (truncV a b n).1 < 18446744073709551616 ∧ (truncV a b n).2 < 18446744073709551616 :=
  ⟨Nat.lt_of_le_of_lt (Nat.mod_le _ _) ha, Nat.lt_of_le_of_lt (Nat.mod_le _ _) hb⟩
theorem pow_256 (k : Nat) : 2 ^ (8 * k) = 256 ^ k := by rw [Nat.pow_mul]
theorem or_shift8 (u k c : Nat) (hu : u < 256 ^ k) (h : c * 256 ^ k < 18446744073709551616) (hu64 : u < 18446744073709551616) :
    bits .or .u64 (u : Int) (IntKind.u64.wrap ((c : Int) * 2 ^ (8 * k))) = ((u + c * 256 ^ k : Nat) : Int) := by
  have e : (c : Int) * 2 ^ (8 * k) = ((c * 256 ^ k : Nat) : Int) := by
    rw [← pow_256]
    simp
  have e2 : IntKind.u64.wrap ((c : Int) * 2 ^ (8 * k)) = ((c * 256 ^ k : Nat) : Int) := by
    rw [e, IntKind.wrap_u64]
    omega
  rw [e2, u64_or_nat _ _ hu64 h, Nat.or_comm, nat_join (8 * k) (c * 256 ^ k) u (by rw [pow_256]; simp) (by rw [pow_256]; exact hu)]
  congr 1
  omega
end Go.Proofs.Ytmeoabpigibaoaa
