/- Reading a varint, as a plain function on lists of numbers below 256. -/
import Derived.Test.YtinfeglhjmnlaaaDoorGPu
import Derived.Test.YtinfeglhjmnlaaaDoorGCr
import Derived.Test.YtinfeglhjmnlaaaDoorGSc
namespace Go.Proofs.YtinfeglhjmnlaaaDoor

def rdF : Nat → List Nat → Nat → Nat → Nat → Nat × Nat × Nat
  | 0, _, _, _, _ => (0, 0, 2)
  | f + 1, l, p, k, v =>
    if p < l.length then
      if 128 ≤ l.getD p 0 then rdF f l (p + 1) (k + 1) (v + l.getD p 0 % 128 * 128 ^ k)
      else if (k = 9 ∧ 1 < l.getD p 0) ∨ (0 < k ∧ l.getD p 0 = 0) then (0, 0, 2) else (v + l.getD p 0 * 128 ^ k, p + 1, 0)
    else (0, 0, 1)
def rdU (l : List Nat) (x : Int) : Nat × Nat × Nat := if 0 ≤ x ∧ x ≤ l.length then rdF 10 l x.toNat 0 0 else (0, 0, 1)
/-- the int of a zigzag number -/
def uz (v : Nat) : Int := if v % 2 = 0 then ((v / 2 : Nat) : Int) else -((v / 2 : Nat) : Int) - 1

theorem and127 : ∀ x, x < 256 → x &&& 127 = x % 128 := by decide +kernel

section
variable {f : Nat} {l : List Nat} {p k v c : Nat}
theorem rdF_short (hp : ¬ p < l.length) : rdF (f + 1) l p k v = (0, 0, 1) := by simp [rdF, hp]
theorem rdF_big (hp : p < l.length) (hc : l.getD p 0 = c) (h : 128 ≤ c) : rdF (f + 1) l p k v = rdF f l (p + 1) (k + 1) (v + c % 128 * 128 ^ k) := by
  subst hc
  simp only [rdF]
  rw [if_pos hp, if_pos h]
theorem rdF_bad (hp : p < l.length) (hc : l.getD p 0 = c) (h : ¬ 128 ≤ c) (hb : (k = 9 ∧ 1 < c) ∨ (0 < k ∧ c = 0)) : rdF (f + 1) l p k v = (0, 0, 2) := by
  subst hc
  simp only [rdF]
  rw [if_pos hp, if_neg h, if_pos hb]
theorem rdF_ok (hp : p < l.length) (hc : l.getD p 0 = c) (h : ¬ 128 ≤ c) (hb : ¬ ((k = 9 ∧ 1 < c) ∨ (0 < k ∧ c = 0))) : rdF (f + 1) l p k v = (v + c * 128 ^ k, p + 1, 0) := by
  subst hc
  simp only [rdF]
  rw [if_pos hp, if_neg h, if_neg hb]
end
theorem pow_128 (k : Nat) : 2 ^ (7 * k) = 128 ^ k := by rw [Nat.pow_mul]
theorem pow_128_le {k m : Nat} (h : k ≤ m) : 128 ^ k ≤ 128 ^ m := Nat.pow_le_pow_right (by decide) h
theorem or_shift (u k c : Nat) (hu : u < 128 ^ k) (h : c * 128 ^ k < 18446744073709551616) (hu64 : u < 18446744073709551616) :
    bits .or .u64 (u : Int) (IntKind.u64.wrap ((c : Int) * 2 ^ (7 * k))) = ((u + c * 128 ^ k : Nat) : Int) := by
  have e : (c : Int) * 2 ^ (7 * k) = ((c * 128 ^ k : Nat) : Int) := by
    rw [← pow_128]
    simp
  have e2 : IntKind.u64.wrap ((c : Int) * 2 ^ (7 * k)) = ((c * 128 ^ k : Nat) : Int) := by
    rw [e, IntKind.wrap_u64]
    omega
  rw [e2, u64_or_nat _ _ hu64 h, Nat.or_comm, nat_join (7 * k) (c * 128 ^ k) u (by rw [pow_128]; simp) (by rw [pow_128]; exact hu)]
  congr 1
  omega

theorem rdF_lt (f : Nat) (l : List Nat) (p k v : Nat) (hf : k + f = 10) (hv : k ≤ 9 → v < 128 ^ k) : (rdF f l p k v).1 < 18446744073709551616 := by
  induction f generalizing p k v with
  | zero => simp [rdF]
  | succ f ih =>
    have hk : k ≤ 9 := by omega
    have hv := hv hk
    by_cases hp : p < l.length
    · by_cases hc : 128 ≤ l.getD p 0
      · rw [rdF_big hp rfl hc]
        refine ih _ _ _ (by omega) fun h => ?_
        rw [Nat.pow_succ]
        have h2 : l.getD p 0 % 128 * 128 ^ k ≤ 127 * 128 ^ k := Nat.mul_le_mul_right _ (by omega)
        omega
      · by_cases hb : (k = 9 ∧ 1 < l.getD p 0) ∨ (0 < k ∧ l.getD p 0 = 0)
        · rw [rdF_bad hp rfl hc hb]; decide
        · rw [rdF_ok hp rfl hc hb]
          show v + l.getD p 0 * 128 ^ k < 18446744073709551616
          rcases Nat.lt_or_ge k 9 with h9 | h9
          · have h1 := pow_128_le (show k ≤ 8 by omega)
            have h2 : l.getD p 0 * 128 ^ k ≤ 127 * 128 ^ k := Nat.mul_le_mul_right _ (by omega)
            have h3 : 128 ^ 8 = 72057594037927936 := by decide
            omega
          · have hk9 : k = 9 := by omega
            subst hk9
            have h2 : l.getD p 0 * 128 ^ 9 ≤ 1 * 128 ^ 9 := Nat.mul_le_mul_right _ (by omega)
            have h3 : 128 ^ 9 = 9223372036854775808 := by decide
            omega
    · rw [rdF_short hp]; decide
theorem rdU_lt (l : List Nat) (x : Int) : (rdU l x).1 < 18446744073709551616 := by
  unfold rdU
  split
  · exact rdF_lt 10 l _ 0 0 (by omega) (by simp)
  · decide
theorem xor_m1 (a : Nat) (h : a < 9223372036854775808) : bits .xor .i64 (a : Int) (-1) = -(a : Int) - 1 := by
  show IntKind.i64.wrap ((BitVec.ofInt 64 (a : Int) ^^^ BitVec.ofInt 64 (-1)).toNat : Int) = _
  have e1 : (BitVec.ofInt 64 (a : Int)).toNat = a := by
    rw [BitVec.ofInt_natCast, BitVec.toNat_ofNat]; exact Nat.mod_eq_of_lt (by omega)
  have e2 : (BitVec.ofInt 64 (-1)).toNat = 18446744073709551615 := by decide
  rw [BitVec.toNat_xor, e1, e2, Nat.xor_comm, not_nat64 _ (by omega), IntKind.wrap_i64]
  omega
theorem xor_0 (a : Nat) (h : a < 9223372036854775808) : bits .xor .i64 (a : Int) 0 = (a : Int) := by
  show IntKind.i64.wrap ((BitVec.ofInt 64 (a : Int) ^^^ BitVec.ofInt 64 0).toNat : Int) = _
  have e1 : (BitVec.ofInt 64 (a : Int)).toNat = a := by
    rw [BitVec.ofInt_natCast, BitVec.toNat_ofNat]; exact Nat.mod_eq_of_lt (by omega)
  have e2 : (BitVec.ofInt 64 0).toNat = 0 := by decide
  rw [BitVec.toNat_xor, e1, e2, Nat.xor_zero, IntKind.wrap_i64]
  omega
theorem u64_and1 (c : Nat) (h : c < 18446744073709551616) : bits .and .u64 (c : Int) 1 = ((c % 2 : Nat) : Int) := by
  have := u64_and_nat c 1 h (by decide)
  rw [nat_mask1] at this
  exact this
theorem uz_zz (v : Int) : uz (zz v) = v := by
  unfold uz zz
  by_cases h : 0 ≤ v
  · rw [if_pos h, if_pos (by omega)]; omega
  · rw [if_neg h, if_neg (by omega)]; omega
end Go.Proofs.YtinfeglhjmnlaaaDoor
namespace Go.Proofs.YtinfeglhjmnlaaaDoor

theorem rdF_err (f : Nat) (l : List Nat) (p k v : Nat) (h : (rdF f l p k v).2.2 ≠ 0) : (rdF f l p k v).1 = 0 ∧ (rdF f l p k v).2.1 = 0 := by
  induction f generalizing p k v with
  | zero => simp [rdF]
  | succ f ih =>
    by_cases hp : p < l.length
    · by_cases hc : 128 ≤ l.getD p 0
      · rw [rdF_big hp rfl hc] at h ⊢
        exact ih _ _ _ h
      · by_cases hb : (k = 9 ∧ 1 < l.getD p 0) ∨ (0 < k ∧ l.getD p 0 = 0)
        · rw [rdF_bad hp rfl hc hb]; simp
        · rw [rdF_ok hp rfl hc hb] at h
          simp at h
    · rw [rdF_short hp]; simp
theorem rdU_err (l : List Nat) (x : Int) (h : (rdU l x).2.2 ≠ 0) : (rdU l x).1 = 0 ∧ (rdU l x).2.1 = 0 := by
  unfold rdU at h ⊢
  by_cases hx : 0 ≤ x ∧ x ≤ l.length
  · rw [if_pos hx] at h ⊢; exact rdF_err _ _ _ _ _ h
  · rw [if_neg hx]; simp
theorem drop_cons_getD (l : List Nat) (p : Nat) (h : p < l.length) : l.drop p = l.getD p 0 :: l.drop (p + 1) := by
  rw [List.drop_eq_getElem_cons h, List.getD_eq_getElem?_getD, List.getElem?_eq_getElem h]; rfl
theorem rdF_put (f : Nat) (l : List Nat) (p k v r q : Nat) (hf : k + f = 10) (hl : ∀ x ∈ l, x < 256) (h : rdF f l p k v = (r, q, 0)) :
    ∃ hi, r = v + hi * 128 ^ k ∧ p < q ∧ q ≤ l.length ∧ putF (9 - k) hi = (l.drop p).take (q - p) ∧ (0 < k → hi ≠ 0) := by
  induction f generalizing p k v with
  | zero => simp [rdF] at h
  | succ f ih =>
    by_cases hp : p < l.length
    · have hd := drop_cons_getD l p hp
      have hc256 : l.getD p 0 < 256 := by
        rw [List.getD_eq_getElem?_getD, List.getElem?_eq_getElem hp]
        exact hl _ (List.getElem_mem hp)
      by_cases hc : 128 ≤ l.getD p 0
      · rw [rdF_big hp rfl hc] at h
        have hf0 : f ≠ 0 := by rintro rfl; simp [rdF] at h
        obtain ⟨hi, hr, hpq, hql, hput, hnz⟩ := ih (p + 1) (k + 1) _ (by omega) h
        have hnz := hnz (by omega)
        refine ⟨l.getD p 0 % 128 + 128 * hi, ?_, by omega, hql, ?_, fun _ => by omega⟩
        · rw [hr, Nat.pow_succ, Nat.add_mul, Nat.add_assoc]
          congr 2
          rw [Nat.mul_comm 128 hi, Nat.mul_assoc, Nat.mul_comm 128]
        · obtain ⟨g, hg⟩ : ∃ g, 9 - k = g + 1 := ⟨8 - k, by omega⟩
          rw [hg, putF_big g _ (by omega), show (l.getD p 0 % 128 + 128 * hi) / 128 = hi by omega, show (l.getD p 0 % 128 + 128 * hi) % 128 + 128 = l.getD p 0 by omega]
          rw [show 9 - (k + 1) = g by omega] at hput
          rw [hput, hd, show q - p = (q - (p + 1)) + 1 by omega, List.take_succ_cons]
      · by_cases hb : (k = 9 ∧ 1 < l.getD p 0) ∨ (0 < k ∧ l.getD p 0 = 0)
        · rw [rdF_bad hp rfl hc hb] at h; simp at h
        · rw [rdF_ok hp rfl hc hb] at h
          simp only [Prod.mk.injEq, and_true] at h
          obtain ⟨rfl, rfl⟩ := h
          refine ⟨l.getD p 0, rfl, by omega, by omega, ?_, fun h0 hz => hb (.inr ⟨h0, hz⟩)⟩
          rw [putF_small _ _ (by omega), hd, show p + 1 - p = 1 by omega]
          simp
    · rw [rdF_short hp] at h; simp at h
/-- what is read is the shortest -/
theorem rdU_put (l : List Nat) (hl : ∀ x ∈ l, x < 256) (r q : Nat) (h : rdU l 0 = (r, q, 0)) : 1 ≤ q ∧ q ≤ l.length ∧ put r = l.take q := by
  unfold rdU at h
  rw [if_pos (by omega)] at h
  obtain ⟨hi, hr, h1, h2, h3, _⟩ := rdF_put 10 l 0 0 0 r q rfl hl (by simpa using h)
  simp at hr h3
  subst hr
  exact ⟨by omega, h2, h3⟩
theorem rdF_of_put (g : Nat) (l rest : List Nat) (p k v hi : Nat) (hk : k + g = 9) (hh : hi < 2 * 128 ^ g) (hnz : 0 < k → hi ≠ 0) (hd : l.drop p = putF g hi ++ rest) :
    rdF (g + 1) l p k v = (v + hi * 128 ^ k, p + (putF g hi).length, 0) := by
  induction g generalizing p k v hi with
  | zero =>
    simp only [putF] at hd ⊢
    have hp : p < l.length := by
      rcases Nat.lt_or_ge p l.length with h | h
      · exact h
      · rw [List.drop_eq_nil_of_le h] at hd; simp at hd
    rw [drop_cons_getD l p hp] at hd
    simp at hd hh
    have hz := hnz (by omega)
    rw [rdF_ok hp hd.1 (by omega) (by omega)]
    simp
  | succ g ih =>
    have hp : p < l.length := by
      rcases Nat.lt_or_ge p l.length with h | h
      · exact h
      · rw [List.drop_eq_nil_of_le h] at hd
        have := (putF_len (g + 1) hi).1
        have h2 := congrArg List.length hd
        simp at h2
        omega
    by_cases hlt : hi < 128
    · rw [putF_small _ _ hlt] at hd ⊢
      rw [drop_cons_getD l p hp] at hd
      simp at hd
      rw [rdF_ok hp hd.1 (by omega) (by rintro (⟨h, _⟩ | ⟨h, hz⟩); omega; exact hnz h hz)]
      simp
    · rw [putF_big _ _ hlt] at hd ⊢
      rw [drop_cons_getD l p hp] at hd
      simp only [List.cons_append, List.cons.injEq] at hd
      rw [rdF_big hp hd.1 (by omega), ih (p + 1) (k + 1) _ (hi / 128) (by omega) (by rw [Nat.pow_succ] at hh; omega) (fun _ => by omega) hd.2]
      simp only [List.length_cons, Prod.mk.injEq, and_true]
      refine ⟨?_, by omega⟩
      rw [show (hi % 128 + 128) % 128 = hi % 128 by omega, Nat.pow_succ, Nat.add_assoc]
      congr 1
      have e : hi / 128 * (128 ^ k * 128) = 128 * (hi / 128) * 128 ^ k := by rw [Nat.mul_comm (128 ^ k) 128, ← Nat.mul_assoc, Nat.mul_comm (hi / 128) 128]
      rw [e, ← Nat.add_mul]
      congr 1
      omega
/-- a number comes back from its bytes -/
theorem rdU_of_put (l rest : List Nat) (v : Nat) (hv : v < 18446744073709551616) : rdU (l ++ put v ++ rest) (l.length : Nat) = (v, l.length + (put v).length, 0) := by
  unfold rdU
  rw [if_pos ⟨by omega, by simp; omega⟩]
  have h := rdF_of_put 9 (l ++ put v ++ rest) rest l.length 0 0 v rfl (by omega) (fun h => absurd h (by omega)) (by rw [List.append_assoc, List.drop_left]; rfl)
  simpa [put] using h
end Go.Proofs.YtinfeglhjmnlaaaDoor
namespace Go.Proofs.YtinfeglhjmnlaaaDoor.pm
open Go.RowKit
set_option linter.unusedVariables false
set_option maxRecDepth 10000

def M31 : Nat := 2147483647
def W64m : Nat := 18446744073709551615
def immB (op : Int) : Bool := op == 0 || op == 24
def crc4 (l : List Nat) : List Nat := [crc l / 16777216 % 256, crc l / 65536 % 256, crc l / 256 % 256, crc l % 256]
def sealL (l : List Nat) : List Nat := l ++ crc4 l
theorem powB_ex {al : Int} (h : powB al = true) : ∃ k, k ≤ 24 ∧ al = ((2 ^ k : Nat) : Int) := by
  unfold powB at h
  obtain ⟨k, hk, he⟩ := List.any_eq_true.1 h
  have := List.mem_range.1 hk
  exact ⟨k, by omega, by simpa using he⟩
theorem put_pos (v : Nat) : 1 ≤ (put v).length := (put_len v).1
theorem crc4_inj {l m : List Nat} (h : crc4 l = crc4 m) : crc l = crc m := by
  have h1 := crc_lt l
  have h2 := crc_lt m
  unfold crc4 at h
  simp only [List.cons.injEq, and_true] at h
  omega
theorem crc4_len (l : List Nat) : (crc4 l).length = 4 := rfl
theorem crc4_bytes (l : List Nat) : ∀ x ∈ crc4 l, x < 256 := by
  intro x hx
  simp only [crc4, List.mem_cons, List.not_mem_nil, or_false] at hx
  omega
theorem sealL_len (l : List Nat) : (sealL l).length = l.length + 4 := by simp [sealL, crc4]
theorem sealL_take (l : List Nat) : (sealL l).take ((sealL l).length - 4) = l := by rw [sealL_len]; simp [sealL]
theorem sealL_bytes {l : List Nat} (h : ∀ x ∈ l, x < 256) : ∀ x ∈ sealL l, x < 256 := by
  intro x hx
  rcases List.mem_append.1 hx with k | k
  · exact h x k
  · exact crc4_bytes l x k
/-- a changed byte is found -/
theorem set_seal {b b' : List Nat} (hb : ∀ x ∈ b, x < 256) {k y : Nat} (hk : k < (sealL b).length) (hy : y < 256) (hne : y ≠ (sealL b)[k]) : (sealL b).set k y ≠ sealL b' := by
  intro he
  have hlen : b'.length = b.length := by
    have := congrArg List.length he
    rw [List.length_set, sealL_len, sealL_len] at this
    omega
  have ht : ((sealL b).set k y).take b.length = b' := by rw [he, ← hlen]; simp [sealL]
  have hd : ((sealL b).set k y).drop b.length = crc4 b' := by rw [he, ← hlen]; simp [sealL]
  by_cases h : k < b.length
  · have e1 : ((sealL b).set k y).take b.length = b.set k y := by
      unfold sealL
      rw [List.set_append, if_pos h]
      have : (b.set k y).length = b.length := by simp
      rw [← this]
      simp
    have e2 : ((sealL b).set k y).drop b.length = crc4 b := by
      unfold sealL
      rw [List.set_append, if_pos h]
      have : (b.set k y).length = b.length := by simp
      rw [← this]
      simp
    rw [e1] at ht
    rw [e2, ← ht] at hd
    have hg : (sealL b)[k] = b[k] := List.getElem_append_left h
    exact crc_set hb h hy (by rw [← hg]; exact hne) (crc4_inj hd).symm
  · have e1 : ((sealL b).set k y).take b.length = b := by
      rw [List.take_set_of_le (by omega)]
      simp [sealL]
    rw [e1] at ht
    rw [← ht] at he
    have := congrArg (fun l => l[k]?) he
    simp only [List.getElem?_set_self hk, List.getElem?_eq_getElem hk, Option.some.injEq] at this
    exact hne this

theorem mem_ite {p : Prop} [Decidable p] {A : List Nat} {y : Nat} (h : y ∈ (if p then A else [])) : y ∈ A := by
  by_cases hp : p
  · rwa [if_pos hp] at h
  · rw [if_neg hp] at h; cases h
theorem ite_len {p : Prop} [Decidable p] (v : Nat) : (if p then put v else []).length ≤ 10 := by
  have := (put_len v).2
  by_cases hp : p
  · rw [if_pos hp]; exact this
  · rw [if_neg hp]; simp
end Go.Proofs.YtinfeglhjmnlaaaDoor.pm
