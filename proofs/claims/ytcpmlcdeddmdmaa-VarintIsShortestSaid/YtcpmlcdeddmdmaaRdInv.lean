/- Plain laws: a number comes back from its bytes; bytes that are read as a number are the bytes of the number. -/
import Derived.Test.YtcpmlcdeddmdmaaRdPlain
namespace Go.Proofs.Ytcpmlcdeddmdmaa

theorem rdF_err (f : Nat) (l : List Nat) (p k v : Nat) (h : (rdF f l p k v).2.2 ≠ 0) : (rdF f l p k v).1 = 0 ∧ (rdF f l p k v).2.1 = 0 := by
  induction f generalizing p k v with
  | zero => simp [rdF]
  | succ f ih =>
    by_cases hp : p < l.length
    · by_cases hc : 128 ≤ l.getD p 0
      · rw [rdF_big hp rfl hc] at h ⊢
        exact ih _ _ _ h
      · by_cases hb : (k = 9 ∧ 1 < l.getD p 0) ∨ (0 < k ∧ l.getD p 0 = 0)
        · rw [rdF_bad hp rfl hc hb]; simp
        · rw [rdF_ok hp rfl hc hb] at h
          simp at h
    · rw [rdF_short hp]; simp
theorem rdU_err (l : List Nat) (x : Int) (h : (rdU l x).2.2 ≠ 0) : (rdU l x).1 = 0 ∧ (rdU l x).2.1 = 0 := by
  unfold rdU at h ⊢
  by_cases hx : 0 ≤ x ∧ x ≤ l.length
  · rw [if_pos hx] at h ⊢; exact rdF_err _ _ _ _ _ h
  · rw [if_neg hx]; simp
theorem drop_cons_getD (l : List Nat) (p : Nat) (h : p < l.length) : l.drop p = l.getD p 0 :: l.drop (p + 1) := by
  rw [List.drop_eq_getElem_cons h, List.getD_eq_getElem?_getD, List.getElem?_eq_getElem h]; rfl
theorem rdF_put (f : Nat) (l : List Nat) (p k v r q : Nat) (hf : k + f = 10) (hl : ∀ x ∈ l, x < 256) (h : rdF f l p k v = (r, q, 0)) :
    ∃ hi, r = v + hi * 128 ^ k ∧ p < q ∧ q ≤ l.length ∧ putF (9 - k) hi = (l.drop p).take (q - p) ∧ (0 < k → hi ≠ 0) := by
  induction f generalizing p k v with
  | zero => simp [rdF] at h
  | succ f ih =>
    by_cases hp : p < l.length
    · have hd := drop_cons_getD l p hp
      have hc256 : l.getD p 0 < 256 := by
        rw [List.getD_eq_getElem?_getD, List.getElem?_eq_getElem hp]
        exact hl _ (List.getElem_mem hp)
      by_cases hc : 128 ≤ l.getD p 0
      · rw [rdF_big hp rfl hc] at h
        have hf0 : f ≠ 0 := by rintro rfl; simp [rdF] at h
        obtain ⟨hi, hr, hpq, hql, hput, hnz⟩ := ih (p + 1) (k + 1) _ (by omega) h
        have hnz := hnz (by omega)
        refine ⟨l.getD p 0 % 128 + 128 * hi, ?_, by omega, hql, ?_, fun _ => by omega⟩
        · rw [hr, Nat.pow_succ, Nat.add_mul, Nat.add_assoc]
          congr 2
          rw [Nat.mul_comm 128 hi, Nat.mul_assoc, Nat.mul_comm 128]
        · obtain ⟨g, hg⟩ : ∃ g, 9 - k = g + 1 := ⟨8 - k, by omega⟩
          rw [hg, putF_big g _ (by omega), show (l.getD p 0 % 128 + 128 * hi) / 128 = hi by omega, show (l.getD p 0 % 128 + 128 * hi) % 128 + 128 = l.getD p 0 by omega]
          rw [show 9 - (k + 1) = g by omega] at hput
          rw [hput, hd, show q - p = (q - (p + 1)) + 1 by omega, List.take_succ_cons]
      · by_cases hb : (k = 9 ∧ 1 < l.getD p 0) ∨ (0 < k ∧ l.getD p 0 = 0)
        · rw [rdF_bad hp rfl hc hb] at h; simp at h
        · rw [rdF_ok hp rfl hc hb] at h
          simp only [Prod.mk.injEq, and_true] at h
          obtain ⟨rfl, rfl⟩ := h
          refine ⟨l.getD p 0, rfl, by omega, by omega, ?_, fun h0 hz => hb (.inr ⟨h0, hz⟩)⟩
          rw [putF_small _ _ (by omega), hd, show p + 1 - p = 1 by omega]
          simp
    · rw [rdF_short hp] at h; simp at h
/-- what is read is the shortest -/
theorem rdU_put (l : List Nat) (hl : ∀ x ∈ l, x < 256) (r q : Nat) (h : rdU l 0 = (r, q, 0)) : 1 ≤ q ∧ q ≤ l.length ∧ put r = l.take q := by
  unfold rdU at h
  rw [if_pos (by omega)] at h
  obtain ⟨hi, hr, h1, h2, h3, _⟩ := rdF_put 10 l 0 0 0 r q rfl hl (by simpa using h)
  simp at hr h3
  subst hr
  exact ⟨by omega, h2, h3⟩
theorem rdF_of_put (g : Nat) (l rest : List Nat) (p k v hi : Nat) (hk : k + g = 9) (hh : hi < 2 * 128 ^ g) (hnz : 0 < k → hi ≠ 0) (hd : l.drop p = putF g hi ++ rest) :
    rdF (g + 1) l p k v = (v + hi * 128 ^ k, p + (putF g hi).length, 0) := by
  induction g generalizing p k v hi with
  | zero =>
    simp only [putF] at hd ⊢
    have hp : p < l.length := by
      rcases Nat.lt_or_ge p l.length with h | h
      · exact h
      · rw [List.drop_eq_nil_of_le h] at hd; simp at hd
    rw [drop_cons_getD l p hp] at hd
    simp at hd hh
    have hz := hnz (by omega)
    rw [rdF_ok hp hd.1 (by omega) (by omega)]
    simp
  | succ g ih =>
    have hp : p < l.length := by
      rcases Nat.lt_or_ge p l.length with h | h
      · exact h
      · rw [List.drop_eq_nil_of_le h] at hd
        have := (putF_len (g + 1) hi).1
        have h2 := congrArg List.length hd
        simp at h2
        omega
    by_cases hlt : hi < 128
    · rw [putF_small _ _ hlt] at hd ⊢
      rw [drop_cons_getD l p hp] at hd
      simp at hd
      rw [rdF_ok hp hd.1 (by omega) (by rintro (⟨h, _⟩ | ⟨h, hz⟩); omega; exact hnz h hz)]
      simp
    · rw [putF_big _ _ hlt] at hd ⊢
      rw [drop_cons_getD l p hp] at hd
      simp only [List.cons_append, List.cons.injEq] at hd
      rw [rdF_big hp hd.1 (by omega), ih (p + 1) (k + 1) _ (hi / 128) (by omega) (by rw [Nat.pow_succ] at hh; omega) (fun _ => by omega) hd.2]
      simp only [List.length_cons, Prod.mk.injEq, and_true]
      refine ⟨?_, by omega⟩
      rw [show (hi % 128 + 128) % 128 = hi % 128 by omega, Nat.pow_succ, Nat.add_assoc]
      congr 1
      have e : hi / 128 * (128 ^ k * 128) = 128 * (hi / 128) * 128 ^ k := by rw [Nat.mul_comm (128 ^ k) 128, ← Nat.mul_assoc, Nat.mul_comm (hi / 128) 128]
      rw [e, ← Nat.add_mul]
      congr 1
      omega
/-- a number comes back from its bytes -/
theorem rdU_of_put (l rest : List Nat) (v : Nat) (hv : v < 18446744073709551616) : rdU (l ++ put v ++ rest) (l.length : Nat) = (v, l.length + (put v).length, 0) := by
  unfold rdU
  rw [if_pos ⟨by omega, by simp; omega⟩]
  have h := rdF_of_put 9 (l ++ put v ++ rest) rest l.length 0 0 v rfl (by omega) (fun h => absurd h (by omega)) (by rw [List.append_assoc, List.drop_left]; rfl)
  simpa [put] using h
end Go.Proofs.Ytcpmlcdeddmdmaa
