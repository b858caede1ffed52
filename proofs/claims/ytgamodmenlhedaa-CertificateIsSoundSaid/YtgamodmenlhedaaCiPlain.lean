/- Ways of a graph and their sums: plain mathematics. -/
import Derived.Test.YtgamodmenlhedaaCmPlain
namespace Go.Proofs.Ytgamodmenlhedaa.cf
set_option linter.unusedVariables false

/-- a way from the entry -/
def IsWay (g : List (List Int)) (L : List Int) : Prop :=
  1 ≤ L.length ∧ L.getD 0 0 = 0 ∧ (∀ p, p < L.length → 0 ≤ L.getD p 0 ∧ L.getD p 0 < g.length) ∧ ∀ p, p + 1 < L.length → ∃ k, k < (nx g (L.getD p 0).toNat).length ∧ (nx g (L.getD p 0).toNat).getD k 0 = L.getD (p + 1) 0
def lastN (L : List Int) : Nat := (L.getD (L.length - 1) 0).toNat
theorem isWay_start {g : List (List Int)} (h : 1 ≤ g.length) : IsWay g [0] := ⟨by simp, rfl, fun p hp => by simp at hp; subst hp; simp; omega, fun p hp => by simp at hp⟩
theorem isWay_last {g : List (List Int)} {L : List Int} (h : IsWay g L) : L.getD (L.length - 1) 0 = ((lastN L : Nat) : Int) ∧ lastN L < g.length := by
  have := h.2.2.1 (L.length - 1) (by have := h.1; omega)
  unfold lastN
  omega
theorem isWay_snoc {g : List (List Int)} {L : List Int} (hg : GrOk g) (h : IsWay g L) {k : Nat} (hk : k < (nx g (lastN L)).length) : IsWay g (L ++ [(nx g (lastN L)).getD k 0]) := by
  have h1 := h.1
  have hl := isWay_last h
  have hx := grOk_lt hg (lastN L) hl.2 k hk
  refine ⟨by simp, by rw [getD_app_lt (by omega)]; exact h.2.1, fun p hp => ?_, fun p hp => ?_⟩
  · simp at hp
    rcases Nat.lt_or_ge p L.length with a | a
    · rw [getD_app_lt a]; exact h.2.2.1 p a
    · obtain rfl : p = L.length := by omega
      rw [getD_app_end]; exact hx
  · simp at hp
    rw [getD_app_lt hp]
    rcases Nat.lt_or_ge (p + 1) L.length with a | a
    · rw [getD_app_lt a]; exact h.2.2.2 p a
    · have e : p = L.length - 1 := by omega
      have e2 : p + 1 = L.length := by omega
      rw [e2, getD_app_end, e, hl.1, Int.toNat_natCast]
      exact ⟨k, hk, rfl⟩
theorem lastN_snoc {g : List (List Int)} {L : List Int} {k : Nat} : lastN (L ++ [(nx g (lastN L)).getD k 0]) = sc g (lastN L) k := by
  unfold lastN sc
  simp only [List.length_append, List.length_cons, List.length_nil]
  rw [show L.length + (0 + 1) - 1 = L.length by omega, getD_app_end]
/-- the sum of the weights of the first k functions of a way -/
def sumTo (w L : List Int) : Nat → Int
  | 0 => 0
  | k + 1 => sumTo w L k + w.getD (L.getD k 0).toNat 0
theorem sumTo_le {g : List (List Int)} {w c L : List Int} (hg : GrOk g) (hc : ∀ i, i < g.length → ¬ Wrong g w c i) (h : IsWay g L) : ∀ k, k < L.length → sumTo w L k + c.getD (L.getD k 0).toNat 0 ≤ c.getD 0 0 := by
  intro k
  induction k with
  | zero => intro hk; rw [h.2.1]; show 0 + c.getD 0 0 ≤ _; omega
  | succ k ih =>
    intro hk
    have h1 := ih (by omega)
    obtain ⟨j, hj, e⟩ := h.2.2.2 k hk
    have hb := h.2.2.1 k (by omega)
    have h2 := (not_wrong.1 (hc (L.getD k 0).toNat (by omega))).2
    have h3 := most_ge c (nx g (L.getD k 0).toNat) j hj
    rw [e] at h3
    show sumTo w L k + w.getD (L.getD k 0).toNat 0 + _ ≤ _
    omega
theorem sumTo_all {g : List (List Int)} {w c L : List Int} (hg : GrOk g) (hw : ∀ i, i < g.length → 0 ≤ w.getD i 0) (hc : ∀ i, i < g.length → ¬ Wrong g w c i) (h : IsWay g L) : ∀ k, k ≤ L.length → 0 ≤ sumTo w L k ∧ sumTo w L k ≤ c.getD 0 0 := by
  intro k hk
  have hpos : ∀ k, k ≤ L.length → 0 ≤ sumTo w L k := by
    intro k
    induction k with
    | zero => intro _; exact Int.le_refl 0
    | succ k ih =>
      intro hk
      have hb := h.2.2.1 k (by omega)
      have := hw (L.getD k 0).toNat (by omega)
      have := ih (by omega)
      show 0 ≤ sumTo w L k + _
      omega
  refine ⟨hpos k hk, ?_⟩
  cases k with
  | zero =>
    have h1 := sumTo_le hg hc h 0 (by have := h.1; omega)
    have h0 : (0 : Nat) < g.length := by have := hg.1; omega
    have h2 := (not_wrong.1 (hc 0 h0)).1.1
    exact h2
  | succ k =>
    have h1 := sumTo_le hg hc h k (by omega)
    have hb := h.2.2.1 k (by omega)
    have h2 := (not_wrong.1 (hc (L.getD k 0).toNat (by omega))).2
    have h3 := most_nonneg c (nx g (L.getD k 0).toNat)
    show sumTo w L k + w.getD (L.getD k 0).toNat 0 ≤ _
    omega
theorem pow3_le {r : Nat} (h : r ≤ 7) : 3 ^ r ≤ 2187 := Nat.le_trans (Nat.pow_le_pow_right (by decide) h) (by decide)
theorem pow3_pos (r : Nat) : 1 ≤ 3 ^ r := Nat.one_le_pow _ _ (by decide)
end Go.Proofs.Ytgamodmenlhedaa.cf
