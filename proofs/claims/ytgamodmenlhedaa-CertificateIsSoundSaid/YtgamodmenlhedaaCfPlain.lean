/- Graphs, certificates and bounds: plain mathematics, no program in sight. -/
namespace Go.Proofs.Ytgamodmenlhedaa.cf
set_option linter.unusedVariables false

abbrev Gr := List (List Nat)
/-- a list of numbers in ascending order, each an element of a set -/
def SetOk (l : List Int) : Prop := ∀ i, i < l.length → 0 ≤ l.getD i 0 ∧ l.getD i 0 < 512 ∧ (0 < i → l.getD (i - 1) 0 < l.getD i 0)
def Bd (x : Int) : Prop := 0 ≤ x ∧ x ≤ 2147483647
instance (x : Int) : Decidable (Bd x) := by unfold Bd; exact inferInstance
/-- a graph -/
def GrOk (g : List (List Int)) : Prop := 1 ≤ g.length ∧ g.length ≤ 80 ∧ ∀ i, i < g.length → SetOk (g.getD i []) ∧ (0 < (g.getD i []).length → (g.getD i []).getD ((g.getD i []).length - 1) 0 < g.length)
/-- the successors of a function -/
def nx (g : List (List Int)) (i : Nat) : List Int := g.getD i []
theorem setOk_lt {l : List Int} (h : SetOk l) : ∀ j i, i < j → j < l.length → l.getD i 0 < l.getD j 0 := by
  intro j
  induction j with
  | zero => intro i hi; omega
  | succ j ih =>
    intro i hi hj
    have h1 := (h (j + 1) hj).2.2 (by omega)
    rcases Nat.lt_or_ge i j with hlt | hge
    · have := ih i hlt (by omega)
      have e : j + 1 - 1 = j := by omega
      rw [e] at h1
      omega
    · have e : i = j := by omega
      subst e
      simpa using h1
/-- each successor is a function -/
theorem grOk_lt {g : List (List Int)} (h : GrOk g) (i : Nat) (hi : i < g.length) (k : Nat) (hk : k < (nx g i).length) : 0 ≤ (nx g i).getD k 0 ∧ (nx g i).getD k 0 < g.length := by
  obtain ⟨h1, h2⟩ := h.2.2 i hi
  refine ⟨(h1 k hk).1, ?_⟩
  have hl := h2 (by show 0 < (nx g i).length; omega)
  rcases Nat.lt_or_ge k ((nx g i).length - 1) with hlt | hge
  · have := setOk_lt h1 _ k hlt (by show (nx g i).length - 1 < (nx g i).length; omega)
    show (g.getD i []).getD k 0 < _
    exact Int.lt_trans this hl
  · have e : k = (nx g i).length - 1 := by omega
    rw [e]
    exact hl
/-- the weights and the numbers fit the graph -/
def Right (g : List (List Int)) (w : List Int) : Prop := GrOk g ∧ w.length = g.length ∧ ∀ i, i < w.length → Bd (w.getD i 0)
def Matched (g : List (List Int)) (w c : List Int) : Prop := Right g w ∧ c.length = g.length
/-- the number of function i is wrong -/
def Wrong (g : List (List Int)) (w c : List Int) (i : Nat) : Prop :=
  ¬ Bd (c.getD i 0) ∨ c.getD i 0 < w.getD i 0 ∨ ∃ k, k < (nx g i).length ∧ c.getD i 0 - w.getD i 0 < c.getD ((nx g i).getD k 0).toNat 0
/-- what Broken answers -/
def BrokenR (g : List (List Int)) (w c : List Int) (r : Int × Bool) : Prop :=
  (Matched g w c ∧ ∃ i, i < g.length ∧ Wrong g w c i ∧ (∀ j, j < i → ¬ Wrong g w c j) ∧ r = ((i : Int), true)) ∨
  ((Matched g w c → ∀ i, i < g.length → ¬ Wrong g w c i) ∧ r = (0, false))
theorem brokenR_unique {g : List (List Int)} {w c : List Int} {r s : Int × Bool} (h : BrokenR g w c r) (k : BrokenR g w c s) : r = s := by
  rcases h with ⟨hm, i, hi, hw, hl, rfl⟩ | ⟨hn, rfl⟩ <;> rcases k with ⟨km, j, hj, kw, kl, rfl⟩ | ⟨kn, rfl⟩
  · rcases Nat.lt_trichotomy i j with h1 | h1 | h1
    · exact absurd hw (kl i h1)
    · rw [h1]
    · exact absurd kw (hl j h1)
  · exact absurd hw (kn hm i hi)
  · exact absurd kw (hn km j hj)
  · rfl
/-- what Check answers -/
noncomputable def chkV (g : List (List Int)) (w c : List Int) : Int := by
  classical exact if Matched g w c then (if ∃ i, i < g.length ∧ Wrong g w c i then 14 else 0) else 4
theorem chkV_ok {g : List (List Int)} {w c : List Int} : chkV g w c = 0 ↔ Matched g w c ∧ ∀ i, i < g.length → ¬ Wrong g w c i := by
  unfold chkV
  by_cases hm : Matched g w c
  · by_cases hw : ∃ i, i < g.length ∧ Wrong g w c i
    · simp only [if_pos hm, if_pos hw]
      obtain ⟨i, h1, h2⟩ := hw
      exact ⟨fun h => absurd h (by decide), fun h => absurd h2 (h.2 i h1)⟩
    · simp only [if_pos hm, if_neg hw]
      exact ⟨fun _ => ⟨hm, fun i hi h => hw ⟨i, hi, h⟩⟩, fun _ => trivial⟩
  · simp only [if_neg hm]
    exact ⟨fun h => absurd h (by decide), fun h => absurd h.1 hm⟩
/-- the greatest number of the successors, and 0 -/
def most (c : List Int) (l : List Int) : Int := l.foldl (fun m j => max m (c.getD j.toNat 0)) 0
theorem foldl_max_le (f : Int → Int) (l : List Int) : ∀ (m x : Int), l.foldl (fun m j => max m (f j)) m ≤ x ↔ m ≤ x ∧ ∀ k, k < l.length → f (l.getD k 0) ≤ x := by
  induction l with
  | nil => intro m x; simp
  | cons a r ih =>
    intro m x
    rw [List.foldl_cons, ih]
    constructor
    · rintro ⟨h1, h2⟩
      refine ⟨by omega, fun k hk => ?_⟩
      cases k with
      | zero => simp; omega
      | succ k => simpa using h2 k (by simpa using hk)
    · rintro ⟨h1, h2⟩
      refine ⟨?_, fun k hk => ?_⟩
      · have := h2 0 (by simp)
        simp at this
        omega
      · simpa using h2 (k + 1) (by simpa using hk)
theorem most_le {c l : List Int} {x : Int} : most c l ≤ x ↔ 0 ≤ x ∧ ∀ k, k < l.length → c.getD (l.getD k 0).toNat 0 ≤ x := foldl_max_le (fun j => c.getD j.toNat 0) l 0 x
theorem not_wrong {g : List (List Int)} {w c : List Int} {i : Nat} : ¬ Wrong g w c i ↔ Bd (c.getD i 0) ∧ w.getD i 0 + most c (nx g i) ≤ c.getD i 0 := by
  unfold Wrong
  constructor
  · intro h
    have h1 : Bd (c.getD i 0) := Classical.byContradiction fun k => h (.inl k)
    have h2 : w.getD i 0 ≤ c.getD i 0 := Int.not_lt.1 fun k => h (.inr (.inl k))
    refine ⟨h1, ?_⟩
    have : most c (nx g i) ≤ c.getD i 0 - w.getD i 0 := most_le.2 ⟨by omega, fun k hk => Int.not_lt.1 fun hh => h (.inr (.inr ⟨k, hk, hh⟩))⟩
    omega
  · rintro ⟨h1, h2⟩ (h | h | ⟨k, hk, h⟩)
    · exact h h1
    · have := (most_le (c := c) (l := nx g i) (x := c.getD i 0 - w.getD i 0)).1 (by omega)
      omega
    · have := ((most_le (c := c) (l := nx g i) (x := c.getD i 0 - w.getD i 0)).1 (by omega)).2 k hk
      omega
end Go.Proofs.Ytgamodmenlhedaa.cf
