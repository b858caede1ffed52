/- Orders of graphs, and sums in such an order: plain mathematics. -/
import Derived.Test.YtgamodmenlhedaaCfPlain2
namespace Go.Proofs.Ytgamodmenlhedaa.cf
set_option linter.unusedVariables false

theorem mem_getD0 {l : List Int} {x : Int} : x ∈ l ↔ ∃ i, i < l.length ∧ l.getD i 0 = x := by
  rw [List.mem_iff_getElem]
  constructor
  · rintro ⟨i, hi, h⟩
    exact ⟨i, hi, by rw [List.getD_eq_getElem?_getD, List.getElem?_eq_getElem hi]; exact h⟩
  · rintro ⟨i, hi, h⟩
    rw [List.getD_eq_getElem?_getD, List.getElem?_eq_getElem hi] at h
    exact ⟨i, hi, h⟩
/-- a part of an order: functions of which each one's successors come earlier -/
def Part (g : List (List Int)) (out : List Int) : Prop :=
  ∀ p, p < out.length → (∃ i : Nat, out.getD p 0 = (i : Int) ∧ i < g.length ∧ ∀ k, k < (nx g i).length → (nx g i).getD k 0 ∈ out.take p) ∧ out.getD p 0 ∉ out.take p
theorem getD_take {l : List Int} {p q : Nat} (h : q < p) : (l.take p).getD q 0 = l.getD q 0 := by
  rw [List.getD_eq_getElem?_getD, List.getD_eq_getElem?_getD, List.getElem?_take, if_pos h]
theorem getD_app_lt {l m : List Int} {q : Nat} (h : q < l.length) : (l ++ m).getD q 0 = l.getD q 0 := by
  rw [List.getD_eq_getElem?_getD, List.getD_eq_getElem?_getD, List.getElem?_append_left h]
theorem getD_app_end {l : List Int} {x : Int} : (l ++ [x]).getD l.length 0 = x := by
  rw [List.getD_eq_getElem?_getD, List.getElem?_append_right (Nat.le_refl _)]; simp
theorem part_nil (g : List (List Int)) : Part g [] := fun p hp => absurd hp (by simp)
theorem part_snoc {g : List (List Int)} {out : List Int} {i : Nat} (h : Part g out) (hi : i < g.length) (hn : (i : Int) ∉ out) (hs : ∀ k, k < (nx g i).length → (nx g i).getD k 0 ∈ out) : Part g (out ++ [(i : Int)]) := by
  intro p hp
  simp at hp
  rcases Nat.lt_or_ge p out.length with hlt | hge
  · rw [getD_app_lt hlt, List.take_append_of_le_length (by omega)]
    exact h p hlt
  · obtain rfl : p = out.length := by omega
    rw [getD_app_end, List.take_append_of_le_length (by omega), List.take_of_length_le (by omega)]
    exact ⟨⟨i, rfl, hi, hs⟩, hn⟩
/-- an order that is too short misses a function -/
theorem part_miss {out : List Int} {n : Nat} (hl : out.length < n) : ∃ i : Nat, i < n ∧ (i : Int) ∉ out := by
  apply Classical.byContradiction
  intro hc
  have hin : ∀ i : Nat, i < n → (i : Int) ∈ out := fun i hi => Classical.byContradiction fun h => hc ⟨i, hi, h⟩
  have hf : ∀ i : Nat, ∃ p, i < n → (p < out.length ∧ out.getD p 0 = (i : Int)) := fun i => by
    by_cases hi : i < n
    · obtain ⟨p, h1, h2⟩ := mem_getD0.1 (hin i hi)
      exact ⟨p, fun _ => ⟨h1, h2⟩⟩
    · exact ⟨0, fun h => absurd h hi⟩
  obtain ⟨i, j, h1, h2, h3⟩ := pigeon out.length (fun i => Classical.choose (hf i)) (fun i hi => (Classical.choose_spec (hf i) (by omega)).1)
  have e1 := (Classical.choose_spec (hf i) (by omega)).2
  have e2 := (Classical.choose_spec (hf j) (by omega)).2
  replace h3 : Classical.choose (hf i) = Classical.choose (hf j) := h3
  rw [h3] at e1
  omega
/-- no function can come next: the graph has a cycle -/
theorem part_stuck {g : List (List Int)} {out : List Int} (hg : GrOk g) (hl : out.length < g.length) (hno : ∀ i : Nat, i < g.length → (i : Int) ∉ out → ∃ k, k < (nx g i).length ∧ (nx g i).getD k 0 ∉ out) : Stuck g := by
  obtain ⟨i, hi, hn⟩ := part_miss hl
  refine ⟨fun i => i < g.length ∧ (i : Int) ∉ out, ⟨i, hi, hn⟩, fun i ⟨h1, h2⟩ => ⟨h1, ?_⟩⟩
  obtain ⟨k, hk, h⟩ := hno i h1 h2
  refine ⟨k, hk, sc_lt hg h1 hk, ?_⟩
  have := grOk_lt hg i h1 k hk
  unfold sc
  rw [Int.toNat_of_nonneg this.1]
  exact h
theorem idx_le {l : List Int} {x : Int} {q : Nat} (hq : q < l.length) (h : l.getD q 0 = x) : l.idxOf x ≤ q := by
  induction l generalizing q with
  | nil => simp at hq
  | cons a r ih =>
    rw [List.idxOf_cons]
    by_cases ha : a = x
    · simp [ha]
    · cases q with
      | zero => exact absurd (by simpa using h) ha
      | succ q =>
        have hb : (a == x) = false := by simpa using ha
        rw [hb]
        have := ih (q := q) (by simpa using hq) (by simpa using h)
        simp; omega
theorem idx_at {l : List Int} {x : Int} (h : x ∈ l) : l.idxOf x < l.length ∧ l.getD (l.idxOf x) 0 = x := by
  have h1 : l.idxOf x < l.length := List.idxOf_lt_length_iff.2 h
  refine ⟨h1, ?_⟩
  rw [List.getD_eq_getElem?_getD, List.getElem?_eq_getElem h1]
  simp
/-- a whole order gives each function a rank -/
theorem part_ranked {g : List (List Int)} {out : List Int} (hg : GrOk g) (h : Part g out) (hin : ∀ i : Nat, i < g.length → (i : Int) ∈ out) : Ranked g (fun i => out.idxOf (i : Int)) := by
  intro i hi k hk
  obtain ⟨h1, h2⟩ := idx_at (hin i hi)
  obtain ⟨⟨j, hj, _, hs⟩, _⟩ := h _ h1
  rw [h2] at hj
  have e : i = j := by omega
  subst e
  obtain ⟨q, hq, hv⟩ := mem_getD0.1 (hs k hk)
  rw [List.length_take] at hq
  rw [getD_take (by omega)] at hv
  have hr := grOk_lt hg i hi k hk
  have e2 : ((sc g i k : Nat) : Int) = (nx g i).getD k 0 := by unfold sc; exact Int.toNat_of_nonneg hr.1
  show out.idxOf ((sc g i k : Nat) : Int) < out.idxOf (i : Int)
  rw [e2]
  have := idx_le (l := out) (by omega) hv
  omega
theorem part_full {g : List (List Int)} {out : List Int} (h : Part g out) (hl : out.length = g.length) : ∀ i : Nat, i < g.length → (i : Int) ∈ out := by
  -- out has as many entries as there are functions, no two alike: each function is there
  intro i hi
  apply Classical.byContradiction
  intro hn
  have hdist : ∀ p q, p < q → q < out.length → out.getD p 0 ≠ out.getD q 0 := fun p q h1 h2 e => (h q h2).2 (by rw [← e]; exact mem_getD0.2 ⟨p, by rw [List.length_take]; omega, getD_take h1⟩)
  have hv : ∀ p, p < out.length → ∃ j : Nat, out.getD p 0 = (j : Int) ∧ j < g.length ∧ j ≠ i := fun p hp => by
    obtain ⟨⟨j, h1, h2, _⟩, _⟩ := h p hp
    exact ⟨j, h1, h2, fun e => hn (mem_getD0.2 ⟨p, hp, by rw [h1, e]⟩)⟩
  -- move the last number to the place of i: out.length entries below out.length - 1
  obtain ⟨n, hn'⟩ : ∃ n, g.length = n + 1 := ⟨g.length - 1, by omega⟩
  obtain ⟨p, q, h1, h2, h3⟩ := pigeon n (fun p => if (out.getD p 0).toNat = n then i else (out.getD p 0).toNat) (fun p hp => by
    obtain ⟨j, e, hj, hji⟩ := hv p (by omega)
    simp only [e, Int.toNat_natCast]
    split <;> omega)
  obtain ⟨j, e, hj, hji⟩ := hv p (by omega)
  obtain ⟨j', e', hj', hji'⟩ := hv q (by omega)
  simp only [e, e', Int.toNat_natCast] at h3
  have hd := hdist p q h1 (by omega)
  rw [e, e'] at hd
  split at h3 <;> split at h3 <;> omega
/-- sums in an order: the functions of the order's first part have their bounds -/
def SumTo (g : List (List Int)) (w out b : List Int) (i : Nat) : Prop :=
  b.length = g.length ∧ (∀ k, Bd (b.getD k 0)) ∧ ∀ p, p < i → ∃ f : Nat, out.getD p 0 = (f : Int) ∧ b.getD f 0 = w.getD f 0 + most b (nx g f)
theorem getD_set_ne {b : List Int} {f k : Nat} {x : Int} (h : f ≠ k) : (b.set f x).getD k 0 = b.getD k 0 := by
  rw [List.getD_eq_getElem?_getD, List.getD_eq_getElem?_getD, List.getElem?_set_ne h]
theorem getD_set_eq {b : List Int} {f : Nat} {x : Int} (h : f < b.length) : (b.set f x).getD f 0 = x := by
  rw [List.getD_eq_getElem?_getD, List.getElem?_set_self h]; rfl
theorem most_set {g : List (List Int)} {b : List Int} {f j : Nat} {x : Int} (h : ∀ k, k < (nx g j).length → f ≠ ((nx g j).getD k 0).toNat) : most (b.set f x) (nx g j) = most b (nx g j) :=
  most_congr fun k hk => getD_set_ne (h k hk)
theorem sumTo_succ {g : List (List Int)} {w out b : List Int} {i f : Nat} (hg : GrOk g) (hp : Part g out) (h : SumTo g w out b i) (hi : i < out.length) (hf : out.getD i 0 = (f : Int)) (hfl : f < g.length) (hb : Bd (w.getD f 0 + most b (nx g f))) :
    SumTo g w out (b.set f (w.getD f 0 + most b (nx g f))) (i + 1) := by
  obtain ⟨h0, h1, h2⟩ := h
  have hne : ∀ p, p < i → out.getD p 0 ≠ (f : Int) := fun p hpi e => (hp i hi).2 (by rw [hf, ← e]; exact mem_getD0.2 ⟨p, by rw [List.length_take]; omega, getD_take hpi⟩)
  refine ⟨by simpa using h0, fun k => ?_, fun p hpi => ?_⟩
  · by_cases hk : f = k
    · subst hk; rw [getD_set_eq (by omega)]; exact hb
    · rw [getD_set_ne hk]; exact h1 k
  · -- the successors of what stands at p come before p
    have hsucc : ∀ p, p ≤ i → ∀ j : Nat, out.getD p 0 = (j : Int) → ∀ k, k < (nx g j).length → f ≠ ((nx g j).getD k 0).toNat := fun p hpi j hj k hk e => by
      obtain ⟨⟨j', hj', hjl, hs⟩, _⟩ := hp p (by omega)
      have : j = j' := by omega
      subst this
      obtain ⟨q, hq, hv⟩ := mem_getD0.1 (hs k hk)
      rw [List.length_take] at hq
      rw [getD_take (by omega)] at hv
      have hr := grOk_lt hg j hjl k hk
      exact hne q (by omega) (by rw [hv]; omega)
    rcases Nat.lt_or_ge p i with hlt | hge
    · obtain ⟨j, hj, hv⟩ := h2 p hlt
      have hjf : f ≠ j := fun e => hne p hlt (by rw [hj, e])
      exact ⟨j, hj, by rw [getD_set_ne hjf, most_set (hsucc p (by omega) j hj)]; exact hv⟩
    · obtain rfl : p = i := by omega
      exact ⟨f, hf, by rw [getD_set_eq (by omega), most_set (hsucc p (Nat.le_refl _) f hf)]⟩
theorem sumTo_sol {g : List (List Int)} {w out b : List Int} (hp : Part g out) (hl : out.length = g.length) (h : SumTo g w out b out.length) : Sol g w b := by
  refine ⟨h.1, fun i hi => ?_⟩
  obtain ⟨p, h1, h2⟩ := mem_getD0.1 (part_full hp hl i hi)
  obtain ⟨f, h3, h4⟩ := h.2.2 p h1
  have : f = i := by omega
  subst this
  exact h4
theorem sumTo_over {g : List (List Int)} {w out b : List Int} {i f : Nat} (hg : GrOk g) (hp : Part g out) (h : SumTo g w out b i) (hi : i < out.length) (hf : out.getD i 0 = (f : Int)) (hfl : f < g.length) (hb : 2147483647 < w.getD f 0 + most b (nx g f)) : Over g w := by
  obtain ⟨h0, h1, h2⟩ := h
  have hsucc : ∀ p, p ≤ i → ∀ j : Nat, out.getD p 0 = (j : Int) → ∀ k, k < (nx g j).length → ∃ q, q < p ∧ out.getD q 0 = ((sc g j k : Nat) : Int) := fun p hpi j hj k hk => by
    obtain ⟨⟨j', hj', hjl, hs⟩, _⟩ := hp p (by omega)
    have : j = j' := by omega
    subst this
    obtain ⟨q, hq, hv⟩ := mem_getD0.1 (hs k hk)
    rw [List.length_take] at hq
    rw [getD_take (by omega)] at hv
    have hr := grOk_lt hg j hjl k hk
    exact ⟨q, by omega, by rw [hv]; unfold sc; rw [Int.toNat_of_nonneg hr.1]⟩
  refine ⟨fun j => ∃ p, p < i ∧ out.getD p 0 = (j : Int), b, f, hfl, ?_, ?_, hb⟩
  · rintro j ⟨p, hpi, hj⟩
    obtain ⟨⟨j', hj', hjl, _⟩, _⟩ := hp p (by omega)
    have : j = j' := by omega
    subst this
    refine ⟨hjl, fun k hk => ?_, ?_⟩
    · obtain ⟨q, hq, hv⟩ := hsucc p (by omega) j hj k hk
      exact ⟨q, by omega, hv⟩
    · obtain ⟨f', hf', hv⟩ := h2 p hpi
      have : f' = j := by omega
      subst this
      exact hv
  · intro k hk
    exact hsucc i (Nat.le_refl _) f hf k hk
end Go.Proofs.Ytgamodmenlhedaa.cf
