/- Bounds of graphs without cycles, ways and cycles: plain mathematics. -/
import Derived.Test.YtgamodmenlhedaaCfPlain
namespace Go.Proofs.Ytgamodmenlhedaa.cf
set_option linter.unusedVariables false

/-- the k-th successor of i -/
def sc (g : List (List Int)) (i k : Nat) : Nat := ((nx g i).getD k 0).toNat
/-- successors have a lower rank: the graph has no cycle -/
def Ranked (g : List (List Int)) (rk : Nat → Nat) : Prop := ∀ i, i < g.length → ∀ k, k < (nx g i).length → rk (sc g i k) < rk i
/-- b solves the equations of the bounds -/
def Sol (g : List (List Int)) (w b : List Int) : Prop := b.length = g.length ∧ ∀ i, i < g.length → b.getD i 0 = w.getD i 0 + most b (nx g i)
theorem sc_lt {g : List (List Int)} (h : GrOk g) {i k : Nat} (hi : i < g.length) (hk : k < (nx g i).length) : sc g i k < g.length := by
  have := grOk_lt h i hi k hk
  unfold sc; omega
theorem most_nonneg (c l : List Int) : 0 ≤ most c l := ((most_le (x := most c l)).1 (Int.le_refl _)).1
theorem most_ge (c l : List Int) (k : Nat) (hk : k < l.length) : c.getD (l.getD k 0).toNat 0 ≤ most c l := ((most_le (x := most c l)).1 (Int.le_refl _)).2 k hk
theorem most_mono {b c l : List Int} (h : ∀ k, k < l.length → b.getD (l.getD k 0).toNat 0 ≤ c.getD (l.getD k 0).toNat 0) : most b l ≤ most c l :=
  most_le.2 ⟨most_nonneg _ _, fun k hk => Int.le_trans (h k hk) (most_ge c l k hk)⟩
theorem most_congr {b c l : List Int} (h : ∀ k, k < l.length → b.getD (l.getD k 0).toNat 0 = c.getD (l.getD k 0).toNat 0) : most b l = most c l :=
  Int.le_antisymm (most_mono fun k hk => by rw [h k hk]; exact Int.le_refl _) (most_mono fun k hk => by rw [h k hk]; exact Int.le_refl _)
/-- accepted numbers are at least the bounds -/
theorem accepted_ge {g : List (List Int)} {w b c : List Int} {rk : Nat → Nat} (hg : GrOk g) (hr : Ranked g rk) (hb : Sol g w b) (hc : ∀ i, i < g.length → ¬ Wrong g w c i) : ∀ i, i < g.length → b.getD i 0 ≤ c.getD i 0 := by
  have key : ∀ r i, rk i < r → i < g.length → b.getD i 0 ≤ c.getD i 0 := by
    intro r
    induction r with
    | zero => intro i h; omega
    | succ r ih =>
      intro i h hi
      have h1 := (not_wrong.1 (hc i hi)).2
      rw [hb.2 i hi]
      have : most b (nx g i) ≤ most c (nx g i) := most_mono fun k hk => ih _ (by have := hr i hi k hk; unfold sc at this; omega) (sc_lt hg hi hk)
      omega
  exact fun i hi => key _ i (Nat.lt_succ_self _) hi
/-- the equations have one solution -/
theorem sol_unique {g : List (List Int)} {w b c : List Int} {rk : Nat → Nat} (hg : GrOk g) (hr : Ranked g rk) (hb : Sol g w b) (hc : Sol g w c) : b = c := by
  have key : ∀ r i, rk i < r → i < g.length → b.getD i 0 = c.getD i 0 := by
    intro r
    induction r with
    | zero => intro i h; omega
    | succ r ih =>
      intro i h hi
      rw [hb.2 i hi, hc.2 i hi]
      congr 1
      exact most_congr fun k hk => ih _ (by have := hr i hi k hk; unfold sc at this; omega) (sc_lt hg hi hk)
  apply List.ext_getElem?
  intro i
  rcases Nat.lt_or_ge i g.length with hi | hi
  · have := key _ i (Nat.lt_succ_self _) hi
    rw [List.getD_eq_getElem?_getD, List.getD_eq_getElem?_getD, List.getElem?_eq_getElem (by rw [hb.1]; exact hi), List.getElem?_eq_getElem (by rw [hc.1]; exact hi)] at this
    rw [List.getElem?_eq_getElem (by rw [hb.1]; exact hi), List.getElem?_eq_getElem (by rw [hc.1]; exact hi)]
    simpa using this
  · rw [List.getElem?_eq_none (by rw [hb.1]; exact hi), List.getElem?_eq_none (by rw [hc.1]; exact hi)]
/-- a sum is too great where the functions in D are done -/
def Over (g : List (List Int)) (w : List Int) : Prop :=
  ∃ (D : Nat → Prop) (out : List Int) (f : Nat), f < g.length ∧ (∀ i, D i → i < g.length ∧ (∀ k, k < (nx g i).length → D (sc g i k)) ∧ out.getD i 0 = w.getD i 0 + most out (nx g i)) ∧
    (∀ k, k < (nx g f).length → D (sc g f k)) ∧ 2147483647 < w.getD f 0 + most out (nx g f)
theorem not_over {g : List (List Int)} {w c : List Int} {rk : Nat → Nat} (hg : GrOk g) (hr : Ranked g rk) (hc : ∀ i, i < g.length → ¬ Wrong g w c i) : ¬ Over g w := by
  rintro ⟨D, out, f, hf, hD, hs, ho⟩
  have key : ∀ r i, rk i < r → D i → out.getD i 0 ≤ c.getD i 0 := by
    intro r
    induction r with
    | zero => intro i h; omega
    | succ r ih =>
      intro i h hi
      obtain ⟨h0, h1, h2⟩ := hD i hi
      have h3 := (not_wrong.1 (hc i h0)).2
      rw [h2]
      have : most out (nx g i) ≤ most c (nx g i) := most_mono fun k hk => ih _ (by have := hr i h0 k hk; unfold sc at this; omega) (h1 k hk)
      omega
  have h3 := not_wrong.1 (hc f hf)
  have : most out (nx g f) ≤ most c (nx g f) := most_mono fun k hk => key _ _ (Nat.lt_succ_self _) (hs k hk)
  have := h3.1.2
  omega
/-- functions of which each has a successor among them -/
def Stuck (g : List (List Int)) : Prop := ∃ S : Nat → Prop, (∃ i, S i) ∧ ∀ i, S i → i < g.length ∧ ∃ k, k < (nx g i).length ∧ S (sc g i k)
theorem stuck_not_ranked {g : List (List Int)} {rk : Nat → Nat} (h : Stuck g) (hr : Ranked g rk) : False := by
  obtain ⟨S, ⟨i, hi⟩, hS⟩ := h
  have key : ∀ r i, rk i < r → ¬ S i := by
    intro r
    induction r with
    | zero => intro i h; omega
    | succ r ih =>
      intro i h hi
      obtain ⟨h0, k, hk, hs⟩ := hS i hi
      exact ih _ (by have := hr i h0 k hk; omega) hs
  exact key _ i (Nat.lt_succ_self _) hi
/-- a walk of n edges -/
def Walk (g : List (List Int)) : Nat → Nat → Nat → Prop
  | 0, i, j => i = j
  | n + 1, i, j => ∃ k, k < (nx g i).length ∧ Walk g n (sc g i k) j
theorem walk_down {g : List (List Int)} {w c : List Int} (hg : GrOk g) (hc : ∀ i, i < g.length → ¬ Wrong g w c i) (hw : ∀ i, i < g.length → 1 ≤ w.getD i 0) : ∀ n i j, i < g.length → Walk g n i j → c.getD j 0 + n ≤ c.getD i 0 := by
  intro n
  induction n with
  | zero => intro i j hi h; rw [show i = j from h]; omega
  | succ n ih =>
    rintro i j hi ⟨k, hk, h⟩
    have h1 := ih _ _ (sc_lt hg hi hk) h
    have h2 := (not_wrong.1 (hc i hi)).2
    have h3 := most_ge c (nx g i) k hk
    have h4 := hw i hi
    unfold sc at h1
    omega
/-- accepted numbers of functions with weights leave no cycle -/
theorem no_cycle {g : List (List Int)} {w c : List Int} (hg : GrOk g) (hc : ∀ i, i < g.length → ¬ Wrong g w c i) (hw : ∀ i, i < g.length → 1 ≤ w.getD i 0) {n i : Nat} (hi : i < g.length) (hn : 1 ≤ n) : ¬ Walk g n i i := fun h => by
  have := walk_down hg hc hw n i i hi h
  omega
theorem pigeon : ∀ (n : Nat) (f : Nat → Nat), (∀ i, i ≤ n → f i < n) → ∃ i j, i < j ∧ j ≤ n ∧ f i = f j := by
  intro n
  induction n with
  | zero => intro f h; exact absurd (h 0 (Nat.le_refl _)) (by omega)
  | succ n ih =>
    intro f h
    by_cases hx : ∃ i, i ≤ n ∧ f i = f (n + 1)
    · obtain ⟨i, hi, e⟩ := hx
      exact ⟨i, n + 1, by omega, by omega, e⟩
    · obtain ⟨i, j, h1, h2, h3⟩ := ih (fun i => if f i = n then f (n + 1) else f i) (fun i hi => by
        have a := h i (by omega)
        have b := h (n + 1) (by omega)
        have c : f i ≠ f (n + 1) := fun e => hx ⟨i, hi, e⟩
        split <;> omega)
      refine ⟨i, j, h1, by omega, ?_⟩
      have c1 : f i ≠ f (n + 1) := fun e => hx ⟨i, by omega, e⟩
      have c2 : f j ≠ f (n + 1) := fun e => hx ⟨j, by omega, e⟩
      split at h3 <;> split at h3 <;> omega
theorem walk_snoc {g : List (List Int)} : ∀ n i j, Walk g n i j → ∀ k, k < (nx g j).length → Walk g (n + 1) i (sc g j k) := by
  intro n
  induction n with
  | zero => intro i j h k hk; rw [show i = j from h]; exact ⟨k, hk, rfl⟩
  | succ n ih => rintro i j ⟨a, ha, h⟩ k hk; exact ⟨a, ha, ih _ _ h k hk⟩
/-- functions of which each has a successor among them bear a cycle of at most so many edges as there are functions -/
theorem stuck_cycle {g : List (List Int)} (h : Stuck g) : ∃ i n, i < g.length ∧ 1 ≤ n ∧ n ≤ g.length ∧ Walk g n i i := by
  obtain ⟨S, ⟨i0, hi0⟩, hS⟩ := h
  have hstep : ∀ i : {i // S i}, ∃ j : {j // S j}, ∃ k, k < (nx g i.1).length ∧ sc g i.1 k = j.1 := fun i => by
    obtain ⟨_, k, hk, hs⟩ := hS i.1 i.2
    exact ⟨⟨_, hs⟩, k, hk, rfl⟩
  let step : {i // S i} → {i // S i} := fun i => Classical.choose (hstep i)
  have hst : ∀ i, ∃ k, k < (nx g i.1).length ∧ sc g i.1 k = (step i).1 := fun i => Classical.choose_spec (hstep i)
  let s : Nat → {i // S i} := fun n => Nat.rec ⟨i0, hi0⟩ (fun _ x => step x) n
  have hwalk : ∀ d m, Walk g d (s m).1 (s (m + d)).1 := by
    intro d
    induction d with
    | zero => intro m; exact rfl
    | succ d ih =>
      intro m
      obtain ⟨k, hk, e⟩ := hst (s (m + d))
      have := walk_snoc d _ _ (ih m) k hk
      rw [e] at this
      exact this
  obtain ⟨a, b, hab, hb, e⟩ := pigeon g.length (fun n => (s n).1) (fun n _ => (hS _ (s n).2).1)
  refine ⟨(s a).1, b - a, (hS _ (s a).2).1, by omega, by omega, ?_⟩
  have := hwalk (b - a) a
  rw [show a + (b - a) = b by omega] at this
  rw [← e] at this
  exact this
end Go.Proofs.Ytgamodmenlhedaa.cf
