/- Walks of so many edges, as sets; unions of sets: plain mathematics. -/
import Derived.Test.YtgamodmenlhedaaCf17
namespace Go.Proofs.Ytgamodmenlhedaa.cf
set_option linter.unusedVariables false

theorem walk_unsnoc {g : List (List Int)} : ∀ n i j, Walk g (n + 1) i j → ∃ m, Walk g n i m ∧ ∃ k, k < (nx g m).length ∧ sc g m k = j := by
  intro n
  induction n with
  | zero => rintro i j ⟨k, hk, h⟩; exact ⟨i, rfl, k, hk, h⟩
  | succ n ih =>
    rintro i j ⟨k, hk, h⟩
    obtain ⟨m, h1, h2⟩ := ih _ _ h
    exact ⟨m, ⟨k, hk, h1⟩, h2⟩
theorem walk_lt {g : List (List Int)} (hg : GrOk g) : ∀ n i j, i < g.length → Walk g n i j → j < g.length := by
  intro n
  induction n with
  | zero => intro i j hi h; rw [← show i = j from h]; exact hi
  | succ n ih => rintro i j hi ⟨k, hk, h⟩; exact ih _ _ (sc_lt hg hi hk) h
theorem unionL_mem {y : Int} : ∀ (b a : List Int), (∀ x ∈ b, 0 ≤ x ∧ x < 512) → (y ∈ unionL a b ↔ y ∈ a ∨ y ∈ b)
  | [], a, _ => by simp [unionL]
  | x :: r, a, h => by
    have hx := h x (by simp)
    have ih := unionL_mem (y := y) r (addL a x) (fun z hz => h z (by simp [hz]))
    unfold unionL at ih ⊢
    rw [List.foldl_cons, ih, addL_mem hx.1 hx.2]
    simp only [List.mem_cons]
    constructor
    · rintro ((h1 | h1) | h1)
      · exact .inl h1
      · exact .inr (.inl h1)
      · exact .inr (.inr h1)
    · rintro (h1 | h1 | h1)
      · exact .inl (.inl h1)
      · exact .inl (.inr h1)
      · exact .inr h1
theorem unionL_ok : ∀ (b a : List Int), SetOk a → (∀ x ∈ b, 0 ≤ x ∧ x < 512) → SetOk (unionL a b)
  | [], a, h, _ => h
  | x :: r, a, h, hb => by
    have hx := hb x (by simp)
    unfold unionL
    rw [List.foldl_cons]
    exact unionL_ok r _ (addL_ok h hx.1 hx.2) (fun z hz => hb z (by simp [hz]))
/-- the functions that are reached by walks of so many edges -/
def Reach (g : List (List Int)) (i t : Nat) (L : List Int) : Prop := SetOk L ∧ ∀ x, x ∈ L ↔ ∃ j : Nat, x = (j : Int) ∧ Walk g t i j
/-- what comes of the first q of them -/
def Next (g : List (List Int)) (L : List Int) (q : Nat) (N : List Int) : Prop := SetOk N ∧ ∀ x, x ∈ N ↔ ∃ p, p < q ∧ x ∈ nx g (L.getD p 0).toNat
theorem setOk_nil : SetOk [] := fun i hi => absurd hi (by simp)
theorem reach_start {g : List (List Int)} {i : Nat} (hi : i < 512) : Reach g i 0 [(i : Int)] := by
  refine ⟨setOk_iff.2 ⟨fun x hx => by simp at hx; omega, by simp⟩, fun x => ?_⟩
  simp only [List.mem_singleton]
  constructor
  · intro h; exact ⟨i, h, rfl⟩
  · rintro ⟨j, h, h2⟩; rw [h, show i = j from h2]
theorem next_start (g : List (List Int)) (L : List Int) : Next g L 0 [] := ⟨setOk_nil, fun x => by simp⟩
theorem next_succ {g : List (List Int)} {L N : List Int} {q : Nat} (hg : GrOk g) (h : Next g L q N) (hl : (L.getD q 0).toNat < g.length) : Next g L (q + 1) (unionL N (nx g (L.getD q 0).toNat)) := by
  have hb : ∀ x ∈ nx g (L.getD q 0).toNat, 0 ≤ x ∧ x < 512 := (setOk_iff.1 (hg.2.2 _ hl).1).1
  refine ⟨unionL_ok _ _ h.1 hb, fun x => ?_⟩
  rw [unionL_mem _ _ hb, h.2 x]
  constructor
  · rintro (⟨p, hp, hx⟩ | hx)
    · exact ⟨p, by omega, hx⟩
    · exact ⟨q, by omega, hx⟩
  · rintro ⟨p, hp, hx⟩
    rcases Nat.lt_or_ge p q with h1 | h1
    · exact .inl ⟨p, h1, hx⟩
    · obtain rfl : p = q := by omega
      exact .inr hx
theorem next_reach {g : List (List Int)} {L N : List Int} {i t : Nat} (hg : GrOk g) (hi : i < g.length) (hr : Reach g i t L) (h : Next g L L.length N) : Reach g i (t + 1) N := by
  refine ⟨h.1, fun x => ?_⟩
  rw [h.2 x]
  constructor
  · rintro ⟨p, hp, hx⟩
    obtain ⟨j, hj, hw⟩ := (hr.2 _).1 (mem_getD.2 ⟨p, hp, rfl⟩)
    rw [hj, Int.toNat_natCast] at hx
    obtain ⟨k, hk, hv⟩ := mem_getD.1 hx
    have hjl := walk_lt hg _ _ _ hi hw
    have h2 := grOk_lt hg j hjl k hk
    exact ⟨sc g j k, by unfold sc; rw [Int.toNat_of_nonneg h2.1, hv], walk_snoc _ _ _ hw k hk⟩
  · rintro ⟨j, rfl, hw⟩
    obtain ⟨m, h1, k, hk, h2⟩ := walk_unsnoc _ _ _ hw
    obtain ⟨p, hp, hv⟩ := mem_getD.1 ((hr.2 (m : Int)).2 ⟨m, rfl, h1⟩)
    refine ⟨p, hp, ?_⟩
    rw [hv, Int.toNat_natCast]
    have hml := walk_lt hg _ _ _ hi h1
    have h3 := grOk_lt hg m hml k hk
    refine mem_getD.2 ⟨k, hk, ?_⟩
    rw [← h2]
    unfold sc
    rw [Int.toNat_of_nonneg h3.1]
theorem reach_lt {g : List (List Int)} {L : List Int} {i t : Nat} (hg : GrOk g) (hi : i < g.length) (hr : Reach g i t L) {q : Nat} (hq : q < L.length) : ∃ j : Nat, L.getD q 0 = (j : Int) ∧ j < g.length := by
  obtain ⟨j, hj, hw⟩ := (hr.2 _).1 (mem_getD.2 ⟨q, hq, rfl⟩)
  exact ⟨j, hj, walk_lt hg _ _ _ hi hw⟩
noncomputable def walkB (g : List (List Int)) (n i j : Nat) : Bool := by classical exact decide (Walk g n i j)
theorem walkB_iff {g : List (List Int)} {n i j : Nat} : walkB g n i j = true ↔ Walk g n i j := by unfold walkB; simp
theorem walkB_of {g : List (List Int)} {L : List Int} {i t j : Nat} (hr : Reach g i t L) : decide ((j : Int) ∈ L) = walkB g t i j := by
  rw [Bool.eq_iff_iff, decide_eq_true_iff, walkB_iff, hr.2]
  constructor
  · rintro ⟨k, hk, hw⟩; rw [show j = k by omega]; exact hw
  · intro h; exact ⟨j, rfl, h⟩
end Go.Proofs.Ytgamodmenlhedaa.cf
