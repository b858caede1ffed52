/- The draw Graph. -/
import Derived.Test.YtgamodmenlhedaaCf16
namespace Go.Proofs.Ytgamodmenlhedaa.cf
open Go.RowKit
set_option linter.unusedVariables false
set_option maxRecDepth 10000

theorem setOk_iff {l : List Int} : SetOk l ↔ (∀ x ∈ l, 0 ≤ x ∧ x < 512) ∧ l.Pairwise (· < ·) := by
  constructor
  · intro h
    refine ⟨fun x hx => ?_, ?_⟩
    · obtain ⟨i, hi, rfl⟩ := mem_getD.1 hx
      exact ⟨(h i hi).1, (h i hi).2.1⟩
    · rw [List.pairwise_iff_getElem]
      intro i j hi hj hij
      have := setOk_lt h j i hij hj
      rwa [List.getD_eq_getElem?_getD, List.getD_eq_getElem?_getD, List.getElem?_eq_getElem hi, List.getElem?_eq_getElem hj] at this
  · rintro ⟨h1, h2⟩ i hi
    have hm := h1 (l.getD i 0) (mem_getD.2 ⟨i, hi, rfl⟩)
    refine ⟨hm.1, hm.2, fun h0 => ?_⟩
    rw [List.pairwise_iff_getElem] at h2
    have := h2 (i - 1) i (by omega) hi (by omega)
    rwa [List.getD_eq_getElem?_getD, List.getD_eq_getElem?_getD, List.getElem?_eq_getElem hi, List.getElem?_eq_getElem (show i - 1 < l.length by omega)]
theorem addGo_true (x : Int) : ∀ l : List Int, addGo x l true = l
  | [] => rfl
  | a :: r => by rw [addGo, addGo_true x r]
theorem addGo_sorted (x : Int) : ∀ l : List Int, l.Pairwise (· < ·) → (addGo x l false).Pairwise (· < ·)
  | [], _ => by simp [addGo]
  | a :: r, h => by
    obtain ⟨h1, h2⟩ := List.pairwise_cons.1 h
    have hn : ¬ x ≤ a → (a :: addGo x r false).Pairwise (· < ·) := fun hxa => List.pairwise_cons.2 ⟨fun y hy => by
      rcases (addGo_mem x y r false).1 hy with h3 | ⟨_, h3⟩
      · exact h1 y h3
      · omega, addGo_sorted x r h2⟩
    have hy1 : x < a → (x :: a :: r).Pairwise (· < ·) := fun hxa => List.pairwise_cons.2 ⟨fun y hy => by
      rcases List.mem_cons.1 hy with h3 | h3
      · omega
      · have := h1 y h3; omega, h⟩
    unfold addGo
    rw [addGo_true]
    split
    · split
      · exact hy1 (by assumption)
      · exact h
    · exact hn (by assumption)
theorem addL_ok {l : List Int} {x : Int} (h : SetOk l) (h0 : 0 ≤ x) (h1 : x < 512) : SetOk (addL l x) := by
  obtain ⟨a, b⟩ := setOk_iff.1 h
  refine setOk_iff.2 ⟨fun y hy => ?_, ?_⟩
  · rcases (addL_mem h0 h1).1 hy with h2 | h2
    · exact a y h2
    · omega
  · unfold addL
    simp only [h0, h1, and_self, decide_true, Bool.not_true]
    exact addGo_sorted x l b
def RowGood (n : Nat) (free : Bool) (i : Nat) (row : List Int) : Prop := SetOk row ∧ (∀ x ∈ row, 0 ≤ x ∧ x < (n : Int) ∧ (free = true → (i : Int) < x)) ∧ row.length ≤ 3
def GHead (n : Nat) (free : Bool) (G : List (List Int)) (i : Nat) : Prop := ∀ j, RowGood n free j (G.getD j []) ∧ (i ≤ j → G.getD j [] = [])
def GInv (n : Nat) (free : Bool) (G : List (List Int)) (i k : Nat) : Prop := ∀ j, RowGood n free j (G.getD j []) ∧ (i < j → G.getD j [] = []) ∧ (j = i → (G.getD j []).length + k ≤ 3)
theorem rowGood_nil (n : Nat) (free : Bool) (i : Nat) : RowGood n free i [] := ⟨fun j hj => by simp at hj, fun x hx => by simp at hx, by simp⟩
theorem ghead_start (n : Nat) (free : Bool) : GHead n free (List.replicate n []) 0 := fun j => by
  have : (List.replicate n ([] : List Int)).getD j [] = [] := by
    rw [List.getD_eq_getElem?_getD]
    by_cases h : j < n
    · rw [List.getElem?_eq_getElem (by simpa using h)]; simp
    · rw [List.getElem?_eq_none (by simpa using h)]; rfl
  rw [this]
  exact ⟨rowGood_nil _ _ _, fun _ => rfl⟩
theorem GHead.enter {n : Nat} {free : Bool} {G : List (List Int)} {i : Nat} (h : GHead n free G i) {k : Nat} (hk : k ≤ 3) : GInv n free G i k := fun j => ⟨(h j).1, fun hj => (h j).2 (by omega), fun hj => by rw [(h j).2 (by omega)]; simpa using hk⟩
theorem GInv.leave {n : Nat} {free : Bool} {G : List (List Int)} {i k : Nat} (h : GInv n free G i k) : GHead n free G (i + 1) := fun j => ⟨(h j).1, fun hj => (h j).2.1 (by omega)⟩
theorem GInv.skip {n : Nat} {free : Bool} {G : List (List Int)} {i k : Nat} (h : GInv n free G i (k + 1)) : GInv n free G i k := fun j => ⟨(h j).1, (h j).2.1, fun hj => by have := (h j).2.2 hj; omega⟩
theorem getD_setG {G : List (List Int)} {i j : Nat} {X : List Int} (hi : i < G.length) : (G.set i X).getD j [] = if i = j then X else G.getD j [] := by
  rw [List.getD_eq_getElem?_getD, List.getD_eq_getElem?_getD]
  by_cases h : i = j
  · subst h; rw [List.getElem?_set_self hi]; simp
  · rw [List.getElem?_set_ne h]; simp [h]
theorem GInv.add {n : Nat} {free : Bool} {G : List (List Int)} {i k : Nat} (h : GInv n free G i (k + 1)) (hl : i < G.length) (hn : n ≤ 80) {x : Int} (h0 : 0 ≤ x) (h1 : x < (n : Int)) (h2 : free = true → (i : Int) < x) :
    GInv n free (G.set i (addL (G.getD i []) x)) i k := fun j => by
  rw [getD_setG hl]
  by_cases hj : i = j
  · subst hj
    rw [if_pos rfl]
    obtain ⟨⟨a, b, c⟩, -, e⟩ := h i
    have e' := e rfl
    have hlen := addL_len (G.getD i []) x
    refine ⟨⟨addL_ok a h0 (by omega), fun y hy => ?_, by omega⟩, fun hh => by omega, fun _ => by omega⟩
    rcases (addL_mem h0 (by omega)).1 hy with h3 | h3
    · exact b y h3
    · subst h3; exact ⟨h0, h1, h2⟩
  · rw [if_neg hj]
    exact ⟨(h j).1, (h j).2.1, fun hh => absurd hh.symm hj⟩
/-- what Graph draws -/
def GraphOk (most : Nat) (free : Bool) (g : List (List Int)) : Prop := GrOk g ∧ g.length ≤ most ∧ (∀ i : Nat, (g.getD i []).length ≤ 3) ∧ (free = true → ∀ (i : Nat) x, x ∈ g.getD i [] → (i : Int) < x)
theorem GHead.graphOk {n : Nat} {free : Bool} {G : List (List Int)} {i most : Nat} (h : GHead n free G i) (hl : G.length = n) (h1 : 1 ≤ n) (hm : n ≤ most) (h80 : most ≤ 80) : GraphOk most free G := by
  refine ⟨⟨by omega, by omega, fun j hj => ⟨(h j).1.1, fun hp => ?_⟩⟩, by omega, fun j => (h j).1.2.2, fun hf j x hx => ((h j).1.2.1 x hx).2.2 hf⟩
  have := ((h j).1.2.1 _ (mem_getD.2 ⟨_, show (G.getD j []).length - 1 < (G.getD j []).length by omega, rfl⟩)).2.1
  rw [hl]; exact this

/-- a graph in the making: a row of rows, all of the call's own -/
def GrowG (w : World) (base gb n : Nat) (G : List (List Int)) : Prop :=
  G.length = n ∧ ∃ vs : List Value, w.ownsRow base 24 1 (.slice (some ⟨gb, 0, none⟩) n n) n vs ∧ ∀ i, i < n → ∃ r, vs[i]? = some r ∧ w.ownsRow base 3 1 r (G.getD i []).length ((G.getD i []).map (Value.int .i64))
section
variable {w w0 w' : World} {base gb n cb : Nat} {G : List (List Int)}
theorem GrowG.draw (h : GrowG w w0.heap.size gb n G) (hg : w.grownBy w' (some cb)) (hlt : cb < w0.heap.size) : GrowG w' w0.heap.size gb n G := by
  obtain ⟨h1, vs, h2, h3⟩ := h
  exact ⟨h1, vs, own_draw h2 hg hlt, fun i hi => by obtain ⟨r, a, b⟩ := h3 i hi; exact ⟨r, a, own_draw b hg hlt⟩⟩
theorem GrowG.below (h : GrowG w base gb n G) (hb : Below w.heap.size w w') : GrowG w' base gb n G := by
  obtain ⟨h1, vs, h2, h3⟩ := h
  exact ⟨h1, vs, own_keep h2 hb (Nat.le_refl _), fun i hi => by obtain ⟨r, a, b⟩ := h3 i hi; exact ⟨r, a, own_keep b hb (Nat.le_refl _)⟩⟩
theorem GrowG.at_ (h : GrowG w base gb n G) {i : Nat} (hi : i < n) : ∃ A c, w.cell? ⟨gb, i, none⟩ = some (.slice A (G.getD i []).length c) ∧ w.frozen? ⟨gb, i, none⟩ = false ∧ w.ownsRow base 3 1 (.slice A (G.getD i []).length c) (G.getD i []).length ((G.getD i []).map (Value.int .i64)) := by
  obtain ⟨h1, vs, h2, h3⟩ := h
  obtain ⟨r, a, b⟩ := h3 i hi
  obtain ⟨A, c, rfl, -⟩ := own_form b
  exact ⟨A, c, (h2.cellAt i (by omega)).trans a, h2.frozenAt i, b⟩
theorem GrowG.store (h : GrowG w base gb n G) {i : Nat} (hi : i < n) {r : Value} {X : List Int} (hr : w.ownsRow base 3 1 r X.length (X.map (Value.int .i64))) : GrowG (w.setCell ⟨gb, i, none⟩ r) base gb n (G.set i X) ∧ w.grownBy (w.setCell ⟨gb, i, none⟩ r) (some gb) ∧ base ≤ gb := by
  obtain ⟨h1, vs, h2, h3⟩ := h
  obtain ⟨s1, s2⟩ := h2.stored i r
  have hvl : vs.length = n := by have := h2.1; omega
  refine ⟨⟨by simpa using h1, vs.set i r, s1, fun j hj => ?_⟩, s2, (h2.lt gb rfl).1⟩
  rw [getD_setG (by omega)]
  by_cases hij : i = j
  · subst hij
    rw [if_pos rfl]
    obtain ⟨A, c, rfl, -⟩ := own_form hr
    exact ⟨_, List.getElem?_set_self (by omega), hr.kept s2 (own_two hr h2 (by decide))⟩
  · rw [if_neg hij]
    obtain ⟨q, a, b⟩ := h3 j hj
    obtain ⟨A, c, rfl, -⟩ := own_form b
    exact ⟨_, by rw [List.getElem?_set_ne hij]; exact a, b.kept s2 (own_two b h2 (by decide))⟩
theorem GrowG.gz (h : GrowG w base gb n G) : Gz w (some ⟨gb, 0, none⟩) n G := by
  obtain ⟨h1, vs, h2, h3⟩ := h
  refine ⟨h1, vs, Reads.of_own h2, fun i hi => ?_⟩
  obtain ⟨r, a, b⟩ := h3 i hi
  obtain ⟨A, c, rfl, d1, d2, d3⟩ := fresh_ints b
  exact ⟨A, _, c, a, d3, d1, d2⟩
end
theorem growG_made (w : World) (base s : Nat) (hb : base ≤ w.heap.size) (hs : s ≤ 1048576) : GrowG (w.alloc (.cells (zg s) 24)) base w.heap.size s (List.replicate s []) := by
  refine ⟨by simp, _, made_rows w base s hb hs, fun i hi => ⟨_, List.getElem?_eq_getElem (by simpa using hi), ?_⟩⟩
  have e : (List.replicate s ([] : List Int)).getD i [] = [] := by
    rw [List.getD_eq_getElem?_getD, List.getElem?_eq_getElem (by simpa using hi)]; simp
  rw [e]
  simp only [List.getElem_replicate]
  exact World.ownsRow_nil _ _ _ _
end Go.Proofs.Ytgamodmenlhedaa.cf
