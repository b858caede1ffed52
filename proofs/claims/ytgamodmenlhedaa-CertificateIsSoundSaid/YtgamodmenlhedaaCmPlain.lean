/- Bounds that stay small; numbers raised and lowered: plain mathematics. -/
import Derived.Test.YtgamodmenlhedaaCtLaw
import Derived.Test.YtgamodmenlhedaaCf17
namespace Go.Proofs.Ytgamodmenlhedaa.cf
set_option linter.unusedVariables false

theorem free_ranked {g : List (List Int)} {most : Nat} (h : GraphOk most true g) : Ranked g (fun i => g.length - i) := by
  intro i hi k hk
  have h1 := h.2.2.2 rfl i _ (mem_getD.2 ⟨k, hk, rfl⟩)
  have h2 := grOk_lt h.1 i hi k hk
  have : i < sc g i k := by
    unfold sc nx
    unfold nx at h2
    omega
  show g.length - sc g i k < g.length - i
  omega
theorem step_le {g : List (List Int)} {w out : List Int} {rk : Nat → Nat} {M : Int} (hM : 0 ≤ M) (hr : Ranked g rk) {i : Nat} (hi : i < g.length) (hw : w.getD i 0 ≤ M) (hs : ∀ k, k < (nx g i).length → out.getD (sc g i k) 0 ≤ M * ((rk (sc g i k) : Int) + 1)) :
    w.getD i 0 + most out (nx g i) ≤ M * ((rk i : Int) + 1) := by
  have h0 : most out (nx g i) ≤ M * (rk i : Int) := most_le.2 ⟨Int.mul_nonneg hM (by omega), fun k hk => Int.le_trans (hs k hk) (Int.mul_le_mul_of_nonneg_left (by have := hr i hi k hk; omega) hM)⟩
  rw [Int.mul_add]
  omega
theorem not_over_small {g : List (List Int)} {w : List Int} {rk : Nat → Nat} {M : Int} (hM : 0 ≤ M) (hM2 : M ≤ 1000000) (hr : Ranked g rk) (hb : ∀ i, i < g.length → rk i ≤ 100) (hw : ∀ i, i < g.length → w.getD i 0 ≤ M) : ¬ Over g w := by
  rintro ⟨D, out, f, hf, hD, hs, ho⟩
  have key : ∀ r i, rk i < r → D i → out.getD i 0 ≤ M * ((rk i : Int) + 1) := by
    intro r
    induction r with
    | zero => intro i h; omega
    | succ r ih =>
      intro i h hi
      obtain ⟨h0, h1, h2⟩ := hD i hi
      rw [h2]
      exact step_le hM hr h0 (hw i h0) fun k hk => ih _ (by have := hr i h0 k hk; omega) (h1 k hk)
  have h1 := step_le hM hr hf (hw f hf) fun k hk => key _ _ (Nat.lt_succ_self _) (hs k hk)
  have h2 : M * ((rk f : Int) + 1) ≤ M * 101 := Int.mul_le_mul_of_nonneg_left (by have := hb f hf; omega) hM
  omega
theorem sol_small {g : List (List Int)} {w b : List Int} {rk : Nat → Nat} {M : Int} (hg : GrOk g) (hM : 0 ≤ M) (hr : Ranked g rk) (hb : ∀ i, i < g.length → rk i ≤ 100) (hw : ∀ i, i < g.length → w.getD i 0 ≤ M) (hs : Sol g w b) : ∀ i, i < g.length → b.getD i 0 ≤ M * 101 := by
  have key : ∀ r i, rk i < r → i < g.length → b.getD i 0 ≤ M * ((rk i : Int) + 1) := by
    intro r
    induction r with
    | zero => intro i h; omega
    | succ r ih =>
      intro i h hi
      rw [hs.2 i hi]
      exact step_le hM hr hi (hw i hi) fun k hk => ih _ (by have := hr i hi k hk; omega) (sc_lt hg hi hk)
  intro i hi
  have h1 := key _ i (Nat.lt_succ_self _) hi
  have h2 : M * ((rk i : Int) + 1) ≤ M * 101 := Int.mul_le_mul_of_nonneg_left (by have := hb i hi; omega) hM
  omega
/-- the numbers with one less at k -/
def lessL (b : List Int) (k : Nat) : List Int := b.set k (b.getD k 0 - 1)
theorem less_at {b : List Int} {k j : Nat} (hk : k < b.length) : (lessL b k).getD j 0 = if k = j then b.getD j 0 - 1 else b.getD j 0 := by
  unfold lessL
  by_cases h : k = j
  · subst h; rw [getD_set_eq hk, if_pos rfl]
  · rw [getD_set_ne h, if_neg h]
theorem less_wrong {g : List (List Int)} {w b : List Int} {rk : Nat → Nat} (hr : Ranked g rk) (hs : Sol g w b) {k : Nat} (hk : k < g.length) : Wrong g w (lessL b k) k := by
  apply Classical.byContradiction
  intro h
  have h1 := (not_wrong.1 h).2
  have hl : k < b.length := by rw [hs.1]; exact hk
  have h2 : most (lessL b k) (nx g k) = most b (nx g k) := most_congr fun j hj => by
    rw [less_at hl, if_neg]
    intro e
    have := hr k hk j hj
    unfold sc at this
    rw [← e] at this
    omega
  rw [less_at hl, if_pos rfl, h2] at h1
  have := hs.2 k hk
  omega
theorem less_right {g : List (List Int)} {w b : List Int} (hw : Right g w) (hs : Sol g w b) (hb : ∀ k, Bd (b.getD k 0)) {k j : Nat} (hk : k < g.length) (hj : j < g.length) (hne : k ≠ j) : ¬ Wrong g w (lessL b k) j := by
  have hl : k < b.length := by rw [hs.1]; exact hk
  refine not_wrong.2 ⟨by rw [less_at hl, if_neg hne]; exact hb j, ?_⟩
  rw [less_at hl, if_neg hne]
  have h1 : most (lessL b k) (nx g j) ≤ most b (nx g j) := most_mono fun q hq => by
    rw [less_at hl]
    split <;> omega
  have := hs.2 j hj
  omega
theorem less_broken {g : List (List Int)} {w b : List Int} {rk : Nat → Nat} (hw : Right g w) (hr : Ranked g rk) (hs : Sol g w b) (hb : ∀ k, Bd (b.getD k 0)) {k : Nat} (hk : k < g.length) : BrokenR g w (lessL b k) ((k : Int), true) ∧ chkV g w (lessL b k) = 14 := by
  have hm : Matched g w (lessL b k) := ⟨hw, by unfold lessL; rw [List.length_set]; exact hs.1⟩
  exact ⟨.inl ⟨hm, k, hk, less_wrong hr hs hk, fun j hj => less_right hw hs hb hk (by omega) (by omega), rfl⟩, chkV_14 hm hk (less_wrong hr hs hk)⟩
theorem more_right {g : List (List Int)} {w b c : List Int} (hw : Right g w) (hs : Sol g w b) (hb : ∀ k, Bd (b.getD k 0)) (hsm : ∀ i, i < g.length → b.getD i 0 ≤ 2000000000) (hl : c.length = b.length) (hc : ∀ i, i < g.length → c.getD i 0 = b.getD i 0 + 5) : chkV g w c = 0 := by
  refine chkV_0 ⟨hw, by rw [hl]; exact hs.1⟩ fun i hi => not_wrong.2 ⟨by rw [hc i hi]; have := hb i; have := hsm i hi; exact ⟨by have := (hb i).1; omega, by omega⟩, ?_⟩
  rw [hc i hi]
  have h1 : most c (nx g i) ≤ most b (nx g i) + 5 := most_le.2 ⟨by have := most_nonneg b (nx g i); omega, fun k hk => by
    have h2 := most_ge b (nx g i) k hk
    have h3 := sc_lt hw.1 hi hk
    unfold sc at h3
    rw [hc _ h3]
    omega⟩
  have := hs.2 i hi
  omega
end Go.Proofs.Ytgamodmenlhedaa.cf
