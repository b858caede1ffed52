/- Slices of numbers, and slices of slices of numbers, that are handed to a law: they read as lists. -/
import Derived.Test.YtgamodmenlhedaaCf1
import Derived.Deep.Matrix
namespace Go.Proofs.Ytgamodmenlhedaa.cf
open Go.RowKit
set_option linter.unusedVariables false

theorem Iz.of_row {w : World} {a : Option Addr} {len cap : Nat} {zs : List Int}
    (h : (a = none ∧ len = 0 ∧ cap = 0 ∧ zs = []) ∨ ∃ x, a = some x ∧ len ≤ cap ∧ cap ≤ maxLen ∧ zs.length = cap ∧ (∀ i, i < zs.length → w.cell? (x.add i) = some (.int .i64 (zs.getD i 0)))) :
    ∃ l, Iz w a len l ∧ len ≤ maxLen := by
  rcases h with ⟨rfl, rfl, rfl, rfl⟩ | ⟨x, rfl, hl, hm, hz, hc⟩
  · exact ⟨[], Reads.none_, by simp⟩
  · refine ⟨zs.take len, ⟨by simp; omega, fun hn => ?_⟩, by omega⟩
    have h0 := hc 0 (by omega)
    refine ⟨x, rfl, ?_, ?_⟩
    · have := cell_lt h0
      rwa [block_of_add] at this
    · intro j u hu
      rw [List.getElem?_map, List.getElem?_take] at hu
      split at hu
      · rename_i hj
        rw [List.getElem?_eq_getElem (by omega)] at hu
        have hj' := hc j (by omega)
        rw [List.getD_eq_getElem?_getD, List.getElem?_eq_getElem (by omega)] at hj'
        rw [hj', ← Option.some.inj hu]
        rfl
      · simp at hu
theorem Gz.of_rows {w : World} {a : Addr} {len cap base : Nat} {A : Nat → Option Addr} {L C : Nat → Nat} {Z : Nat → List Int} (hl : len ≤ cap)
    (h : ∀ r, r < cap → w.cell? (a.add r) = some (.slice (A r) (L r) (C r)) ∧ L r ≤ C r ∧ C r ≤ maxLen ∧ (Z r).length = C r ∧ (∀ n ∈ Z r, (Lit.int .i64 n).wf = true) ∧ (A r = none → C r = 0) ∧
        ∀ a', A r = some a' → base ≤ a'.block ∧ ∀ c, c < C r → w.cell? (a'.add c) = some (.int .i64 ((Z r).getD c 0))) :
    ∃ g, Gz w (some a) len g := by
  have hrow : ∀ r, r < cap → ∃ l, Iz w (A r) (L r) l ∧ L r ≤ maxLen := fun r hr => by
    obtain ⟨_, h2, h3, h4, _, h6, h7⟩ := h r hr
    apply Iz.of_row (cap := C r) (zs := Z r)
    rcases hA : A r with _ | a'
    · have := h6 hA
      exact .inl ⟨rfl, by omega, this, List.eq_nil_of_length_eq_zero (by omega)⟩
    · exact .inr ⟨a', rfl, h2, h3, h4, fun i hi => (h7 a' hA).2 i (by omega)⟩
  have hch : ∀ r : Nat, ∃ l : List Int, r < cap → Iz w (A r) (L r) l ∧ L r ≤ maxLen := fun r => by
    by_cases hr : r < cap
    · obtain ⟨l, hl⟩ := hrow r hr
      exact ⟨l, fun _ => hl⟩
    · exact ⟨[], fun h => absurd h hr⟩
  refine ⟨(List.range len).map fun r => Classical.choose (hch r), by simp, (List.range len).map fun r => .slice (A r) (L r) (C r), ⟨by simp, fun hn => ⟨a, rfl, ?_, fun j u hu => ?_⟩⟩, fun i hi => ⟨A i, L i, C i, ?_, ?_, ?_, ?_⟩⟩
  · have := cell_lt (h 0 (by omega)).1
    rwa [block_of_add] at this
  · rw [List.getElem?_map] at hu
    rcases hj : (List.range len)[j]? with _ | q
    · rw [hj] at hu; cases hu
    · rw [hj] at hu
      have hq := List.getElem?_eq_some_iff.1 hj
      obtain ⟨h1, h2⟩ := hq
      simp at h1 h2
      subst h2
      rw [(h j (by omega)).1, ← Option.some.inj hu]
  · simp [hi]
  · rw [List.getD_eq_getElem?_getD, List.getElem?_map]
    have : (List.range len)[i]? = some i := by simp [hi]
    rw [this]
    exact (Classical.choose_spec (hch i) (by omega)).1
  · exact (Classical.choose_spec (hch i) (by omega)).2
  · exact (h i (by omega)).2.1
end Go.Proofs.Ytgamodmenlhedaa.cf
