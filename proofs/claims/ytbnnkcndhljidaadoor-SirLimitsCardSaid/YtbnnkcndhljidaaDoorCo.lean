/- Contracts of the lists of choices: New, Left, Next. -/
import Derived.Test.YtbnnkcndhljidaaDoorSl
namespace Go.Proofs.YtbnnkcndhljidaaDoor
open Go.RowKit
set_option linter.unusedVariables false

theorem setCell_self {w : World} {g i : Nat} {v : Value} {cs : Array Value} {t : TypeId} {fr : Nat × Nat} (hg : w.heap[g]? = some (.cells cs t fr)) (hv : cs[i]? = some v) : w.setCell ⟨g, i, none⟩ v = w := by
  have e : (w.setCell ⟨g, i, none⟩ v).heap = w.heap := by
    apply Array.ext_getElem?
    intro k
    by_cases hk : k = g
    · subst hk
      simp only [World.setCell, Array.getElem?_modify]
      simp only [if_true, hg]
      simp
      apply Array.ext_getElem?
      intro j
      by_cases hj : j = i
      · subst hj
        rw [hv]
        have := (Array.getElem?_eq_some_iff.1 hv).1
        simp [this]
      · rw [Array.getElem?_setIfInBounds_ne (by omega)]
    · exact Below.heap_setCell w ⟨g, i, none⟩ v k hk
  cases w
  simp only [World.setCell] at e ⊢
  congr

end Go.Proofs.YtbnnkcndhljidaaDoor
