/- Both tables: what the rows' lists give; a world for the witness. -/
import Derived.Test.YtinfeglhjmnlaaaDoorGHt
import Derived.Test.YtinfeglhjmnlaaaDoorGTb
namespace Go.Proofs.YtinfeglhjmnlaaaDoor.pm
open Go.ChangeShapes Go.WideShapes Go.ChangeAt Go.RowKit
set_option linter.unusedVariables false
set_option maxRecDepth 100000

theorem both_of_laid {W : World} (h : laidMetH Tryd.prog [("math/bits.deBruijn64tab", Rows.laid_math_bits_deBruijn64tab), ("spillframe/sir.shapes", Rows.laid_spillframe_sir_shapes)] W) : Dt W ∧ Tb W := by
  have h' : laidMet Tryd.prog [("math/bits.deBruijn64tab", Rows.laid_math_bits_deBruijn64tab), ("spillframe/sir.shapes", Rows.laid_spillframe_sir_shapes)] W := h
  obtain ⟨ps, ⟨g, t, cs, fuel, p, q, hg, ht, hvar, hd, hL2, _⟩, _⟩ := h'
  obtain ⟨g', t', cs', fuel', p', q', hg', ht', hvar', hd', _, _⟩ := hL2
  obtain rfl := Option.some.inj (g64.symm.trans hg)
  obtain rfl := Option.some.inj (g64t.symm.trans ht)
  obtain rfl := Option.some.inj (gTab.symm.trans hg')
  obtain rfl := Option.some.inj (gTabType.symm.trans ht')
  exact ⟨dt_of_var hvar hd, tb_of_var hvar' hd'⟩
def putSh : Obj → Obj
  | .cells _ t frozen => .cells shCells t frozen
  | o => o
noncomputable def laidWorld06 (os : Os) : World :=
  { World.holding Tryd.prog os ⟨#[], #[], []⟩ with heap := (((World.holding Tryd.prog os ⟨#[], #[], []⟩).heap.modify 0 put32).modify 1 put64).modify 2 putSh }
end Go.Proofs.YtinfeglhjmnlaaaDoor.pm
