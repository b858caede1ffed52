/- Contracts: extent.Slots and what it calls. -/
import Derived.Test.YtmeoabpigibaoaaSc1
import Derived.Test.YtmeoabpigibaoaaVal
import Derived.Test.YtmeoabpigibaoaaSt
namespace Go.Proofs.Ytmeoabpigibaoaa.pm
open Go.RowKit
set_option linter.unusedVariables false
set_option maxRecDepth 10000

def I64 (x : Int) : Prop := -9223372036854775808 ≤ x ∧ x ≤ 9223372036854775807
def badS (s : Int × Int) : Bool := !sizeB s.1 || !powB s.2
def IdxD (sl : List (Int × Int)) (w : World) (e : Ending) (w' : World) : Prop := ∃ r : Int, e = .returned (.int .i64 r) ∧ (r < 0 → ∀ s ∈ sl, badS s = false) ∧ (0 ≤ r → ∃ s ∈ sl, badS s = true) ∧ Below w.heap.size w w'
theorem mem_getD {α : Type} {l : List α} {k : Nat} {z : α} (h : k < l.length) : l.getD k z ∈ l := by
  rw [List.getD_eq_getElem?_getD, List.getElem?_eq_getElem h]
  exact List.getElem_mem h
end Go.Proofs.Ytmeoabpigibaoaa.pm
