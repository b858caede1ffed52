/- Words: slices of bytes in a row. -/
import Derived.Test.YtinfeglhjmnlaaaDoorYq
namespace Go.Proofs.YtinfeglhjmnlaaaDoor.pm
open Go.RowKit
set_option linter.unusedVariables false
set_option maxRecDepth 10000

/-- slices of bytes, one behind the other, in a block -/
def SlB (w : World) (g : Nat) (k : Nat) : Prop := ∃ (A : Option Addr) (n c : Nat) (l : List Nat), w.cell? ⟨g, k, none⟩ = some (.slice A n c) ∧ Bs w w.heap.size A n l ∧ n ≤ 700000 ∧ n ≤ c ∧ c ≤ maxLen
theorem SlB.after {w w' : World} {g k : Nat} (h : SlB w g k) (hb : Below w.heap.size w w') : SlB w' g k := by
  obtain ⟨A, n, c, l, h1, h2, h3⟩ := h
  have hlt : g < w.heap.size := cell_lt h1
  exact ⟨A, n, c, l, (hb.cell (p := ⟨g, k, none⟩) hlt).trans h1, (h2.below hb).more hb.size, h3⟩
theorem own_capO {w : World} {base n c : Nat} {A : Option Addr} {xs : List Value} (h : OwM w base (.slice A n c) n xs) : n ≤ c ∧ c ≤ maxLen := by
  rcases h with h | ⟨g, cur, fz, hv, hb, hh, e, r, mm⟩
  · exact own_capM h
  · injection hv with h1 h2 h3
    omega
theorem Below.slice_lt {w : World} {g : Nat} {t : TypeId} {cs : Array Value} (h : Blk w g t cs) : g < w.heap.size := h.lt
end Go.Proofs.YtinfeglhjmnlaaaDoor.pm
