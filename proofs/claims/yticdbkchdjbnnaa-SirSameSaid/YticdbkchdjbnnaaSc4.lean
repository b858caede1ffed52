/- Contract: sir.CheckInstr, of an instruction that there is. -/
import Derived.Test.YticdbkchdjbnnaaSc3
namespace Go.Proofs.Yticdbkchdjbnnaa.pm
open Go.RowKit
set_option linter.unusedVariables false
set_option maxRecDepth 10000
attribute [local go_sem ↓] Go.wp_at_zero Go.wp_at_succ

theorem cells_after {w W' : World} {hi : Nat} (hB : Below w.heap.size w W') (hh : hi ≤ w.heap.size) {p : Addr} (hp : p.block < hi) {v : Value} (h : w.cell? p = some v) : W'.cell? p = some v := (World.cell?_of_block (hB.block _ (by omega))).trans h
end Go.Proofs.Yticdbkchdjbnnaa.pm
