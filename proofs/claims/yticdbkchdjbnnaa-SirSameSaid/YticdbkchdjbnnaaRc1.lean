/- Contracts of the reference of chapter 5: within, register, Terminator, Operands, operands. -/
import Derived.Test.YticdbkchdjbnnaaSc1
import Derived.Test.YticdbkchdjbnnaaVal
import Derived.Test.YticdbkchdjbnnaaSt
namespace Go.Proofs.Yticdbkchdjbnnaa.pm
open Go.RowKit
set_option linter.unusedVariables false
set_option maxRecDepth 10000

theorem results_tmp4 {fn : Func} {t u v x : Tmp} (h : fn.results = #[.tmp t, .tmp u, .tmp v, .tmp x]) (tmps : Array Value) (P : Program) (w : World) :
    (results fn tmps).run P w = .ok (.tuple #[tmps.getD t undef, tmps.getD u undef, tmps.getD v undef, tmps.getD x undef]) w := by simp [results, h]
/-- which operands are used -/
def useA (o : Nat) : Bool := (shp o).1 != 0
def useB (o : Nat) : Bool := (shp o).2.1 != 0
def useC (o : Nat) : Bool := (shp o).2.2.1 != 0
def useI (o : Nat) : Bool := (shp o).2.2.2
/-- the operands name what there is -/
def okO (nf : Nat) (prm : Int) (ns nc o : Nat) (a b c : Int) : Bool := !(outK nf prm ns nc (shp o).1 a || outK nf prm ns nc (shp o).2.1 b || outK nf prm ns nc (shp o).2.2.1 c)
end Go.Proofs.Yticdbkchdjbnnaa.pm
