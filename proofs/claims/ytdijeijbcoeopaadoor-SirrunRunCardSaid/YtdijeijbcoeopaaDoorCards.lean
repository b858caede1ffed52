/-
  DERIVED. GIVEN WITH THE SEED: THE CARDS: each row of YtdijeijbcoeopaaDoorRows.lean that lists a variable, with what it lists TIED to the program's text (the seventh form; the later family's looks); each row that meets fmt, with fmt's text TOLD by the authors' own Lean function (tested against real Go, not proved from fmt's source: count such statements apart). THE CARD IS WHAT COUNTS. Prove the row's statement (the work); the ties are given (YtdijeijbcoeopaaDoorTie.lean); close each card by the builder's one call (the guide's Derived/Test/ToyasCard.lean, 'card_holds'). Laid BY PROGRAM, IN A SANDBOX (cutbox-door.mjs). By AI agents, Wed Nov 11 2026. No macro, syntax, notation, axiom, sorry.
-/
import Derived.Test.YtdijeijbcoeopaaDoorRows
import GoSem.ClaimSeven
namespace Go.Proofs.YtdijeijbcoeopaaDoor
namespace Rows

/-- THE TIED CARD OF 'spillframelaw08.SirrunRun'. -/
def sirrunRunCard : Claim7 := { stood := { row := sirrunRunRow, standIns := [], harness := (true, "2731be0d5258a4d88da7295f299370d02f9fadae42980ca18ff78ec3a8233831"), looks := false }, kinds := [], alts := [], laidByText := true, laidKinds := [.data], laidTests := true, laidLooks := .later }
def SirrunRunCardSaid : Prop := Claim7.holds Tryd.pinned (.plain (OpenSpec.ofChange sirrunRunSpec)) sirrunRunCard

/-- THE SECOND FORM's CARD OF 'spillframelaw08.SirrunRun'. -/
def sirrunRunUptoCard : Claim7 := { stood := { row := sirrunRunUptoRow, standIns := [], harness := (true, "2731be0d5258a4d88da7295f299370d02f9fadae42980ca18ff78ec3a8233831"), looks := false }, kinds := [], alts := [], laidByText := true, laidKinds := [.data], laidTests := true, laidLooks := .later }
def SirrunRunUptoCardSaid : Prop := Claim7.holds Tryd.pinned (.plain (OpenSpec.upto sirrunRunSpec)) sirrunRunUptoCard
end Rows
end Go.Proofs.YtdijeijbcoeopaaDoor
