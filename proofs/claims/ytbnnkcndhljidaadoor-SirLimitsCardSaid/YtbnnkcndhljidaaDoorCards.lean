/-
  DERIVED. GIVEN WITH THE SEED: THE CARDS: each row of YtbnnkcndhljidaaDoorRows.lean that lists a variable, with what it lists TIED to the program's text (the seventh form; the later family's looks); each row that meets fmt, with fmt's text TOLD by the authors' own Lean function (tested against real Go, not proved from fmt's source: count such statements apart). THE CARD IS WHAT COUNTS. Prove the row's statement (the work); the ties are given (YtbnnkcndhljidaaDoorTie.lean); close each card by the builder's one call (the guide's Derived/Test/ToyasCard.lean, 'card_holds'). Laid BY PROGRAM, IN A SANDBOX (cutbox-door.mjs). By AI agents, Wed Nov 11 2026. No macro, syntax, notation, axiom, sorry.
-/
import Derived.Test.YtbnnkcndhljidaaDoorRows
import GoSem.ClaimSeven
namespace Go.Proofs.YtbnnkcndhljidaaDoor
namespace Rows

/-- THE TIED CARD OF 'spillframelaw05.SirLimits'. -/
def sirLimitsCard : Claim7 := { stood := { row := sirLimitsRow, standIns := [], harness := (true, "50b4bbccffacc581ac7ad32ef6c8f334bf595576b0cdb7467dffccbbe1a66c8b"), looks := false }, kinds := [], alts := [], laidByText := true, laidKinds := [.data], laidTests := true, laidLooks := .later }
def SirLimitsCardSaid : Prop := Claim7.holds Tryd.pinned (.plain (OpenSpec.ofChange sirLimitsSpec)) sirLimitsCard

/-- THE TIED CARD OF 'spillframelaw08.SirrunUndef'. -/
def sirrunUndefCard : Claim7 := { stood := { row := sirrunUndefRow, standIns := [], harness := (true, "50b4bbccffacc581ac7ad32ef6c8f334bf595576b0cdb7467dffccbbe1a66c8b"), looks := false }, kinds := [], alts := [], laidByText := true, laidKinds := [.data], laidTests := true, laidLooks := .later }
def SirrunUndefCardSaid : Prop := Claim7.holds Tryd.pinned (.plain (OpenSpec.ofChange sirrunUndefSpec)) sirrunUndefCard

/-- THE SECOND FORM's CARD OF 'spillframelaw05.SirLimits'. -/
def sirLimitsUptoCard : Claim7 := { stood := { row := sirLimitsUptoRow, standIns := [], harness := (true, "50b4bbccffacc581ac7ad32ef6c8f334bf595576b0cdb7467dffccbbe1a66c8b"), looks := false }, kinds := [], alts := [], laidByText := true, laidKinds := [.data], laidTests := true, laidLooks := .later }
def SirLimitsUptoCardSaid : Prop := Claim7.holds Tryd.pinned (.plain (OpenSpec.upto sirLimitsSpec)) sirLimitsUptoCard

/-- THE SECOND FORM's CARD OF 'spillframelaw08.SirrunUndef'. -/
def sirrunUndefUptoCard : Claim7 := { stood := { row := sirrunUndefUptoRow, standIns := [], harness := (true, "50b4bbccffacc581ac7ad32ef6c8f334bf595576b0cdb7467dffccbbe1a66c8b"), looks := false }, kinds := [], alts := [], laidByText := true, laidKinds := [.data], laidTests := true, laidLooks := .later }
def SirrunUndefUptoCardSaid : Prop := Claim7.holds Tryd.pinned (.plain (OpenSpec.upto sirrunUndefSpec)) sirrunUndefUptoCard
end Rows
end Go.Proofs.YtbnnkcndhljidaaDoor
