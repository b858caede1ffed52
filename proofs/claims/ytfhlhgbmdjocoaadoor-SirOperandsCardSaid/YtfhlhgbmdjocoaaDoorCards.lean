/-
  DERIVED. GIVEN WITH THE SEED: THE CARDS: each row of YtfhlhgbmdjocoaaDoorRows.lean that lists a variable, with what it lists TIED to the program's text (the seventh form; the later family's looks); each row that meets fmt, with fmt's text TOLD by the authors' own Lean function (tested against real Go, not proved from fmt's source: count such statements apart). THE CARD IS WHAT COUNTS. Prove the row's statement (the work); the ties are given (YtfhlhgbmdjocoaaDoorTie.lean); close each card by the builder's one call (the guide's Derived/Test/ToyasCard.lean, 'card_holds'). Laid BY PROGRAM, IN A SANDBOX (cutbox-door.mjs). By AI agents, Wed Nov 11 2026. No macro, syntax, notation, axiom, sorry.
-/
import Derived.Test.YtfhlhgbmdjocoaaDoorRows
import GoSem.ClaimSeven
namespace Go.Proofs.YtfhlhgbmdjocoaaDoor
namespace Rows

/-- THE TIED CARD OF 'spillframelaw05.SirOperands'. -/
def sirOperandsCard : Claim7 := { stood := { row := sirOperandsRow, standIns := [], harness := (true, "b55772677cd8a9a5dbabc551518e8905f5a69cb8c8872392972612d81d787d00"), looks := false }, kinds := [], alts := [], laidByText := true, laidKinds := [.data], laidTests := true, laidLooks := .later }
def SirOperandsCardSaid : Prop := Claim7.holds Tryd.pinned (.plain (OpenSpec.ofChange sirOperandsSpec)) sirOperandsCard

/-- THE TIED CARD OF 'spillframelaw06.SircodeEncode'. -/
def sircodeEncodeCard : Claim7 := { stood := { row := sircodeEncodeRow, standIns := [], harness := (true, "b55772677cd8a9a5dbabc551518e8905f5a69cb8c8872392972612d81d787d00"), looks := false }, kinds := [], alts := [], laidByText := true, laidKinds := [.data, .data], laidTests := true, laidLooks := .later }
def SircodeEncodeCardSaid : Prop := Claim7.holds Tryd.pinned (.plain (OpenSpec.ofChange sircodeEncodeSpec)) sircodeEncodeCard

/-- THE TIED CARD OF 'spillframelaw06.SircodeFunctions'. -/
def sircodeFunctionsCard : Claim7 := { stood := { row := sircodeFunctionsRow, standIns := [], harness := (true, "b55772677cd8a9a5dbabc551518e8905f5a69cb8c8872392972612d81d787d00"), looks := false }, kinds := [], alts := [], laidByText := true, laidKinds := [.data, .data], laidTests := true, laidLooks := .later }
def SircodeFunctionsCardSaid : Prop := Claim7.holds Tryd.pinned (.plain (OpenSpec.ofChange sircodeFunctionsSpec)) sircodeFunctionsCard

/-- THE TIED CARD OF 'spillframelaw06.SircodeDecode'. -/
def sircodeDecodeCard : Claim7 := { stood := { row := sircodeDecodeRow, standIns := [], harness := (true, "b55772677cd8a9a5dbabc551518e8905f5a69cb8c8872392972612d81d787d00"), looks := false }, kinds := [], alts := [], laidByText := true, laidKinds := [.data, .data], laidTests := true, laidLooks := .later }
def SircodeDecodeCardSaid : Prop := Claim7.holds Tryd.pinned (.plain (OpenSpec.ofChange sircodeDecodeSpec)) sircodeDecodeCard

/-- THE TIED CARD OF 'spillframelaw06.SircodeDecodeInvertsEncode'. -/
def sircodeDecodeInvertsEncodeCard : Claim7 := { stood := { row := sircodeDecodeInvertsEncodeRow, standIns := [], harness := (true, "b55772677cd8a9a5dbabc551518e8905f5a69cb8c8872392972612d81d787d00"), looks := false }, kinds := [], alts := [], laidByText := true, laidKinds := [.data, .data], laidTests := true, laidLooks := .later }
def SircodeDecodeInvertsEncodeCardSaid : Prop := Claim7.holds Tryd.pinned (.plain (OpenSpec.ofChange sircodeDecodeInvertsEncodeSpec)) sircodeDecodeInvertsEncodeCard

/-- THE TIED CARD OF 'spillframelaw06.SircodeEncodeInvertsDecode'. -/
def sircodeEncodeInvertsDecodeCard : Claim7 := { stood := { row := sircodeEncodeInvertsDecodeRow, standIns := [], harness := (true, "b55772677cd8a9a5dbabc551518e8905f5a69cb8c8872392972612d81d787d00"), looks := false }, kinds := [], alts := [], laidByText := true, laidKinds := [.data, .data], laidTests := true, laidLooks := .later }
def SircodeEncodeInvertsDecodeCardSaid : Prop := Claim7.holds Tryd.pinned (.plain (OpenSpec.ofChange sircodeEncodeInvertsDecodeSpec)) sircodeEncodeInvertsDecodeCard

/-- THE TIED CARD OF 'spillframelaw08.SirrunFuelIsMonotone'. -/
def sirrunFuelIsMonotoneCard : Claim7 := { stood := { row := sirrunFuelIsMonotoneRow, standIns := [], harness := (true, "b55772677cd8a9a5dbabc551518e8905f5a69cb8c8872392972612d81d787d00"), looks := false }, kinds := [], alts := [], laidByText := true, laidKinds := [.data], laidTests := true, laidLooks := .later }
def SirrunFuelIsMonotoneCardSaid : Prop := Claim7.holds Tryd.pinned (.plain (OpenSpec.ofChange sirrunFuelIsMonotoneSpec)) sirrunFuelIsMonotoneCard

/-- THE TIED CARD OF 'spillframelaw08.SirrunEqualsStepByStep'. -/
def sirrunEqualsStepByStepCard : Claim7 := { stood := { row := sirrunEqualsStepByStepRow, standIns := [], harness := (true, "b55772677cd8a9a5dbabc551518e8905f5a69cb8c8872392972612d81d787d00"), looks := false }, kinds := [], alts := [], laidByText := true, laidKinds := [.data], laidTests := true, laidLooks := .later }
def SirrunEqualsStepByStepCardSaid : Prop := Claim7.holds Tryd.pinned (.plain (OpenSpec.ofChange sirrunEqualsStepByStepSpec)) sirrunEqualsStepByStepCard

/-- THE TIED CARD OF 'spillframelaw08.SirrunRecursionIsDeep'. -/
def sirrunRecursionIsDeepCard : Claim7 := { stood := { row := sirrunRecursionIsDeepRow, standIns := [], harness := (true, "b55772677cd8a9a5dbabc551518e8905f5a69cb8c8872392972612d81d787d00"), looks := false }, kinds := [], alts := [], laidByText := true, laidKinds := [.data], laidTests := true, laidLooks := .later }
def SirrunRecursionIsDeepCardSaid : Prop := Claim7.holds Tryd.pinned (.plain (OpenSpec.ofChange sirrunRecursionIsDeepSpec)) sirrunRecursionIsDeepCard

/-- THE TIED CARD OF 'spillframelaw08.SirrunRun'. -/
def sirrunRunCard : Claim7 := { stood := { row := sirrunRunRow, standIns := [], harness := (true, "b55772677cd8a9a5dbabc551518e8905f5a69cb8c8872392972612d81d787d00"), looks := false }, kinds := [], alts := [], laidByText := true, laidKinds := [.data], laidTests := true, laidLooks := .later }
def SirrunRunCardSaid : Prop := Claim7.holds Tryd.pinned (.plain (OpenSpec.ofChange sirrunRunSpec)) sirrunRunCard

/-- THE TIED CARD OF 'spillframelaw08.SirrunSame'. -/
def sirrunSameCard : Claim7 := { stood := { row := sirrunSameRow, standIns := [], harness := (true, "b55772677cd8a9a5dbabc551518e8905f5a69cb8c8872392972612d81d787d00"), looks := false }, kinds := [], alts := [], laidByText := true, laidKinds := [.data], laidTests := true, laidLooks := .later }
def SirrunSameCardSaid : Prop := Claim7.holds Tryd.pinned (.plain (OpenSpec.ofChange sirrunSameSpec)) sirrunSameCard

/-- THE SECOND FORM's CARD OF 'spillframelaw05.SirOperands'. -/
def sirOperandsUptoCard : Claim7 := { stood := { row := sirOperandsUptoRow, standIns := [], harness := (true, "b55772677cd8a9a5dbabc551518e8905f5a69cb8c8872392972612d81d787d00"), looks := false }, kinds := [], alts := [], laidByText := true, laidKinds := [.data], laidTests := true, laidLooks := .later }
def SirOperandsUptoCardSaid : Prop := Claim7.holds Tryd.pinned (.plain (OpenSpec.upto sirOperandsSpec)) sirOperandsUptoCard

/-- THE SECOND FORM's CARD OF 'spillframelaw06.SircodeEncode'. -/
def sircodeEncodeUptoCard : Claim7 := { stood := { row := sircodeEncodeUptoRow, standIns := [], harness := (true, "b55772677cd8a9a5dbabc551518e8905f5a69cb8c8872392972612d81d787d00"), looks := false }, kinds := [], alts := [], laidByText := true, laidKinds := [.data, .data], laidTests := true, laidLooks := .later }
def SircodeEncodeUptoCardSaid : Prop := Claim7.holds Tryd.pinned (.plain (OpenSpec.upto sircodeEncodeSpec)) sircodeEncodeUptoCard

/-- THE SECOND FORM's CARD OF 'spillframelaw06.SircodeFunctions'. -/
def sircodeFunctionsUptoCard : Claim7 := { stood := { row := sircodeFunctionsUptoRow, standIns := [], harness := (true, "b55772677cd8a9a5dbabc551518e8905f5a69cb8c8872392972612d81d787d00"), looks := false }, kinds := [], alts := [], laidByText := true, laidKinds := [.data, .data], laidTests := true, laidLooks := .later }
def SircodeFunctionsUptoCardSaid : Prop := Claim7.holds Tryd.pinned (.plain (OpenSpec.upto sircodeFunctionsSpec)) sircodeFunctionsUptoCard

/-- THE SECOND FORM's CARD OF 'spillframelaw06.SircodeDecode'. -/
def sircodeDecodeUptoCard : Claim7 := { stood := { row := sircodeDecodeUptoRow, standIns := [], harness := (true, "b55772677cd8a9a5dbabc551518e8905f5a69cb8c8872392972612d81d787d00"), looks := false }, kinds := [], alts := [], laidByText := true, laidKinds := [.data, .data], laidTests := true, laidLooks := .later }
def SircodeDecodeUptoCardSaid : Prop := Claim7.holds Tryd.pinned (.plain (OpenSpec.upto sircodeDecodeSpec)) sircodeDecodeUptoCard

/-- THE SECOND FORM's CARD OF 'spillframelaw06.SircodeDecodeInvertsEncode'. -/
def sircodeDecodeInvertsEncodeUptoCard : Claim7 := { stood := { row := sircodeDecodeInvertsEncodeUptoRow, standIns := [], harness := (true, "b55772677cd8a9a5dbabc551518e8905f5a69cb8c8872392972612d81d787d00"), looks := false }, kinds := [], alts := [], laidByText := true, laidKinds := [.data, .data], laidTests := true, laidLooks := .later }
def SircodeDecodeInvertsEncodeUptoCardSaid : Prop := Claim7.holds Tryd.pinned (.plain (OpenSpec.upto sircodeDecodeInvertsEncodeSpec)) sircodeDecodeInvertsEncodeUptoCard

/-- THE SECOND FORM's CARD OF 'spillframelaw06.SircodeEncodeInvertsDecode'. -/
def sircodeEncodeInvertsDecodeUptoCard : Claim7 := { stood := { row := sircodeEncodeInvertsDecodeUptoRow, standIns := [], harness := (true, "b55772677cd8a9a5dbabc551518e8905f5a69cb8c8872392972612d81d787d00"), looks := false }, kinds := [], alts := [], laidByText := true, laidKinds := [.data, .data], laidTests := true, laidLooks := .later }
def SircodeEncodeInvertsDecodeUptoCardSaid : Prop := Claim7.holds Tryd.pinned (.plain (OpenSpec.upto sircodeEncodeInvertsDecodeSpec)) sircodeEncodeInvertsDecodeUptoCard

/-- THE SECOND FORM's CARD OF 'spillframelaw08.SirrunFuelIsMonotone'. -/
def sirrunFuelIsMonotoneUptoCard : Claim7 := { stood := { row := sirrunFuelIsMonotoneUptoRow, standIns := [], harness := (true, "b55772677cd8a9a5dbabc551518e8905f5a69cb8c8872392972612d81d787d00"), looks := false }, kinds := [], alts := [], laidByText := true, laidKinds := [.data], laidTests := true, laidLooks := .later }
def SirrunFuelIsMonotoneUptoCardSaid : Prop := Claim7.holds Tryd.pinned (.plain (OpenSpec.upto sirrunFuelIsMonotoneSpec)) sirrunFuelIsMonotoneUptoCard

/-- THE SECOND FORM's CARD OF 'spillframelaw08.SirrunEqualsStepByStep'. -/
def sirrunEqualsStepByStepUptoCard : Claim7 := { stood := { row := sirrunEqualsStepByStepUptoRow, standIns := [], harness := (true, "b55772677cd8a9a5dbabc551518e8905f5a69cb8c8872392972612d81d787d00"), looks := false }, kinds := [], alts := [], laidByText := true, laidKinds := [.data], laidTests := true, laidLooks := .later }
def SirrunEqualsStepByStepUptoCardSaid : Prop := Claim7.holds Tryd.pinned (.plain (OpenSpec.upto sirrunEqualsStepByStepSpec)) sirrunEqualsStepByStepUptoCard

/-- THE SECOND FORM's CARD OF 'spillframelaw08.SirrunRecursionIsDeep'. -/
def sirrunRecursionIsDeepUptoCard : Claim7 := { stood := { row := sirrunRecursionIsDeepUptoRow, standIns := [], harness := (true, "b55772677cd8a9a5dbabc551518e8905f5a69cb8c8872392972612d81d787d00"), looks := false }, kinds := [], alts := [], laidByText := true, laidKinds := [.data], laidTests := true, laidLooks := .later }
def SirrunRecursionIsDeepUptoCardSaid : Prop := Claim7.holds Tryd.pinned (.plain (OpenSpec.upto sirrunRecursionIsDeepSpec)) sirrunRecursionIsDeepUptoCard

/-- THE SECOND FORM's CARD OF 'spillframelaw08.SirrunRun'. -/
def sirrunRunUptoCard : Claim7 := { stood := { row := sirrunRunUptoRow, standIns := [], harness := (true, "b55772677cd8a9a5dbabc551518e8905f5a69cb8c8872392972612d81d787d00"), looks := false }, kinds := [], alts := [], laidByText := true, laidKinds := [.data], laidTests := true, laidLooks := .later }
def SirrunRunUptoCardSaid : Prop := Claim7.holds Tryd.pinned (.plain (OpenSpec.upto sirrunRunSpec)) sirrunRunUptoCard

/-- THE SECOND FORM's CARD OF 'spillframelaw08.SirrunSame'. -/
def sirrunSameUptoCard : Claim7 := { stood := { row := sirrunSameUptoRow, standIns := [], harness := (true, "b55772677cd8a9a5dbabc551518e8905f5a69cb8c8872392972612d81d787d00"), looks := false }, kinds := [], alts := [], laidByText := true, laidKinds := [.data], laidTests := true, laidLooks := .later }
def SirrunSameUptoCardSaid : Prop := Claim7.holds Tryd.pinned (.plain (OpenSpec.upto sirrunSameSpec)) sirrunSameUptoCard
end Rows
end Go.Proofs.YtfhlhgbmdjocoaaDoor
