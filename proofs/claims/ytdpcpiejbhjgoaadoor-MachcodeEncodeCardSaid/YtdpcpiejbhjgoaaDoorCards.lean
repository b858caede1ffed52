/-
  DERIVED. GIVEN WITH THE SEED: THE CARDS: each row of YtdpcpiejbhjgoaaDoorRows.lean that lists a variable, with what it lists TIED to the program's text (the seventh form; the later family's looks); each row that meets fmt, with fmt's text TOLD by the authors' own Lean function (tested against real Go, not proved from fmt's source: count such statements apart). THE CARD IS WHAT COUNTS. Prove the row's statement (the work); the ties are given (YtdpcpiejbhjgoaaDoorTie.lean); close each card by the builder's one call (the guide's Derived/Test/ToyasCard.lean, 'card_holds'). Laid BY PROGRAM, IN A SANDBOX (cutbox-door.mjs). By AI agents, Wed Nov 11 2026. No macro, syntax, notation, axiom, sorry.
-/
import Derived.Test.YtdpcpiejbhjgoaaDoorRows
import GoSem.ClaimSeven
namespace Go.Proofs.YtdpcpiejbhjgoaaDoor
namespace Rows

/-- THE TIED CARD OF 'spillframelaw11.MachcodeEncode'. -/
def machcodeEncodeCard : Claim7 := { stood := { row := machcodeEncodeRow, standIns := [], harness := (true, "287fb63af26844ca2f7ee4fd51cf8bd528f0fe8cd3e024dbd9207dbc7d7ce4f6"), looks := false }, kinds := [], alts := [], laidByText := true, laidKinds := [.data, .data], laidTests := true, laidLooks := .later }
def MachcodeEncodeCardSaid : Prop := Claim7.holds Tryd.pinned (.plain (OpenSpec.ofChange machcodeEncodeSpec)) machcodeEncodeCard

/-- THE TIED CARD OF 'spillframelaw11.MachcodeDecode'. -/
def machcodeDecodeCard : Claim7 := { stood := { row := machcodeDecodeRow, standIns := [], harness := (true, "287fb63af26844ca2f7ee4fd51cf8bd528f0fe8cd3e024dbd9207dbc7d7ce4f6"), looks := false }, kinds := [], alts := [], laidByText := true, laidKinds := [.data, .data], laidTests := true, laidLooks := .later }
def MachcodeDecodeCardSaid : Prop := Claim7.holds Tryd.pinned (.plain (OpenSpec.ofChange machcodeDecodeSpec)) machcodeDecodeCard

/-- THE TIED CARD OF 'spillframelaw11.MachcodeDecodeInvertsEncode'. -/
def machcodeDecodeInvertsEncodeCard : Claim7 := { stood := { row := machcodeDecodeInvertsEncodeRow, standIns := [], harness := (true, "287fb63af26844ca2f7ee4fd51cf8bd528f0fe8cd3e024dbd9207dbc7d7ce4f6"), looks := false }, kinds := [], alts := [], laidByText := true, laidKinds := [.data, .data], laidTests := true, laidLooks := .later }
def MachcodeDecodeInvertsEncodeCardSaid : Prop := Claim7.holds Tryd.pinned (.plain (OpenSpec.ofChange machcodeDecodeInvertsEncodeSpec)) machcodeDecodeInvertsEncodeCard

/-- THE TIED CARD OF 'spillframelaw11.MachcodeEncodeInvertsDecode'. -/
def machcodeEncodeInvertsDecodeCard : Claim7 := { stood := { row := machcodeEncodeInvertsDecodeRow, standIns := [], harness := (true, "287fb63af26844ca2f7ee4fd51cf8bd528f0fe8cd3e024dbd9207dbc7d7ce4f6"), looks := false }, kinds := [], alts := [], laidByText := true, laidKinds := [.data, .data], laidTests := true, laidLooks := .later }
def MachcodeEncodeInvertsDecodeCardSaid : Prop := Claim7.holds Tryd.pinned (.plain (OpenSpec.ofChange machcodeEncodeInvertsDecodeSpec)) machcodeEncodeInvertsDecodeCard

/-- THE SECOND FORM's CARD OF 'spillframelaw11.MachcodeEncode'. -/
def machcodeEncodeUptoCard : Claim7 := { stood := { row := machcodeEncodeUptoRow, standIns := [], harness := (true, "287fb63af26844ca2f7ee4fd51cf8bd528f0fe8cd3e024dbd9207dbc7d7ce4f6"), looks := false }, kinds := [], alts := [], laidByText := true, laidKinds := [.data, .data], laidTests := true, laidLooks := .later }
def MachcodeEncodeUptoCardSaid : Prop := Claim7.holds Tryd.pinned (.plain (OpenSpec.upto machcodeEncodeSpec)) machcodeEncodeUptoCard

/-- THE SECOND FORM's CARD OF 'spillframelaw11.MachcodeDecode'. -/
def machcodeDecodeUptoCard : Claim7 := { stood := { row := machcodeDecodeUptoRow, standIns := [], harness := (true, "287fb63af26844ca2f7ee4fd51cf8bd528f0fe8cd3e024dbd9207dbc7d7ce4f6"), looks := false }, kinds := [], alts := [], laidByText := true, laidKinds := [.data, .data], laidTests := true, laidLooks := .later }
def MachcodeDecodeUptoCardSaid : Prop := Claim7.holds Tryd.pinned (.plain (OpenSpec.upto machcodeDecodeSpec)) machcodeDecodeUptoCard

/-- THE SECOND FORM's CARD OF 'spillframelaw11.MachcodeDecodeInvertsEncode'. -/
def machcodeDecodeInvertsEncodeUptoCard : Claim7 := { stood := { row := machcodeDecodeInvertsEncodeUptoRow, standIns := [], harness := (true, "287fb63af26844ca2f7ee4fd51cf8bd528f0fe8cd3e024dbd9207dbc7d7ce4f6"), looks := false }, kinds := [], alts := [], laidByText := true, laidKinds := [.data, .data], laidTests := true, laidLooks := .later }
def MachcodeDecodeInvertsEncodeUptoCardSaid : Prop := Claim7.holds Tryd.pinned (.plain (OpenSpec.upto machcodeDecodeInvertsEncodeSpec)) machcodeDecodeInvertsEncodeUptoCard

/-- THE SECOND FORM's CARD OF 'spillframelaw11.MachcodeEncodeInvertsDecode'. -/
def machcodeEncodeInvertsDecodeUptoCard : Claim7 := { stood := { row := machcodeEncodeInvertsDecodeUptoRow, standIns := [], harness := (true, "287fb63af26844ca2f7ee4fd51cf8bd528f0fe8cd3e024dbd9207dbc7d7ce4f6"), looks := false }, kinds := [], alts := [], laidByText := true, laidKinds := [.data, .data], laidTests := true, laidLooks := .later }
def MachcodeEncodeInvertsDecodeUptoCardSaid : Prop := Claim7.holds Tryd.pinned (.plain (OpenSpec.upto machcodeEncodeInvertsDecodeSpec)) machcodeEncodeInvertsDecodeUptoCard
end Rows
end Go.Proofs.YtdpcpiejbhjgoaaDoor
