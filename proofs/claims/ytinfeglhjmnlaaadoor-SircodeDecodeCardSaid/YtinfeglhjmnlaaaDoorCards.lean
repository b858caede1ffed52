/-
  DERIVED. GIVEN WITH THE SEED: THE CARDS: each row of YtinfeglhjmnlaaaDoorRows.lean that lists a variable, with what it lists TIED to the program's text (the seventh form; the later family's looks); each row that meets fmt, with fmt's text TOLD by the authors' own Lean function (tested against real Go, not proved from fmt's source: count such statements apart). THE CARD IS WHAT COUNTS. Prove the row's statement (the work); the ties are given (YtinfeglhjmnlaaaDoorTie.lean); close each card by the builder's one call (the guide's Derived/Test/ToyasCard.lean, 'card_holds'). Laid BY PROGRAM, IN A SANDBOX (cutbox-door.mjs). By AI agents, Wed Nov 11 2026. No macro, syntax, notation, axiom, sorry.
-/
import Derived.Test.YtinfeglhjmnlaaaDoorRows
import GoSem.ClaimSeven
namespace Go.Proofs.YtinfeglhjmnlaaaDoor
namespace Rows

/-- THE TIED CARD OF 'spillframelaw11.MachcodeDecode'. -/
def machcodeDecodeCard : Claim7 := { stood := { row := machcodeDecodeRow, standIns := [], harness := (true, "fe30ec3debb1c49f408091bd2394ab7add460cc8cb662170938bddedc56c7b59"), looks := false }, kinds := [], alts := [], laidByText := true, laidKinds := [.data, .data], laidTests := true, laidLooks := .later }
def MachcodeDecodeCardSaid : Prop := Claim7.holds Tryd.pinned (.plain (OpenSpec.ofChange machcodeDecodeSpec)) machcodeDecodeCard

/-- THE TIED CARD OF 'spillframelaw11.MachcodeDecodeInvertsEncode'. -/
def machcodeDecodeInvertsEncodeCard : Claim7 := { stood := { row := machcodeDecodeInvertsEncodeRow, standIns := [], harness := (true, "fe30ec3debb1c49f408091bd2394ab7add460cc8cb662170938bddedc56c7b59"), looks := false }, kinds := [], alts := [], laidByText := true, laidKinds := [.data, .data], laidTests := true, laidLooks := .later }
def MachcodeDecodeInvertsEncodeCardSaid : Prop := Claim7.holds Tryd.pinned (.plain (OpenSpec.ofChange machcodeDecodeInvertsEncodeSpec)) machcodeDecodeInvertsEncodeCard

/-- THE TIED CARD OF 'spillframelaw11.MachcodeEncodeInvertsDecode'. -/
def machcodeEncodeInvertsDecodeCard : Claim7 := { stood := { row := machcodeEncodeInvertsDecodeRow, standIns := [], harness := (true, "fe30ec3debb1c49f408091bd2394ab7add460cc8cb662170938bddedc56c7b59"), looks := false }, kinds := [], alts := [], laidByText := true, laidKinds := [.data, .data], laidTests := true, laidLooks := .later }
def MachcodeEncodeInvertsDecodeCardSaid : Prop := Claim7.holds Tryd.pinned (.plain (OpenSpec.ofChange machcodeEncodeInvertsDecodeSpec)) machcodeEncodeInvertsDecodeCard

/-- THE TIED CARD OF 'spillframelaw06.SircodeEncode'. -/
def sircodeEncodeCard : Claim7 := { stood := { row := sircodeEncodeRow, standIns := [], harness := (true, "fe30ec3debb1c49f408091bd2394ab7add460cc8cb662170938bddedc56c7b59"), looks := false }, kinds := [], alts := [], laidByText := true, laidKinds := [.data, .data], laidTests := true, laidLooks := .later }
def SircodeEncodeCardSaid : Prop := Claim7.holds Tryd.pinned (.plain (OpenSpec.ofChange sircodeEncodeSpec)) sircodeEncodeCard

/-- THE TIED CARD OF 'spillframelaw06.SircodeFunctions'. -/
def sircodeFunctionsCard : Claim7 := { stood := { row := sircodeFunctionsRow, standIns := [], harness := (true, "fe30ec3debb1c49f408091bd2394ab7add460cc8cb662170938bddedc56c7b59"), looks := false }, kinds := [], alts := [], laidByText := true, laidKinds := [.data, .data], laidTests := true, laidLooks := .later }
def SircodeFunctionsCardSaid : Prop := Claim7.holds Tryd.pinned (.plain (OpenSpec.ofChange sircodeFunctionsSpec)) sircodeFunctionsCard

/-- THE TIED CARD OF 'spillframelaw06.SircodeDecode'. -/
def sircodeDecodeCard : Claim7 := { stood := { row := sircodeDecodeRow, standIns := [], harness := (true, "fe30ec3debb1c49f408091bd2394ab7add460cc8cb662170938bddedc56c7b59"), looks := false }, kinds := [], alts := [], laidByText := true, laidKinds := [.data, .data], laidTests := true, laidLooks := .later }
def SircodeDecodeCardSaid : Prop := Claim7.holds Tryd.pinned (.plain (OpenSpec.ofChange sircodeDecodeSpec)) sircodeDecodeCard

/-- THE TIED CARD OF 'spillframelaw06.SircodeDecodeInvertsEncode'. -/
def sircodeDecodeInvertsEncodeCard : Claim7 := { stood := { row := sircodeDecodeInvertsEncodeRow, standIns := [], harness := (true, "fe30ec3debb1c49f408091bd2394ab7add460cc8cb662170938bddedc56c7b59"), looks := false }, kinds := [], alts := [], laidByText := true, laidKinds := [.data, .data], laidTests := true, laidLooks := .later }
def SircodeDecodeInvertsEncodeCardSaid : Prop := Claim7.holds Tryd.pinned (.plain (OpenSpec.ofChange sircodeDecodeInvertsEncodeSpec)) sircodeDecodeInvertsEncodeCard

/-- THE TIED CARD OF 'spillframelaw06.SircodeEncodeInvertsDecode'. -/
def sircodeEncodeInvertsDecodeCard : Claim7 := { stood := { row := sircodeEncodeInvertsDecodeRow, standIns := [], harness := (true, "fe30ec3debb1c49f408091bd2394ab7add460cc8cb662170938bddedc56c7b59"), looks := false }, kinds := [], alts := [], laidByText := true, laidKinds := [.data, .data], laidTests := true, laidLooks := .later }
def SircodeEncodeInvertsDecodeCardSaid : Prop := Claim7.holds Tryd.pinned (.plain (OpenSpec.ofChange sircodeEncodeInvertsDecodeSpec)) sircodeEncodeInvertsDecodeCard

/-- THE SECOND FORM's CARD OF 'spillframelaw11.MachcodeDecode'. -/
def machcodeDecodeUptoCard : Claim7 := { stood := { row := machcodeDecodeUptoRow, standIns := [], harness := (true, "fe30ec3debb1c49f408091bd2394ab7add460cc8cb662170938bddedc56c7b59"), looks := false }, kinds := [], alts := [], laidByText := true, laidKinds := [.data, .data], laidTests := true, laidLooks := .later }
def MachcodeDecodeUptoCardSaid : Prop := Claim7.holds Tryd.pinned (.plain (OpenSpec.upto machcodeDecodeSpec)) machcodeDecodeUptoCard

/-- THE SECOND FORM's CARD OF 'spillframelaw11.MachcodeDecodeInvertsEncode'. -/
def machcodeDecodeInvertsEncodeUptoCard : Claim7 := { stood := { row := machcodeDecodeInvertsEncodeUptoRow, standIns := [], harness := (true, "fe30ec3debb1c49f408091bd2394ab7add460cc8cb662170938bddedc56c7b59"), looks := false }, kinds := [], alts := [], laidByText := true, laidKinds := [.data, .data], laidTests := true, laidLooks := .later }
def MachcodeDecodeInvertsEncodeUptoCardSaid : Prop := Claim7.holds Tryd.pinned (.plain (OpenSpec.upto machcodeDecodeInvertsEncodeSpec)) machcodeDecodeInvertsEncodeUptoCard

/-- THE SECOND FORM's CARD OF 'spillframelaw11.MachcodeEncodeInvertsDecode'. -/
def machcodeEncodeInvertsDecodeUptoCard : Claim7 := { stood := { row := machcodeEncodeInvertsDecodeUptoRow, standIns := [], harness := (true, "fe30ec3debb1c49f408091bd2394ab7add460cc8cb662170938bddedc56c7b59"), looks := false }, kinds := [], alts := [], laidByText := true, laidKinds := [.data, .data], laidTests := true, laidLooks := .later }
def MachcodeEncodeInvertsDecodeUptoCardSaid : Prop := Claim7.holds Tryd.pinned (.plain (OpenSpec.upto machcodeEncodeInvertsDecodeSpec)) machcodeEncodeInvertsDecodeUptoCard

/-- THE SECOND FORM's CARD OF 'spillframelaw06.SircodeEncode'. -/
def sircodeEncodeUptoCard : Claim7 := { stood := { row := sircodeEncodeUptoRow, standIns := [], harness := (true, "fe30ec3debb1c49f408091bd2394ab7add460cc8cb662170938bddedc56c7b59"), looks := false }, kinds := [], alts := [], laidByText := true, laidKinds := [.data, .data], laidTests := true, laidLooks := .later }
def SircodeEncodeUptoCardSaid : Prop := Claim7.holds Tryd.pinned (.plain (OpenSpec.upto sircodeEncodeSpec)) sircodeEncodeUptoCard

/-- THE SECOND FORM's CARD OF 'spillframelaw06.SircodeFunctions'. -/
def sircodeFunctionsUptoCard : Claim7 := { stood := { row := sircodeFunctionsUptoRow, standIns := [], harness := (true, "fe30ec3debb1c49f408091bd2394ab7add460cc8cb662170938bddedc56c7b59"), looks := false }, kinds := [], alts := [], laidByText := true, laidKinds := [.data, .data], laidTests := true, laidLooks := .later }
def SircodeFunctionsUptoCardSaid : Prop := Claim7.holds Tryd.pinned (.plain (OpenSpec.upto sircodeFunctionsSpec)) sircodeFunctionsUptoCard

/-- THE SECOND FORM's CARD OF 'spillframelaw06.SircodeDecode'. -/
def sircodeDecodeUptoCard : Claim7 := { stood := { row := sircodeDecodeUptoRow, standIns := [], harness := (true, "fe30ec3debb1c49f408091bd2394ab7add460cc8cb662170938bddedc56c7b59"), looks := false }, kinds := [], alts := [], laidByText := true, laidKinds := [.data, .data], laidTests := true, laidLooks := .later }
def SircodeDecodeUptoCardSaid : Prop := Claim7.holds Tryd.pinned (.plain (OpenSpec.upto sircodeDecodeSpec)) sircodeDecodeUptoCard

/-- THE SECOND FORM's CARD OF 'spillframelaw06.SircodeDecodeInvertsEncode'. -/
def sircodeDecodeInvertsEncodeUptoCard : Claim7 := { stood := { row := sircodeDecodeInvertsEncodeUptoRow, standIns := [], harness := (true, "fe30ec3debb1c49f408091bd2394ab7add460cc8cb662170938bddedc56c7b59"), looks := false }, kinds := [], alts := [], laidByText := true, laidKinds := [.data, .data], laidTests := true, laidLooks := .later }
def SircodeDecodeInvertsEncodeUptoCardSaid : Prop := Claim7.holds Tryd.pinned (.plain (OpenSpec.upto sircodeDecodeInvertsEncodeSpec)) sircodeDecodeInvertsEncodeUptoCard

/-- THE SECOND FORM's CARD OF 'spillframelaw06.SircodeEncodeInvertsDecode'. -/
def sircodeEncodeInvertsDecodeUptoCard : Claim7 := { stood := { row := sircodeEncodeInvertsDecodeUptoRow, standIns := [], harness := (true, "fe30ec3debb1c49f408091bd2394ab7add460cc8cb662170938bddedc56c7b59"), looks := false }, kinds := [], alts := [], laidByText := true, laidKinds := [.data, .data], laidTests := true, laidLooks := .later }
def SircodeEncodeInvertsDecodeUptoCardSaid : Prop := Claim7.holds Tryd.pinned (.plain (OpenSpec.upto sircodeEncodeInvertsDecodeSpec)) sircodeEncodeInvertsDecodeUptoCard
end Rows
end Go.Proofs.YtinfeglhjmnlaaaDoor
