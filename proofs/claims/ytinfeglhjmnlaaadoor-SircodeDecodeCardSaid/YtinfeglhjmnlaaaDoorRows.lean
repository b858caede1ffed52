/-
  NARROWER THAN 'FOR EVERY INPUT', by the rows' own cells (each row's printed sentence says how): MachcodeDecode: laid · MachcodeDecodeInvertsEncode: laid · MachcodeEncodeInvertsDecode: laid · SircodeEncode: laid · SircodeFunctions: laid · SircodeDecode: laid · SircodeDecodeInvertsEncode: laid · SircodeEncodeInvertsDecode: laid.
  DERIVED. THE GIVEN ROWS OF THIS SEAT. 8 by the template 'for every input the law returns true; each argument reads behind the call as it read before'; 0 by the template 'total and deterministic' (their statements: YtinfeglhjmnlaaaDoorTotals.lean).
  GIVEN WITH THE SEED: the statements are not yours to turn. If you find one false, say at which input.
  Laid BY PROGRAM, IN A SANDBOX (cutbox-rows.mjs): the forced cells as the released guide's own fill.sh prints them over the translation 7d14c009c9d15879… (all of the seat's roots in one cut). By AI agents, Wed Nov 11 2026. No macro, syntax, notation, axiom, sorry.
-/
import Derived.Test.YtinfeglhjmnlaaaDoorChecked
import GoSem.Claim
import GoSem.ClaimJoined
import GoSem.ClaimMapViews
import Derived.JoinedTies
import Derived.KernelRfl
namespace Go.Proofs.YtinfeglhjmnlaaaDoor
/- THE CELL 'sum', in the pinned program and in every row, IS THE sha256 OF THE DUMP (.gsa) THAT YtinfeglhjmnlaaaDoorProg.lean LOADS. Nothing in Lean hashes anything: it is a label: what it is worth is what the hold of that sum in a sandbox is worth. -/
noncomputable def Tryd.pinned : Pinned := { name := "ytinfeglhjmnlaaadoor", sum := "7d14c009c9d15879c14b14d2a3c6661e1d6334aa4b6f6c487abc1ffcc8f385e9", checked := Tryd.checked }
namespace Rows
def none {H : Type} : Left H := { results := [], args := [] }

/- WHAT THE LISTED PACKAGE-LEVEL VARIABLES READ AS WHEN THE CALL BEGINS. Each datum BY PROGRAM (the guide's laid-datum.mjs) off the statement by which the dump's own 'gosem.cut.vars' lays the variable. In a bare row this is a premise. The card (YtinfeglhjmnlaaaDoorCards.lean) ties it to the program's text. -/
def laid_math_bits_deBruijn32tab {H : Type} : DataW H := .agg [.lit (.int .u8 0), .lit (.int .u8 1), .lit (.int .u8 28), .lit (.int .u8 2), .lit (.int .u8 29), .lit (.int .u8 14), .lit (.int .u8 24), .lit (.int .u8 3), .lit (.int .u8 30), .lit (.int .u8 22), .lit (.int .u8 20), .lit (.int .u8 15), .lit (.int .u8 25), .lit (.int .u8 17), .lit (.int .u8 4), .lit (.int .u8 8), .lit (.int .u8 31), .lit (.int .u8 27), .lit (.int .u8 13), .lit (.int .u8 23), .lit (.int .u8 21), .lit (.int .u8 19), .lit (.int .u8 16), .lit (.int .u8 7), .lit (.int .u8 26), .lit (.int .u8 12), .lit (.int .u8 18), .lit (.int .u8 6), .lit (.int .u8 11), .lit (.int .u8 5), .lit (.int .u8 10), .lit (.int .u8 9)]
def laid_math_bits_deBruijn64tab {H : Type} : DataW H := .agg [.lit (.int .u8 0), .lit (.int .u8 1), .lit (.int .u8 56), .lit (.int .u8 2), .lit (.int .u8 57), .lit (.int .u8 49), .lit (.int .u8 28), .lit (.int .u8 3), .lit (.int .u8 61), .lit (.int .u8 58), .lit (.int .u8 42), .lit (.int .u8 50), .lit (.int .u8 38), .lit (.int .u8 29), .lit (.int .u8 17), .lit (.int .u8 4), .lit (.int .u8 62), .lit (.int .u8 47), .lit (.int .u8 59), .lit (.int .u8 36), .lit (.int .u8 45), .lit (.int .u8 43), .lit (.int .u8 51), .lit (.int .u8 22), .lit (.int .u8 53), .lit (.int .u8 39), .lit (.int .u8 33), .lit (.int .u8 30), .lit (.int .u8 24), .lit (.int .u8 18), .lit (.int .u8 12), .lit (.int .u8 5), .lit (.int .u8 63), .lit (.int .u8 55), .lit (.int .u8 48), .lit (.int .u8 27), .lit (.int .u8 60), .lit (.int .u8 41), .lit (.int .u8 37), .lit (.int .u8 16), .lit (.int .u8 46), .lit (.int .u8 35), .lit (.int .u8 44), .lit (.int .u8 21), .lit (.int .u8 52), .lit (.int .u8 32), .lit (.int .u8 23), .lit (.int .u8 11), .lit (.int .u8 54), .lit (.int .u8 26), .lit (.int .u8 40), .lit (.int .u8 15), .lit (.int .u8 34), .lit (.int .u8 20), .lit (.int .u8 31), .lit (.int .u8 10), .lit (.int .u8 25), .lit (.int .u8 14), .lit (.int .u8 19), .lit (.int .u8 9), .lit (.int .u8 13), .lit (.int .u8 8), .lit (.int .u8 7), .lit (.int .u8 6)]
def laid_spillframe_sir_shapes {H : Type} : DataW H := .agg [.agg [.lit (.int .i64 1), .lit (.int .i64 0), .lit (.int .i64 0), .lit (.bool true)], .agg [.lit (.int .i64 1), .lit (.int .i64 1), .lit (.int .i64 0), .lit (.bool false)], .agg [.lit (.int .i64 1), .lit (.int .i64 1), .lit (.int .i64 1), .lit (.bool false)], .agg [.lit (.int .i64 1), .lit (.int .i64 1), .lit (.int .i64 1), .lit (.bool false)], .agg [.lit (.int .i64 1), .lit (.int .i64 1), .lit (.int .i64 1), .lit (.bool false)], .agg [.lit (.int .i64 1), .lit (.int .i64 1), .lit (.int .i64 1), .lit (.bool false)], .agg [.lit (.int .i64 1), .lit (.int .i64 1), .lit (.int .i64 1), .lit (.bool false)], .agg [.lit (.int .i64 1), .lit (.int .i64 1), .lit (.int .i64 1), .lit (.bool false)], .agg [.lit (.int .i64 1), .lit (.int .i64 1), .lit (.int .i64 1), .lit (.bool false)], .agg [.lit (.int .i64 1), .lit (.int .i64 1), .lit (.int .i64 1), .lit (.bool false)], .agg [.lit (.int .i64 1), .lit (.int .i64 1), .lit (.int .i64 1), .lit (.bool false)], .agg [.lit (.int .i64 1), .lit (.int .i64 1), .lit (.int .i64 1), .lit (.bool false)], .agg [.lit (.int .i64 1), .lit (.int .i64 1), .lit (.int .i64 0), .lit (.bool false)], .agg [.lit (.int .i64 1), .lit (.int .i64 0), .lit (.int .i64 0), .lit (.bool false)], .agg [.lit (.int .i64 1), .lit (.int .i64 0), .lit (.int .i64 0), .lit (.bool false)], .agg [.lit (.int .i64 1), .lit (.int .i64 2), .lit (.int .i64 0), .lit (.bool false)], .agg [.lit (.int .i64 2), .lit (.int .i64 1), .lit (.int .i64 0), .lit (.bool false)], .agg [.lit (.int .i64 2), .lit (.int .i64 2), .lit (.int .i64 0), .lit (.bool false)], .agg [.lit (.int .i64 4), .lit (.int .i64 1), .lit (.int .i64 0), .lit (.bool false)], .agg [.lit (.int .i64 1), .lit (.int .i64 5), .lit (.int .i64 0), .lit (.bool false)], .agg [.lit (.int .i64 6), .lit (.int .i64 0), .lit (.int .i64 0), .lit (.bool false)], .agg [.lit (.int .i64 1), .lit (.int .i64 6), .lit (.int .i64 0), .lit (.bool false)], .agg [.lit (.int .i64 3), .lit (.int .i64 0), .lit (.int .i64 0), .lit (.bool false)], .agg [.lit (.int .i64 0), .lit (.int .i64 0), .lit (.int .i64 0), .lit (.bool false)], .agg [.lit (.int .i64 0), .lit (.int .i64 0), .lit (.int .i64 0), .lit (.bool true)]]

/-- 'spillframelaw11.MachcodeDecode': WHATEVER THE INPUT: true; the input reads as it did. -/
def machcodeDecodeSpec : ChangeSpec := { name := "machcodeDecode", fn := fun _ => fun
  | [d1, d2, d3, d4] => { results := [.lit (.bool true)], args := [d1, d2, d3, d4] }
  | _ => none }
def machcodeDecodeRow : OpenClaim := { program := "ytinfeglhjmnlaaadoor", sum := "7d14c009c9d15879c14b14d2a3c6661e1d6334aa4b6f6c487abc1ffcc8f385e9", func := "spillframe/spillframelaw11.MachcodeDecode", spec := "machcodeDecode", unfollowed := true, recurses := true, named := ["math/bits.deBruijn32tab", "math/bits.deBruijn64tab"], apart := false, laid := [("math/bits.deBruijn32tab", laid_math_bits_deBruijn32tab), ("math/bits.deBruijn64tab", laid_math_bits_deBruijn64tab)] }
def MachcodeDecodeSaid : Prop := machcodeDecodeRow.holds Tryd.pinned (OpenSpec.ofChange machcodeDecodeSpec)

/-- ITS FALSE NEIGHBOUR: 'it returns false'. Refute it at one input. -/
def machcodeDecodeWrong : ChangeSpec := { name := "machcodeDecode", fn := fun _ => fun
  | [d1, d2, d3, d4] => { results := [.lit (.bool false)], args := [d1, d2, d3, d4] }
  | _ => none }
def MachcodeDecodeWrongFalsely : Prop := machcodeDecodeRow.holds Tryd.pinned (OpenSpec.ofChange machcodeDecodeWrong)

/-- 'spillframelaw11.MachcodeDecodeInvertsEncode': WHATEVER THE INPUT: true; the input reads as it did. -/
def machcodeDecodeInvertsEncodeSpec : ChangeSpec := { name := "machcodeDecodeInvertsEncode", fn := fun _ => fun
  | [d1, d2, d3, d4] => { results := [.lit (.bool true)], args := [d1, d2, d3, d4] }
  | _ => none }
def machcodeDecodeInvertsEncodeRow : OpenClaim := { program := "ytinfeglhjmnlaaadoor", sum := "7d14c009c9d15879c14b14d2a3c6661e1d6334aa4b6f6c487abc1ffcc8f385e9", func := "spillframe/spillframelaw11.MachcodeDecodeInvertsEncode", spec := "machcodeDecodeInvertsEncode", unfollowed := true, recurses := true, named := ["math/bits.deBruijn32tab", "math/bits.deBruijn64tab"], apart := false, laid := [("math/bits.deBruijn32tab", laid_math_bits_deBruijn32tab), ("math/bits.deBruijn64tab", laid_math_bits_deBruijn64tab)] }
def MachcodeDecodeInvertsEncodeSaid : Prop := machcodeDecodeInvertsEncodeRow.holds Tryd.pinned (OpenSpec.ofChange machcodeDecodeInvertsEncodeSpec)

/-- ITS FALSE NEIGHBOUR: 'it returns false'. Refute it at one input. -/
def machcodeDecodeInvertsEncodeWrong : ChangeSpec := { name := "machcodeDecodeInvertsEncode", fn := fun _ => fun
  | [d1, d2, d3, d4] => { results := [.lit (.bool false)], args := [d1, d2, d3, d4] }
  | _ => none }
def MachcodeDecodeInvertsEncodeWrongFalsely : Prop := machcodeDecodeInvertsEncodeRow.holds Tryd.pinned (OpenSpec.ofChange machcodeDecodeInvertsEncodeWrong)

/-- 'spillframelaw11.MachcodeEncodeInvertsDecode': WHATEVER THE INPUT: true; the input reads as it did. -/
def machcodeEncodeInvertsDecodeSpec : ChangeSpec := { name := "machcodeEncodeInvertsDecode", fn := fun _ => fun
  | [d1, d2, d3, d4] => { results := [.lit (.bool true)], args := [d1, d2, d3, d4] }
  | _ => none }
def machcodeEncodeInvertsDecodeRow : OpenClaim := { program := "ytinfeglhjmnlaaadoor", sum := "7d14c009c9d15879c14b14d2a3c6661e1d6334aa4b6f6c487abc1ffcc8f385e9", func := "spillframe/spillframelaw11.MachcodeEncodeInvertsDecode", spec := "machcodeEncodeInvertsDecode", unfollowed := true, recurses := true, named := ["math/bits.deBruijn32tab", "math/bits.deBruijn64tab"], apart := false, laid := [("math/bits.deBruijn32tab", laid_math_bits_deBruijn32tab), ("math/bits.deBruijn64tab", laid_math_bits_deBruijn64tab)] }
def MachcodeEncodeInvertsDecodeSaid : Prop := machcodeEncodeInvertsDecodeRow.holds Tryd.pinned (OpenSpec.ofChange machcodeEncodeInvertsDecodeSpec)

/-- ITS FALSE NEIGHBOUR: 'it returns false'. Refute it at one input. -/
def machcodeEncodeInvertsDecodeWrong : ChangeSpec := { name := "machcodeEncodeInvertsDecode", fn := fun _ => fun
  | [d1, d2, d3, d4] => { results := [.lit (.bool false)], args := [d1, d2, d3, d4] }
  | _ => none }
def MachcodeEncodeInvertsDecodeWrongFalsely : Prop := machcodeEncodeInvertsDecodeRow.holds Tryd.pinned (OpenSpec.ofChange machcodeEncodeInvertsDecodeWrong)

/-- 'spillframelaw06.SircodeEncode': WHATEVER THE INPUT: true; the input reads as it did. -/
def sircodeEncodeSpec : ChangeSpec := { name := "sircodeEncode", fn := fun _ => fun
  | [d] => { results := [.lit (.bool true)], args := [d] }
  | _ => none }
def sircodeEncodeRow : OpenClaim := { program := "ytinfeglhjmnlaaadoor", sum := "7d14c009c9d15879c14b14d2a3c6661e1d6334aa4b6f6c487abc1ffcc8f385e9", func := "spillframe/spillframelaw06.SircodeEncode", spec := "sircodeEncode", unfollowed := true, recurses := true, named := ["spillframe/sir.shapes", "math/bits.deBruijn64tab"], apart := false, laid := [("math/bits.deBruijn64tab", laid_math_bits_deBruijn64tab), ("spillframe/sir.shapes", laid_spillframe_sir_shapes)] }
def SircodeEncodeSaid : Prop := sircodeEncodeRow.holds Tryd.pinned (OpenSpec.ofChange sircodeEncodeSpec)

/-- ITS FALSE NEIGHBOUR: 'it returns false'. Refute it at one input. -/
def sircodeEncodeWrong : ChangeSpec := { name := "sircodeEncode", fn := fun _ => fun
  | [d] => { results := [.lit (.bool false)], args := [d] }
  | _ => none }
def SircodeEncodeWrongFalsely : Prop := sircodeEncodeRow.holds Tryd.pinned (OpenSpec.ofChange sircodeEncodeWrong)

/-- 'spillframelaw06.SircodeFunctions': WHATEVER THE INPUT: true; the input reads as it did. -/
def sircodeFunctionsSpec : ChangeSpec := { name := "sircodeFunctions", fn := fun _ => fun
  | [d1, d2] => { results := [.lit (.bool true)], args := [d1, d2] }
  | _ => none }
def sircodeFunctionsRow : OpenClaim := { program := "ytinfeglhjmnlaaadoor", sum := "7d14c009c9d15879c14b14d2a3c6661e1d6334aa4b6f6c487abc1ffcc8f385e9", func := "spillframe/spillframelaw06.SircodeFunctions", spec := "sircodeFunctions", unfollowed := true, recurses := true, named := ["spillframe/sir.shapes", "math/bits.deBruijn64tab"], apart := false, laid := [("math/bits.deBruijn64tab", laid_math_bits_deBruijn64tab), ("spillframe/sir.shapes", laid_spillframe_sir_shapes)] }
def SircodeFunctionsSaid : Prop := sircodeFunctionsRow.holds Tryd.pinned (OpenSpec.ofChange sircodeFunctionsSpec)

/-- ITS FALSE NEIGHBOUR: 'it returns false'. Refute it at one input. -/
def sircodeFunctionsWrong : ChangeSpec := { name := "sircodeFunctions", fn := fun _ => fun
  | [d1, d2] => { results := [.lit (.bool false)], args := [d1, d2] }
  | _ => none }
def SircodeFunctionsWrongFalsely : Prop := sircodeFunctionsRow.holds Tryd.pinned (OpenSpec.ofChange sircodeFunctionsWrong)

/-- 'spillframelaw06.SircodeDecode': WHATEVER THE INPUT: true; the input reads as it did. -/
def sircodeDecodeSpec : ChangeSpec := { name := "sircodeDecode", fn := fun _ => fun
  | [d1, d2, d3, d4] => { results := [.lit (.bool true)], args := [d1, d2, d3, d4] }
  | _ => none }
def sircodeDecodeRow : OpenClaim := { program := "ytinfeglhjmnlaaadoor", sum := "7d14c009c9d15879c14b14d2a3c6661e1d6334aa4b6f6c487abc1ffcc8f385e9", func := "spillframe/spillframelaw06.SircodeDecode", spec := "sircodeDecode", unfollowed := true, recurses := true, named := ["spillframe/sir.shapes", "math/bits.deBruijn64tab"], apart := false, laid := [("math/bits.deBruijn64tab", laid_math_bits_deBruijn64tab), ("spillframe/sir.shapes", laid_spillframe_sir_shapes)] }
def SircodeDecodeSaid : Prop := sircodeDecodeRow.holds Tryd.pinned (OpenSpec.ofChange sircodeDecodeSpec)

/-- ITS FALSE NEIGHBOUR: 'it returns false'. Refute it at one input. -/
def sircodeDecodeWrong : ChangeSpec := { name := "sircodeDecode", fn := fun _ => fun
  | [d1, d2, d3, d4] => { results := [.lit (.bool false)], args := [d1, d2, d3, d4] }
  | _ => none }
def SircodeDecodeWrongFalsely : Prop := sircodeDecodeRow.holds Tryd.pinned (OpenSpec.ofChange sircodeDecodeWrong)

/-- 'spillframelaw06.SircodeDecodeInvertsEncode': WHATEVER THE INPUT: true; the input reads as it did. -/
def sircodeDecodeInvertsEncodeSpec : ChangeSpec := { name := "sircodeDecodeInvertsEncode", fn := fun _ => fun
  | [d1, d2, d3] => { results := [.lit (.bool true)], args := [d1, d2, d3] }
  | _ => none }
def sircodeDecodeInvertsEncodeRow : OpenClaim := { program := "ytinfeglhjmnlaaadoor", sum := "7d14c009c9d15879c14b14d2a3c6661e1d6334aa4b6f6c487abc1ffcc8f385e9", func := "spillframe/spillframelaw06.SircodeDecodeInvertsEncode", spec := "sircodeDecodeInvertsEncode", unfollowed := true, recurses := true, named := ["spillframe/sir.shapes", "math/bits.deBruijn64tab"], apart := false, laid := [("math/bits.deBruijn64tab", laid_math_bits_deBruijn64tab), ("spillframe/sir.shapes", laid_spillframe_sir_shapes)] }
def SircodeDecodeInvertsEncodeSaid : Prop := sircodeDecodeInvertsEncodeRow.holds Tryd.pinned (OpenSpec.ofChange sircodeDecodeInvertsEncodeSpec)

/-- ITS FALSE NEIGHBOUR: 'it returns false'. Refute it at one input. -/
def sircodeDecodeInvertsEncodeWrong : ChangeSpec := { name := "sircodeDecodeInvertsEncode", fn := fun _ => fun
  | [d1, d2, d3] => { results := [.lit (.bool false)], args := [d1, d2, d3] }
  | _ => none }
def SircodeDecodeInvertsEncodeWrongFalsely : Prop := sircodeDecodeInvertsEncodeRow.holds Tryd.pinned (OpenSpec.ofChange sircodeDecodeInvertsEncodeWrong)

/-- 'spillframelaw06.SircodeEncodeInvertsDecode': WHATEVER THE INPUT: true; the input reads as it did. -/
def sircodeEncodeInvertsDecodeSpec : ChangeSpec := { name := "sircodeEncodeInvertsDecode", fn := fun _ => fun
  | [d1, d2, d3, d4] => { results := [.lit (.bool true)], args := [d1, d2, d3, d4] }
  | _ => none }
def sircodeEncodeInvertsDecodeRow : OpenClaim := { program := "ytinfeglhjmnlaaadoor", sum := "7d14c009c9d15879c14b14d2a3c6661e1d6334aa4b6f6c487abc1ffcc8f385e9", func := "spillframe/spillframelaw06.SircodeEncodeInvertsDecode", spec := "sircodeEncodeInvertsDecode", unfollowed := true, recurses := true, named := ["spillframe/sir.shapes", "math/bits.deBruijn64tab"], apart := false, laid := [("math/bits.deBruijn64tab", laid_math_bits_deBruijn64tab), ("spillframe/sir.shapes", laid_spillframe_sir_shapes)] }
def SircodeEncodeInvertsDecodeSaid : Prop := sircodeEncodeInvertsDecodeRow.holds Tryd.pinned (OpenSpec.ofChange sircodeEncodeInvertsDecodeSpec)

/-- ITS FALSE NEIGHBOUR: 'it returns false'. Refute it at one input. -/
def sircodeEncodeInvertsDecodeWrong : ChangeSpec := { name := "sircodeEncodeInvertsDecode", fn := fun _ => fun
  | [d1, d2, d3, d4] => { results := [.lit (.bool false)], args := [d1, d2, d3, d4] }
  | _ => none }
def SircodeEncodeInvertsDecodeWrongFalsely : Prop := sircodeEncodeInvertsDecodeRow.holds Tryd.pinned (OpenSpec.ofChange sircodeEncodeInvertsDecodeWrong)

/- THE SECOND FORM. 'bulk': how many values and letters a reading holds, each counted each time it is reached (what is shared counts as often as it is met; a slice's spare places count too). A statement '..UptoSaid' is the law's where the arguments, and the package variables that the reading takes, are together of bulk at most 1048576: NARROWER than '..Said'. Prove '..Said' where nothing that the law and all that it calls make is longer than what came in: it says more and counts as full. Else prove '..UptoSaid'. A law counts once. -/
mutual
def uptoBulk {H : Type} : DataW H → Nat
  | .lit (.string bytes) => bytes.length + 1
  | .lit _ => 1
  | .nil => 1
  | .ptr d => uptoBulk d + 1
  | .slice elems spare => uptoBulkAll elems + uptoBulkAll spare + 1
  | .agg parts => uptoBulkAll parts + 1
  | .iface _ d => uptoBulk d + 1
  | .map entries => uptoBulkEntries entries + 1
  | .held _ => 1
def uptoBulkAll {H : Type} : List (DataW H) → Nat
  | [] => 0
  | d :: r => uptoBulk d + uptoBulkAll r
def uptoBulkEntries {H : Type} : List (Lit × DataW H) → Nat
  | [] => 0
  | x :: r => uptoBulkEntry x + uptoBulkEntries r
def uptoBulkEntry {H : Type} : Lit × DataW H → Nat
  | (.string bytes, d) => bytes.length + uptoBulk d + 1
  | (_, d) => uptoBulk d + 1
 end
def uptoSmall : (H : Type) → List (DataW H) → Bool := fun _ ds => decide (uptoBulkAll ds ≤ 1048576)
def OpenSpec.upto (s : _root_.Go.ChangeSpec) : _root_.Go.OpenSpec := { _root_.Go.OpenSpec.ofChange s with cond := some uptoSmall }

/-- 'spillframelaw11.MachcodeDecode', WHERE WHAT IT READS IS OF BULK AT MOST 1048576: true; the input reads as it did. -/
def machcodeDecodeUptoRow : OpenClaim := { program := "ytinfeglhjmnlaaadoor", sum := "7d14c009c9d15879c14b14d2a3c6661e1d6334aa4b6f6c487abc1ffcc8f385e9", func := "spillframe/spillframelaw11.MachcodeDecode", spec := "machcodeDecode", unfollowed := true, recurses := true, named := ["math/bits.deBruijn32tab", "math/bits.deBruijn64tab"], apart := false, laid := [("math/bits.deBruijn32tab", laid_math_bits_deBruijn32tab), ("math/bits.deBruijn64tab", laid_math_bits_deBruijn64tab)], narrowed := true }
def MachcodeDecodeUptoSaid : Prop := machcodeDecodeUptoRow.holds Tryd.pinned (OpenSpec.upto machcodeDecodeSpec)

/-- 'spillframelaw11.MachcodeDecodeInvertsEncode', WHERE WHAT IT READS IS OF BULK AT MOST 1048576: true; the input reads as it did. -/
def machcodeDecodeInvertsEncodeUptoRow : OpenClaim := { program := "ytinfeglhjmnlaaadoor", sum := "7d14c009c9d15879c14b14d2a3c6661e1d6334aa4b6f6c487abc1ffcc8f385e9", func := "spillframe/spillframelaw11.MachcodeDecodeInvertsEncode", spec := "machcodeDecodeInvertsEncode", unfollowed := true, recurses := true, named := ["math/bits.deBruijn32tab", "math/bits.deBruijn64tab"], apart := false, laid := [("math/bits.deBruijn32tab", laid_math_bits_deBruijn32tab), ("math/bits.deBruijn64tab", laid_math_bits_deBruijn64tab)], narrowed := true }
def MachcodeDecodeInvertsEncodeUptoSaid : Prop := machcodeDecodeInvertsEncodeUptoRow.holds Tryd.pinned (OpenSpec.upto machcodeDecodeInvertsEncodeSpec)

/-- 'spillframelaw11.MachcodeEncodeInvertsDecode', WHERE WHAT IT READS IS OF BULK AT MOST 1048576: true; the input reads as it did. -/
def machcodeEncodeInvertsDecodeUptoRow : OpenClaim := { program := "ytinfeglhjmnlaaadoor", sum := "7d14c009c9d15879c14b14d2a3c6661e1d6334aa4b6f6c487abc1ffcc8f385e9", func := "spillframe/spillframelaw11.MachcodeEncodeInvertsDecode", spec := "machcodeEncodeInvertsDecode", unfollowed := true, recurses := true, named := ["math/bits.deBruijn32tab", "math/bits.deBruijn64tab"], apart := false, laid := [("math/bits.deBruijn32tab", laid_math_bits_deBruijn32tab), ("math/bits.deBruijn64tab", laid_math_bits_deBruijn64tab)], narrowed := true }
def MachcodeEncodeInvertsDecodeUptoSaid : Prop := machcodeEncodeInvertsDecodeUptoRow.holds Tryd.pinned (OpenSpec.upto machcodeEncodeInvertsDecodeSpec)

/-- 'spillframelaw06.SircodeEncode', WHERE WHAT IT READS IS OF BULK AT MOST 1048576: true; the input reads as it did. -/
def sircodeEncodeUptoRow : OpenClaim := { program := "ytinfeglhjmnlaaadoor", sum := "7d14c009c9d15879c14b14d2a3c6661e1d6334aa4b6f6c487abc1ffcc8f385e9", func := "spillframe/spillframelaw06.SircodeEncode", spec := "sircodeEncode", unfollowed := true, recurses := true, named := ["spillframe/sir.shapes", "math/bits.deBruijn64tab"], apart := false, laid := [("math/bits.deBruijn64tab", laid_math_bits_deBruijn64tab), ("spillframe/sir.shapes", laid_spillframe_sir_shapes)], narrowed := true }
def SircodeEncodeUptoSaid : Prop := sircodeEncodeUptoRow.holds Tryd.pinned (OpenSpec.upto sircodeEncodeSpec)

/-- 'spillframelaw06.SircodeFunctions', WHERE WHAT IT READS IS OF BULK AT MOST 1048576: true; the input reads as it did. -/
def sircodeFunctionsUptoRow : OpenClaim := { program := "ytinfeglhjmnlaaadoor", sum := "7d14c009c9d15879c14b14d2a3c6661e1d6334aa4b6f6c487abc1ffcc8f385e9", func := "spillframe/spillframelaw06.SircodeFunctions", spec := "sircodeFunctions", unfollowed := true, recurses := true, named := ["spillframe/sir.shapes", "math/bits.deBruijn64tab"], apart := false, laid := [("math/bits.deBruijn64tab", laid_math_bits_deBruijn64tab), ("spillframe/sir.shapes", laid_spillframe_sir_shapes)], narrowed := true }
def SircodeFunctionsUptoSaid : Prop := sircodeFunctionsUptoRow.holds Tryd.pinned (OpenSpec.upto sircodeFunctionsSpec)

/-- 'spillframelaw06.SircodeDecode', WHERE WHAT IT READS IS OF BULK AT MOST 1048576: true; the input reads as it did. -/
def sircodeDecodeUptoRow : OpenClaim := { program := "ytinfeglhjmnlaaadoor", sum := "7d14c009c9d15879c14b14d2a3c6661e1d6334aa4b6f6c487abc1ffcc8f385e9", func := "spillframe/spillframelaw06.SircodeDecode", spec := "sircodeDecode", unfollowed := true, recurses := true, named := ["spillframe/sir.shapes", "math/bits.deBruijn64tab"], apart := false, laid := [("math/bits.deBruijn64tab", laid_math_bits_deBruijn64tab), ("spillframe/sir.shapes", laid_spillframe_sir_shapes)], narrowed := true }
def SircodeDecodeUptoSaid : Prop := sircodeDecodeUptoRow.holds Tryd.pinned (OpenSpec.upto sircodeDecodeSpec)

/-- 'spillframelaw06.SircodeDecodeInvertsEncode', WHERE WHAT IT READS IS OF BULK AT MOST 1048576: true; the input reads as it did. -/
def sircodeDecodeInvertsEncodeUptoRow : OpenClaim := { program := "ytinfeglhjmnlaaadoor", sum := "7d14c009c9d15879c14b14d2a3c6661e1d6334aa4b6f6c487abc1ffcc8f385e9", func := "spillframe/spillframelaw06.SircodeDecodeInvertsEncode", spec := "sircodeDecodeInvertsEncode", unfollowed := true, recurses := true, named := ["spillframe/sir.shapes", "math/bits.deBruijn64tab"], apart := false, laid := [("math/bits.deBruijn64tab", laid_math_bits_deBruijn64tab), ("spillframe/sir.shapes", laid_spillframe_sir_shapes)], narrowed := true }
def SircodeDecodeInvertsEncodeUptoSaid : Prop := sircodeDecodeInvertsEncodeUptoRow.holds Tryd.pinned (OpenSpec.upto sircodeDecodeInvertsEncodeSpec)

/-- 'spillframelaw06.SircodeEncodeInvertsDecode', WHERE WHAT IT READS IS OF BULK AT MOST 1048576: true; the input reads as it did. -/
def sircodeEncodeInvertsDecodeUptoRow : OpenClaim := { program := "ytinfeglhjmnlaaadoor", sum := "7d14c009c9d15879c14b14d2a3c6661e1d6334aa4b6f6c487abc1ffcc8f385e9", func := "spillframe/spillframelaw06.SircodeEncodeInvertsDecode", spec := "sircodeEncodeInvertsDecode", unfollowed := true, recurses := true, named := ["spillframe/sir.shapes", "math/bits.deBruijn64tab"], apart := false, laid := [("math/bits.deBruijn64tab", laid_math_bits_deBruijn64tab), ("spillframe/sir.shapes", laid_spillframe_sir_shapes)], narrowed := true }
def SircodeEncodeInvertsDecodeUptoSaid : Prop := sircodeEncodeInvertsDecodeUptoRow.holds Tryd.pinned (OpenSpec.upto sircodeEncodeInvertsDecodeSpec)

end Rows
end Go.Proofs.YtinfeglhjmnlaaaDoor
