/-
  No cell of these rows narrows 'for every input' (looked for: loops, veiled, ifaces, maps, wideKeys, modest, calm, conditions, laid).
  DERIVED. THE GIVEN ROWS OF THIS SEAT. 12 by the template 'for every input the law returns true; each argument reads behind the call as it read before'; 0 by the template 'total and deterministic' (their statements: YtcpmlcdeddmdmaaTotals.lean).
  GIVEN WITH THE SEED: the statements are not yours to turn. If you find one false, say at which input.
  Laid BY PROGRAM, IN A SANDBOX (cutbox-rows.mjs): the forced cells as the released guide's own fill.sh prints them over the translation e7ecb4614310aea3… (all of the seat's roots in one cut). By AI agents, Wed Nov 11 2026. No macro, syntax, notation, axiom, sorry.
-/
import Derived.Test.YtcpmlcdeddmdmaaChecked
import GoSem.Claim
import GoSem.ClaimJoined
import GoSem.ClaimMapViews
import Derived.JoinedTies
import Derived.KernelRfl
namespace Go.Proofs.Ytcpmlcdeddmdmaa
/- THE CELL 'sum', in the pinned program and in every row, IS THE sha256 OF THE DUMP (.gsa) THAT YtcpmlcdeddmdmaaProg.lean LOADS. Nothing in Lean hashes anything: it is a label: what it is worth is what the hold of that sum in a sandbox is worth. -/
noncomputable def Try.pinned : Pinned := { name := "ytcpmlcdeddmdmaa", sum := "e7ecb4614310aea3869f515a72a648bfcf5a917a72d9e4bd8de25070d54b06b1", checked := Try.checked }
namespace Rows
def none {H : Type} : Left H := { results := [], args := [] }

/-- 'spillframelaw09.StackNew': WHATEVER THE INPUT: true; the input reads as it did. -/
def stackNewSpec : ChangeSpec := { name := "stackNew", fn := fun _ => fun
  | [d1, d2, d3, d4] => { results := [.lit (.bool true)], args := [d1, d2, d3, d4] }
  | _ => none }
def stackNewRow : OpenClaim := { program := "ytcpmlcdeddmdmaa", sum := "e7ecb4614310aea3869f515a72a648bfcf5a917a72d9e4bd8de25070d54b06b1", func := "spillframe/spillframelaw09.StackNew", spec := "stackNew", apart := false }
def StackNewSaid : Prop := stackNewRow.holds Try.pinned (OpenSpec.ofChange stackNewSpec)

/-- ITS FALSE NEIGHBOUR: 'it returns false'. Refute it at one input. -/
def stackNewWrong : ChangeSpec := { name := "stackNew", fn := fun _ => fun
  | [d1, d2, d3, d4] => { results := [.lit (.bool false)], args := [d1, d2, d3, d4] }
  | _ => none }
def StackNewWrongFalsely : Prop := stackNewRow.holds Try.pinned (OpenSpec.ofChange stackNewWrong)

/-- 'spillframelaw10.MachIntervals': WHATEVER THE INPUT: true; the input reads as it did. -/
def machIntervalsSpec : ChangeSpec := { name := "machIntervals", fn := fun _ => fun
  | [d1, d2, d3] => { results := [.lit (.bool true)], args := [d1, d2, d3] }
  | _ => none }
def machIntervalsRow : OpenClaim := { program := "ytcpmlcdeddmdmaa", sum := "e7ecb4614310aea3869f515a72a648bfcf5a917a72d9e4bd8de25070d54b06b1", func := "spillframe/spillframelaw10.MachIntervals", spec := "machIntervals", apart := false }
def MachIntervalsSaid : Prop := machIntervalsRow.holds Try.pinned (OpenSpec.ofChange machIntervalsSpec)

/-- ITS FALSE NEIGHBOUR: 'it returns false'. Refute it at one input. -/
def machIntervalsWrong : ChangeSpec := { name := "machIntervals", fn := fun _ => fun
  | [d1, d2, d3] => { results := [.lit (.bool false)], args := [d1, d2, d3] }
  | _ => none }
def MachIntervalsWrongFalsely : Prop := machIntervalsRow.holds Try.pinned (OpenSpec.ofChange machIntervalsWrong)

/-- 'spillframelaw01.VarintCrc': WHATEVER THE INPUT: true; the input reads as it did. -/
def varintCrcSpec : ChangeSpec := { name := "varintCrc", fn := fun _ => fun
  | [d1, d2, d3] => { results := [.lit (.bool true)], args := [d1, d2, d3] }
  | _ => none }
def varintCrcRow : OpenClaim := { program := "ytcpmlcdeddmdmaa", sum := "e7ecb4614310aea3869f515a72a648bfcf5a917a72d9e4bd8de25070d54b06b1", func := "spillframe/spillframelaw01.VarintCrc", spec := "varintCrc", apart := false }
def VarintCrcSaid : Prop := varintCrcRow.holds Try.pinned (OpenSpec.ofChange varintCrcSpec)

/-- ITS FALSE NEIGHBOUR: 'it returns false'. Refute it at one input. -/
def varintCrcWrong : ChangeSpec := { name := "varintCrc", fn := fun _ => fun
  | [d1, d2, d3] => { results := [.lit (.bool false)], args := [d1, d2, d3] }
  | _ => none }
def VarintCrcWrongFalsely : Prop := varintCrcRow.holds Try.pinned (OpenSpec.ofChange varintCrcWrong)

/-- 'spillframelaw01.VarintPut': WHATEVER THE INPUT: true; the input reads as it did. -/
def varintPutSpec : ChangeSpec := { name := "varintPut", fn := fun _ => fun
  | [d1, d2, d3] => { results := [.lit (.bool true)], args := [d1, d2, d3] }
  | _ => none }
def varintPutRow : OpenClaim := { program := "ytcpmlcdeddmdmaa", sum := "e7ecb4614310aea3869f515a72a648bfcf5a917a72d9e4bd8de25070d54b06b1", func := "spillframe/spillframelaw01.VarintPut", spec := "varintPut", apart := false }
def VarintPutSaid : Prop := varintPutRow.holds Try.pinned (OpenSpec.ofChange varintPutSpec)

/-- ITS FALSE NEIGHBOUR: 'it returns false'. Refute it at one input. -/
def varintPutWrong : ChangeSpec := { name := "varintPut", fn := fun _ => fun
  | [d1, d2, d3] => { results := [.lit (.bool false)], args := [d1, d2, d3] }
  | _ => none }
def VarintPutWrongFalsely : Prop := varintPutRow.holds Try.pinned (OpenSpec.ofChange varintPutWrong)

/-- 'spillframelaw02.ValueBytes': WHATEVER THE INPUT: true; the input reads as it did. -/
def valueBytesSpec : ChangeSpec := { name := "valueBytes", fn := fun _ => fun
  | [d1, d2, d3, d4] => { results := [.lit (.bool true)], args := [d1, d2, d3, d4] }
  | _ => none }
def valueBytesRow : OpenClaim := { program := "ytcpmlcdeddmdmaa", sum := "e7ecb4614310aea3869f515a72a648bfcf5a917a72d9e4bd8de25070d54b06b1", func := "spillframe/spillframelaw02.ValueBytes", spec := "valueBytes", apart := false }
def ValueBytesSaid : Prop := valueBytesRow.holds Try.pinned (OpenSpec.ofChange valueBytesSpec)

/-- ITS FALSE NEIGHBOUR: 'it returns false'. Refute it at one input. -/
def valueBytesWrong : ChangeSpec := { name := "valueBytes", fn := fun _ => fun
  | [d1, d2, d3, d4] => { results := [.lit (.bool false)], args := [d1, d2, d3, d4] }
  | _ => none }
def ValueBytesWrongFalsely : Prop := valueBytesRow.holds Try.pinned (OpenSpec.ofChange valueBytesWrong)

/-- 'spillframelaw02.ValueBytesReturn': WHATEVER THE INPUT: true; the input reads as it did. -/
def valueBytesReturnSpec : ChangeSpec := { name := "valueBytesReturn", fn := fun _ => fun
  | [d] => { results := [.lit (.bool true)], args := [d] }
  | _ => none }
def valueBytesReturnRow : OpenClaim := { program := "ytcpmlcdeddmdmaa", sum := "e7ecb4614310aea3869f515a72a648bfcf5a917a72d9e4bd8de25070d54b06b1", func := "spillframe/spillframelaw02.ValueBytesReturn", spec := "valueBytesReturn", apart := false }
def ValueBytesReturnSaid : Prop := valueBytesReturnRow.holds Try.pinned (OpenSpec.ofChange valueBytesReturnSpec)

/-- ITS FALSE NEIGHBOUR: 'it returns false'. Refute it at one input. -/
def valueBytesReturnWrong : ChangeSpec := { name := "valueBytesReturn", fn := fun _ => fun
  | [d] => { results := [.lit (.bool false)], args := [d] }
  | _ => none }
def ValueBytesReturnWrongFalsely : Prop := valueBytesReturnRow.holds Try.pinned (OpenSpec.ofChange valueBytesReturnWrong)

/-- 'spillframelaw01.VarintRead': WHATEVER THE INPUT: true; the input reads as it did. -/
def varintReadSpec : ChangeSpec := { name := "varintRead", fn := fun _ => fun
  | [d1, d2] => { results := [.lit (.bool true)], args := [d1, d2] }
  | _ => none }
def varintReadRow : OpenClaim := { program := "ytcpmlcdeddmdmaa", sum := "e7ecb4614310aea3869f515a72a648bfcf5a917a72d9e4bd8de25070d54b06b1", func := "spillframe/spillframelaw01.VarintRead", spec := "varintRead", apart := false }
def VarintReadSaid : Prop := varintReadRow.holds Try.pinned (OpenSpec.ofChange varintReadSpec)

/-- ITS FALSE NEIGHBOUR: 'it returns false'. Refute it at one input. -/
def varintReadWrong : ChangeSpec := { name := "varintRead", fn := fun _ => fun
  | [d1, d2] => { results := [.lit (.bool false)], args := [d1, d2] }
  | _ => none }
def VarintReadWrongFalsely : Prop := varintReadRow.holds Try.pinned (OpenSpec.ofChange varintReadWrong)

/-- 'spillframelaw01.VarintIsShortest': WHATEVER THE INPUT: true; the input reads as it did. -/
def varintIsShortestSpec : ChangeSpec := { name := "varintIsShortest", fn := fun _ => fun
  | [d] => { results := [.lit (.bool true)], args := [d] }
  | _ => none }
def varintIsShortestRow : OpenClaim := { program := "ytcpmlcdeddmdmaa", sum := "e7ecb4614310aea3869f515a72a648bfcf5a917a72d9e4bd8de25070d54b06b1", func := "spillframe/spillframelaw01.VarintIsShortest", spec := "varintIsShortest", apart := false }
def VarintIsShortestSaid : Prop := varintIsShortestRow.holds Try.pinned (OpenSpec.ofChange varintIsShortestSpec)

/-- ITS FALSE NEIGHBOUR: 'it returns false'. Refute it at one input. -/
def varintIsShortestWrong : ChangeSpec := { name := "varintIsShortest", fn := fun _ => fun
  | [d] => { results := [.lit (.bool false)], args := [d] }
  | _ => none }
def VarintIsShortestWrongFalsely : Prop := varintIsShortestRow.holds Try.pinned (OpenSpec.ofChange varintIsShortestWrong)

/-- 'spillframelaw01.VarintReadInvertsPut': WHATEVER THE INPUT: true; the input reads as it did. -/
def varintReadInvertsPutSpec : ChangeSpec := { name := "varintReadInvertsPut", fn := fun _ => fun
  | [d1, d2, d3, d4] => { results := [.lit (.bool true)], args := [d1, d2, d3, d4] }
  | _ => none }
def varintReadInvertsPutRow : OpenClaim := { program := "ytcpmlcdeddmdmaa", sum := "e7ecb4614310aea3869f515a72a648bfcf5a917a72d9e4bd8de25070d54b06b1", func := "spillframe/spillframelaw01.VarintReadInvertsPut", spec := "varintReadInvertsPut", apart := false }
def VarintReadInvertsPutSaid : Prop := varintReadInvertsPutRow.holds Try.pinned (OpenSpec.ofChange varintReadInvertsPutSpec)

/-- ITS FALSE NEIGHBOUR: 'it returns false'. Refute it at one input. -/
def varintReadInvertsPutWrong : ChangeSpec := { name := "varintReadInvertsPut", fn := fun _ => fun
  | [d1, d2, d3, d4] => { results := [.lit (.bool false)], args := [d1, d2, d3, d4] }
  | _ => none }
def VarintReadInvertsPutWrongFalsely : Prop := varintReadInvertsPutRow.holds Try.pinned (OpenSpec.ofChange varintReadInvertsPutWrong)

/-- 'spillframelaw02.ValueApply': WHATEVER THE INPUT: true; the input reads as it did. -/
def valueApplySpec : ChangeSpec := { name := "valueApply", fn := fun _ => fun
  | [d1, d2, d3] => { results := [.lit (.bool true)], args := [d1, d2, d3] }
  | _ => none }
def valueApplyRow : OpenClaim := { program := "ytcpmlcdeddmdmaa", sum := "e7ecb4614310aea3869f515a72a648bfcf5a917a72d9e4bd8de25070d54b06b1", func := "spillframe/spillframelaw02.ValueApply", spec := "valueApply", inPlace := ["math/bits.Add64", "math/bits.Sub64"], named := ["math/bits.divideError", "math/bits.overflowError"], apart := false }
def ValueApplySaid : Prop := valueApplyRow.holds Try.pinned (OpenSpec.ofChange valueApplySpec)

/-- ITS FALSE NEIGHBOUR: 'it returns false'. Refute it at one input. -/
def valueApplyWrong : ChangeSpec := { name := "valueApply", fn := fun _ => fun
  | [d1, d2, d3] => { results := [.lit (.bool false)], args := [d1, d2, d3] }
  | _ => none }
def ValueApplyWrongFalsely : Prop := valueApplyRow.holds Try.pinned (OpenSpec.ofChange valueApplyWrong)

/-- 'spillframelaw02.ValueDividesWithRest': WHATEVER THE INPUT: true; the input reads as it did. -/
def valueDividesWithRestSpec : ChangeSpec := { name := "valueDividesWithRest", fn := fun _ => fun
  | [d1, d2] => { results := [.lit (.bool true)], args := [d1, d2] }
  | _ => none }
def valueDividesWithRestRow : OpenClaim := { program := "ytcpmlcdeddmdmaa", sum := "e7ecb4614310aea3869f515a72a648bfcf5a917a72d9e4bd8de25070d54b06b1", func := "spillframe/spillframelaw02.ValueDividesWithRest", spec := "valueDividesWithRest", inPlace := ["math/bits.Add64", "math/bits.Sub64"], named := ["math/bits.divideError", "math/bits.overflowError"], apart := false }
def ValueDividesWithRestSaid : Prop := valueDividesWithRestRow.holds Try.pinned (OpenSpec.ofChange valueDividesWithRestSpec)

/-- ITS FALSE NEIGHBOUR: 'it returns false'. Refute it at one input. -/
def valueDividesWithRestWrong : ChangeSpec := { name := "valueDividesWithRest", fn := fun _ => fun
  | [d1, d2] => { results := [.lit (.bool false)], args := [d1, d2] }
  | _ => none }
def ValueDividesWithRestWrongFalsely : Prop := valueDividesWithRestRow.holds Try.pinned (OpenSpec.ofChange valueDividesWithRestWrong)

/-- 'spillframelaw02.ValueRing': WHATEVER THE INPUT: true; the input reads as it did. -/
def valueRingSpec : ChangeSpec := { name := "valueRing", fn := fun _ => fun
  | [d1, d2, d3] => { results := [.lit (.bool true)], args := [d1, d2, d3] }
  | _ => none }
def valueRingRow : OpenClaim := { program := "ytcpmlcdeddmdmaa", sum := "e7ecb4614310aea3869f515a72a648bfcf5a917a72d9e4bd8de25070d54b06b1", func := "spillframe/spillframelaw02.ValueRing", spec := "valueRing", inPlace := ["math/bits.Add64", "math/bits.Sub64"], named := ["math/bits.divideError", "math/bits.overflowError"], apart := false }
def ValueRingSaid : Prop := valueRingRow.holds Try.pinned (OpenSpec.ofChange valueRingSpec)

/-- ITS FALSE NEIGHBOUR: 'it returns false'. Refute it at one input. -/
def valueRingWrong : ChangeSpec := { name := "valueRing", fn := fun _ => fun
  | [d1, d2, d3] => { results := [.lit (.bool false)], args := [d1, d2, d3] }
  | _ => none }
def ValueRingWrongFalsely : Prop := valueRingRow.holds Try.pinned (OpenSpec.ofChange valueRingWrong)

/- THE SECOND FORM. 'bulk': how many values and letters a reading holds, each counted each time it is reached (what is shared counts as often as it is met; a slice's spare places count too). A statement '..UptoSaid' is the law's where the arguments, and the package variables that the reading takes, are together of bulk at most 1048576: NARROWER than '..Said'. Prove '..Said' where nothing that the law and all that it calls make is longer than what came in: it says more and counts as full. Else prove '..UptoSaid'. A law counts once. -/
mutual
def uptoBulk {H : Type} : DataW H → Nat
  | .lit (.string bytes) => bytes.length + 1
  | .lit _ => 1
  | .nil => 1
  | .ptr d => uptoBulk d + 1
  | .slice elems spare => uptoBulkAll elems + uptoBulkAll spare + 1
  | .agg parts => uptoBulkAll parts + 1
  | .iface _ d => uptoBulk d + 1
  | .map entries => uptoBulkEntries entries + 1
  | .held _ => 1
def uptoBulkAll {H : Type} : List (DataW H) → Nat
  | [] => 0
  | d :: r => uptoBulk d + uptoBulkAll r
def uptoBulkEntries {H : Type} : List (Lit × DataW H) → Nat
  | [] => 0
  | x :: r => uptoBulkEntry x + uptoBulkEntries r
def uptoBulkEntry {H : Type} : Lit × DataW H → Nat
  | (.string bytes, d) => bytes.length + uptoBulk d + 1
  | (_, d) => uptoBulk d + 1
 end
def uptoSmall : (H : Type) → List (DataW H) → Bool := fun _ ds => decide (uptoBulkAll ds ≤ 1048576)
def OpenSpec.upto (s : _root_.Go.ChangeSpec) : _root_.Go.OpenSpec := { _root_.Go.OpenSpec.ofChange s with cond := some uptoSmall }

/-- 'spillframelaw09.StackNew', WHERE WHAT IT READS IS OF BULK AT MOST 1048576: true; the input reads as it did. -/
def stackNewUptoRow : OpenClaim := { program := "ytcpmlcdeddmdmaa", sum := "e7ecb4614310aea3869f515a72a648bfcf5a917a72d9e4bd8de25070d54b06b1", func := "spillframe/spillframelaw09.StackNew", spec := "stackNew", apart := false, narrowed := true }
def StackNewUptoSaid : Prop := stackNewUptoRow.holds Try.pinned (OpenSpec.upto stackNewSpec)

/-- 'spillframelaw10.MachIntervals', WHERE WHAT IT READS IS OF BULK AT MOST 1048576: true; the input reads as it did. -/
def machIntervalsUptoRow : OpenClaim := { program := "ytcpmlcdeddmdmaa", sum := "e7ecb4614310aea3869f515a72a648bfcf5a917a72d9e4bd8de25070d54b06b1", func := "spillframe/spillframelaw10.MachIntervals", spec := "machIntervals", apart := false, narrowed := true }
def MachIntervalsUptoSaid : Prop := machIntervalsUptoRow.holds Try.pinned (OpenSpec.upto machIntervalsSpec)

/-- 'spillframelaw01.VarintCrc', WHERE WHAT IT READS IS OF BULK AT MOST 1048576: true; the input reads as it did. -/
def varintCrcUptoRow : OpenClaim := { program := "ytcpmlcdeddmdmaa", sum := "e7ecb4614310aea3869f515a72a648bfcf5a917a72d9e4bd8de25070d54b06b1", func := "spillframe/spillframelaw01.VarintCrc", spec := "varintCrc", apart := false, narrowed := true }
def VarintCrcUptoSaid : Prop := varintCrcUptoRow.holds Try.pinned (OpenSpec.upto varintCrcSpec)

/-- 'spillframelaw01.VarintPut', WHERE WHAT IT READS IS OF BULK AT MOST 1048576: true; the input reads as it did. -/
def varintPutUptoRow : OpenClaim := { program := "ytcpmlcdeddmdmaa", sum := "e7ecb4614310aea3869f515a72a648bfcf5a917a72d9e4bd8de25070d54b06b1", func := "spillframe/spillframelaw01.VarintPut", spec := "varintPut", apart := false, narrowed := true }
def VarintPutUptoSaid : Prop := varintPutUptoRow.holds Try.pinned (OpenSpec.upto varintPutSpec)

/-- 'spillframelaw02.ValueBytes', WHERE WHAT IT READS IS OF BULK AT MOST 1048576: true; the input reads as it did. -/
def valueBytesUptoRow : OpenClaim := { program := "ytcpmlcdeddmdmaa", sum := "e7ecb4614310aea3869f515a72a648bfcf5a917a72d9e4bd8de25070d54b06b1", func := "spillframe/spillframelaw02.ValueBytes", spec := "valueBytes", apart := false, narrowed := true }
def ValueBytesUptoSaid : Prop := valueBytesUptoRow.holds Try.pinned (OpenSpec.upto valueBytesSpec)

/-- 'spillframelaw02.ValueBytesReturn', WHERE WHAT IT READS IS OF BULK AT MOST 1048576: true; the input reads as it did. -/
def valueBytesReturnUptoRow : OpenClaim := { program := "ytcpmlcdeddmdmaa", sum := "e7ecb4614310aea3869f515a72a648bfcf5a917a72d9e4bd8de25070d54b06b1", func := "spillframe/spillframelaw02.ValueBytesReturn", spec := "valueBytesReturn", apart := false, narrowed := true }
def ValueBytesReturnUptoSaid : Prop := valueBytesReturnUptoRow.holds Try.pinned (OpenSpec.upto valueBytesReturnSpec)

/-- 'spillframelaw01.VarintRead', WHERE WHAT IT READS IS OF BULK AT MOST 1048576: true; the input reads as it did. -/
def varintReadUptoRow : OpenClaim := { program := "ytcpmlcdeddmdmaa", sum := "e7ecb4614310aea3869f515a72a648bfcf5a917a72d9e4bd8de25070d54b06b1", func := "spillframe/spillframelaw01.VarintRead", spec := "varintRead", apart := false, narrowed := true }
def VarintReadUptoSaid : Prop := varintReadUptoRow.holds Try.pinned (OpenSpec.upto varintReadSpec)

/-- 'spillframelaw01.VarintIsShortest', WHERE WHAT IT READS IS OF BULK AT MOST 1048576: true; the input reads as it did. -/
def varintIsShortestUptoRow : OpenClaim := { program := "ytcpmlcdeddmdmaa", sum := "e7ecb4614310aea3869f515a72a648bfcf5a917a72d9e4bd8de25070d54b06b1", func := "spillframe/spillframelaw01.VarintIsShortest", spec := "varintIsShortest", apart := false, narrowed := true }
def VarintIsShortestUptoSaid : Prop := varintIsShortestUptoRow.holds Try.pinned (OpenSpec.upto varintIsShortestSpec)

/-- 'spillframelaw01.VarintReadInvertsPut', WHERE WHAT IT READS IS OF BULK AT MOST 1048576: true; the input reads as it did. -/
def varintReadInvertsPutUptoRow : OpenClaim := { program := "ytcpmlcdeddmdmaa", sum := "e7ecb4614310aea3869f515a72a648bfcf5a917a72d9e4bd8de25070d54b06b1", func := "spillframe/spillframelaw01.VarintReadInvertsPut", spec := "varintReadInvertsPut", apart := false, narrowed := true }
def VarintReadInvertsPutUptoSaid : Prop := varintReadInvertsPutUptoRow.holds Try.pinned (OpenSpec.upto varintReadInvertsPutSpec)

/-- 'spillframelaw02.ValueApply', WHERE WHAT IT READS IS OF BULK AT MOST 1048576: true; the input reads as it did. -/
def valueApplyUptoRow : OpenClaim := { program := "ytcpmlcdeddmdmaa", sum := "e7ecb4614310aea3869f515a72a648bfcf5a917a72d9e4bd8de25070d54b06b1", func := "spillframe/spillframelaw02.ValueApply", spec := "valueApply", inPlace := ["math/bits.Add64", "math/bits.Sub64"], named := ["math/bits.divideError", "math/bits.overflowError"], apart := false, narrowed := true }
def ValueApplyUptoSaid : Prop := valueApplyUptoRow.holds Try.pinned (OpenSpec.upto valueApplySpec)

/-- 'spillframelaw02.ValueDividesWithRest', WHERE WHAT IT READS IS OF BULK AT MOST 1048576: true; the input reads as it did. -/
def valueDividesWithRestUptoRow : OpenClaim := { program := "ytcpmlcdeddmdmaa", sum := "e7ecb4614310aea3869f515a72a648bfcf5a917a72d9e4bd8de25070d54b06b1", func := "spillframe/spillframelaw02.ValueDividesWithRest", spec := "valueDividesWithRest", inPlace := ["math/bits.Add64", "math/bits.Sub64"], named := ["math/bits.divideError", "math/bits.overflowError"], apart := false, narrowed := true }
def ValueDividesWithRestUptoSaid : Prop := valueDividesWithRestUptoRow.holds Try.pinned (OpenSpec.upto valueDividesWithRestSpec)

/-- 'spillframelaw02.ValueRing', WHERE WHAT IT READS IS OF BULK AT MOST 1048576: true; the input reads as it did. -/
def valueRingUptoRow : OpenClaim := { program := "ytcpmlcdeddmdmaa", sum := "e7ecb4614310aea3869f515a72a648bfcf5a917a72d9e4bd8de25070d54b06b1", func := "spillframe/spillframelaw02.ValueRing", spec := "valueRing", inPlace := ["math/bits.Add64", "math/bits.Sub64"], named := ["math/bits.divideError", "math/bits.overflowError"], apart := false, narrowed := true }
def ValueRingUptoSaid : Prop := valueRingUptoRow.holds Try.pinned (OpenSpec.upto valueRingSpec)

end Rows
end Go.Proofs.Ytcpmlcdeddmdmaa
