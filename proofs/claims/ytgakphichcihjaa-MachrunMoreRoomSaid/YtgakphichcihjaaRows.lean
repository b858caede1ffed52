/-
  No cell of these rows narrows 'for every input' (looked for: loops, veiled, ifaces, maps, wideKeys, modest, calm, conditions, laid).
  DERIVED. THE GIVEN ROWS OF THIS SEAT. 7 by the template 'for every input the law returns true; each argument reads behind the call as it read before'; 0 by the template 'total and deterministic' (their statements: YtgakphichcihjaaTotals.lean).
  GIVEN WITH THE SEED: the statements are not yours to turn. If you find one false, say at which input.
  Laid BY PROGRAM, IN A SANDBOX (cutbox-rows.mjs): the forced cells as the released guide's own fill.sh prints them over the translation 093242fa00364197… (all of the seat's roots in one cut). By AI agents, Wed Nov 11 2026. No macro, syntax, notation, axiom, sorry.
-/
import Derived.Test.YtgakphichcihjaaChecked
import GoSem.Claim
import GoSem.ClaimJoined
import GoSem.ClaimMapViews
import Derived.JoinedTies
import Derived.KernelRfl
namespace Go.Proofs.Ytgakphichcihjaa
/- THE CELL 'sum', in the pinned program and in every row, IS THE sha256 OF THE DUMP (.gsa) THAT YtgakphichcihjaaProg.lean LOADS. Nothing in Lean hashes anything: it is a label: what it is worth is what the hold of that sum in a sandbox is worth. -/
noncomputable def Try.pinned : Pinned := { name := "ytgakphichcihjaa", sum := "093242fa0036419796e6a2df104b46baa87fcb61b627b75ee92f81ca98b7137f", checked := Try.checked }
namespace Rows
def none {H : Type} : Left H := { results := [], args := [] }

/-- 'spillframelaw10.MachSame': WHATEVER THE INPUT: true; the input reads as it did. -/
def machSameSpec : ChangeSpec := { name := "machSame", fn := fun _ => fun
  | [d1, d2, d3] => { results := [.lit (.bool true)], args := [d1, d2, d3] }
  | _ => none }
def machSameRow : OpenClaim := { program := "ytgakphichcihjaa", sum := "093242fa0036419796e6a2df104b46baa87fcb61b627b75ee92f81ca98b7137f", func := "spillframe/spillframelaw10.MachSame", spec := "machSame", unfollowed := true, recurses := true, apart := false }
def MachSameSaid : Prop := machSameRow.holds Try.pinned (OpenSpec.ofChange machSameSpec)

/-- ITS FALSE NEIGHBOUR: 'it returns false'. Refute it at one input. -/
def machSameWrong : ChangeSpec := { name := "machSame", fn := fun _ => fun
  | [d1, d2, d3] => { results := [.lit (.bool false)], args := [d1, d2, d3] }
  | _ => none }
def MachSameWrongFalsely : Prop := machSameRow.holds Try.pinned (OpenSpec.ofChange machSameWrong)

/-- 'spillframelaw10.MachStaysInside': WHATEVER THE INPUT: true; the input reads as it did. -/
def machStaysInsideSpec : ChangeSpec := { name := "machStaysInside", fn := fun _ => fun
  | [d] => { results := [.lit (.bool true)], args := [d] }
  | _ => none }
def machStaysInsideRow : OpenClaim := { program := "ytgakphichcihjaa", sum := "093242fa0036419796e6a2df104b46baa87fcb61b627b75ee92f81ca98b7137f", func := "spillframe/spillframelaw10.MachStaysInside", spec := "machStaysInside", unfollowed := true, recurses := true, apart := false }
def MachStaysInsideSaid : Prop := machStaysInsideRow.holds Try.pinned (OpenSpec.ofChange machStaysInsideSpec)

/-- ITS FALSE NEIGHBOUR: 'it returns false'. Refute it at one input. -/
def machStaysInsideWrong : ChangeSpec := { name := "machStaysInside", fn := fun _ => fun
  | [d] => { results := [.lit (.bool false)], args := [d] }
  | _ => none }
def MachStaysInsideWrongFalsely : Prop := machStaysInsideRow.holds Try.pinned (OpenSpec.ofChange machStaysInsideWrong)

/-- 'spillframelaw10.MachLimits': WHATEVER THE INPUT: true; the input reads as it did. -/
def machLimitsSpec : ChangeSpec := { name := "machLimits", fn := fun _ => fun
  | [d1, d2] => { results := [.lit (.bool true)], args := [d1, d2] }
  | _ => none }
def machLimitsRow : OpenClaim := { program := "ytgakphichcihjaa", sum := "093242fa0036419796e6a2df104b46baa87fcb61b627b75ee92f81ca98b7137f", func := "spillframe/spillframelaw10.MachLimits", spec := "machLimits", unfollowed := true, recurses := true, apart := false }
def MachLimitsSaid : Prop := machLimitsRow.holds Try.pinned (OpenSpec.ofChange machLimitsSpec)

/-- ITS FALSE NEIGHBOUR: 'it returns false'. Refute it at one input. -/
def machLimitsWrong : ChangeSpec := { name := "machLimits", fn := fun _ => fun
  | [d1, d2] => { results := [.lit (.bool false)], args := [d1, d2] }
  | _ => none }
def MachLimitsWrongFalsely : Prop := machLimitsRow.holds Try.pinned (OpenSpec.ofChange machLimitsWrong)

/-- 'spillframelaw12.MachrunNeverWild': WHATEVER THE INPUT: true; the input reads as it did. -/
def machrunNeverWildSpec : ChangeSpec := { name := "machrunNeverWild", fn := fun _ => fun
  | [d] => { results := [.lit (.bool true)], args := [d] }
  | _ => none }
def machrunNeverWildRow : OpenClaim := { program := "ytgakphichcihjaa", sum := "093242fa0036419796e6a2df104b46baa87fcb61b627b75ee92f81ca98b7137f", func := "spillframe/spillframelaw12.MachrunNeverWild", spec := "machrunNeverWild", inPlace := ["math/bits.Add64", "math/bits.Sub64"], unfollowed := true, recurses := true, named := ["math/bits.divideError", "math/bits.overflowError"], apart := false }
def MachrunNeverWildSaid : Prop := machrunNeverWildRow.holds Try.pinned (OpenSpec.ofChange machrunNeverWildSpec)

/-- ITS FALSE NEIGHBOUR: 'it returns false'. Refute it at one input. -/
def machrunNeverWildWrong : ChangeSpec := { name := "machrunNeverWild", fn := fun _ => fun
  | [d] => { results := [.lit (.bool false)], args := [d] }
  | _ => none }
def MachrunNeverWildWrongFalsely : Prop := machrunNeverWildRow.holds Try.pinned (OpenSpec.ofChange machrunNeverWildWrong)

/-- 'spillframelaw12.MachrunFuelIsMonotone': WHATEVER THE INPUT: true; the input reads as it did. -/
def machrunFuelIsMonotoneSpec : ChangeSpec := { name := "machrunFuelIsMonotone", fn := fun _ => fun
  | [d1, d2] => { results := [.lit (.bool true)], args := [d1, d2] }
  | _ => none }
def machrunFuelIsMonotoneRow : OpenClaim := { program := "ytgakphichcihjaa", sum := "093242fa0036419796e6a2df104b46baa87fcb61b627b75ee92f81ca98b7137f", func := "spillframe/spillframelaw12.MachrunFuelIsMonotone", spec := "machrunFuelIsMonotone", inPlace := ["math/bits.Add64", "math/bits.Sub64"], unfollowed := true, recurses := true, named := ["math/bits.divideError", "math/bits.overflowError"], apart := false }
def MachrunFuelIsMonotoneSaid : Prop := machrunFuelIsMonotoneRow.holds Try.pinned (OpenSpec.ofChange machrunFuelIsMonotoneSpec)

/-- ITS FALSE NEIGHBOUR: 'it returns false'. Refute it at one input. -/
def machrunFuelIsMonotoneWrong : ChangeSpec := { name := "machrunFuelIsMonotone", fn := fun _ => fun
  | [d1, d2] => { results := [.lit (.bool false)], args := [d1, d2] }
  | _ => none }
def MachrunFuelIsMonotoneWrongFalsely : Prop := machrunFuelIsMonotoneRow.holds Try.pinned (OpenSpec.ofChange machrunFuelIsMonotoneWrong)

/-- 'spillframelaw12.MachrunOverflowsAtEntry': WHATEVER THE INPUT: true; the input reads as it did. -/
def machrunOverflowsAtEntrySpec : ChangeSpec := { name := "machrunOverflowsAtEntry", fn := fun _ => fun
  | [d1, d2, d3] => { results := [.lit (.bool true)], args := [d1, d2, d3] }
  | _ => none }
def machrunOverflowsAtEntryRow : OpenClaim := { program := "ytgakphichcihjaa", sum := "093242fa0036419796e6a2df104b46baa87fcb61b627b75ee92f81ca98b7137f", func := "spillframe/spillframelaw12.MachrunOverflowsAtEntry", spec := "machrunOverflowsAtEntry", inPlace := ["math/bits.Add64", "math/bits.Sub64"], unfollowed := true, recurses := true, named := ["math/bits.divideError", "math/bits.overflowError"], apart := false }
def MachrunOverflowsAtEntrySaid : Prop := machrunOverflowsAtEntryRow.holds Try.pinned (OpenSpec.ofChange machrunOverflowsAtEntrySpec)

/-- ITS FALSE NEIGHBOUR: 'it returns false'. Refute it at one input. -/
def machrunOverflowsAtEntryWrong : ChangeSpec := { name := "machrunOverflowsAtEntry", fn := fun _ => fun
  | [d1, d2, d3] => { results := [.lit (.bool false)], args := [d1, d2, d3] }
  | _ => none }
def MachrunOverflowsAtEntryWrongFalsely : Prop := machrunOverflowsAtEntryRow.holds Try.pinned (OpenSpec.ofChange machrunOverflowsAtEntryWrong)

/-- 'spillframelaw12.MachrunMoreRoom': WHATEVER THE INPUT: true; the input reads as it did. -/
def machrunMoreRoomSpec : ChangeSpec := { name := "machrunMoreRoom", fn := fun _ => fun
  | [d1, d2] => { results := [.lit (.bool true)], args := [d1, d2] }
  | _ => none }
def machrunMoreRoomRow : OpenClaim := { program := "ytgakphichcihjaa", sum := "093242fa0036419796e6a2df104b46baa87fcb61b627b75ee92f81ca98b7137f", func := "spillframe/spillframelaw12.MachrunMoreRoom", spec := "machrunMoreRoom", inPlace := ["math/bits.Add64", "math/bits.Sub64"], unfollowed := true, recurses := true, named := ["math/bits.divideError", "math/bits.overflowError"], apart := false }
def MachrunMoreRoomSaid : Prop := machrunMoreRoomRow.holds Try.pinned (OpenSpec.ofChange machrunMoreRoomSpec)

/-- ITS FALSE NEIGHBOUR: 'it returns false'. Refute it at one input. -/
def machrunMoreRoomWrong : ChangeSpec := { name := "machrunMoreRoom", fn := fun _ => fun
  | [d1, d2] => { results := [.lit (.bool false)], args := [d1, d2] }
  | _ => none }
def MachrunMoreRoomWrongFalsely : Prop := machrunMoreRoomRow.holds Try.pinned (OpenSpec.ofChange machrunMoreRoomWrong)

/- THE SECOND FORM. 'bulk': how many values and letters a reading holds, each counted each time it is reached (what is shared counts as often as it is met; a slice's spare places count too). A statement '..UptoSaid' is the law's where the arguments, and the package variables that the reading takes, are together of bulk at most 1048576: NARROWER than '..Said'. Prove '..Said' where nothing that the law and all that it calls make is longer than what came in: it says more and counts as full. Else prove '..UptoSaid'. A law counts once. -/
mutual
def uptoBulk {H : Type} : DataW H → Nat
  | .lit (.string bytes) => bytes.length + 1
  | .lit _ => 1
  | .nil => 1
  | .ptr d => uptoBulk d + 1
  | .slice elems spare => uptoBulkAll elems + uptoBulkAll spare + 1
  | .agg parts => uptoBulkAll parts + 1
  | .iface _ d => uptoBulk d + 1
  | .map entries => uptoBulkEntries entries + 1
  | .held _ => 1
def uptoBulkAll {H : Type} : List (DataW H) → Nat
  | [] => 0
  | d :: r => uptoBulk d + uptoBulkAll r
def uptoBulkEntries {H : Type} : List (Lit × DataW H) → Nat
  | [] => 0
  | x :: r => uptoBulkEntry x + uptoBulkEntries r
def uptoBulkEntry {H : Type} : Lit × DataW H → Nat
  | (.string bytes, d) => bytes.length + uptoBulk d + 1
  | (_, d) => uptoBulk d + 1
 end
def uptoSmall : (H : Type) → List (DataW H) → Bool := fun _ ds => decide (uptoBulkAll ds ≤ 1048576)
def OpenSpec.upto (s : _root_.Go.ChangeSpec) : _root_.Go.OpenSpec := { _root_.Go.OpenSpec.ofChange s with cond := some uptoSmall }

/-- 'spillframelaw10.MachSame', WHERE WHAT IT READS IS OF BULK AT MOST 1048576: true; the input reads as it did. -/
def machSameUptoRow : OpenClaim := { program := "ytgakphichcihjaa", sum := "093242fa0036419796e6a2df104b46baa87fcb61b627b75ee92f81ca98b7137f", func := "spillframe/spillframelaw10.MachSame", spec := "machSame", unfollowed := true, recurses := true, apart := false, narrowed := true }
def MachSameUptoSaid : Prop := machSameUptoRow.holds Try.pinned (OpenSpec.upto machSameSpec)

/-- 'spillframelaw10.MachStaysInside', WHERE WHAT IT READS IS OF BULK AT MOST 1048576: true; the input reads as it did. -/
def machStaysInsideUptoRow : OpenClaim := { program := "ytgakphichcihjaa", sum := "093242fa0036419796e6a2df104b46baa87fcb61b627b75ee92f81ca98b7137f", func := "spillframe/spillframelaw10.MachStaysInside", spec := "machStaysInside", unfollowed := true, recurses := true, apart := false, narrowed := true }
def MachStaysInsideUptoSaid : Prop := machStaysInsideUptoRow.holds Try.pinned (OpenSpec.upto machStaysInsideSpec)

/-- 'spillframelaw10.MachLimits', WHERE WHAT IT READS IS OF BULK AT MOST 1048576: true; the input reads as it did. -/
def machLimitsUptoRow : OpenClaim := { program := "ytgakphichcihjaa", sum := "093242fa0036419796e6a2df104b46baa87fcb61b627b75ee92f81ca98b7137f", func := "spillframe/spillframelaw10.MachLimits", spec := "machLimits", unfollowed := true, recurses := true, apart := false, narrowed := true }
def MachLimitsUptoSaid : Prop := machLimitsUptoRow.holds Try.pinned (OpenSpec.upto machLimitsSpec)

/-- 'spillframelaw12.MachrunNeverWild', WHERE WHAT IT READS IS OF BULK AT MOST 1048576: true; the input reads as it did. -/
def machrunNeverWildUptoRow : OpenClaim := { program := "ytgakphichcihjaa", sum := "093242fa0036419796e6a2df104b46baa87fcb61b627b75ee92f81ca98b7137f", func := "spillframe/spillframelaw12.MachrunNeverWild", spec := "machrunNeverWild", inPlace := ["math/bits.Add64", "math/bits.Sub64"], unfollowed := true, recurses := true, named := ["math/bits.divideError", "math/bits.overflowError"], apart := false, narrowed := true }
def MachrunNeverWildUptoSaid : Prop := machrunNeverWildUptoRow.holds Try.pinned (OpenSpec.upto machrunNeverWildSpec)

/-- 'spillframelaw12.MachrunFuelIsMonotone', WHERE WHAT IT READS IS OF BULK AT MOST 1048576: true; the input reads as it did. -/
def machrunFuelIsMonotoneUptoRow : OpenClaim := { program := "ytgakphichcihjaa", sum := "093242fa0036419796e6a2df104b46baa87fcb61b627b75ee92f81ca98b7137f", func := "spillframe/spillframelaw12.MachrunFuelIsMonotone", spec := "machrunFuelIsMonotone", inPlace := ["math/bits.Add64", "math/bits.Sub64"], unfollowed := true, recurses := true, named := ["math/bits.divideError", "math/bits.overflowError"], apart := false, narrowed := true }
def MachrunFuelIsMonotoneUptoSaid : Prop := machrunFuelIsMonotoneUptoRow.holds Try.pinned (OpenSpec.upto machrunFuelIsMonotoneSpec)

/-- 'spillframelaw12.MachrunOverflowsAtEntry', WHERE WHAT IT READS IS OF BULK AT MOST 1048576: true; the input reads as it did. -/
def machrunOverflowsAtEntryUptoRow : OpenClaim := { program := "ytgakphichcihjaa", sum := "093242fa0036419796e6a2df104b46baa87fcb61b627b75ee92f81ca98b7137f", func := "spillframe/spillframelaw12.MachrunOverflowsAtEntry", spec := "machrunOverflowsAtEntry", inPlace := ["math/bits.Add64", "math/bits.Sub64"], unfollowed := true, recurses := true, named := ["math/bits.divideError", "math/bits.overflowError"], apart := false, narrowed := true }
def MachrunOverflowsAtEntryUptoSaid : Prop := machrunOverflowsAtEntryUptoRow.holds Try.pinned (OpenSpec.upto machrunOverflowsAtEntrySpec)

/-- 'spillframelaw12.MachrunMoreRoom', WHERE WHAT IT READS IS OF BULK AT MOST 1048576: true; the input reads as it did. -/
def machrunMoreRoomUptoRow : OpenClaim := { program := "ytgakphichcihjaa", sum := "093242fa0036419796e6a2df104b46baa87fcb61b627b75ee92f81ca98b7137f", func := "spillframe/spillframelaw12.MachrunMoreRoom", spec := "machrunMoreRoom", inPlace := ["math/bits.Add64", "math/bits.Sub64"], unfollowed := true, recurses := true, named := ["math/bits.divideError", "math/bits.overflowError"], apart := false, narrowed := true }
def MachrunMoreRoomUptoSaid : Prop := machrunMoreRoomUptoRow.holds Try.pinned (OpenSpec.upto machrunMoreRoomSpec)

end Rows
end Go.Proofs.Ytgakphichcihjaa
