/-
  No cell of these rows narrows 'for every input' (looked for: loops, veiled, ifaces, maps, wideKeys, modest, calm, conditions, laid).
  DERIVED. THE GIVEN ROWS OF THIS SEAT. 10 by the template 'for every input the law returns true; each argument reads behind the call as it read before'; 0 by the template 'total and deterministic' (their statements: YtgamodmenlhedaaTotals.lean).
  GIVEN WITH THE SEED: the statements are not yours to turn. If you find one false, say at which input.
  Laid BY PROGRAM, IN A SANDBOX (cutbox-rows.mjs): the forced cells as the released guide's own fill.sh prints them over the translation 5971384cc74bc197… (all of the seat's roots in one cut). By AI agents, Wed Nov 11 2026. No macro, syntax, notation, axiom, sorry.
-/
import Derived.Test.YtgamodmenlhedaaChecked
import GoSem.Claim
import GoSem.ClaimJoined
import GoSem.ClaimMapViews
import Derived.JoinedTies
import Derived.KernelRfl
namespace Go.Proofs.Ytgamodmenlhedaa
/- THE CELL 'sum', in the pinned program and in every row, IS THE sha256 OF THE DUMP (.gsa) THAT YtgamodmenlhedaaProg.lean LOADS. Nothing in Lean hashes anything: it is a label: what it is worth is what the hold of that sum in a sandbox is worth. -/
noncomputable def Try.pinned : Pinned := { name := "ytgamodmenlhedaa", sum := "5971384cc74bc1973933c1cfd8b275194e724d9fcc6bd0f81cca074cc02d5f1e", checked := Try.checked }
namespace Rows
def none {H : Type} : Left H := { results := [], args := [] }

/-- 'spillframelaw30.CertificateCheck': WHATEVER THE INPUT: true; the input reads as it did. -/
def certificateCheckSpec : ChangeSpec := { name := "certificateCheck", fn := fun _ => fun
  | [d1, d2, d3, d4] => { results := [.lit (.bool true)], args := [d1, d2, d3, d4] }
  | _ => none }
def certificateCheckRow : OpenClaim := { program := "ytgamodmenlhedaa", sum := "5971384cc74bc1973933c1cfd8b275194e724d9fcc6bd0f81cca074cc02d5f1e", func := "spillframe/spillframelaw30.CertificateCheck", spec := "certificateCheck", unfollowed := true, recurses := true, apart := false }
def CertificateCheckSaid : Prop := certificateCheckRow.holds Try.pinned (OpenSpec.ofChange certificateCheckSpec)

/-- ITS FALSE NEIGHBOUR: 'it returns false'. Refute it at one input. -/
def certificateCheckWrong : ChangeSpec := { name := "certificateCheck", fn := fun _ => fun
  | [d1, d2, d3, d4] => { results := [.lit (.bool false)], args := [d1, d2, d3, d4] }
  | _ => none }
def CertificateCheckWrongFalsely : Prop := certificateCheckRow.holds Try.pinned (OpenSpec.ofChange certificateCheckWrong)

/-- 'spillframelaw30.CertificateIsSound': WHATEVER THE INPUT: true; the input reads as it did. -/
def certificateIsSoundSpec : ChangeSpec := { name := "certificateIsSound", fn := fun _ => fun
  | [d] => { results := [.lit (.bool true)], args := [d] }
  | _ => none }
def certificateIsSoundRow : OpenClaim := { program := "ytgamodmenlhedaa", sum := "5971384cc74bc1973933c1cfd8b275194e724d9fcc6bd0f81cca074cc02d5f1e", func := "spillframe/spillframelaw30.CertificateIsSound", spec := "certificateIsSound", unfollowed := true, recurses := true, apart := false }
def CertificateIsSoundSaid : Prop := certificateIsSoundRow.holds Try.pinned (OpenSpec.ofChange certificateIsSoundSpec)

/-- ITS FALSE NEIGHBOUR: 'it returns false'. Refute it at one input. -/
def certificateIsSoundWrong : ChangeSpec := { name := "certificateIsSound", fn := fun _ => fun
  | [d] => { results := [.lit (.bool false)], args := [d] }
  | _ => none }
def CertificateIsSoundWrongFalsely : Prop := certificateIsSoundRow.holds Try.pinned (OpenSpec.ofChange certificateIsSoundWrong)

/-- 'spillframelaw30.CertificateTightIsTheBound': WHATEVER THE INPUT: true; the input reads as it did. -/
def certificateTightIsTheBoundSpec : ChangeSpec := { name := "certificateTightIsTheBound", fn := fun _ => fun
  | [d] => { results := [.lit (.bool true)], args := [d] }
  | _ => none }
def certificateTightIsTheBoundRow : OpenClaim := { program := "ytgamodmenlhedaa", sum := "5971384cc74bc1973933c1cfd8b275194e724d9fcc6bd0f81cca074cc02d5f1e", func := "spillframe/spillframelaw30.CertificateTightIsTheBound", spec := "certificateTightIsTheBound", unfollowed := true, recurses := true, apart := false }
def CertificateTightIsTheBoundSaid : Prop := certificateTightIsTheBoundRow.holds Try.pinned (OpenSpec.ofChange certificateTightIsTheBoundSpec)

/-- ITS FALSE NEIGHBOUR: 'it returns false'. Refute it at one input. -/
def certificateTightIsTheBoundWrong : ChangeSpec := { name := "certificateTightIsTheBound", fn := fun _ => fun
  | [d] => { results := [.lit (.bool false)], args := [d] }
  | _ => none }
def CertificateTightIsTheBoundWrongFalsely : Prop := certificateTightIsTheBoundRow.holds Try.pinned (OpenSpec.ofChange certificateTightIsTheBoundWrong)

/-- 'spillframelaw30.CertificateRefusesCycles': WHATEVER THE INPUT: true; the input reads as it did. -/
def certificateRefusesCyclesSpec : ChangeSpec := { name := "certificateRefusesCycles", fn := fun _ => fun
  | [d1, d2] => { results := [.lit (.bool true)], args := [d1, d2] }
  | _ => none }
def certificateRefusesCyclesRow : OpenClaim := { program := "ytgamodmenlhedaa", sum := "5971384cc74bc1973933c1cfd8b275194e724d9fcc6bd0f81cca074cc02d5f1e", func := "spillframe/spillframelaw30.CertificateRefusesCycles", spec := "certificateRefusesCycles", unfollowed := true, recurses := true, apart := false }
def CertificateRefusesCyclesSaid : Prop := certificateRefusesCyclesRow.holds Try.pinned (OpenSpec.ofChange certificateRefusesCyclesSpec)

/-- ITS FALSE NEIGHBOUR: 'it returns false'. Refute it at one input. -/
def certificateRefusesCyclesWrong : ChangeSpec := { name := "certificateRefusesCycles", fn := fun _ => fun
  | [d1, d2] => { results := [.lit (.bool false)], args := [d1, d2] }
  | _ => none }
def CertificateRefusesCyclesWrongFalsely : Prop := certificateRefusesCyclesRow.holds Try.pinned (OpenSpec.ofChange certificateRefusesCyclesWrong)

/-- 'spillframelaw30.CertificateIsMonotone': WHATEVER THE INPUT: true; the input reads as it did. -/
def certificateIsMonotoneSpec : ChangeSpec := { name := "certificateIsMonotone", fn := fun _ => fun
  | [d1, d2] => { results := [.lit (.bool true)], args := [d1, d2] }
  | _ => none }
def certificateIsMonotoneRow : OpenClaim := { program := "ytgamodmenlhedaa", sum := "5971384cc74bc1973933c1cfd8b275194e724d9fcc6bd0f81cca074cc02d5f1e", func := "spillframe/spillframelaw30.CertificateIsMonotone", spec := "certificateIsMonotone", unfollowed := true, recurses := true, apart := false }
def CertificateIsMonotoneSaid : Prop := certificateIsMonotoneRow.holds Try.pinned (OpenSpec.ofChange certificateIsMonotoneSpec)

/-- ITS FALSE NEIGHBOUR: 'it returns false'. Refute it at one input. -/
def certificateIsMonotoneWrong : ChangeSpec := { name := "certificateIsMonotone", fn := fun _ => fun
  | [d1, d2] => { results := [.lit (.bool false)], args := [d1, d2] }
  | _ => none }
def CertificateIsMonotoneWrongFalsely : Prop := certificateIsMonotoneRow.holds Try.pinned (OpenSpec.ofChange certificateIsMonotoneWrong)

/-- 'spillframelaw09.StackLoadAfterStore': WHATEVER THE INPUT: true; the input reads as it did. -/
def stackLoadAfterStoreSpec : ChangeSpec := { name := "stackLoadAfterStore", fn := fun _ => fun
  | [d1, d2] => { results := [.lit (.bool true)], args := [d1, d2] }
  | _ => none }
def stackLoadAfterStoreRow : OpenClaim := { program := "ytgamodmenlhedaa", sum := "5971384cc74bc1973933c1cfd8b275194e724d9fcc6bd0f81cca074cc02d5f1e", func := "spillframe/spillframelaw09.StackLoadAfterStore", spec := "stackLoadAfterStore", apart := false }
def StackLoadAfterStoreSaid : Prop := stackLoadAfterStoreRow.holds Try.pinned (OpenSpec.ofChange stackLoadAfterStoreSpec)

/-- ITS FALSE NEIGHBOUR: 'it returns false'. Refute it at one input. -/
def stackLoadAfterStoreWrong : ChangeSpec := { name := "stackLoadAfterStore", fn := fun _ => fun
  | [d1, d2] => { results := [.lit (.bool false)], args := [d1, d2] }
  | _ => none }
def StackLoadAfterStoreWrongFalsely : Prop := stackLoadAfterStoreRow.holds Try.pinned (OpenSpec.ofChange stackLoadAfterStoreWrong)

/-- 'spillframelaw09.StackPopAfterPush': WHATEVER THE INPUT: true; the input reads as it did. -/
def stackPopAfterPushSpec : ChangeSpec := { name := "stackPopAfterPush", fn := fun _ => fun
  | [d1, d2] => { results := [.lit (.bool true)], args := [d1, d2] }
  | _ => none }
def stackPopAfterPushRow : OpenClaim := { program := "ytgamodmenlhedaa", sum := "5971384cc74bc1973933c1cfd8b275194e724d9fcc6bd0f81cca074cc02d5f1e", func := "spillframe/spillframelaw09.StackPopAfterPush", spec := "stackPopAfterPush", apart := false }
def StackPopAfterPushSaid : Prop := stackPopAfterPushRow.holds Try.pinned (OpenSpec.ofChange stackPopAfterPushSpec)

/-- ITS FALSE NEIGHBOUR: 'it returns false'. Refute it at one input. -/
def stackPopAfterPushWrong : ChangeSpec := { name := "stackPopAfterPush", fn := fun _ => fun
  | [d1, d2] => { results := [.lit (.bool false)], args := [d1, d2] }
  | _ => none }
def StackPopAfterPushWrongFalsely : Prop := stackPopAfterPushRow.holds Try.pinned (OpenSpec.ofChange stackPopAfterPushWrong)

/-- 'spillframelaw09.StackUndefByte': WHATEVER THE INPUT: true; the input reads as it did. -/
def stackUndefByteSpec : ChangeSpec := { name := "stackUndefByte", fn := fun _ => fun
  | [d1, d2, d3] => { results := [.lit (.bool true)], args := [d1, d2, d3] }
  | _ => none }
def stackUndefByteRow : OpenClaim := { program := "ytgamodmenlhedaa", sum := "5971384cc74bc1973933c1cfd8b275194e724d9fcc6bd0f81cca074cc02d5f1e", func := "spillframe/spillframelaw09.StackUndefByte", spec := "stackUndefByte", apart := false }
def StackUndefByteSaid : Prop := stackUndefByteRow.holds Try.pinned (OpenSpec.ofChange stackUndefByteSpec)

/-- ITS FALSE NEIGHBOUR: 'it returns false'. Refute it at one input. -/
def stackUndefByteWrong : ChangeSpec := { name := "stackUndefByte", fn := fun _ => fun
  | [d1, d2, d3] => { results := [.lit (.bool false)], args := [d1, d2, d3] }
  | _ => none }
def StackUndefByteWrongFalsely : Prop := stackUndefByteRow.holds Try.pinned (OpenSpec.ofChange stackUndefByteWrong)

/-- 'spillframelaw09.StackOperations': WHATEVER THE INPUT: true; the input reads as it did. -/
def stackOperationsSpec : ChangeSpec := { name := "stackOperations", fn := fun _ => fun
  | [d1, d2, d3] => { results := [.lit (.bool true)], args := [d1, d2, d3] }
  | _ => none }
def stackOperationsRow : OpenClaim := { program := "ytgamodmenlhedaa", sum := "5971384cc74bc1973933c1cfd8b275194e724d9fcc6bd0f81cca074cc02d5f1e", func := "spillframe/spillframelaw09.StackOperations", spec := "stackOperations", apart := false }
def StackOperationsSaid : Prop := stackOperationsRow.holds Try.pinned (OpenSpec.ofChange stackOperationsSpec)

/-- ITS FALSE NEIGHBOUR: 'it returns false'. Refute it at one input. -/
def stackOperationsWrong : ChangeSpec := { name := "stackOperations", fn := fun _ => fun
  | [d1, d2, d3] => { results := [.lit (.bool false)], args := [d1, d2, d3] }
  | _ => none }
def StackOperationsWrongFalsely : Prop := stackOperationsRow.holds Try.pinned (OpenSpec.ofChange stackOperationsWrong)

/-- 'spillframelaw10.MachLimits': WHATEVER THE INPUT: true; the input reads as it did. -/
def machLimitsSpec : ChangeSpec := { name := "machLimits", fn := fun _ => fun
  | [d1, d2] => { results := [.lit (.bool true)], args := [d1, d2] }
  | _ => none }
def machLimitsRow : OpenClaim := { program := "ytgamodmenlhedaa", sum := "5971384cc74bc1973933c1cfd8b275194e724d9fcc6bd0f81cca074cc02d5f1e", func := "spillframe/spillframelaw10.MachLimits", spec := "machLimits", unfollowed := true, recurses := true, apart := false }
def MachLimitsSaid : Prop := machLimitsRow.holds Try.pinned (OpenSpec.ofChange machLimitsSpec)

/-- ITS FALSE NEIGHBOUR: 'it returns false'. Refute it at one input. -/
def machLimitsWrong : ChangeSpec := { name := "machLimits", fn := fun _ => fun
  | [d1, d2] => { results := [.lit (.bool false)], args := [d1, d2] }
  | _ => none }
def MachLimitsWrongFalsely : Prop := machLimitsRow.holds Try.pinned (OpenSpec.ofChange machLimitsWrong)

/- THE SECOND FORM. 'bulk': how many values and letters a reading holds, each counted each time it is reached (what is shared counts as often as it is met; a slice's spare places count too). A statement '..UptoSaid' is the law's where the arguments, and the package variables that the reading takes, are together of bulk at most 1048576: NARROWER than '..Said'. Prove '..Said' where nothing that the law and all that it calls make is longer than what came in: it says more and counts as full. Else prove '..UptoSaid'. A law counts once. -/
mutual
def uptoBulk {H : Type} : DataW H → Nat
  | .lit (.string bytes) => bytes.length + 1
  | .lit _ => 1
  | .nil => 1
  | .ptr d => uptoBulk d + 1
  | .slice elems spare => uptoBulkAll elems + uptoBulkAll spare + 1
  | .agg parts => uptoBulkAll parts + 1
  | .iface _ d => uptoBulk d + 1
  | .map entries => uptoBulkEntries entries + 1
  | .held _ => 1
def uptoBulkAll {H : Type} : List (DataW H) → Nat
  | [] => 0
  | d :: r => uptoBulk d + uptoBulkAll r
def uptoBulkEntries {H : Type} : List (Lit × DataW H) → Nat
  | [] => 0
  | x :: r => uptoBulkEntry x + uptoBulkEntries r
def uptoBulkEntry {H : Type} : Lit × DataW H → Nat
  | (.string bytes, d) => bytes.length + uptoBulk d + 1
  | (_, d) => uptoBulk d + 1
 end
def uptoSmall : (H : Type) → List (DataW H) → Bool := fun _ ds => decide (uptoBulkAll ds ≤ 1048576)
def OpenSpec.upto (s : _root_.Go.ChangeSpec) : _root_.Go.OpenSpec := { _root_.Go.OpenSpec.ofChange s with cond := some uptoSmall }

/-- 'spillframelaw30.CertificateCheck', WHERE WHAT IT READS IS OF BULK AT MOST 1048576: true; the input reads as it did. -/
def certificateCheckUptoRow : OpenClaim := { program := "ytgamodmenlhedaa", sum := "5971384cc74bc1973933c1cfd8b275194e724d9fcc6bd0f81cca074cc02d5f1e", func := "spillframe/spillframelaw30.CertificateCheck", spec := "certificateCheck", unfollowed := true, recurses := true, apart := false, narrowed := true }
def CertificateCheckUptoSaid : Prop := certificateCheckUptoRow.holds Try.pinned (OpenSpec.upto certificateCheckSpec)

/-- 'spillframelaw30.CertificateIsSound', WHERE WHAT IT READS IS OF BULK AT MOST 1048576: true; the input reads as it did. -/
def certificateIsSoundUptoRow : OpenClaim := { program := "ytgamodmenlhedaa", sum := "5971384cc74bc1973933c1cfd8b275194e724d9fcc6bd0f81cca074cc02d5f1e", func := "spillframe/spillframelaw30.CertificateIsSound", spec := "certificateIsSound", unfollowed := true, recurses := true, apart := false, narrowed := true }
def CertificateIsSoundUptoSaid : Prop := certificateIsSoundUptoRow.holds Try.pinned (OpenSpec.upto certificateIsSoundSpec)

/-- 'spillframelaw30.CertificateTightIsTheBound', WHERE WHAT IT READS IS OF BULK AT MOST 1048576: true; the input reads as it did. -/
def certificateTightIsTheBoundUptoRow : OpenClaim := { program := "ytgamodmenlhedaa", sum := "5971384cc74bc1973933c1cfd8b275194e724d9fcc6bd0f81cca074cc02d5f1e", func := "spillframe/spillframelaw30.CertificateTightIsTheBound", spec := "certificateTightIsTheBound", unfollowed := true, recurses := true, apart := false, narrowed := true }
def CertificateTightIsTheBoundUptoSaid : Prop := certificateTightIsTheBoundUptoRow.holds Try.pinned (OpenSpec.upto certificateTightIsTheBoundSpec)

/-- 'spillframelaw30.CertificateRefusesCycles', WHERE WHAT IT READS IS OF BULK AT MOST 1048576: true; the input reads as it did. -/
def certificateRefusesCyclesUptoRow : OpenClaim := { program := "ytgamodmenlhedaa", sum := "5971384cc74bc1973933c1cfd8b275194e724d9fcc6bd0f81cca074cc02d5f1e", func := "spillframe/spillframelaw30.CertificateRefusesCycles", spec := "certificateRefusesCycles", unfollowed := true, recurses := true, apart := false, narrowed := true }
def CertificateRefusesCyclesUptoSaid : Prop := certificateRefusesCyclesUptoRow.holds Try.pinned (OpenSpec.upto certificateRefusesCyclesSpec)

/-- 'spillframelaw30.CertificateIsMonotone', WHERE WHAT IT READS IS OF BULK AT MOST 1048576: true; the input reads as it did. -/
def certificateIsMonotoneUptoRow : OpenClaim := { program := "ytgamodmenlhedaa", sum := "5971384cc74bc1973933c1cfd8b275194e724d9fcc6bd0f81cca074cc02d5f1e", func := "spillframe/spillframelaw30.CertificateIsMonotone", spec := "certificateIsMonotone", unfollowed := true, recurses := true, apart := false, narrowed := true }
def CertificateIsMonotoneUptoSaid : Prop := certificateIsMonotoneUptoRow.holds Try.pinned (OpenSpec.upto certificateIsMonotoneSpec)

/-- 'spillframelaw09.StackLoadAfterStore', WHERE WHAT IT READS IS OF BULK AT MOST 1048576: true; the input reads as it did. -/
def stackLoadAfterStoreUptoRow : OpenClaim := { program := "ytgamodmenlhedaa", sum := "5971384cc74bc1973933c1cfd8b275194e724d9fcc6bd0f81cca074cc02d5f1e", func := "spillframe/spillframelaw09.StackLoadAfterStore", spec := "stackLoadAfterStore", apart := false, narrowed := true }
def StackLoadAfterStoreUptoSaid : Prop := stackLoadAfterStoreUptoRow.holds Try.pinned (OpenSpec.upto stackLoadAfterStoreSpec)

/-- 'spillframelaw09.StackPopAfterPush', WHERE WHAT IT READS IS OF BULK AT MOST 1048576: true; the input reads as it did. -/
def stackPopAfterPushUptoRow : OpenClaim := { program := "ytgamodmenlhedaa", sum := "5971384cc74bc1973933c1cfd8b275194e724d9fcc6bd0f81cca074cc02d5f1e", func := "spillframe/spillframelaw09.StackPopAfterPush", spec := "stackPopAfterPush", apart := false, narrowed := true }
def StackPopAfterPushUptoSaid : Prop := stackPopAfterPushUptoRow.holds Try.pinned (OpenSpec.upto stackPopAfterPushSpec)

/-- 'spillframelaw09.StackUndefByte', WHERE WHAT IT READS IS OF BULK AT MOST 1048576: true; the input reads as it did. -/
def stackUndefByteUptoRow : OpenClaim := { program := "ytgamodmenlhedaa", sum := "5971384cc74bc1973933c1cfd8b275194e724d9fcc6bd0f81cca074cc02d5f1e", func := "spillframe/spillframelaw09.StackUndefByte", spec := "stackUndefByte", apart := false, narrowed := true }
def StackUndefByteUptoSaid : Prop := stackUndefByteUptoRow.holds Try.pinned (OpenSpec.upto stackUndefByteSpec)

/-- 'spillframelaw09.StackOperations', WHERE WHAT IT READS IS OF BULK AT MOST 1048576: true; the input reads as it did. -/
def stackOperationsUptoRow : OpenClaim := { program := "ytgamodmenlhedaa", sum := "5971384cc74bc1973933c1cfd8b275194e724d9fcc6bd0f81cca074cc02d5f1e", func := "spillframe/spillframelaw09.StackOperations", spec := "stackOperations", apart := false, narrowed := true }
def StackOperationsUptoSaid : Prop := stackOperationsUptoRow.holds Try.pinned (OpenSpec.upto stackOperationsSpec)

/-- 'spillframelaw10.MachLimits', WHERE WHAT IT READS IS OF BULK AT MOST 1048576: true; the input reads as it did. -/
def machLimitsUptoRow : OpenClaim := { program := "ytgamodmenlhedaa", sum := "5971384cc74bc1973933c1cfd8b275194e724d9fcc6bd0f81cca074cc02d5f1e", func := "spillframe/spillframelaw10.MachLimits", spec := "machLimits", unfollowed := true, recurses := true, apart := false, narrowed := true }
def MachLimitsUptoSaid : Prop := machLimitsUptoRow.holds Try.pinned (OpenSpec.upto machLimitsSpec)

end Rows
end Go.Proofs.Ytgamodmenlhedaa
