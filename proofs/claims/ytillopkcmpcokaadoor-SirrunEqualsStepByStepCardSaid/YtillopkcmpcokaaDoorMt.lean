/- One step of the machine. -/
import Derived.Test.YtillopkcmpcokaaDoorMta
import Derived.Test.YtillopkcmpcokaaDoorMtb
import Derived.Test.YtillopkcmpcokaaDoorMtc
import Derived.Test.YtillopkcmpcokaaDoorMtd
namespace Go.Proofs.YtillopkcmpcokaaDoor.pm
open Go.RowKit
set_option linter.unusedVariables false
set_option maxRecDepth 10000
section
variable {B n mb cs ct np cp : Nat} {ad : Addr} {iv : Value} {As At : Option Addr} {bl : List Nat} {m : Mx} {p : List Fn}
theorem step_any (w : World) (h : Pre w B n mb ad p cp iv As cs At ct bl m) (hop : OpOk p m (m.ins p)) :
    Calls Tryd.prog 39 #[.pointer (some ⟨mb, 0, none⟩)] w (StepD w B n mb ad (.slice (some ad) p.length cp) iv (stepM p m)) := by
  have hop' := hop
  rcases hop with ⟨ho, -⟩ | ⟨ho, -⟩ | ho | ⟨ho, -⟩ | ⟨ho, -⟩ | ⟨ho, -⟩ | ⟨ho, -⟩ | ⟨ho, -⟩ | ⟨ho, -⟩ | ⟨ho, -⟩ | ⟨ho, -⟩
  · exact step_a w h hop' (.inl ho)
  · exact step_a w h hop' (.inr (.inl ho))
  · exact step_a w h hop' (.inr (.inr ho))
  · exact step_b w h hop' (.inl ho)
  · exact step_b w h hop' (.inr ho)
  · exact step_c w h hop' (.inl ho)
  · exact step_c w h hop' (.inr (.inl ho))
  · exact step_c w h hop' (.inr (.inr ho))
  · exact step_d w h hop' (.inl ho)
  · exact step_d w h hop' (.inr (.inl ho))
  · exact step_d w h hop' (.inr (.inr ho))
end
end Go.Proofs.YtillopkcmpcokaaDoor.pm
