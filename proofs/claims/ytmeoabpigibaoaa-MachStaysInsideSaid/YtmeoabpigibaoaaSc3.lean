/- Contracts: sir.CheckFunc, Check, CheckInstr. -/
import Derived.Test.YtmeoabpigibaoaaSc2
namespace Go.Proofs.Ytmeoabpigibaoaa.pm
open Go.RowKit
set_option linter.unusedVariables false
set_option maxRecDepth 10000

theorem blk_one {w : World} {g : Nat} {t : TypeId} {a : Value} (h : Blk w g t #[a]) : w.cell? ⟨g, 0, none⟩ = some a ∧ w.frozen? ⟨g, 0, none⟩ = false ∧ g < w.heap.size := ⟨Blk.cell h 0, Blk.frozen h 0, Blk.lt h⟩
def FnR (f : Fn) : Prop := ∀ s ∈ f.slots, I64 s.1 ∧ I64 s.2
section
variable {nf : Nat} {f : Fn}
theorem funcE_1 (h : 1024 < f.code.length) : funcE nf f = 3 := by unfold funcE; rw [if_pos h]
theorem funcE_2 (h : ¬ 1024 < f.code.length) (h2 : slotsE f.slots ≠ 0) : funcE nf f = slotsE f.slots := by unfold funcE; rw [if_neg h, if_pos h2]
theorem funcE_3 (h : ¬ 1024 < f.code.length) (h2 : slotsE f.slots = 0) (h3 : inB f.params 9 = false) : funcE nf f = 4 := by unfold funcE; rw [if_neg h, if_neg (by simpa using h2), if_pos h3]
theorem funcE_4 {k : Nat} (h : ¬ 1024 < f.code.length) (h2 : slotsE f.slots = 0) (h3 : inB f.params 9 = true) (hk : k < f.code.length) (h4 : ∀ j, j < k → instrE nf f.params f.slots f.code.length (f.code.getD j Ins.z) = 0) (h5 : instrE nf f.params f.slots f.code.length (f.code.getD k Ins.z) ≠ 0) :
    funcE nf f = instrE nf f.params f.slots f.code.length (f.code.getD k Ins.z) := by
  have e := firstE_take (f := instrE nf f.params f.slots f.code.length) hk h4 h5
  unfold funcE
  rw [if_neg h, if_neg (by simpa using h2), if_neg (by rw [h3]; simp), if_pos (by rw [e]; exact h5), e]
theorem funcE_5 (h : ¬ 1024 < f.code.length) (h2 : slotsE f.slots = 0) (h3 : inB f.params 9 = true) (h4 : ∀ j, j < f.code.length → instrE nf f.params f.slots f.code.length (f.code.getD j Ins.z) = 0) :
    funcE nf f = if (f.code.length == 0 || !termB (f.code.getD (f.code.length - 1) Ins.z).op) = true then 6 else 0 := by
  have e : firstE (f.code.map (instrE nf f.params f.slots f.code.length)) = 0 := firstE_zero (fun y hy => by
    obtain ⟨x, hx, rfl⟩ := List.mem_map.1 hy
    obtain ⟨j, hj, rfl⟩ := List.mem_iff_getElem.1 hx
    have := h4 j hj
    rw [List.getD_eq_getElem?_getD, List.getElem?_eq_getElem hj] at this
    exact this)
  unfold funcE
  rw [if_neg h, if_neg (by simpa using h2), if_neg (by rw [h3]; simp), if_neg (by simpa using e)]
end
theorem progE_4 {p : List Fn} {k : Nat} (h : ¬ 80 < p.length) (h2 : ¬ p.length = 0) (h3 : (p.getD 0 Fn.z).params = 0) (hk : k < p.length) (h4 : ∀ j, j < k → funcE p.length (p.getD j Fn.z) = 0) (h5 : funcE p.length (p.getD k Fn.z) ≠ 0) : progE p = funcE p.length (p.getD k Fn.z) := by
  unfold progE
  rw [if_neg h, if_neg h2, if_neg (by simpa using h3), firstE_take hk h4 h5]
theorem progE_5 {p : List Fn} (h : ¬ 80 < p.length) (h2 : ¬ p.length = 0) (h3 : (p.getD 0 Fn.z).params = 0) (h4 : ∀ j, j < p.length → funcE p.length (p.getD j Fn.z) = 0) : progE p = 0 := by
  unfold progE
  rw [if_neg h, if_neg h2, if_neg (by simpa using h3)]
  exact firstE_zero (fun y hy => by
    obtain ⟨x, hx, rfl⟩ := List.mem_map.1 hy
    obtain ⟨j, hj, rfl⟩ := List.mem_iff_getElem.1 hx
    have := h4 j hj
    rw [List.getD_eq_getElem?_getD, List.getElem?_eq_getElem hj] at this
    exact this)
end Go.Proofs.Ytmeoabpigibaoaa.pm
