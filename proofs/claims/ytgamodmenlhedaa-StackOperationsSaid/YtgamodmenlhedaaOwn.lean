/- Rows of the call's own that are cleared or written in the middle. -/
import Derived.Test.YtgamodmenlhedaaSl
import Derived.Laws.IdiomCopy
import Derived.Laws.CopyOwn
namespace Go.Proofs.Ytgamodmenlhedaa
open Go.RowKit
set_option linter.unusedVariables false

theorem splice_nil {α : Type} (L : List α) (o : Nat) : splice L o [] = L := by simp [splice]
theorem splice_cons {α : Type} (L : List α) (o : Nat) (v : α) (r : List α) (h : o + (r.length + 1) ≤ L.length) : splice (L.set o v) (o + 1) r = splice L o (v :: r) := by
  have e : L.set o v = (L.take o ++ [v]) ++ L.drop (o + 1) := by rw [List.set_eq_take_append_cons_drop, if_pos (by omega)]; simp
  have hl : (L.take o ++ [v]).length = o + 1 := by simp; omega
  unfold splice
  rw [e, List.take_append_of_le_length (by omega), List.take_of_length_le (by omega), List.drop_append, List.drop_of_length_le (by omega), hl, List.drop_drop]
  simp only [List.append_assoc, List.cons_append, List.nil_append, List.length_cons]
  rw [show o + 1 + (o + 1 + r.length - (o + 1)) = o + (r.length + 1) by omega]
theorem own_setCells {base : Nat} {e : TypeId} {g n cap : Nat} : ∀ (ys : List Value) (o : Nat) (w : World) (xs : List Value), w.ownsRow base e 1 (.slice (some ⟨g, 0, none⟩) n cap) n xs → o + ys.length ≤ n →
    (w.setCells g o ys).ownsRow base e 1 (.slice (some ⟨g, 0, none⟩) n cap) n (splice xs o ys) ∧ w.grownBy (w.setCells g o ys) (some g)
  | [], o, w, xs, h, _ => by
    rw [splice_nil]
    exact ⟨h, World.grownBy.refl w _⟩
  | v :: r, o, w, xs, h, hl => by
    have hx : xs.length = n := by have := h.1; omega
    obtain ⟨h1, h2⟩ := h.stored o v
    simp only [List.length_cons] at hl
    obtain ⟨h3, h4⟩ := own_setCells r (o + 1) _ _ h1 (by omega)
    rw [splice_cons _ _ _ _ (by omega)] at h3
    exact ⟨h3, h2.trans h4⟩
/-- 'clear' of a part of a row of the call's own -/
theorem run_clear_own {P : Program} {w : World} {base : Nat} {t e : TypeId} {z : Value} (ht : P.underlying t = some (.slice e)) (hv : ∀ w, (zeroValue e).run P w = .ok z w) (hz : z.cells = #[z]) (h1 : z.oneCell' = true)
    {g n cap : Nat} {xs : List Value} (h : w.ownsRow base e 1 (.slice (some ⟨g, 0, none⟩) n cap) n xs) (o k c : Nat) (hk : 0 < k) (hok : o + k ≤ n) (ty : TypeId) :
    (Builtin.clear_ #[t] ty #[.slice (some ⟨g, o, none⟩) k c]).run P w = .ok (.tuple #[]) (w.setCells g o (List.replicate k z)) := by
  have hx : xs.length = n := by have := h.1; omega
  refine Lib.run_clear_slice w t e ty z ht hv hz h1 g o k c hk (fun j hj => ?_) (fun j _ => h.frozenAt _)
  rw [h.cellAt (o + j) (by omega), List.getElem?_eq_getElem (by omega)]
  rfl
theorem below_own {B : Nat} {w w' : World} {base n : Nat} {e : TypeId} {size : Nat} {g cap : Nat} {xs : List Value} (h : w.ownsRow base e size (.slice (some ⟨g, 0, none⟩) n cap) n xs) (hg : w.grownBy w' (some g)) (hB : B ≤ base) (hb : base ≤ w.heap.size) : Below B w w' := by
  have hl := h.lt g rfl
  exact (Below.refl _ _).grown hg (by omega) fun k hk => by cases hk; omega
end Go.Proofs.Ytgamodmenlhedaa
