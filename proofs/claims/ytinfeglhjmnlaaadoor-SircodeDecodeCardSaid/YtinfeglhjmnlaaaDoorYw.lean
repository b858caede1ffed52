/- x = append(append(nil, x...), e) in a drawn region: its two appends, wherever the element's row was made. -/
import Derived.Test.YtinfeglhjmnlaaaDoorYm
namespace Go.Proofs.YtinfeglhjmnlaaaDoor.pm
open Go.RowKit
set_option linter.unusedVariables false
section
variable {P : Program} {ops : Array Oper} {o : Oper} {a : Act} {K : Act → World → Prop} {Q : Exit → Act → World → Prop} {E0 : Prop}
theorem copy_a (Y : World) (hgd : o.guard = none) (s : Operand) (T : TypeId) (ho : o.op = .call { callee := .builtin .append, args := #[.const (.slice none 0 0), s], argTypes := #[T, T] }) (E : TypeId) (i : TypeInfo) (z : Value) (size bytes : Nat)
    (ht : P.underlying T = some (.slice E)) (hi : P.info? E = some i) (hz : i.zero = some z) (hsize : i.size = size) (hby : i.bytes = bytes) (hzs : z.cells.size = size) (hsz : 0 < size)
    (V : Option Addr) (n c : Nat) (xs : List Value) (hev : a.eval s = .slice V n c) (WW : World) (hW : WW = Y.drew ∨ ∃ ob, WW = Y.drew.alloc ob) (hR : Reads Y Y.heap.size size V n xs) (hone : ∀ u ∈ xs, u.oneCell' = true) (h63 : n ≤ maxLen) (hbytes : n * bytes ≤ 140737488355328)
    (hK : ∀ v2 wA, wA.ownsRow Y.heap.size E size v2 n xs → Below Y.heap.size Y wA → WW.grownBy wA none → K (a.put o.dst v2) wA) : if Region.wanted o (yielded ops a.tmps) = true then Oper.wp P o a WW K Q else E0 := by
  have hbW : Below Y.heap.size Y WW := by
    rcases hW with rfl | ⟨ob, rfl⟩
    · exact Below.drew (Below.refl _ _)
    · exact (Below.drew (Below.refl _ _)).alloc (Nat.le_refl _) _
  have hRW : Reads WW Y.heap.size size V n xs := hR.below hbW
  refine step_append_any _ hgd (.const (.slice none 0 0)) s T ho Y.heap.size E i z size bytes ht hi hz hsize hby hzs hsz (.slice none 0 0) 0 [] rfl (World.ownsRow_nil _ _ _ _) Y.heap.size V n c xs hev hRW hone (by omega) (by rw [Nat.zero_add]; exact hbytes) hbW.size ?_
  intro v2 wA h1 h2 h3
  have h1' : wA.ownsRow Y.heap.size E size v2 n xs := by rw [Nat.zero_add, List.nil_append] at h1; exact h1
  exact hK v2 wA h1' (below_append hbW (World.ownsRow_nil WW Y.heap.size E size) h2 (Nat.le_refl _) hbW.size) h2
theorem copy_b (Y : World) (hgd : o.guard = none) (s x : Operand) (T : TypeId) (ho : o.op = .call { callee := .builtin .append, args := #[s, x], argTypes := #[T, T] }) (E : TypeId) (i : TypeInfo) (z : Value) (size bytes : Nat)
    (ht : P.underlying T = some (.slice E)) (hi : P.info? E = some i) (hz : i.zero = some z) (hsize : i.size = size) (hby : i.bytes = bytes) (hzs : z.cells.size = size) (hsz : 0 < size)
    (n : Nat) (xs es : List Value) (v2 : Value) (wA : World) (hown : wA.ownsRow Y.heap.size E size v2 n xs) (hbA : Below Y.heap.size Y wA) (hev : a.eval s = v2) (hes : es.length = size) (hone : ∀ u ∈ es, u.oneCell' = true)
    (ad : Addr) (hevx : a.eval x = .slice (some ad) 1 1) (WW : World) (te : TypeId)
    (hW : (WW = wA.alloc (.cells es.toArray te) ∧ ad = ⟨wA.heap.size, 0, none⟩) ∨ ((Y.drew.alloc (.cells es.toArray te)).grownBy wA none ∧ WW = wA ∧ ad = ⟨Y.heap.size, 0, none⟩))
    (h63 : n + 1 ≤ maxLen) (hbytes : (n + 1) * bytes ≤ 140737488355328)
    (hK : ∀ V3 c3 wB, wB.ownsRow Y.heap.size E size (.slice V3 (n + 1) c3) (n + 1) (xs ++ es) → Below Y.heap.size Y wB → K (a.put o.dst (.slice V3 (n + 1) c3)) wB) : if Region.wanted o (yielded ops a.tmps) = true then Oper.wp P o a WW K Q else E0 := by
  rcases hW with ⟨rfl, rfl⟩ | ⟨hg, rfl, rfl⟩
  · refine step_append_any _ hgd s x T ho Y.heap.size E i z size bytes ht hi hz hsize hby hzs hsz v2 n xs hev (hown.alloc _) (wA.heap.size + 1) (some ⟨wA.heap.size, 0, none⟩) 1 1 es hevx (litX6 wA _ es size 1 (by rw [hes, Nat.one_mul])) hone h63 hbytes (by have := hbA.size; simp; omega) ?_
    intro v3 wB h1 h2 h3
    obtain ⟨V3, c3, rfl, -⟩ := own_form h1
    exact hK V3 c3 wB h1 (below_append (hbA.alloc hbA.size _) (hown.alloc _) h2 (Nat.le_refl _) (by have := hbA.size; simp; omega))
  · refine step_append_any _ hgd s x T ho Y.heap.size E i z size bytes ht hi hz hsize hby hzs hsz v2 n xs hev hown (Y.heap.size + 1) (some ⟨Y.heap.size, 0, none⟩) 1 1 es hevx ((litX6 Y.drew _ es size 1 (by rw [hes, Nat.one_mul])).grown hg (by simp) (by intro g e; cases e)) hone h63 hbytes hbA.size ?_
    intro v3 wB h1 h2 h3
    obtain ⟨V3, c3, rfl, -⟩ := own_form h1
    exact hK V3 c3 wB h1 (below_append hbA hown h2 (Nat.le_refl _) hbA.size)
end
end Go.Proofs.YtinfeglhjmnlaaaDoor.pm
