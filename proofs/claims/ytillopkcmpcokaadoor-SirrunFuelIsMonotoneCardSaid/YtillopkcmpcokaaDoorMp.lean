/- Maps from numbers to values that the call has made: what a look-up gives, what a store does. -/
import Derived.Test.YtillopkcmpcokaaDoorPm
import Derived.Maps.OwnSet
namespace Go.Proofs.YtillopkcmpcokaaDoor.pm
open Go.RowKit
open Go.Maps (Keyed)
set_option linter.unusedVariables false
set_option maxRecDepth 10000

/-- how a value reads -/
def valR (v : Value) : Option (DataW Unit × List MemPlace) :=
  match v with
  | .agg cs => match cs.toList with
    | [.int .u64 a, .int .u64 b] => some (.agg [.lit (.int .u64 a), .lit (.int .u64 b)], [])
    | _ => none
  | _ => none
theorem valR_mk (a b : Int) : valR (.agg #[.int .u64 a, .int .u64 b]) = some (.agg [.lit (.int .u64 a), .lit (.int .u64 b)], []) := rfl
theorem valR_inv {v : Value} {z : DataW Unit × List MemPlace} (h : valR v = some z) : ∃ a b, v = .agg #[.int .u64 a, .int .u64 b] ∧ z = (.agg [.lit (.int .u64 a), .lit (.int .u64 b)], []) := by
  unfold valR at h
  split at h
  · rename_i cs
    split at h
    · rename_i a b e
      injection h with h
      refine ⟨a, b, ?_, h.symm⟩
      obtain ⟨l⟩ := cs
      simp at e
      rw [e]
    · cases h
  · cases h
def dV (x : Nat × Nat) : DataW Unit := .agg [.lit (.int .u64 x.1), .lit (.int .u64 x.2)]
theorem keyl : Keyed Tryd.prog 3 := Go.Maps.int_keyed Tryd.underlying3
theorem zeroV (w : World) : (zeroValue 33).run Tryd.prog w = .ok (.agg #[.int .u64 0, .int .u64 0]) w := by kernel_rfl
/-- block b is a map of at most n entries that reads as L -/
def Mp (w : World) (b n : Nat) (L : List (Int × (Nat × Nat))) : Prop :=
  ∃ D : DataW Unit, w.ownsMap Tryd.prog 3 valR b n D ∧ ∀ k : Int, (Lit.int .i64 k).wf = true → Maps.has D (.int .i64 k) = (L.lookup k).isSome ∧ D.atKey (.int .i64 k) (dV (0, 0)) = dV ((L.lookup k).getD (0, 0))
/-- what a variable of a map's type holds -/
def MpO (w : World) (o : Option Nat) (n : Nat) (L : List (Int × (Nat × Nat))) : Prop :=
  match o with
  | none => L = []
  | some b => Mp w b n L
section
variable {w w' : World} {b n : Nat} {L : List (Int × (Nat × Nat))}
theorem Mp.made (w : World) : Mp (w.alloc (.map #[] 0)) w.heap.size 0 [] :=
  ⟨.map [], World.ownsMap_made w _ _ _, fun k _ => ⟨rfl, rfl⟩⟩
theorem Mp.lt (h : Mp w b n L) : b < w.heap.size := by
  obtain ⟨D, h1, _⟩ := h
  exact h1.lt
theorem Mp.kept {row : Option Nat} (h : Mp w b n L) (hg : w.grownBy w' row) (hne : some b ≠ row) : Mp w' b n L := by
  obtain ⟨D, h1, h2⟩ := h
  exact ⟨D, h1.kept hg hne, h2⟩
theorem Mp.alloc (h : Mp w b n L) (o : Obj) : Mp (w.alloc o) b n L := by
  obtain ⟨D, h1, h2⟩ := h
  exact ⟨D, h1.alloc o, h2⟩
theorem Mp.setCell (h : Mp w b n L) {a : Addr} (ha : b ≠ a.block) (u : Value) : Mp (w.setCell a u) b n L := by
  obtain ⟨D, h1, h2⟩ := h
  exact ⟨D, h1.setCell ha u, h2⟩
theorem Mp.mono (h : Mp w b n L) {n' : Nat} (hn : n ≤ n') : Mp w b n' L := by
  obtain ⟨D, h1, h2⟩ := h
  exact ⟨D, h1.mono hn, h2⟩
theorem Mp.look (h : Mp w b n L) {k : Int} (hk : (Lit.int .i64 k).wf = true) :
    (Instr.lookup 94 (.map (some b)) (.int .i64 k) true).run Tryd.prog w = .ok (.tuple #[.agg #[.int .u64 ((L.lookup k).getD (0, 0)).1, .int .u64 ((L.lookup k).getD (0, 0)).2], .bool (L.lookup k).isSome]) w := by
  obtain ⟨D, h1, h2⟩ := h
  obtain ⟨e1, e2⟩ := h2 k hk
  obtain ⟨v, ps, hrun, hv⟩ := h1.look_ok keyl Tryd.underlying94 (zeroV w) (zd := dV (0, 0)) (zp := []) (valR_mk 0 0) (Go.Maps.keyOf_int_mk Tryd.underlying3 hk)
  rw [hrun, e1]
  obtain ⟨x, y, rfl, hz⟩ := valR_inv hv
  rw [e2] at hz
  simp [dV] at hz
  rw [hz.1.1, hz.1.2]
theorem MpO.look {o : Option Nat} (h : MpO w o n L) {k : Int} (hk : (Lit.int .i64 k).wf = true) :
    (Instr.lookup 94 (.map o) (.int .i64 k) true).run Tryd.prog w = .ok (.tuple #[.agg #[.int .u64 ((L.lookup k).getD (0, 0)).1, .int .u64 ((L.lookup k).getD (0, 0)).2], .bool (L.lookup k).isSome]) w := by
  cases o with
  | some b => exact Mp.look h hk
  | none =>
    obtain rfl : L = [] := h
    exact (Maps.look_nil true keyl Tryd.underlying94 (zeroV w) (Go.Maps.keyOf_int_mk Tryd.underlying3 hk)).trans rfl
theorem Mp.put_law (w : World) {ops : Array Oper} {rest : List Oper} {o : Oper} {a : Act} {Q : Exit → Act → World → Prop}
    (hg : o.guard = none) (m x v : Operand) (hop : o.op = Op.mapUpdate 94 m x v) (b n : Nat) (L : List (Int × (Nat × Nat)))
    (hm : a.eval m = .map (some b)) (h : Mp w b n L) (hn : n < maxLen) (k : Int) (hk : (Lit.int .i64 k).wf = true) (y : Nat × Nat) (hx : a.eval x = .int .i64 k) (hv : a.eval v = .agg #[.int .u64 y.1, .int .u64 y.2])
    (hK : ∀ w', Mp w' b (n + 1) ((k, y) :: L) → w.grownBy w' (some b) → wpList Tryd.prog ops Q rest (a.put o.dst undef) w') :
    wpList Tryd.prog ops Q (o :: rest) a w := by
  obtain ⟨D, h1, h2⟩ := h
  refine wpList_mapUpdate_own w hg m x v _ hop 3 33 keyl Tryd.underlying94 valR b n D hm h1 hn _ _ (.int .i64 k) hx hv (Go.Maps.keyOf_int_mk Tryd.underlying3 hk) (dV y) [] (valR_mk _ _) fun w' h3 h4 => hK w' ⟨_, h3, fun j hj => ?_⟩ h4
  have hm : Maps.IsMap D := World.ownsMap.isMap h1
  have hkl : WideAt.IsKeyLit (.int .i64 k) := by first | trivial | simp [WideAt.IsKeyLit]
  rw [List.lookup_cons]
  by_cases e : j = k
  · subst e
    rw [Maps.has_put_same hm hkl, Maps.atKey_put_same hm hkl]
    simp
  · have hne : (Lit.int .i64 j) ≠ .int .i64 k := fun h => e (by injection h)
    rw [Maps.has_put_other hne, Maps.atKey_put_other hne]
    have e' : (j == k) = false := by simpa using e
    rw [e']
    exact h2 j hj
end
end Go.Proofs.YtillopkcmpcokaaDoor.pm
