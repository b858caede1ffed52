/- Programs in memory: slices of slots, of instructions, of functions that read as lists. -/
import Derived.Test.YtmeoabpigibaoaaZd
namespace Go.Proofs.Ytmeoabpigibaoaa.pm
open Go.RowKit
set_option linter.unusedVariables false
set_option maxRecDepth 10000

structure Ins where
  op : Int
  a : Int
  b : Int
  c : Int
  imm : Int
structure Fn where
  params : Int
  slots : List (Int × Int)
  code : List Ins
def Ins.z : Ins := ⟨0, 0, 0, 0, 0⟩
def Fn.z : Fn := ⟨0, [], []⟩
/-- the cells of a slot, of an instruction -/
def scells (s : Int × Int) : List Value := [.int .i64 s.1, .int .i64 s.2]
def icells (x : Ins) : List Value := [.int .i64 x.op, .int .i64 x.a, .int .i64 x.b, .int .i64 x.c, .int .u64 x.imm]
def slV (l : List (Int × Int)) : List Value := l.flatMap scells
def inV (l : List Ins) : List Value := l.flatMap icells
/-- an instruction as a value -/
def insV (x : Ins) : Value := .agg #[.int .i64 x.op, .int .i64 x.a, .int .i64 x.b, .int .i64 x.c, .int .u64 x.imm]
theorem flat_len {α : Type} {f : α → List Value} {d : Nat} (hf : ∀ x, (f x).length = d) : ∀ l : List α, (l.flatMap f).length = l.length * d
  | [] => by simp
  | x :: r => by rw [List.flatMap_cons, List.length_append, hf, flat_len hf r, List.length_cons, Nat.succ_mul]; omega
theorem flat_get {α : Type} {f : α → List Value} {d : Nat} (hf : ∀ x, (f x).length = d) (z : α) : ∀ (l : List α) (k j : Nat), k < l.length → j < d → (l.flatMap f)[k * d + j]? = (f (l.getD k z))[j]?
  | [], k, j, h, _ => by simp at h
  | x :: r, 0, j, _, hj => by
    rw [List.flatMap_cons, List.getElem?_append_left (by rw [hf]; omega)]
    simp
  | x :: r, k + 1, j, h, hj => by
    rw [List.flatMap_cons, List.getElem?_append_right (by rw [hf, Nat.succ_mul]; omega), hf]
    rw [show (k + 1) * d + j - d = k * d + j by rw [Nat.succ_mul]; omega, flat_get hf z r k j (by simpa using h) hj]
    simp
theorem scells_len (s : Int × Int) : (scells s).length = 2 := rfl
theorem icells_len (x : Ins) : (icells x).length = 5 := rfl
theorem slV_len (l : List (Int × Int)) : (slV l).length = l.length * 2 := flat_len scells_len l
theorem inV_len (l : List Ins) : (inV l).length = l.length * 5 := flat_len icells_len l
theorem slV_app (l m : List (Int × Int)) : slV (l ++ m) = slV l ++ slV m := by unfold slV; rw [List.flatMap_append]
theorem inV_app (l m : List Ins) : inV (l ++ m) = inV l ++ inV m := by unfold inV; rw [List.flatMap_append]
theorem slV_one (l : List (Int × Int)) : ∀ u ∈ slV l, u.oneCell' = true := by
  intro u hu
  obtain ⟨x, _, h⟩ := List.mem_flatMap.1 hu
  simp [scells] at h
  rcases h with rfl | rfl <;> rfl
theorem inV_one (l : List Ins) : ∀ u ∈ inV l, u.oneCell' = true := by
  intro u hu
  obtain ⟨x, _, h⟩ := List.mem_flatMap.1 hu
  simp [icells] at h
  rcases h with rfl | rfl | rfl | rfl | rfl <;> rfl
/-- a slice of slots, of instructions, of functions that can be read in a world -/
def Sz (w : World) (A : Option Addr) (n : Nat) (l : List (Int × Int)) : Prop := Reads w w.heap.size 2 A n (slV l)
def Nz (w : World) (A : Option Addr) (n : Nat) (l : List Ins) : Prop := Reads w w.heap.size 5 A n (inV l)
section
variable {w w' : World} {A : Option Addr} {n k : Nat} {l : List (Int × Int)} {x : List Ins}
theorem Sz.len (h : Sz w A n l) : l.length = n := by have := h.1; rw [slV_len] at this; omega
theorem Nz.len (h : Nz w A n x) : x.length = n := by have := h.1; rw [inV_len] at this; omega
theorem Sz.below (h : Sz w A n l) (hb : Below w.heap.size w w') : Sz w' A n l := Reads.more (Reads.below h hb) hb.size
theorem Nz.below (h : Nz w A n x) (hb : Below w.heap.size w w') : Nz w' A n x := Reads.more (Reads.below h hb) hb.size
theorem Sz.drewN (h : Sz w A n l) (k : Nat) : Sz (w.drewN k) A n l := Reads.drewN h k
theorem Nz.drewN (h : Nz w A n x) (k : Nat) : Nz (w.drewN k) A n x := Reads.drewN h k
theorem Sz.alloc (h : Sz w A n l) (o : Obj) : Sz (w.alloc o) A n l := h.below ((Below.refl _ _).alloc (Nat.le_refl _) o)
theorem Nz.alloc (h : Nz w A n x) (o : Obj) : Nz (w.alloc o) A n x := h.below ((Below.refl _ _).alloc (Nat.le_refl _) o)
/-- the cells of the k-th slot -/
theorem Sz.at_ (h : Sz w A n l) (hk : k < n) : ∃ ad, A = some ad ∧ ad.block < w.heap.size ∧ w.cell? (ad.add (k * 2)) = some (.int .i64 (l.getD k (0, 0)).1) ∧ w.cell? ((ad.add (k * 2)).add 1) = some (.int .i64 (l.getD k (0, 0)).2) := by
  have hl := h.len
  obtain ⟨ad, e, hb, hc⟩ := h.2 (by omega)
  refine ⟨ad, e, hb, hc (k * 2) _ ?_, ?_⟩
  · have := flat_get scells_len (0, 0) l k 0 (by omega) (by omega)
    simpa [scells, slV] using this
  · rw [add_of_add]
    refine hc (k * 2 + 1) _ ?_
    have := flat_get scells_len (0, 0) l k 1 (by omega) (by omega)
    simpa [scells, slV] using this
/-- the cells of the k-th instruction -/
theorem Nz.at_ (h : Nz w A n x) (hk : k < n) : ∃ ad, A = some ad ∧ ad.block < w.heap.size ∧ w.cell? (ad.add (k * 5)) = some (.int .i64 (x.getD k Ins.z).op) ∧ w.cell? ((ad.add (k * 5)).add 1) = some (.int .i64 (x.getD k Ins.z).a) ∧
    w.cell? ((ad.add (k * 5)).add 2) = some (.int .i64 (x.getD k Ins.z).b) ∧ w.cell? ((ad.add (k * 5)).add 3) = some (.int .i64 (x.getD k Ins.z).c) ∧ w.cell? ((ad.add (k * 5)).add 4) = some (.int .u64 (x.getD k Ins.z).imm) := by
  have hl := h.len
  obtain ⟨ad, e, hb, hc⟩ := h.2 (by omega)
  have g : ∀ j, j < 5 → (inV x)[k * 5 + j]? = (icells (x.getD k Ins.z))[j]? := fun j hj => flat_get icells_len Ins.z x k j (by omega) hj
  refine ⟨ad, e, hb, hc (k * 5) _ ?_, ?_, ?_, ?_, ?_⟩
  · simpa [icells] using g 0 (by omega)
  all_goals rw [add_of_add]
  · exact hc (k * 5 + 1) _ (by simpa [icells] using g 1 (by omega))
  · exact hc (k * 5 + 2) _ (by simpa [icells] using g 2 (by omega))
  · exact hc (k * 5 + 3) _ (by simpa [icells] using g 3 (by omega))
  · exact hc (k * 5 + 4) _ (by simpa [icells] using g 4 (by omega))
end
/-- a slice of functions that can be read in a world -/
def Fz (w : World) (A : Option Addr) (n : Nat) (p : List Fn) : Prop :=
  p.length = n ∧ ∃ vs : List Value, Reads w w.heap.size 3 A n vs ∧ ∀ i, i < n → ∃ As ns cs Ai ni ci, vs[i * 3]? = some (.int .i64 (p.getD i Fn.z).params) ∧ vs[i * 3 + 1]? = some (.slice As ns cs) ∧ vs[i * 3 + 2]? = some (.slice Ai ni ci) ∧
    Sz w As ns (p.getD i Fn.z).slots ∧ Nz w Ai ni (p.getD i Fn.z).code ∧ ns ≤ maxLen ∧ ni ≤ maxLen ∧ ns ≤ cs ∧ ni ≤ ci
section
variable {w w' : World} {A : Option Addr} {n k : Nat} {p : List Fn}
theorem Fz.len (h : Fz w A n p) : p.length = n := h.1
theorem Fz.below (h : Fz w A n p) (hb : Below w.heap.size w w') : Fz w' A n p := by
  obtain ⟨h0, vs, hr, hv⟩ := h
  exact ⟨h0, vs, Reads.more (Reads.below hr hb) hb.size, fun i hi => by
    obtain ⟨As, ns, cs, Ai, ni, ci, h1, h2, h3, h4, h5, h6⟩ := hv i hi
    exact ⟨As, ns, cs, Ai, ni, ci, h1, h2, h3, h4.below hb, h5.below hb, h6⟩⟩
theorem Fz.alloc (h : Fz w A n p) (o : Obj) : Fz (w.alloc o) A n p := h.below ((Below.refl _ _).alloc (Nat.le_refl _) o)
theorem Fz.drewN (h : Fz w A n p) (k : Nat) : Fz (w.drewN k) A n p := by
  obtain ⟨h0, vs, hr, hv⟩ := h
  exact ⟨h0, vs, Reads.drewN hr k, fun i hi => by
    obtain ⟨As, ns, cs, Ai, ni, ci, h1, h2, h3, h4, h5, h6⟩ := hv i hi
    exact ⟨As, ns, cs, Ai, ni, ci, h1, h2, h3, h4.drewN k, h5.drewN k, h6⟩⟩
/-- the cells of the k-th function -/
theorem Fz.at_ (h : Fz w A n p) (hk : k < n) : ∃ ad As ns cs Ai ni ci, A = some ad ∧ ad.block < w.heap.size ∧ w.cell? (ad.add (k * 3)) = some (.int .i64 (p.getD k Fn.z).params) ∧ w.cell? ((ad.add (k * 3)).add 1) = some (.slice As ns cs) ∧ w.cell? ((ad.add (k * 3)).add 2) = some (.slice Ai ni ci) ∧
    Sz w As ns (p.getD k Fn.z).slots ∧ Nz w Ai ni (p.getD k Fn.z).code ∧ ns ≤ maxLen ∧ ni ≤ maxLen ∧ ns ≤ cs ∧ ni ≤ ci := by
  obtain ⟨h0, vs, hr, hv⟩ := h
  obtain ⟨ad, e, hb, hc⟩ := hr.2 (by omega)
  obtain ⟨As, ns, cs, Ai, ni, ci, h1, h2, h3, h4⟩ := hv k hk
  refine ⟨ad, As, ns, cs, Ai, ni, ci, e, hb, hc _ _ h1, ?_, ?_, h4⟩
  · rw [add_of_add]; exact hc _ _ h2
  · rw [add_of_add]; exact hc _ _ h3
end
end Go.Proofs.Ytmeoabpigibaoaa.pm
