/- Slices and variables of stacks carried from world to world: the words of the laws' walks. -/
import Derived.Test.YtgamodmenlhedaaMv
import Derived.Test.YtgamodmenlhedaaSts
namespace Go.Proofs.Ytgamodmenlhedaa
open Go.RowKit
set_option linter.unusedVariables false

theorem Reads.box {w : World} {B size n g i : Nat} {t : TypeId} {cs : Array Value} {A : Option Addr} {xs : List Value} (h : Reads w B size A n xs) (hg : Blk w g t cs) (hne : ∀ x ∈ xs, x ∉ cs) (u : Value) : Reads (w.setCell ⟨g, i, none⟩ u) B size A n xs :=
  ⟨h.1, fun hn => by
    obtain ⟨ad, e, hb, hc⟩ := h.2 hn
    refine ⟨ad, e, hb, fun j v hv => ?_⟩
    have hcj := hc j v hv
    by_cases hbl : ad.block = g
    · exfalso
      unfold World.cell? at hcj
      rw [block_of_add, hbl, show w.heap[g]? = _ from hg] at hcj
      simp only at hcj
      split at hcj
      · cases hcj
      · exact hne v (List.mem_of_getElem? hv) (Array.mem_of_getElem? hcj)
    · rw [World.cell?_setCell_other w _ _ u (fun e => hbl (by have := congrArg Addr.block e; rw [block_of_add] at this; exact this.symm))]
      exact hcj⟩

theorem Blk.after {w w' : World} {g : Nat} {t : TypeId} {cs : Array Value} (h : Blk w g t cs) (hb : Below w.heap.size w w') : Blk w' g t cs := h.below hb h.lt
theorem Blk.newAt {w : World} {g : Nat} {t : TypeId} {cs : Array Value} (h : g = w.heap.size) : Blk (w.alloc (.cells cs t)) g t cs := by subst h; exact Blk.new w t cs
/-- a slice of bytes that can be read in a world -/
def BsZ (w : World) (A : Option Addr) (n : Nat) (l : List Nat) : Prop := Bs w w.heap.size A n l
/-- a slice of bools that can be read in a world -/
def SlZ (w : World) (A : Option Addr) (n : Nat) (l : List Bool) : Prop := Sl Value.bool w w.heap.size A n l
section
variable {w w' : World} {A : Option Addr} {n : Nat} {l : List Nat} {u : List Bool}
theorem BsZ.alloc (h : BsZ w A n l) (o : Obj) : BsZ (w.alloc o) A n l := (Bs.alloc h (Nat.le_refl _) o).more (by simp)
theorem BsZ.drew (h : BsZ w A n l) : BsZ w.drew A n l := h
theorem BsZ.drewN (h : BsZ w A n l) (k : Nat) : BsZ (w.drewN k) A n l := ⟨Reads.drewN h.1 k, h.2⟩
theorem BsZ.below (h : BsZ w A n l) (hb : Below w.heap.size w w') : BsZ w' A n l := (Bs.below h hb).more hb.size
theorem SlZ.alloc (h : SlZ w A n u) (o : Obj) : SlZ (w.alloc o) A n u := (Sl.alloc h (Nat.le_refl _) o).more (by simp)
theorem SlZ.drew (h : SlZ w A n u) : SlZ w.drew A n u := h
theorem SlZ.drewN (h : SlZ w A n u) (k : Nat) : SlZ (w.drewN k) A n u := Reads.drewN h k
theorem SlZ.below (h : SlZ w A n u) (hb : Below w.heap.size w w') : SlZ w' A n u := (Sl.below h hb).more hb.size
theorem BsZ.box {g i : Nat} {t : TypeId} {cs : Array Value} (h : BsZ w A n l) (hg : Blk w g t cs) (hne : ∀ a : Int, .int .u8 a ∉ cs) (v : Value) : BsZ (w.setCell ⟨g, i, none⟩ v) A n l := by
  refine ⟨?_, h.2⟩
  have := Reads.box (i := i) h.1 hg (fun x hx => by obtain ⟨k, _, rfl⟩ := List.mem_map.1 hx; exact hne _) v
  rw [show (w.setCell ⟨g, i, none⟩ v).heap.size = w.heap.size by simp [World.setCell]]
  exact this
theorem SlZ.box {g i : Nat} {t : TypeId} {cs : Array Value} (h : SlZ w A n u) (hg : Blk w g t cs) (hne : ∀ a : Bool, .bool a ∉ cs) (v : Value) : SlZ (w.setCell ⟨g, i, none⟩ v) A n u := by
  have := Reads.box (i := i) h hg (fun x hx => by obtain ⟨k, _, rfl⟩ := List.mem_map.1 hx; exact hne _) v
  unfold SlZ
  rw [show (w.setCell ⟨g, i, none⟩ v).heap.size = w.heap.size by simp [World.setCell]]
  exact this
end

/-- a variable that is a stack -/
def StkB (w : World) (g : Nat) (A : Option Addr) (n c : Nat) (U : Option Addr) (m d : Nat) (sp : Int) : Prop := Blk w g 55 #[.slice A n c, .slice U m d, .int .i64 sp]
/-- a world after a stack is written into the variable g -/
def putStk (w : World) (g : Nat) (A : Option Addr) (n c : Nat) (U : Option Addr) (m d : Nat) (sp : Int) : World :=
  ((w.setCell ⟨g, 0, none⟩ (.slice A n c)).setCell ⟨g, 1, none⟩ (.slice U m d)).setCell ⟨g, 2, none⟩ (.int .i64 sp)
section
variable {w w' : World} {g g' : Nat} {A A' A2 : Option Addr} {n c n' c' n2 c2 : Nat} {U U' U2 : Option Addr} {m d m' d' m2 d2 : Nat} {sp sp' sp2 : Int} {l : List Nat} {u : List Bool} {t : TypeId} {cs : Array Value}
theorem StkB.put (h : StkB w g A n c U m d sp) : StkB (putStk w g A' n' c' U' m' d' sp') g A' n' c' U' m' d' sp' := ((Blk.set_ h 0 _).set_ 1 _).set_ 2 _
theorem Blk.putFar (h : Blk w g t cs) (hne : g ≠ g') : Blk (putStk w g' A' n' c' U' m' d' sp') g t cs := ((h.far hne _).far hne _).far hne _
theorem BsZ.put (h : BsZ w A n l) (hg : StkB w g A2 n2 c2 U2 m2 d2 sp2) : BsZ (putStk w g A' n' c' U' m' d' sp') A n l :=
  ((h.box (i := 0) (hg : Blk _ _ _ _) (by simp) _).box (i := 1) (Blk.set_ hg 0 (.slice A' n' c')) (by simp) _).box (i := 2) (Blk.set_ (Blk.set_ hg 0 (.slice A' n' c')) 1 (.slice U' m' d')) (by simp) _
theorem SlZ.put (h : SlZ w U n u) (hg : StkB w g A2 n2 c2 U2 m2 d2 sp2) : SlZ (putStk w g A' n' c' U' m' d' sp') U n u :=
  ((h.box (i := 0) (hg : Blk _ _ _ _) (by simp) _).box (i := 1) (Blk.set_ hg 0 (.slice A' n' c')) (by simp) _).box (i := 2) (Blk.set_ (Blk.set_ hg 0 (.slice A' n' c')) 1 (.slice U' m' d')) (by simp) _
theorem Below.put {B : Nat} {w0 : World} (h : Below B w0 w) (hg : B ≤ g) : Below B w0 (putStk w g A' n' c' U' m' d' sp') := ((h.setCell (p := ⟨g, 0, none⟩) hg _).setCell (p := ⟨g, 1, none⟩) hg _).setCell (p := ⟨g, 2, none⟩) hg _
theorem putStk_size : (putStk w g A' n' c' U' m' d' sp').heap.size = w.heap.size := by simp [putStk, World.setCell]
theorem StkB.three (h : StkB w g A n c U m d sp) : w.cell? ⟨g, 0, none⟩ = some (.slice A n c) ∧ w.cell? ⟨g, 1, none⟩ = some (.slice U m d) ∧ w.cell? ⟨g, 2, none⟩ = some (.int .i64 sp) ∧ w.frozen? ⟨g, 0, none⟩ = false ∧ w.frozen? ⟨g, 1, none⟩ = false ∧ w.frozen? ⟨g, 2, none⟩ = false ∧ g < w.heap.size :=
  ⟨Blk.cell h 0, Blk.cell h 1, Blk.cell h 2, Blk.frozen h 0, Blk.frozen h 1, Blk.frozen h 2, Blk.lt h⟩
theorem Blk.two {a b : Value} (h : Blk w g t #[a, b]) : w.cell? ⟨g, 0, none⟩ = some a ∧ w.cell? ⟨g, 1, none⟩ = some b ∧ w.frozen? ⟨g, 0, none⟩ = false ∧ w.frozen? ⟨g, 1, none⟩ = false ∧ g < w.heap.size :=
  ⟨Blk.cell h 0, Blk.cell h 1, Blk.frozen h 0, Blk.frozen h 1, Blk.lt h⟩
end
end Go.Proofs.Ytgamodmenlhedaa
