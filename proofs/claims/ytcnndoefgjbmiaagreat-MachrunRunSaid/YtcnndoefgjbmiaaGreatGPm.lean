/- Programs in memory: slices of slots, of instructions, of functions that read as lists. -/
import Derived.Test.YtcnndoefgjbmiaaGreatGBa
import Derived.Deep.CutBlock
import Derived.Deep.DrawnRows
import Derived.Deep.RegionWith
set_option linter.unusedVariables false
set_option maxRecDepth 10000
namespace Go.Proofs.YtcnndoefgjbmiaaGreat.pm
open Go.RowKit
structure Ins where
 op : Int
 a : Int
 b : Int
 c : Int
 imm : Int
structure Fn where
 params : Int
 slots : List (Int × Int)
 code : List Ins
def Ins.z : Ins := ⟨0, 0, 0, 0, 0⟩
def Fn.z : Fn := ⟨0, [], []⟩
def scells (s : Int × Int) : List Value := [.int .i64 s.1, .int .i64 s.2]
def icells (x : Ins) : List Value := [.int .i64 x.op, .int .i64 x.a, .int .i64 x.b, .int .i64 x.c, .int .u64 x.imm]
def slV (l : List (Int × Int)) : List Value := l.flatMap scells
def inV (l : List Ins) : List Value := l.flatMap icells
def insV (x : Ins) : Value := .agg #[.int .i64 x.op, .int .i64 x.a, .int .i64 x.b, .int .i64 x.c, .int .u64 x.imm]
theorem flat_len {α : Type} {f : α → List Value} {d : Nat} (hf : ∀ x, (f x).length = d) : ∀ l : List α, (l.flatMap f).length = l.length * d
 | [] => by simp
 | x :: r => by rw [List.flatMap_cons, List.length_append, hf, flat_len hf r, List.length_cons, Nat.succ_mul]; omega
theorem flat_get {α : Type} {f : α → List Value} {d : Nat} (hf : ∀ x, (f x).length = d) (z : α) : ∀ (l : List α) (k j : Nat), k < l.length → j < d → (l.flatMap f)[k * d + j]? = (f (l.getD k z))[j]?
 | [], k, j, h, _ => by simp at h
 | x :: r, 0, j, _, hj => by
  rw [List.flatMap_cons, List.getElem?_append_left (by rw [hf]; omega)]
  simp
 | x :: r, k + 1, j, h, hj => by
  rw [List.flatMap_cons, List.getElem?_append_right (by rw [hf, Nat.succ_mul]; omega), hf]
  rw [show (k + 1) * d + j - d = k * d + j by rw [Nat.succ_mul]; omega, flat_get hf z r k j (by simpa using h) hj]
  simp
theorem scells_len (s : Int × Int) : (scells s).length = 2 := rfl
theorem icells_len (x : Ins) : (icells x).length = 5 := rfl
theorem slV_len (l : List (Int × Int)) : (slV l).length = l.length * 2 := flat_len scells_len l
theorem inV_len (l : List Ins) : (inV l).length = l.length * 5 := flat_len icells_len l
theorem slV_app (l m : List (Int × Int)) : slV (l ++ m) = slV l ++ slV m := by unfold slV; rw [List.flatMap_append]
theorem inV_app (l m : List Ins) : inV (l ++ m) = inV l ++ inV m := by unfold inV; rw [List.flatMap_append]
theorem inV_one (l : List Ins) : ∀ u ∈ inV l, u.oneCell' = true := by
 intro u hu
 obtain ⟨x, _, h⟩ := List.mem_flatMap.1 hu
 simp [icells] at h
 rcases h with rfl | rfl | rfl | rfl | rfl <;> rfl
def Sz (w : World) (A : Option Addr) (n : Nat) (l : List (Int × Int)) : Prop := Reads w w.heap.size 2 A n (slV l)
def Nz (w : World) (A : Option Addr) (n : Nat) (l : List Ins) : Prop := Reads w w.heap.size 5 A n (inV l)
section
variable {w w' : World} {A : Option Addr} {n k : Nat} {l : List (Int × Int)} {x : List Ins}
theorem Sz.len (h : Sz w A n l) : l.length = n := by have := h.1; rw [slV_len] at this; omega
theorem Sz.below (h : Sz w A n l) (hb : Below w.heap.size w w') : Sz w' A n l := Reads.more (Reads.below h hb) hb.size
theorem Sz.at_ (h : Sz w A n l) (hk : k < n) : ∃ ad, A = some ad ∧ ad.block < w.heap.size ∧ w.cell? (ad.add (k * 2)) = some (.int .i64 (l.getD k (0, 0)).1) ∧ w.cell? ((ad.add (k * 2)).add 1) = some (.int .i64 (l.getD k (0, 0)).2) := by
 have hl := h.len
 obtain ⟨ad, e, hb, hc⟩ := h.2 (by omega)
 refine ⟨ad, e, hb, hc (k * 2) _ ?_, ?_⟩
 · have := flat_get scells_len (0, 0) l k 0 (by omega) (by omega)
   simpa [scells, slV] using this
 · rw [add_of_add]
   refine hc (k * 2 + 1) _ ?_
   have := flat_get scells_len (0, 0) l k 1 (by omega) (by omega)
   simpa [scells, slV] using this
end
def Fz (w : World) (A : Option Addr) (n : Nat) (p : List Fn) : Prop :=
 p.length = n ∧ ∃ vs : List Value, Reads w w.heap.size 3 A n vs ∧ ∀ i, i < n → ∃ As ns cs Ai ni ci, vs[i * 3]? = some (.int .i64 (p.getD i Fn.z).params) ∧ vs[i * 3 + 1]? = some (.slice As ns cs) ∧ vs[i * 3 + 2]? = some (.slice Ai ni ci) ∧
  Sz w As ns (p.getD i Fn.z).slots ∧ Nz w Ai ni (p.getD i Fn.z).code ∧ ns ≤ maxLen ∧ ni ≤ maxLen ∧ ns ≤ cs ∧ ni ≤ ci
section
variable {w w' : World} {A : Option Addr} {n k : Nat} {p : List Fn}
end
inductive Vi0 (nf : Nat) (prm : Int) (sl : List (Int × Int)) : Ins → Prop
 | const (a im : Int) : 0 ≤ a → a < 8 → 0 ≤ im → im < 18446744073709551616 → Vi0 nf prm sl ⟨0, a, 0, 0, im⟩
 | copy (a b : Int) : 0 ≤ a → a < 8 → 0 ≤ b → b < 8 → Vi0 nf prm sl ⟨1, a, b, 0, 0⟩
 | arith (op a b c : Int) : 2 ≤ op → op ≤ 11 → 0 ≤ a → a < 8 → 0 ≤ b → b < 8 → 0 ≤ c → c < 8 → Vi0 nf prm sl ⟨op, a, b, c, 0⟩
 | high (a b : Int) : 0 ≤ a → a < 8 → 0 ≤ b → b < 8 → Vi0 nf prm sl ⟨12, a, b, 0, 0⟩
 | inp (a : Int) : 0 ≤ a → a < 8 → Vi0 nf prm sl ⟨13, a, 0, 0, 0⟩
 | out (a : Int) : 0 ≤ a → a < 8 → Vi0 nf prm sl ⟨14, a, 0, 0, 0⟩
 | load (a b : Int) : 0 ≤ a → a < 8 → 0 ≤ b → b < sl.length → Vi0 nf prm sl ⟨15, a, b, 0, 0⟩
 | store (a b : Int) : 0 ≤ a → a < sl.length → 0 ≤ b → b < 8 → Vi0 nf prm sl ⟨16, a, b, 0, 0⟩
 | move (a b : Int) : 0 ≤ a → a < sl.length → 0 ≤ b → b < sl.length → (sl.getD a.toNat (0, 0)).1 = (sl.getD b.toNat (0, 0)).1 → Vi0 nf prm sl ⟨17, a, b, 0, 0⟩
 | arg (a b : Int) : 0 ≤ a → a < 8 → 0 ≤ b → b < 8 → Vi0 nf prm sl ⟨18, a, b, 0, 0⟩
 | param (a b : Int) : 0 ≤ a → a < 8 → 0 ≤ b → b < prm → Vi0 nf prm sl ⟨19, a, b, 0, 0⟩
 | call (a : Int) : 0 ≤ a → a < nf → Vi0 nf prm sl ⟨22, a, 0, 0, 0⟩
 | ret : Vi0 nf prm sl ⟨23, 0, 0, 0, 0⟩
 | trap (im : Int) : 0 ≤ im → im < 18446744073709551616 → Vi0 nf prm sl ⟨24, 0, 0, 0, im⟩
inductive Vi (nf : Nat) (prm : Int) (sl : List (Int × Int)) (nc : Nat) : Ins → Prop
 | plain (x : Ins) : Vi0 nf prm sl x → Vi nf prm sl nc x
 | jump (a : Int) : 0 ≤ a → a < nc → Vi nf prm sl nc ⟨20, a, 0, 0, 0⟩
 | branch (a b : Int) : 0 ≤ a → a < 8 → 0 ≤ b → b < nc → Vi nf prm sl nc ⟨21, a, b, 0, 0⟩
inductive ViP (nf : Nat) (prm : Int) (sl : List (Int × Int)) : Ins → Prop
 | plain (x : Ins) : Vi0 nf prm sl x → ViP nf prm sl x
 | jump : ViP nf prm sl ⟨20, -1, 0, 0, 0⟩
 | branch (a : Int) : 0 ≤ a → a < 8 → ViP nf prm sl ⟨21, a, -1, 0, 0⟩
def SlotOk (s : Int × Int) : Prop := (s.1 = 8 ∨ s.1 = 4 ∨ s.1 = 1 ∨ s.1 = 2 ∨ s.1 = 16) ∧ (s.2 = 8 ∨ s.2 = 4 ∨ s.2 = 1 ∨ s.2 = 16 ∨ s.2 = 2 ∨ s.2 = 32 ∨ s.2 = 64)
def FnOk (nf : Nat) (f : Fn) : Prop :=
 0 ≤ f.params ∧ f.params ≤ 3 ∧ f.slots.length ≤ 6 ∧ (∀ s ∈ f.slots, SlotOk s) ∧ 1 ≤ f.code.length ∧ f.code.length ≤ 200 ∧ (∀ x ∈ f.code, Vi nf f.params f.slots f.code.length x) ∧
 (f.code.getD (f.code.length - 1) Ins.z).op ∈ [(23 : Int), 24]
def PrOk (most : Nat) (p : List Fn) : Prop := 1 ≤ p.length ∧ p.length ≤ most ∧ (p.getD 0 Fn.z).params = 0 ∧ ∀ f ∈ p, FnOk p.length f
theorem getD_mem' {α : Type} {l : List α} {k : Nat} {z : α} (h : k < l.length) : l.getD k z ∈ l := by
 rw [List.getD_eq_getElem?_getD, List.getElem?_eq_getElem h]
 exact List.getElem_mem h
def Kp (lo hi : Nat) (w w' : World) : Prop := ∀ b, lo ≤ b → b < hi → w'.heap[b]? = w.heap[b]?
section
variable {lo hi lo' hi' g : Nat} {w w1 w' : World}
theorem Kp.refl (lo hi : Nat) (w : World) : Kp lo hi w w := fun _ _ _ => rfl
theorem Kp.trans (h : Kp lo hi w w1) (k : Kp lo hi w1 w') : Kp lo hi w w' := fun b hb hn => (k b hb hn).trans (h b hb hn)
theorem Kp.less (h : Kp lo hi w w') (h1 : lo ≤ lo') (h2 : hi' ≤ hi) : Kp lo' hi' w w' := fun b hb hn => h b (by omega) (by omega)
theorem Kp.of_grown (h : w.grownBy w' (some g)) (hh : hi ≤ w.heap.size) (hg : g < lo ∨ hi ≤ g) : Kp lo hi w w' := fun b hb hn => h.block b (by omega) (fun e => by injection e; omega)
theorem Kp.of_grownR {row : Option Nat} (h : w.grownBy w' row) (hh : hi ≤ w.heap.size) (hr : ∀ j, row = some j → j < lo ∨ hi ≤ j) : Kp lo hi w w' := fun b hb hn => h.block b (by omega) (fun e => by have := hr b e.symm; omega)
theorem Kp.of_below (h : Below w.heap.size w w') (hh : hi ≤ w.heap.size) : Kp lo hi w w' := fun b hb hn => h.block b (by omega)
theorem Kp.alloc (h : Kp lo hi w w') (hh : hi ≤ w'.heap.size) (o : Obj) : Kp lo hi w (w'.alloc o) := fun b hb hn => (Below.heap_alloc w' o b (by omega)).trans (h b hb hn)
theorem Kp.set (h : Kp lo hi w w') {p : Addr} (hp : p.block < lo ∨ hi ≤ p.block) (u : Value) : Kp lo hi w (w'.setCell p u) := fun b hb hn => (Below.heap_setCell w' p u b (by omega)).trans (h b hb hn)
end
def Rx (w : World) (lo hi size : Nat) (A : Option Addr) (n : Nat) (xs : List Value) : Prop := Reads w hi size A n xs ∧ ∀ ad, A = some ad → 0 < n → lo ≤ ad.block
section
variable {lo hi lo' hi' size n : Nat} {w w' : World} {A : Option Addr} {xs : List Value}
theorem Rx.keep (h : Rx w lo hi size A n xs) (hk : Kp lo hi w w') : Rx w' lo hi size A n xs :=
 ⟨⟨h.1.1, fun hn => by
  obtain ⟨ad, e, hb, hc⟩ := h.1.2 hn
  exact ⟨ad, e, hb, fun j u hu => (World.cell?_of_block (by rw [block_of_add]; exact hk _ (h.2 ad e hn) hb)).trans (hc j u hu)⟩⟩, h.2⟩
theorem Rx.more (h : Rx w lo hi size A n xs) (hl : lo' ≤ lo) (hh : hi ≤ hi') : Rx w lo' hi' size A n xs := ⟨Reads.more h.1 hh, fun ad e hn => Nat.le_trans hl (h.2 ad e hn)⟩
theorem Rx.nil (w : World) (lo hi size : Nat) : Rx w lo hi size none 0 [] := ⟨Reads.none_, fun _ e => by cases e⟩
theorem Rx.of_own {base c : Nat} {e : TypeId} (h : w.ownsRow base e size (.slice A n c) n xs) : Rx w base w.heap.size size A n xs := by
 refine ⟨Reads.of_own h, fun ad e hn => ?_⟩
 obtain ⟨gb, cap, hv, hb, hlt⟩ := h.form hn
 have hA : A = some ⟨gb, 0, none⟩ := by injection hv
 rw [e] at hA
 injection hA with hA
 rw [hA]
 exact hb
theorem Rx.of_reads (h : Reads w hi size A n xs) : Rx w 0 hi size A n xs := ⟨h, fun ad e hn => Nat.zero_le _⟩
end
def Sx (w : World) (lo hi : Nat) (A : Option Addr) (l : List (Int × Int)) : Prop := Rx w lo hi 2 A l.length (slV l)
def Nx (w : World) (lo hi : Nat) (A : Option Addr) (l : List Ins) : Prop := Rx w lo hi 5 A l.length (inV l)
section
variable {lo hi lo' hi' : Nat} {w w' : World} {A : Option Addr} {k : Nat} {l : List (Int × Int)} {x : List Ins}
theorem Sx.keep (h : Sx w lo hi A l) (hk : Kp lo hi w w') : Sx w' lo hi A l := Rx.keep h hk
theorem Nx.keep (h : Nx w lo hi A x) (hk : Kp lo hi w w') : Nx w' lo hi A x := Rx.keep h hk
theorem Sx.more (h : Sx w lo hi A l) (hl : lo' ≤ lo) (hh : hi ≤ hi') : Sx w lo' hi' A l := Rx.more h hl hh
theorem Nx.more (h : Nx w lo hi A x) (hl : lo' ≤ lo) (hh : hi ≤ hi') : Nx w lo' hi' A x := Rx.more h hl hh
theorem Sx.at_ (h : Sx w lo hi A l) (hk : k < l.length) : ∃ ad, A = some ad ∧ ad.block < hi ∧ w.cell? (ad.add (k * 2)) = some (.int .i64 (l.getD k (0, 0)).1) ∧ w.cell? ((ad.add (k * 2)).add 1) = some (.int .i64 (l.getD k (0, 0)).2) := by
 obtain ⟨ad, e, hb, hc⟩ := h.1.2 (by omega)
 refine ⟨ad, e, hb, hc (k * 2) _ ?_, ?_⟩
 · have := flat_get scells_len (0, 0) l k 0 (by omega) (by omega)
   simpa [scells, slV] using this
 · rw [add_of_add]
   refine hc (k * 2 + 1) _ ?_
   have := flat_get scells_len (0, 0) l k 1 (by omega) (by omega)
   simpa [scells, slV] using this
theorem Nx.at_ (h : Nx w lo hi A x) (hk : k < x.length) : ∃ ad, A = some ad ∧ ad.block < hi ∧ w.cell? (ad.add (k * 5)) = some (.int .i64 (x.getD k Ins.z).op) ∧ w.cell? ((ad.add (k * 5)).add 1) = some (.int .i64 (x.getD k Ins.z).a) ∧
 w.cell? ((ad.add (k * 5)).add 2) = some (.int .i64 (x.getD k Ins.z).b) ∧ w.cell? ((ad.add (k * 5)).add 3) = some (.int .i64 (x.getD k Ins.z).c) ∧ w.cell? ((ad.add (k * 5)).add 4) = some (.int .u64 (x.getD k Ins.z).imm) := by
 obtain ⟨ad, e, hb, hc⟩ := h.1.2 (by omega)
 have g0 : ∀ j, j < 5 → (inV x)[k * 5 + j]? = (icells (x.getD k Ins.z))[j]? := fun j hj => flat_get icells_len Ins.z x k j (by omega) hj
 refine ⟨ad, e, hb, hc (k * 5) _ ?_, ?_, ?_, ?_, ?_⟩
 · simpa [icells] using g0 0 (by omega)
 all_goals rw [add_of_add]
 · exact hc (k * 5 + 1) _ (by simpa [icells] using g0 1 (by omega))
 · exact hc (k * 5 + 2) _ (by simpa [icells] using g0 2 (by omega))
 · exact hc (k * 5 + 3) _ (by simpa [icells] using g0 3 (by omega))
 · exact hc (k * 5 + 4) _ (by simpa [icells] using g0 4 (by omega))
end
def Vx (w : World) (lo hi : Nat) (vs : List Value) (p : List Fn) : Prop :=
 ∀ i, i < p.length → ∃ As cs Ai ci, vs[i * 3]? = some (.int .i64 (p.getD i Fn.z).params) ∧ vs[i * 3 + 1]? = some (.slice As (p.getD i Fn.z).slots.length cs) ∧ vs[i * 3 + 2]? = some (.slice Ai (p.getD i Fn.z).code.length ci) ∧
  Sx w lo hi As (p.getD i Fn.z).slots ∧ Nx w lo hi Ai (p.getD i Fn.z).code ∧ ((p.getD i Fn.z).slots.length ≤ maxLen ∧ (p.getD i Fn.z).slots.length ≤ cs) ∧ ((p.getD i Fn.z).code.length ≤ maxLen ∧ (p.getD i Fn.z).code.length ≤ ci)
def Fx (w : World) (lo hi : Nat) (A : Option Addr) (p : List Fn) : Prop := ∃ vs, Rx w lo hi 3 A p.length vs ∧ Vx w lo hi vs p
section
variable {lo hi lo' hi' : Nat} {w w' : World} {A : Option Addr} {k : Nat} {vs : List Value} {p : List Fn}
theorem Vx.keep (h : Vx w lo hi vs p) (hk : Kp lo hi w w') : Vx w' lo hi vs p := fun i hi => by
 obtain ⟨As, cs, Ai, ci, h1, h2, h3, h4, h5, h6⟩ := h i hi
 exact ⟨As, cs, Ai, ci, h1, h2, h3, h4.keep hk, h5.keep hk, h6⟩
theorem Vx.more (h : Vx w lo hi vs p) (hl : lo' ≤ lo) (hh : hi ≤ hi') : Vx w lo' hi' vs p := fun i hi => by
 obtain ⟨As, cs, Ai, ci, h1, h2, h3, h4, h5, h6⟩ := h i hi
 exact ⟨As, cs, Ai, ci, h1, h2, h3, h4.more hl hh, h5.more hl hh, h6⟩
theorem Vx.nil (w : World) (lo hi : Nat) : Vx w lo hi [] [] := fun i hi => absurd hi (by simp)
theorem Fx.keep (h : Fx w lo hi A p) (hk : Kp lo hi w w') : Fx w' lo hi A p := by
 obtain ⟨vs, h1, h2⟩ := h
 exact ⟨vs, h1.keep hk, h2.keep hk⟩
theorem Fx.more (h : Fx w lo hi A p) (hl : lo' ≤ lo) (hh : hi ≤ hi') : Fx w lo' hi' A p := by
 obtain ⟨vs, h1, h2⟩ := h
 exact ⟨vs, h1.more hl hh, h2.more hl hh⟩
theorem Vx.snoc (h : Vx w lo hi vs p) (hl : vs.length = p.length * 3) {f : Fn} {As Ai : Option Addr} {cs ci : Nat} (h1 : Sx w lo hi As f.slots) (h2 : Nx w lo hi Ai f.code) (h3 : f.slots.length ≤ maxLen ∧ f.slots.length ≤ cs) (h4 : f.code.length ≤ maxLen ∧ f.code.length ≤ ci) :
 Vx w lo hi (vs ++ [.int .i64 f.params, .slice As f.slots.length cs, .slice Ai f.code.length ci]) (p ++ [f]) := fun i hi => by
 rw [List.length_append] at hi
 rcases Nat.lt_or_ge i p.length with hlt | hge
 · obtain ⟨As', cs', Ai', ci', q1, q2, q3, q4⟩ := h i hlt
   have e : (p ++ [f]).getD i Fn.z = p.getD i Fn.z := by rw [List.getD_eq_getElem?_getD, List.getD_eq_getElem?_getD, List.getElem?_append_left hlt]
   rw [e]
   exact ⟨As', cs', Ai', ci', by rw [List.getElem?_append_left (by omega)]; exact q1, by rw [List.getElem?_append_left (by omega)]; exact q2, by rw [List.getElem?_append_left (by omega)]; exact q3, q4⟩
 · obtain rfl : i = p.length := by simp at hi; omega
   have e : (p ++ [f]).getD p.length Fn.z = f := by simp
   rw [e]
   refine ⟨As, cs, Ai, ci, ?_, ?_, ?_, h1, h2, h3, h4⟩
   · rw [List.getElem?_append_right (by omega), show p.length * 3 - vs.length = 0 by omega]; rfl
   · rw [List.getElem?_append_right (by omega), show p.length * 3 + 1 - vs.length = 1 by omega]; rfl
   · rw [List.getElem?_append_right (by omega), show p.length * 3 + 2 - vs.length = 2 by omega]; rfl
theorem Fx.at_ (h : Fx w lo hi A p) (hk : k < p.length) : ∃ ad As cs Ai ci, A = some ad ∧ ad.block < hi ∧ w.cell? (ad.add (k * 3)) = some (.int .i64 (p.getD k Fn.z).params) ∧ w.cell? ((ad.add (k * 3)).add 1) = some (.slice As (p.getD k Fn.z).slots.length cs) ∧ w.cell? ((ad.add (k * 3)).add 2) = some (.slice Ai (p.getD k Fn.z).code.length ci) ∧
 Sx w lo hi As (p.getD k Fn.z).slots ∧ Nx w lo hi Ai (p.getD k Fn.z).code ∧ ((p.getD k Fn.z).slots.length ≤ maxLen ∧ (p.getD k Fn.z).slots.length ≤ cs) ∧ ((p.getD k Fn.z).code.length ≤ maxLen ∧ (p.getD k Fn.z).code.length ≤ ci) := by
 obtain ⟨vs, hr, hv⟩ := h
 obtain ⟨ad, e, hb, hc⟩ := hr.1.2 (by omega)
 obtain ⟨As, cs, Ai, ci, h1, h2, h3, h4⟩ := hv k hk
 refine ⟨ad, As, cs, Ai, ci, e, hb, hc _ _ h1, ?_, ?_, h4⟩
 · rw [add_of_add]; exact hc _ _ h2
 · rw [add_of_add]; exact hc _ _ h3
theorem Vx.one (h : Vx w lo hi vs p) (hl : vs.length = p.length * 3) : ∀ u ∈ vs, u.oneCell' = true := by
 intro u hu
 obtain ⟨j, hj, rfl⟩ := List.mem_iff_getElem.1 hu
 obtain ⟨As, cs, Ai, ci, h1, h2, h3, _⟩ := h (j / 3) (by omega)
 have hj3 : j = j / 3 * 3 ∨ j = j / 3 * 3 + 1 ∨ j = j / 3 * 3 + 2 := by omega
 have e : vs[j]? = some vs[j] := List.getElem?_eq_getElem hj
 generalize vs[j] = u at e ⊢
 rcases hj3 with h0 | h0 | h0 <;> rw [h0] at e
 · rw [h1] at e; injection e with e; rw [← e]; rfl
 · rw [h2] at e; injection e with e; rw [← e]; rfl
 · rw [h3] at e; injection e with e; rw [← e]; rfl
end
theorem own_two' {w : World} {b b' n m s s' : Nat} {e1 e2 : TypeId} {v1 v2 : Value} {xs ys : List Value} (h1 : w.ownsRow b e1 s v1 n xs) (h2 : w.ownsRow b' e2 s' v2 m ys) (hne : e1 ≠ e2) :
 v1.ownBlock = none ∨ v1.ownBlock ≠ v2.ownBlock := by
 rcases h2.2 with ⟨h, _⟩ | ⟨g', cap, cur, hv, _, hh, _⟩
 · subst h
   rcases hq : v1.ownBlock with _ | j
   · exact .inl rfl
   · exact .inr (by simp [Value.ownBlock])
 · subst hv
   exact .inr (own_blk_ne h1 hh hne)
theorem own_cap {w : World} {base n c : Nat} {e : TypeId} {size : Nat} {A : Option Addr} {xs : List Value} (h : w.ownsRow base e size (.slice A n c) n xs) : n ≤ maxLen ∧ n ≤ c := by
 rcases h.2 with ⟨h1, h2⟩ | ⟨g, cap, cur, hv, _, _, h1, h2, _⟩
 · injection h1 with _ h1 h3
   subst h1
   exact ⟨by simp, by simp⟩
 · injection hv with _ _ hc
   subst hc
   exact ⟨by omega, h1⟩
theorem add_pos (a : Addr) (n : Nat) (h : 0 < n) : a.add n = ⟨a.block, a.off + n, none⟩ := by
 unfold Addr.add
 rw [if_neg (by omega)]
section
variable {lo hi : Nat} {w : World} {A : Option Addr} {k : Nat} {l : List (Int × Int)} {x : List Ins} {p : List Fn}
theorem Nx.whole (h : Nx w lo hi A x) (hk : k < x.length) : ∃ ad, A = some ad ∧ ad.block < hi ∧ w.cell? (ad.add (k * 5)) = some (.int .i64 (x.getD k Ins.z).op) ∧ w.cell? ⟨(ad.add (k * 5)).block, (ad.add (k * 5)).off + 1, none⟩ = some (.int .i64 (x.getD k Ins.z).a) ∧
 w.cell? ⟨(ad.add (k * 5)).block, (ad.add (k * 5)).off + 2, none⟩ = some (.int .i64 (x.getD k Ins.z).b) ∧ w.cell? ⟨(ad.add (k * 5)).block, (ad.add (k * 5)).off + 3, none⟩ = some (.int .i64 (x.getD k Ins.z).c) ∧ w.cell? ⟨(ad.add (k * 5)).block, (ad.add (k * 5)).off + 4, none⟩ = some (.int .u64 (x.getD k Ins.z).imm) := by
 obtain ⟨ad, e, hb, c0, c1, c2, c3, c4⟩ := h.at_ hk
 rw [add_pos _ 1 (by omega)] at c1
 rw [add_pos _ 2 (by omega)] at c2
 rw [add_pos _ 3 (by omega)] at c3
 rw [add_pos _ 4 (by omega)] at c4
 exact ⟨ad, e, hb, c0, c1, c2, c3, c4⟩
theorem Fx.whole (h : Fx w lo hi A p) (hk : k < p.length) : ∃ ad As cs Ai ci, A = some ad ∧ ad.block < hi ∧ w.cell? (ad.add (k * 3)) = some (.int .i64 (p.getD k Fn.z).params) ∧ w.cell? ⟨(ad.add (k * 3)).block, (ad.add (k * 3)).off + 1, none⟩ = some (.slice As (p.getD k Fn.z).slots.length cs) ∧ w.cell? ⟨(ad.add (k * 3)).block, (ad.add (k * 3)).off + 2, none⟩ = some (.slice Ai (p.getD k Fn.z).code.length ci) ∧
 w.cell? ((ad.add (k * 3)).add 1) = some (.slice As (p.getD k Fn.z).slots.length cs) ∧ w.cell? ((ad.add (k * 3)).add 2) = some (.slice Ai (p.getD k Fn.z).code.length ci) ∧
 Sx w lo hi As (p.getD k Fn.z).slots ∧ Nx w lo hi Ai (p.getD k Fn.z).code ∧ ((p.getD k Fn.z).slots.length ≤ maxLen ∧ (p.getD k Fn.z).slots.length ≤ cs) ∧ ((p.getD k Fn.z).code.length ≤ maxLen ∧ (p.getD k Fn.z).code.length ≤ ci) := by
 obtain ⟨ad, As, cs, Ai, ci, e, hb, c0, c1, c2, r⟩ := h.at_ hk
 refine ⟨ad, As, cs, Ai, ci, e, hb, c0, ?_, ?_, c1, c2, r⟩
 · rw [← add_pos _ 1 (by omega)]; exact c1
 · rw [← add_pos _ 2 (by omega)]; exact c2
end
end Go.Proofs.YtcnndoefgjbmiaaGreat.pm
