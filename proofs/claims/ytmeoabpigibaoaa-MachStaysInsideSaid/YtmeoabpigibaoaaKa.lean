/- Targets as plain data, what mach.Check answers, and how a target lies in memory. -/
import Derived.Test.YtmeoabpigibaoaaSc3
namespace Go.Proofs.Ytmeoabpigibaoaa.pm
open Go.RowKit
set_option linter.unusedVariables false
set_option maxRecDepth 10000

/-- a frame of a target -/
structure Fr where
  params : Int
  size : Int
  code : List Ins
def Fr.z : Fr := ⟨0, 0, []⟩
def memB (op : Int) : Bool := op == 15 || op == 16 || op == 17
def rdB (op : Int) : Bool := op == 15 || op == 17
def wrB (op : Int) : Bool := op == 16 || op == 17
/-- how many operands an operation has -/
def opN (op : Int) : Nat := if op = 15 ∨ op = 16 ∨ op = 17 ∨ (2 ≤ op ∧ op ≤ 11) then 3 else if op = 0 ∨ op = 13 ∨ op = 14 ∨ op = 20 ∨ op = 22 then 1 else if op = 23 ∨ op = 24 then 0 else 2
def unB (x : Ins) : Bool := (x.imm != 0 && !(x.op == 0 || x.op == 24)) || (decide (opN x.op < 3) && x.c != 0) || (decide (opN x.op < 2) && x.b != 0) || (decide (opN x.op < 1) && x.a != 0)
/-- the operands that are registers -/
def regL (x : Ins) : List Int := if 2 ≤ x.op ∧ x.op ≤ 11 then [x.a, x.b, x.c] else if x.op = 1 ∨ x.op = 12 then [x.a, x.b] else if x.op = 0 ∨ x.op = 13 ∨ x.op = 14 ∨ x.op = 15 ∨ x.op = 21 then [x.a] else if x.op = 16 then [x.b] else []
def outB (l : List Int) : Bool := l.any (fun r => !inB r 8)
def bndB (n : Int) : Bool := inB n 2147483648
def insB (o s size : Int) : Bool := bndB o && bndB s && decide (o + s ≤ 2147483647) && decide (o + s ≤ size)
def wildB (prm sz : Int) (x : Ins) : Bool := (rdB x.op && !insB x.b x.c (sz + 16 * prm)) || (wrB x.op && !insB x.a x.c sz)
def tgtB (nc : Nat) (x : Ins) : Bool := (x.op == 20 && !inB x.a nc) || (x.op == 21 && !inB x.b nc)
def inE (nf : Nat) (prm sz : Int) (nc : Nat) (x : Ins) : Int :=
  if (!inB x.op 25 || x.op == 18 || x.op == 19) = true then 4 else
  if unB x = true then 2 else
  if (outB (regL x) || (x.op == 22 && !inB x.a nf)) = true then 4 else
  if (memB x.op && !sizeB x.c) = true then 5 else
  if wildB prm sz x = true then 4 else
  if tgtB nc x = true then 6 else 0
/-- the shape of a frame is right -/
def shB (al : Int) (f : Fr) : Bool := powB al && inB f.params 9 && inB f.size 2147483520 && f.size % al == 0
def frE (nf : Nat) (al : Int) (f : Fr) : Int :=
  if shB al f = false then 4 else
  if 1024 < f.code.length then 3 else
  if firstE (f.code.map (inE nf f.params f.size f.code.length)) ≠ 0 then firstE (f.code.map (inE nf f.params f.size f.code.length)) else
  if (f.code.length == 0 || !termB (f.code.getD (f.code.length - 1) Ins.z).op) = true then 6 else 0
/-- a call has room for the parameters -/
def roomB (t : List Fr) (sz : Int) (x : Ins) : Bool := !(x.op == 22 && decide (sz < 16 * (t.getD x.a.toNat Fr.z).params))
def tgE (al : Int) (t : List Fr) : Int :=
  if 80 < t.length then 3 else
  if t.length = 0 then 4 else
  if (!powB al || decide (al < 16)) = true then 5 else
  if (t.getD 0 Fr.z).params ≠ 0 then 7 else
  if firstE (t.map (frE t.length al)) ≠ 0 then firstE (t.map (frE t.length al)) else
  if t.all (fun f => f.code.all (roomB t f.size)) = true then 0 else 7

/-- what the cells of a row of frames say -/
def Wx (w : World) (lo hi : Nat) (vs : List Value) (t : List Fr) : Prop :=
  ∀ i, i < t.length → ∃ Ai ci, vs[i * 3]? = some (.int .i64 (t.getD i Fr.z).params) ∧ vs[i * 3 + 1]? = some (.int .i64 (t.getD i Fr.z).size) ∧ vs[i * 3 + 2]? = some (.slice Ai (t.getD i Fr.z).code.length ci) ∧
    Nx w lo hi Ai (t.getD i Fr.z).code ∧ (t.getD i Fr.z).code.length ≤ maxLen ∧ (t.getD i Fr.z).code.length ≤ ci
/-- a slice of frames -/
def Gx (w : World) (lo hi : Nat) (A : Option Addr) (t : List Fr) : Prop := ∃ vs, Rx w lo hi 3 A t.length vs ∧ Wx w lo hi vs t
section
variable {lo hi lo' hi' : Nat} {w w' : World} {A : Option Addr} {k : Nat} {vs : List Value} {t : List Fr}
theorem Wx.keep (h : Wx w lo hi vs t) (hk : Kp lo hi w w') : Wx w' lo hi vs t := fun i hi => by
  obtain ⟨Ai, ci, h1, h2, h3, h5, h6⟩ := h i hi
  exact ⟨Ai, ci, h1, h2, h3, h5.keep hk, h6⟩
theorem Wx.more (h : Wx w lo hi vs t) (hl : lo' ≤ lo) (hh : hi ≤ hi') : Wx w lo' hi' vs t := fun i hi => by
  obtain ⟨Ai, ci, h1, h2, h3, h5, h6⟩ := h i hi
  exact ⟨Ai, ci, h1, h2, h3, h5.more hl hh, h6⟩
theorem Wx.nil (w : World) (lo hi : Nat) : Wx w lo hi [] [] := fun i hi => absurd hi (by simp)
theorem Gx.keep (h : Gx w lo hi A t) (hk : Kp lo hi w w') : Gx w' lo hi A t := by
  obtain ⟨vs, h1, h2⟩ := h
  exact ⟨vs, h1.keep hk, h2.keep hk⟩
theorem Gx.more (h : Gx w lo hi A t) (hl : lo' ≤ lo) (hh : hi ≤ hi') : Gx w lo' hi' A t := by
  obtain ⟨vs, h1, h2⟩ := h
  exact ⟨vs, h1.more hl hh, h2.more hl hh⟩
theorem Gx.below (h : Gx w lo hi A t) (hb : Below w.heap.size w w') (hh : hi ≤ w.heap.size) : Gx w' lo hi A t := h.keep (Kp.of_below hb hh)
theorem Wx.snoc (h : Wx w lo hi vs t) (hl : vs.length = t.length * 3) {f : Fr} {Ai : Option Addr} {ci : Nat} (h2 : Nx w lo hi Ai f.code) (h4 : f.code.length ≤ maxLen ∧ f.code.length ≤ ci) :
    Wx w lo hi (vs ++ [.int .i64 f.params, .int .i64 f.size, .slice Ai f.code.length ci]) (t ++ [f]) := fun i hi => by
  rw [List.length_append] at hi
  rcases Nat.lt_or_ge i t.length with hlt | hge
  · obtain ⟨Ai', ci', q1, q2, q3, q4⟩ := h i hlt
    have e : (t ++ [f]).getD i Fr.z = t.getD i Fr.z := by rw [List.getD_eq_getElem?_getD, List.getD_eq_getElem?_getD, List.getElem?_append_left hlt]
    rw [e]
    exact ⟨Ai', ci', by rw [List.getElem?_append_left (by omega)]; exact q1, by rw [List.getElem?_append_left (by omega)]; exact q2, by rw [List.getElem?_append_left (by omega)]; exact q3, q4⟩
  · obtain rfl : i = t.length := by simp at hi; omega
    have e : (t ++ [f]).getD t.length Fr.z = f := by simp
    rw [e]
    refine ⟨Ai, ci, ?_, ?_, ?_, h2, h4⟩
    · rw [List.getElem?_append_right (by omega), show t.length * 3 - vs.length = 0 by omega]; rfl
    · rw [List.getElem?_append_right (by omega), show t.length * 3 + 1 - vs.length = 1 by omega]; rfl
    · rw [List.getElem?_append_right (by omega), show t.length * 3 + 2 - vs.length = 2 by omega]; rfl
/-- the cells of the k-th frame, as a field's load and as a load of the whole spell them -/
theorem Gx.whole (h : Gx w lo hi A t) (hk : k < t.length) : ∃ ad Ai ci, A = some ad ∧ ad.block < hi ∧ w.cell? (ad.add (k * 3)) = some (.int .i64 (t.getD k Fr.z).params) ∧ w.cell? ⟨(ad.add (k * 3)).block, (ad.add (k * 3)).off + 1, none⟩ = some (.int .i64 (t.getD k Fr.z).size) ∧ w.cell? ⟨(ad.add (k * 3)).block, (ad.add (k * 3)).off + 2, none⟩ = some (.slice Ai (t.getD k Fr.z).code.length ci) ∧
    w.cell? ((ad.add (k * 3)).add 1) = some (.int .i64 (t.getD k Fr.z).size) ∧ w.cell? ((ad.add (k * 3)).add 2) = some (.slice Ai (t.getD k Fr.z).code.length ci) ∧
    Nx w lo hi Ai (t.getD k Fr.z).code ∧ (t.getD k Fr.z).code.length ≤ maxLen ∧ (t.getD k Fr.z).code.length ≤ ci := by
  obtain ⟨vs, hr, hv⟩ := h
  obtain ⟨ad, e, hb, hc⟩ := hr.1.2 (by omega)
  obtain ⟨Ai, ci, h1, h2, h3, h4⟩ := hv k hk
  have c1 : w.cell? ((ad.add (k * 3)).add 1) = some (.int .i64 (t.getD k Fr.z).size) := by rw [add_of_add]; exact hc _ _ h2
  have c2 : w.cell? ((ad.add (k * 3)).add 2) = some (.slice Ai (t.getD k Fr.z).code.length ci) := by rw [add_of_add]; exact hc _ _ h3
  refine ⟨ad, Ai, ci, e, hb, hc _ _ h1, ?_, ?_, c1, c2, h4⟩
  · rw [← add_pos _ 1 (by omega)]; exact c1
  · rw [← add_pos _ 2 (by omega)]; exact c2
end
/-- the numbers of an instruction, of a frame, of a target are such as the machine has -/
def InR (x : Ins) : Prop := I64 x.op ∧ I64 x.a ∧ I64 x.b ∧ I64 x.c
def FrR (f : Fr) : Prop := I64 f.params ∧ I64 f.size ∧ ∀ x ∈ f.code, InR x
def TgR (al : Int) (t : List Fr) : Prop := I64 al ∧ ∀ f ∈ t, FrR f
end Go.Proofs.Ytmeoabpigibaoaa.pm
