/- One step of the machine. -/
import Derived.Test.YtdijeijbcoeopaaDoorMta
import Derived.Test.YtdijeijbcoeopaaDoorMtb
import Derived.Test.YtdijeijbcoeopaaDoorMtc
import Derived.Test.YtdijeijbcoeopaaDoorMtd
import Derived.Test.YtdijeijbcoeopaaDoorGMc
import Derived.Test.YtdijeijbcoeopaaDoorGAp
set_option linter.unusedVariables false
set_option maxRecDepth 10000
namespace Go.Proofs.YtdijeijbcoeopaaDoor.pm
open Go.RowKit
section
variable {B n mb cs ct np cp : Nat} {ad : Addr} {iv : Value} {As At : Option Addr} {bl : List Nat} {m : Mx} {p : List Fn}
theorem step_any (w : World) (h : Pre w B n mb ad p cp iv As cs At ct bl m) (hop : OpOk p m (m.ins p)) :
 Calls Tryd.prog 32 #[.pointer (some ⟨mb, 0, none⟩)] w (StepD w B n mb ad (.slice (some ad) p.length cp) iv (stepM p m)) := by
 have hop' := hop
 rcases hop with ⟨ho, -⟩ | ⟨ho, -⟩ | ho | ⟨ho, -⟩ | ⟨ho, -⟩ | ⟨ho, -⟩ | ⟨ho, -⟩ | ⟨ho, -⟩ | ⟨ho, -⟩ | ⟨ho, -⟩ | ⟨ho, -⟩
 · exact step_a w h hop' (.inl ho)
 · exact step_a w h hop' (.inr (.inl ho))
 · exact step_a w h hop' (.inr (.inr ho))
 · exact step_b w h hop' (.inl ho)
 · exact step_b w h hop' (.inr ho)
 · exact step_c w h hop' (.inl ho)
 · exact step_c w h hop' (.inr (.inl ho))
 · exact step_c w h hop' (.inr (.inr ho))
 · exact step_d w h hop' (.inl ho)
 · exact step_d w h hop' (.inr (.inl ho))
 · exact step_d w h hop' (.inr (.inr ho))
end
def Mx.plain (m : Mx) (x : Ins) : Mx :=
 if x.op = 1 then { m with regs := m.regs.set x.a.toNat (rg m x.b.toNat) }
 else if x.op = 11 then { m with regs := m.regs.set x.a.toNat ((rg m x.b.toNat).1, (rg m x.c.toNat).1) }
 else if x.op = 12 then { m with regs := m.regs.set x.a.toNat ((rg m x.b.toNat).2, 0) }
 else if x.op = 13 then { m with regs := m.regs.set x.a.toNat (m.inp.headD 0, 0), inp := m.inp.tail }
 else if x.op = 14 then { m with trace := m.trace ++ [rg m x.a.toNat] }
 else if (apV x.op (rg m x.b.toNat).1 (rg m x.b.toNat).2 (rg m x.c.toNat).1 (rg m x.c.toNat).2).2 = true then
  { m with regs := m.regs.set x.a.toNat (apV x.op (rg m x.b.toNat).1 (rg m x.b.toNat).2 (rg m x.c.toNat).1 (rg m x.c.toNat).2).1 }
 else m.stop 2
def stepX (p : List Fn) (m : Mx) : Mx := if 1 ≤ (m.ins p).op ∧ (m.ins p).op ≤ 14 then m.next.plain (m.ins p) else stepM p m
def inV8 (l : List Nat) : List Value := l.map fun (v : Nat) => Value.int .u64 (v : Int)
def W64x (v : Nat × Nat) : Prop := v.1 < 18446744073709551616 ∧ v.2 < 18446744073709551616
def PlOk (m : Mx) (x : Ins) : Prop :=
 (1 ≤ x.op ∧ x.op ≤ 14) ∧ (0 ≤ x.a ∧ x.a < 8) ∧ (0 ≤ x.b ∧ x.b < 8) ∧ (0 ≤ x.c ∧ x.c < 8) ∧ m.trace.length ≤ 1000000 ∧ ∀ r, W64x (rg m r)
def InX (w : World) (B : Nat) (iv : Value) (inp : List Nat) : Prop :=
 ∃ Ai ci, iv = .slice Ai inp.length ci ∧ inp.length ≤ ci ∧ inp.length ≤ 1000000 ∧ Rx w 0 B 1 Ai inp.length (inV8 inp)
theorem InX.after {w w' : World} {B : Nat} {iv : Value} {inp : List Nat} (h : InX w B iv inp) (hb : Below B w w') : InX w' B iv inp := by
 obtain ⟨Ai, ci, h1, h2, h3, h4⟩ := h
 exact ⟨Ai, ci, h1, h2, h3, h4.keep fun b _ hn => hb.block b hn⟩
def StepI (w : World) (B n mb : Nat) (ad : Addr) (pv : Value) (m : Mx) (e : Ending) (w' : World) : Prop :=
 e = .returned (.tuple #[]) ∧ Below B w w' ∧ ∃ iv' As' cs' At' ct' bl', MAt w' B (n + 1) mb ad pv iv' As' cs' At' ct' bl' m ∧ InX w' B iv' m.inp
theorem StepI.of {w w' : World} {B n mb : Nat} {ad : Addr} {pv iv : Value} {m : Mx} {e : Ending} (h : StepD w B n mb ad pv iv m e w') (hi : InX w B iv m.inp) : StepI w B n mb ad pv m e w' := by
 obtain ⟨h1, h2, As', cs', At', ct', bl', h3⟩ := h
 exact ⟨h1, h2, _, As', cs', At', ct', bl', h3, hi.after h2⟩
section
variable {w : World} {B n mb cs ct np cp : Nat} {ad : Addr} {pv iv : Value} {As At : Option Addr} {bl : List Nat} {m : Mx}
theorem MAt.iset (h : MAt w B n mb ad pv iv As cs At ct bl m) (iv' : Value) (inp' : List Nat) : MAt (w.setCell ⟨mb, 1, none⟩ iv') B n mb ad pv iv' As cs At ct bl { m with inp := inp' } := by
 refine ⟨?_, h.hmb, ?_, ?_, h.bll, h.nd, fun i hi => ?_⟩
 · exact h.blk.set_ 1 iv'
 · exact own_miss8 h.own _ (fun j e => by have := h.mb_own; intro e'; exact this (by rw [e, e'])) iv'
 · exact own_miss8 h.tr _ (fun j e => by have := h.mb_tr; intro e'; exact this (by rw [e, e'])) iv'
 · have hb : w.heap[mb]? = some (.cells (mcs pv iv (.slice As m.acts.length cs) (.slice At m.trace.length ct) m) 71 (0, 0)) := h.blk
   exact ⟨(h.maps i hi).1, (h.maps i hi).2.setCell (a := ⟨mb, 1, none⟩) ((h.maps i hi).2.ne_cells hb) iv'⟩
theorem MAt.lset (h : MAt w B n mb ad pv iv As cs At ct bl m) (hr8 : m.regs.length = 8) {r : Nat} (hr : r < 8) (v : Nat) :
 MAt (w.setCell ⟨mb, 2 + r * 2, none⟩ (.int .u64 v)) B n mb ad pv iv As cs At ct bl { m with regs := m.regs.set r (v, (rg m r).2) } :=
 h.mset (2 + r * 2) (.int .u64 v) { m with regs := m.regs.set r (v, (rg m r).2) } rfl rfl rfl (by
  obtain ⟨regs, acts, hp, deep, inp, kind, code, res, steps, trace, ended⟩ := m
  match regs, hr8 with
  | [r0, r1, r2, r3, r4, r5, r6, r7], _ =>
   have e : r = 0 ∨ r = 1 ∨ r = 2 ∨ r = 3 ∨ r = 4 ∨ r = 5 ∨ r = 6 ∨ r = 7 := by omega
   rcases e with rfl | rfl | rfl | rfl | rfl | rfl | rfl | rfl <;> rfl)
theorem rg_set {r : Nat} (hr : r < m.regs.length) (v : Nat × Nat) : rg { m with regs := m.regs.set r v } r = v := by
 unfold rg
 rw [List.getD_eq_getElem?_getD, List.getElem?_set_self hr]
 rfl
theorem InX.tail {B v ci : Nat} {Ai : Option Addr} {inp : List Nat} (hc : (v :: inp).length ≤ ci) (hl : (v :: inp).length ≤ 1000000) (h : Rx w 0 B 1 Ai (v :: inp).length (inV8 (v :: inp))) :
 InX w B (.slice (if ci = 1 then Ai else Ai.map fun x => ⟨x.block, x.off + 1, none⟩) inp.length (ci - 1)) inp := by
 obtain ⟨ad, e, hb, hcl⟩ := h.1.2 (by simp)
 subst e
 have hl' : inp.length + 1 ≤ ci := by simpa using hc
 by_cases h1 : ci = 1
 · subst h1
   obtain rfl : inp = [] := by cases inp with | nil => rfl | cons => simp at hl'
   exact ⟨_, _, rfl, by simp, by simp, ⟨⟨rfl, fun h => absurd h (by simp)⟩, fun ad _ _ => Nat.zero_le _⟩⟩
 · rw [if_neg h1]
   refine ⟨_, _, rfl, by omega, by simp at hl; omega, ⟨⟨by simp [inV8], fun hn => ⟨ad.add 1, by rw [add_pos ad 1 (by omega)]; rfl, by rw [block_of_add]; exact hb, fun j u hu => ?_⟩⟩, fun ad _ _ => Nat.zero_le _⟩⟩
   rw [add_of_add, Nat.add_comm 1 j]
   exact hcl (j + 1) u (by simpa [inV8] using hu)
end
end Go.Proofs.YtdijeijbcoeopaaDoor.pm
