/- What an instruction of a target does; what must hold ahead of a step. -/
import Derived.Test.YtcnndoefgjbmiaaGreatGJa
import Derived.Test.YtcnndoefgjbmiaaGreatGAp
import Derived.Test.YtcnndoefgjbmiaaGreatGKe
set_option linter.unusedVariables false
set_option maxRecDepth 10000
namespace Go.Proofs.YtcnndoefgjbmiaaGreat.pm
open Go.RowKit
def Mx.plain (m : Mx) (x : Ins) : Mx :=
 if x.op = 0 then { m with regs := m.regs.set x.a.toNat (x.imm.toNat, 0) }
 else if x.op = 1 then { m with regs := m.regs.set x.a.toNat (rg m x.b.toNat) }
 else if x.op = 11 then { m with regs := m.regs.set x.a.toNat ((rg m x.b.toNat).1, (rg m x.c.toNat).1) }
 else if x.op = 12 then { m with regs := m.regs.set x.a.toNat ((rg m x.b.toNat).2, 0) }
 else if x.op = 13 then { m with regs := m.regs.set x.a.toNat (m.inp.headD 0, 0), inp := m.inp.tail }
 else if x.op = 14 then { m with trace := m.trace ++ [rg m x.a.toNat] }
 else if (apV x.op (rg m x.b.toNat).1 (rg m x.b.toNat).2 (rg m x.c.toNat).1 (rg m x.c.toNat).2).2 = true then
  { m with regs := m.regs.set x.a.toNat (apV x.op (rg m x.b.toNat).1 (rg m x.b.toNat).2 (rg m x.c.toNat).1 (rg m x.c.toNat).2).1 }
 else m.stop 2
def Mx.ins (p : List Fr) (m : Mx) : Ins := (p.getD m.top.f Fr.z).code.getD m.top.pc Ins.z
def Mx.next (m : Mx) : Mx := { m.setTop { m.top with pc := m.top.pc + 1 } with steps := m.steps + 1 }
def Mx.load (m : Mx) (a : Nat) (r : Option (List Nat)) : Mx :=
 match r with
 | some l => { m with regs := m.regs.set a (loV l, hiV l) }
 | none => m.stop 3
def Mx.moveIn (m : Mx) (a : Nat) (r : Option (List Nat)) : Mx :=
 match r with
 | some l => m.wr a l
 | none => m.stop 3
def Mx.leave (m : Mx) (z : Nat) : Mx :=
 if m.acts.length = 1 then ({ m with sp := m.sp + z, acts := m.acts.take 0, res := rg m 0 } : Mx).stop 0 else { m with sp := m.sp + z, acts := m.acts.take (m.acts.length - 1) }
def szF (p : List Fr) (f : Nat) : Nat := (p.getD f Fr.z).size.toNat
def prF (p : List Fr) (f : Nat) : Nat := (p.getD f Fr.z).params.toNat
def doX (p : List Fr) (k : Mx) (x : Ins) : Mx :=
 if x.op = 15 then k.load x.a.toNat (k.rd x.b.toNat x.c.toNat)
 else if x.op = 16 then k.wr x.a.toNat (bytesV (rg k x.b.toNat).1 (rg k x.b.toNat).2 x.c.toNat)
 else if x.op = 17 then k.moveIn x.a.toNat (k.rd x.b.toNat x.c.toNat)
 else if x.op = 20 then k.setTop { k.top with pc := x.a.toNat }
 else if x.op = 21 then if (rg k x.a.toNat).1 = 0 then k else k.setTop { k.top with pc := x.b.toNat }
 else if x.op = 22 then k.call x.a.toNat (szF p x.a.toNat)
 else if x.op = 23 then k.leave (szF p k.top.f)
 else if x.op = 24 then ({ k with code := x.imm.toNat } : Mx).stop 1
 else k.plain x
def stepX (p : List Fr) (m : Mx) : Mx := doX p m.next (m.ins p)
def W64x (v : Nat × Nat) : Prop := v.1 < 18446744073709551616 ∧ v.2 < 18446744073709551616
def inV8 (l : List Nat) : List Value := l.map fun (v : Nat) => Value.int .u64 (v : Int)
def InX (w : World) (B : Nat) (iv : Value) (inp : List Nat) : Prop :=
 ∃ Ai ci, iv = .slice Ai inp.length ci ∧ inp.length ≤ ci ∧ inp.length ≤ 1000000 ∧ Rx w 0 B 1 Ai inp.length (inV8 inp)
theorem InX.after {w w' : World} {B : Nat} {iv : Value} {inp : List Nat} (h : InX w B iv inp) (hb : Below B w w') : InX w' B iv inp := by
 obtain ⟨Ai, ci, h1, h2, h3, h4⟩ := h
 exact ⟨Ai, ci, h1, h2, h3, h4.keep fun b _ hn => hb.block b hn⟩
theorem InX.more {w : World} {B B' : Nat} {iv : Value} {inp : List Nat} (h : InX w B iv inp) (hB : B ≤ B') : InX w B' iv inp := by
 obtain ⟨Ai, ci, h1, h2, h3, h4⟩ := h
 exact ⟨Ai, ci, h1, h2, h3, h4.more nL hB⟩
theorem InX.tail {w : World} {B v ci : Nat} {Ai : Option Addr} {inp : List Nat} (hc : (v :: inp).length ≤ ci) (hl : (v :: inp).length ≤ 1000000) (h : Rx w 0 B 1 Ai (v :: inp).length (inV8 (v :: inp))) :
 InX w B (.slice (if ci = 1 then Ai else Ai.map fun x => ⟨x.block, x.off + 1, none⟩) inp.length (ci - 1)) inp := by
 obtain ⟨ad, e, hb, hcl⟩ := h.1.2 (by simp)
 subst e
 have hl' : inp.length + 1 ≤ ci := by simpa using hc
 by_cases h1 : ci = 1
 · subst h1
   obtain rfl : inp = [] := by cases inp with | nil => rfl | cons => simp at hl'
   exact ⟨_, _, rfl, by simp, by simp, ⟨⟨rfl, fun h => absurd h (by simp)⟩, fun ad _ _ => Nat.zero_le _⟩⟩
 · rw [if_neg h1]
   refine ⟨_, _, rfl, by omega, by simp at hl; omega, ⟨⟨by simp [inV8], fun hn => ⟨ad.add 1, by rw [add_pos ad 1 (by omega)]; rfl, by rw [block_of_add]; exact hb, fun j u hu => ?_⟩⟩, fun ad _ _ => Nat.zero_le _⟩⟩
   rw [add_of_add, Nat.add_comm 1 j]
   exact hcl (j + 1) u (by simpa [inV8] using hu)
theorem bitsN_lt (o : BinOp) (a c : Nat) : bitsN o a c < 18446744073709551616 := by
 have h := wf_bits o .u64 a c
 simp [Lit.wf, IntKind.min, IntKind.max, IntKind.signed, IntKind.bits] at h
 unfold bitsN
 omega
theorem apV_w (op : Int) (a b c d : Nat) : W64x (apV op a b c d).1 := by
 unfold apV
 repeat' split
 all_goals unfold W64x
 all_goals dsimp only
 all_goals first
  | exact ⟨loN_lt _, hiN_lt _⟩
  | exact ⟨bitsN_lt _ _ _, bitsN_lt _ _ _⟩
  | exact ⟨bitsN_lt _ _ _, bitsN_lt _ _ _⟩
  | exact ⟨by omega, by omega⟩
  | (unfold eqN; split <;> exact ⟨by omega, by omega⟩)
def StepI (w : World) (B mb : Nat) (L : Pl) (ad : Addr) (pv : Value) (m : Mx) (e : Ending) (w' : World) : Prop :=
 e = .returned (.tuple #[]) ∧ Below B w w' ∧ ∃ iv' As' cs' At' ct', MAt w' B mb L ad pv iv' As' cs' At' ct' m ∧ InX w' B iv' m.inp
def StepD (w : World) (B mb : Nat) (L : Pl) (ad : Addr) (pv iv : Value) (m : Mx) (e : Ending) (w' : World) : Prop :=
 e = .returned (.tuple #[]) ∧ Below B w w' ∧ ∃ As' cs' At' ct', MAt w' B mb L ad pv iv As' cs' At' ct' m
theorem StepI.of {w w' : World} {B mb : Nat} {L : Pl} {ad : Addr} {pv iv : Value} {m : Mx} {e : Ending} (h : StepD w B mb L ad pv iv m e w') (hi : InX w B iv m.inp) : StepI w B mb L ad pv m e w' := by
 obtain ⟨h1, h2, As', cs', At', ct', h3⟩ := h
 exact ⟨h1, h2, _, As', cs', At', ct', h3, hi.after h2⟩
def runX (p : List Fr) (F : Nat) : Nat → Mx → Mx
 | 0, m => m
 | k + 1, m => if m.ended = true then m else if F ≤ m.steps then m.stop 4 else runX p F k (stepX p m)
def Mx.fin (m : Mx) : Mx := if m.ended = true then m else m.stop 4
theorem steps_load (m : Mx) (a : Nat) (r : Option (List Nat)) : (m.load a r).steps = m.steps := by unfold Mx.load; split <;> rfl
theorem steps_moveIn (m : Mx) (a : Nat) (r : Option (List Nat)) : (m.moveIn a r).steps = m.steps := by unfold Mx.moveIn; split <;> rfl
theorem steps_call (m : Mx) (f z : Nat) : (m.call f z).steps = m.steps := by unfold Mx.call; split <;> rfl
theorem steps_leave (m : Mx) (z : Nat) : (m.leave z).steps = m.steps := by unfold Mx.leave; split <;> rfl
theorem steps_stop (m : Mx) (k : Int) : (m.stop k).steps = m.steps := rfl
theorem steps_setTop (m : Mx) (a : Ac) : (m.setTop a).steps = m.steps := rfl
theorem steps_wr (m : Mx) (o : Nat) (b : List Nat) : (m.wr o b).steps = m.steps := rfl
theorem steps_plain (m : Mx) (x : Ins) : (m.plain x).steps = m.steps := by
 unfold Mx.plain
 simp only [apply_ite Mx.steps, steps_stop, ite_self]
theorem steps_stepX (p : List Fr) (m : Mx) : (stepX p m).steps = m.steps + 1 := by
 have hn : m.next.steps = m.steps + 1 := rfl
 unfold stepX doX
 simp only [apply_ite Mx.steps, steps_load, steps_moveIn, steps_call, steps_leave, steps_stop, steps_setTop, steps_wr, steps_plain, hn, ite_self]
theorem trace_stepX (p : List Fr) (m : Mx) : ∃ t, (stepX p m).trace = m.trace ++ t ∧ t.length ≤ 1 := by
 have hn : m.next.trace = m.trace := rfl
 have hp : ∀ x, ∃ t, (m.next.plain x).trace = m.trace ++ t ∧ t.length ≤ 1 := fun x => by
  unfold Mx.plain
  repeat' split
  all_goals first
   | exact ⟨[_], rfl, by simp⟩
   | exact ⟨[], by rw [List.append_nil]; rfl, by simp⟩
 unfold stepX doX Mx.load Mx.moveIn Mx.call Mx.leave
 repeat' split
 all_goals first
  | exact hp _
  | exact ⟨[], by rw [List.append_nil]; rfl, by simp⟩
section
variable {p : List Fr}
def KX (m : Mx) : Prop := m.ended = false ∨ (m.kind ≠ 4 ∧ m.kind ≠ 6)
end
structure GI (al : Int) (p : List Fr) (m : Mx) : Prop where
 wf : Wf p m
 rgs : ∀ v ∈ m.regs, W64x v
 inp : ∀ v ∈ m.inp, v < 18446744073709551616
 mem : ∀ v ∈ m.mem, v < 256
 len : m.use.length = m.mem.length
 tp : m.tp ≤ m.mem.length
 sum : m.sp + (m.acts.map (fun a => szF p a.f)).sum = m.tp
 chain : ∀ i, i + 1 < m.acts.length → 16 * prF p (m.acts.getD (i + 1) Ac.z).f ≤ szF p (m.acts.getD i Ac.z).f
 ent : prF p (m.acts.getD 0 Ac.z).f = 0
 deep : m.deep ≤ m.tp
theorem sum_ge1 : ∀ (l : List Nat) (t : Nat), t < l.length → l.getD t 0 ≤ l.sum
 | [], t, h => by simp at h
 | x :: r, 0, h => by simp
 | x :: r, t + 1, h => by
  have := sum_ge1 r t (by simpa using h)
  rw [List.getD_cons_succ, List.sum_cons]; omega
theorem sum_ge2 : ∀ (l : List Nat) (t : Nat), t + 1 < l.length → l.getD t 0 + l.getD (t + 1) 0 ≤ l.sum
 | [], t, h => by simp at h
 | x :: r, 0, h => by
  have := sum_ge1 r 0 (by simpa using h)
  rw [List.getD_cons_zero, List.getD_cons_succ, List.sum_cons]; omega
 | x :: r, t + 1, h => by
  have := sum_ge2 r t (by simpa using h)
  rw [List.getD_cons_succ, List.getD_cons_succ, List.sum_cons]; omega
theorem getD_map (g : Ac → Nat) (l : List Ac) (t : Nat) (h : t < l.length) : (l.map g).getD t 0 = g (l.getD t Ac.z) := by
 rw [List.getD_eq_getElem?_getD, List.getD_eq_getElem?_getD, List.getElem?_map, List.getElem?_eq_getElem h]
 rfl
section
variable {al : Int} {p : List Fr} {m : Mx}
theorem GI.room (h : GI al p m) : m.sp + szF p m.top.f + 16 * prF p m.top.f ≤ m.tp := by
 have h1 := h.wf.some_
 have hs := h.sum
 unfold Mx.top
 rcases Nat.lt_or_ge 1 m.acts.length with h2 | h2
 · have hc := h.chain (m.acts.length - 2) (by omega)
   have hg := sum_ge2 (m.acts.map (fun a => szF p a.f)) (m.acts.length - 2) (by simp; omega)
   rw [show m.acts.length - 2 + 1 = m.acts.length - 1 by omega] at hc hg
   rw [getD_map _ _ _ (by omega), getD_map _ _ _ (by omega)] at hg
   omega
 · have e1 : m.acts.length - 1 = 0 := by omega
   have he := h.ent
   have hg := sum_ge1 (m.acts.map (fun a => szF p a.f)) 0 (by simp; omega)
   rw [getD_map _ _ _ (by omega)] at hg
   rw [e1]
   omega
theorem top_mem (h : 1 ≤ m.acts.length) : m.top ∈ m.acts := getD_mem' (by omega)
end
theorem splice_mem {α : Type} {L cs : List α} {o : Nat} {P : α → Prop} (h1 : ∀ x ∈ L, P x) (h2 : ∀ x ∈ cs, P x) : ∀ x ∈ splice L o cs, P x := by
 intro x hx
 unfold splice at hx
 rcases List.mem_append.1 hx with h | h
 · exact h1 x (List.mem_of_mem_take h)
 · rcases List.mem_append.1 h with h | h
   · exact h2 x h
   · exact h1 x (List.mem_of_mem_drop h)
theorem getD_app_l {α : Type} (l r : List α) (z : α) {i : Nat} (h : i < l.length) : (l ++ r).getD i z = l.getD i z := by
 rw [List.getD_eq_getElem?_getD, List.getD_eq_getElem?_getD, List.getElem?_append_left h]
theorem getD_app_r {α : Type} (l : List α) (x z : α) {i : Nat} (h : i = l.length) : (l ++ [x]).getD i z = x := by
 subst h
 rw [List.getD_eq_getElem?_getD, List.getElem?_append_right nL, Nat.sub_self]
 rfl
section
variable {al : Int} {p : List Fr} {m : Mx}
theorem ins_mem (h : Wf p m) : m.ins p ∈ (p.getD m.top.f Fr.z).code := getD_mem' (h.live _ (top_mem h.some_)).2
theorem not_last (hp : RT al p) (h : Wf p m) (ht : termB (m.ins p).op = false) : m.top.pc + 1 < (p.getD m.top.f Fr.z).code.length := by
 have hl := h.live _ (top_mem h.some_)
 rcases Nat.lt_or_ge (m.top.pc + 1) (p.getD m.top.f Fr.z).code.length with h1 | h1
 · exact h1
 · exfalso
   have e : m.top.pc = (p.getD m.top.f Fr.z).code.length - 1 := by omega
   have := (hp.fr _ hl.1).last
   rw [← e] at this
   have h2 : termB (m.ins p).op = true := this
   rw [h2] at ht
   cases ht
theorem next_top (h : 1 ≤ m.acts.length) : m.next.top = { m.top with pc := m.top.pc + 1 } := by
 unfold Mx.next Mx.top Mx.setTop
 simp only [List.length_set]
 rw [List.getD_eq_getElem?_getD, List.getElem?_set_self (by omega)]
 rfl
theorem set_top_f {a : Ac} (ha : a.f = m.top.f) : ∀ i, ((m.setTop a).acts.getD i Ac.z).f = (m.acts.getD i Ac.z).f := fun i => by
 unfold Mx.setTop
 dsimp only
 by_cases hi : i = m.acts.length - 1
 · subst hi
   by_cases hz : m.acts.length - 1 < m.acts.length
   · rw [List.getD_eq_getElem?_getD, List.getElem?_set_self hz]
     exact ha
   · have : m.acts = [] := by rcases h0 : m.acts with _ | ⟨x, r⟩; rfl; rw [h0] at hz; simp at hz
     rw [this]; rfl
 · rw [List.getD_eq_getElem?_getD, List.getElem?_set_ne (fun e => hi e.symm), ← List.getD_eq_getElem?_getD]
theorem map_set_f (g : Nat → Nat) {a : Ac} (ha : a.f = m.top.f) : (m.setTop a).acts.map (fun a => g a.f) = m.acts.map (fun a => g a.f) := by
 have hl : (m.setTop a).acts.length = m.acts.length := by simp [Mx.setTop]
 apply List.ext_getElem (by simp [hl])
 intro i h1 h2
 have := set_top_f (m := m) ha i
 rw [List.getElem_map, List.getElem_map]
 rw [List.getD_eq_getElem?_getD, List.getD_eq_getElem?_getD, List.getElem?_eq_getElem (by simpa using h1), List.getElem?_eq_getElem (by simpa using h2)] at this
 exact congrArg g this
theorem GI.setTop (h : GI al p m) {a : Ac} (ha : a.f = m.top.f) (hl : a.pc < (p.getD a.f Fr.z).code.length) : GI al p (m.setTop a) := by
 have hlen : (m.setTop a).acts.length = m.acts.length := by simp [Mx.setTop]
 refine ⟨⟨h.wf.regs, fun x hx => ?_, by rw [hlen]; exact h.wf.some_⟩, h.rgs, h.inp, h.mem, h.len, h.tp, ?_, fun i hi => ?_, ?_, h.deep⟩
 · rcases List.mem_or_eq_of_mem_set (show x ∈ m.acts.set _ _ from hx) with h1 | h1
   · exact h.wf.live x h1
   · subst h1
     exact ⟨by rw [ha]; exact (h.wf.live _ (top_mem h.wf.some_)).1, hl⟩
 · rw [map_set_f (szF p) ha]; exact h.sum
 · rw [set_top_f ha, set_top_f ha]; rw [hlen] at hi; exact h.chain i hi
 · rw [set_top_f ha]; exact h.ent
theorem GI.step1 (h : GI al p m) (n : Nat) : GI al p { m with steps := n } := ⟨⟨h.wf.regs, h.wf.live, h.wf.some_⟩, h.rgs, h.inp, h.mem, h.len, h.tp, h.sum, h.chain, h.ent, h.deep⟩
theorem GI.next (h : GI al p m) (hl : m.top.pc + 1 < (p.getD m.top.f Fr.z).code.length) : GI al p m.next :=
 (h.setTop (a := { m.top with pc := m.top.pc + 1 }) rfl hl).step1 _
theorem GI.rset (h : GI al p m) (r : Nat) {v : Nat × Nat} (hv : W64x v) : GI al p { m with regs := m.regs.set r v } :=
 ⟨⟨by show (m.regs.set r v).length = 8; rw [List.length_set]; exact h.wf.regs, h.wf.live, h.wf.some_⟩, fun x hx => by
  rcases List.mem_or_eq_of_mem_set (show x ∈ m.regs.set r v from hx) with h1 | h1
  · exact h.rgs x h1
  · rw [h1]; exact hv, h.inp, h.mem, h.len, h.tp, h.sum, h.chain, h.ent, h.deep⟩
theorem GI.rg (h : GI al p m) (r : Nat) : W64x (rg m r) := by
 unfold pm.rg
 rw [List.getD_eq_getElem?_getD]
 rcases Nat.lt_or_ge r m.regs.length with h1 | h1
 · rw [List.getElem?_eq_getElem h1]; exact h.rgs _ (List.getElem_mem h1)
 · rw [List.getElem?_eq_none h1]; exact ⟨by decide, by decide⟩
theorem GI.wr (h : GI al p m) (o : Nat) {b : List Nat} (hb : ∀ v ∈ b, v < 256) (ho : m.sp + o + b.length ≤ m.mem.length) : GI al p (m.wr o b) :=
 ⟨⟨h.wf.regs, h.wf.live, h.wf.some_⟩, h.rgs, h.inp, splice_mem h.mem hb, by
  show (splice m.use _ _).length = (splice m.mem _ _).length
  rw [length_splice _ _ _ (by rw [List.length_replicate, h.len]; exact ho), length_splice _ _ _ ho]
  exact h.len, by show m.tp ≤ (splice m.mem _ _).length; rw [length_splice _ _ _ ho]; exact h.tp, h.sum, h.chain, h.ent, h.deep⟩
def GS (al : Int) (p : List Fr) (m : Mx) : Prop := m.ended = true ∨ GI al p m
theorem szF_def {f : Nat} (hp : RT al p) (hf : f < p.length) : ((szF p f : Nat) : Int) = (p.getD f Fr.z).size := by
 have := (hp.fr f hf).size.1
 unfold szF; omega
theorem prF_def {f : Nat} (hp : RT al p) (hf : f < p.length) : ((prF p f : Nat) : Int) = (p.getD f Fr.z).params := by
 have := (hp.fr f hf).prm.1
 unfold prF; omega
theorem GI.call (hp : RT al p) (h : GI al p m) {f : Nat} (hf : f < p.length) (hr : 16 * prF p f ≤ szF p m.top.f) : GS al p (m.call f (szF p f)) := by
 unfold Mx.call
 split
 · exact .inl rfl
 · rename_i hz
   have h1 := h.wf.some_
   have hsl := h.sum
   have htp := h.tp
   have hlen := h.len
   have hsp : m.sp - szF p f + szF p f = m.sp := by omega
   have hul : (splice m.use (m.sp - szF p f) (List.replicate (szF p f) false)).length = m.use.length := length_splice _ _ _ (by rw [List.length_replicate]; omega)
   refine .inr ⟨⟨h.wf.regs, fun a ha => ?_, by show 1 ≤ (m.acts ++ [_]).length; simp⟩, h.rgs, h.inp, h.mem, by show (splice m.use _ _).length = _; rw [hul]; exact h.len, h.tp, ?_, fun i hi => ?_, ?_, ?_⟩
   · rcases List.mem_append.1 (show a ∈ m.acts ++ [_] from ha) with h2 | h2
     · exact h.wf.live a h2
     · rw [List.mem_singleton.1 h2]
       exact ⟨hf, by have := (hp.fr f hf).nc; show 0 < (p.getD f Fr.z).code.length; omega⟩
   · show m.sp - szF p f + ((m.acts ++ [_]).map _).sum = m.tp
     rw [List.map_append, List.sum_append]
     show m.sp - szF p f + (_ + (szF p f + 0)) = m.tp
     omega
   · have hi' : i + 1 < m.acts.length + 1 := by
      have := hi
      simpa using this
     show 16 * prF p ((m.acts ++ [_]).getD (i + 1) Ac.z).f ≤ szF p ((m.acts ++ [_]).getD i Ac.z).f
     rw [getD_app_l _ _ _ (by omega : i < m.acts.length)]
     rcases Nat.lt_or_ge (i + 1) m.acts.length with h2 | h2
     · rw [getD_app_l _ _ _ h2]
       exact h.chain i h2
     · have e : i = m.acts.length - 1 := by omega
       rw [getD_app_r _ _ _ (by omega), e]
       exact hr
   · show prF p ((m.acts ++ [_]).getD 0 Ac.z).f = 0
     rw [getD_app_l _ _ _ (by omega)]
     exact h.ent
   · show (if m.deep < m.tp - (m.sp - szF p f) then m.tp - (m.sp - szF p f) else m.deep) ≤ m.tp
     have := h.deep
     split <;> omega
theorem sum_take (l : List Ac) (t : Nat) (g : Ac → Nat) (h : l.length = t + 1) : (l.map g).sum = ((l.take t).map g).sum + g (l.getD t Ac.z) := by
 have e : l = l.take t ++ [l.getD t Ac.z] := by
  apply List.ext_getElem?
  intro i
  rcases Nat.lt_or_ge i t with h1 | h1
  · rw [List.getElem?_append_left (by rw [List.length_take]; omega), List.getElem?_take, if_pos h1]
  · rw [List.getElem?_append_right (by rw [List.length_take]; omega), List.length_take, show i - min t l.length = i - t by omega]
    rcases Nat.lt_or_ge t i with h2 | h2
    · rw [List.getElem?_eq_none (by omega), List.getElem?_eq_none (by simp; omega)]
    · obtain rfl : i = t := by omega
      rw [List.getD_eq_getElem?_getD, List.getElem?_eq_getElem (by omega)]
      simp
 conv => lhs; rw [e]
 rw [List.map_append, List.sum_append]
 simp
theorem GI.leave (h : GI al p m) : GS al p (m.leave (szF p m.top.f)) := by
 unfold Mx.leave
 split
 · exact .inl rfl
 · rename_i hl
   have h1 := h.wf.some_
   have hs := h.sum
   rw [sum_take m.acts (m.acts.length - 1) _ (by omega)] at hs
   have hgt : ∀ i, i < m.acts.length - 1 → (m.acts.take (m.acts.length - 1)).getD i Ac.z = m.acts.getD i Ac.z := fun i hi => by
    rw [List.getD_eq_getElem?_getD, List.getElem?_take, if_pos hi, ← List.getD_eq_getElem?_getD]
   refine .inr ⟨⟨h.wf.regs, fun a ha => h.wf.live a (List.mem_of_mem_take ha), by show 1 ≤ (m.acts.take _).length; rw [List.length_take]; omega⟩, h.rgs, h.inp, h.mem, h.len, h.tp, ?_, fun i hi => ?_, ?_, h.deep⟩
   · show m.sp + szF p m.top.f + ((m.acts.take (m.acts.length - 1)).map _).sum = m.tp
     unfold Mx.top
     omega
   · have hi' : i + 1 < m.acts.length - 1 := by
      have hx : i + 1 < (m.acts.take (m.acts.length - 1)).length := hi
      rw [List.length_take] at hx; omega
     show 16 * prF p ((m.acts.take _).getD (i + 1) Ac.z).f ≤ szF p ((m.acts.take _).getD i Ac.z).f
     rw [hgt _ hi', hgt _ (by omega)]
     exact h.chain i (by omega)
   · show prF p ((m.acts.take _).getD 0 Ac.z).f = 0
     rw [hgt _ (by omega)]
     exact h.ent
theorem loV_w {l : List Nat} (h : ∀ v ∈ l, v < 256) : W64x (loV l, hiV l) := ⟨loV_lt l h, hiV_lt l h⟩
theorem GI.rdm (h : GI al p m) {o n : Nat} {l : List Nat} (hl : m.rd o n = some l) (hr : m.sp + o + n ≤ m.mem.length) : (∀ v ∈ l, v < 256) ∧ l.length = n := by
 unfold Mx.rd at hl
 split at hl
 · injection hl with hl
   subst hl
   exact ⟨fun v hv => h.mem v (List.mem_of_mem_drop (List.mem_of_mem_take hv)), by rw [List.length_take, List.length_drop]; omega⟩
 · cases hl
theorem GI.plain (h : GI al p m) (x : Ins) (hi : 0 ≤ x.imm ∧ x.imm < 18446744073709551616) : GS al p (m.plain x) := by
 unfold Mx.plain
 split
 · exact .inr (h.rset _ ⟨by show x.imm.toNat < _; omega, by show 0 < _; omega⟩)
 split
 · exact .inr (h.rset _ (h.rg _))
 split
 · exact .inr (h.rset _ ⟨(h.rg _).1, (h.rg _).1⟩)
 split
 · exact .inr (h.rset _ ⟨(h.rg _).2, by show 0 < _; omega⟩)
 split
 · have h1 := h.rset x.a.toNat (v := (m.inp.headD 0, 0)) ⟨by
    show m.inp.headD 0 < _
    rcases hx : m.inp with _ | ⟨v, r⟩
    · simp
    · exact h.inp v (by rw [hx]; simp), by show 0 < _; omega⟩
   exact .inr ⟨⟨h1.wf.regs, h1.wf.live, h1.wf.some_⟩, h1.rgs, fun v hv => h.inp v (List.mem_of_mem_tail hv), h1.mem, h1.len, h1.tp, h1.sum, h1.chain, h1.ent, h1.deep⟩
 split
 · exact .inr ⟨⟨h.wf.regs, h.wf.live, h.wf.some_⟩, h.rgs, h.inp, h.mem, h.len, h.tp, h.sum, h.chain, h.ent, h.deep⟩
 split
 · exact .inr (h.rset _ (apV_w _ _ _ _ _))
 · exact .inl rfl
theorem GI.doX (hp : RT al p) (h : GI al p m) : GS al p (stepX p m) := by
 have hl := h.wf.live _ (top_mem h.wf.some_)
 have hg := hp.fr _ hl.1
 have gx := inE_gx (hg.ins _ (ins_mem h.wf))
 have hroom := hp.room _ hl.1 _ (ins_mem h.wf)
 have him := hp.imm _ hl.1 _ (ins_mem h.wf)
 have hnl := not_last hp h.wf
 have hs := h.wf.some_
 have hrm := h.room
 have htp := h.tp
 have hsz := szF_def hp hl.1
 have hpr := prF_def hp hl.1
 have htop := next_top (m := m) hs
 unfold stepX
 generalize hx : m.ins p = x at *
 have hterm : x.op ≠ 20 → x.op ≠ 23 → x.op ≠ 24 → GI al p m.next := fun a b c => h.next (hnl (by
  unfold termB
  rw [show (x.op == 20) = false by rw [beq_eq_false_iff_ne]; exact a, show (x.op == 23) = false by rw [beq_eq_false_iff_ne]; exact b, show (x.op == 24) = false by rw [beq_eq_false_iff_ne]; exact c]
  rfl))
 have e1 : m.next.mem = m.mem := rfl
 have e2 : m.next.sp = m.sp := rfl
 unfold pm.doX
 split
 · rename_i ho
   have h1 := hterm (by omega) (by omega) (by omega)
   have := gx.rd (.inl ho)
   have := gx.sc (.inl ho)
   unfold Mx.load
   split
   · rename_i l hl'
     exact .inr (h1.rset _ (loV_w (h1.rdm hl' (by rw [e1, e2]; omega)).1))
   · exact .inl rfl
 split
 · rename_i ho
   have h1 := hterm (by omega) (by omega) (by omega)
   have := gx.wr (.inl ho)
   have := gx.sc (.inr (.inl ho))
   exact .inr (h1.wr _ (bytesV_lt _ _ _) (by rw [e1, e2, bytesV_len]; omega))
 split
 · rename_i ho
   have h1 := hterm (by omega) (by omega) (by omega)
   have := gx.rd (.inr ho)
   have := gx.wr (.inr ho)
   have := gx.sc (.inr (.inr ho))
   unfold Mx.moveIn
   split
   · rename_i l hl'
     have hr := h1.rdm hl' (by rw [e1, e2]; omega)
     exact .inr (h1.wr _ hr.1 (by rw [e1, e2, hr.2]; omega))
   · exact .inl rfl
 split
 · rename_i ho
   have hj := gx.ja ho
   rw [htop]
   refine .inr ?_
   have h2 := (h.setTop (a := { m.top with pc := x.a.toNat }) rfl (by show x.a.toNat < (p.getD m.top.f Fr.z).code.length; omega)).step1 (m.steps + 1)
   have e : m.next.setTop { f := m.top.f, pc := x.a.toNat } = { m.setTop { m.top with pc := x.a.toNat } with steps := m.steps + 1 } := by
    unfold Mx.next Mx.setTop
    simp [List.set_set]
   rw [e]
   exact h2
 split
 · rename_i ho
   have hj := gx.jb ho
   split
   · exact .inr (hterm (by omega) (by omega) (by omega))
   · rw [htop]
     refine .inr ?_
     have h2 := (h.setTop (a := { m.top with pc := x.b.toNat }) rfl (by show x.b.toNat < (p.getD m.top.f Fr.z).code.length; omega)).step1 (m.steps + 1)
     have e : m.next.setTop { f := m.top.f, pc := x.b.toNat } = { m.setTop { m.top with pc := x.b.toNat } with steps := m.steps + 1 } := by
      unfold Mx.next Mx.setTop
      simp [List.set_set]
     rw [e]
     exact h2
 split
 · rename_i ho
   have hj := gx.ca ho
   have h1 := hterm (by omega) (by omega) (by omega)
   refine h1.call hp (by omega) ?_
   rw [htop]
   show 16 * prF p x.a.toNat ≤ szF p m.top.f
   have hq := prF_def hp (f := x.a.toNat) (by omega)
   unfold roomB at hroom
   rw [ho, ← hq, ← hsz] at hroom
   generalize prF p x.a.toNat = q at *
   generalize szF p m.top.f = z at *
   simp at hroom
   omega
 split
 · rename_i ho
   have hk : ∀ (n : Mx), n.acts.length = m.acts.length → n.acts.take (m.acts.length - 1) = m.acts.take (m.acts.length - 1) → True := fun _ _ _ => trivial
   have hl2 : m.next.acts.length = m.acts.length := by simp [Mx.next, Mx.setTop]
   have ht2 : m.next.acts.take (m.acts.length - 1) = m.acts.take (m.acts.length - 1) := by
    show (m.acts.set (m.acts.length - 1) _).take _ = _
    rw [List.take_set_of_le nL]
   have e : m.next.leave (szF p m.next.top.f) = (({ m with steps := m.steps + 1 } : Mx)).leave (szF p m.top.f) := by
    rw [htop]
    unfold Mx.leave
    rw [hl2, ht2]
    rfl
   rw [e]
   exact (h.step1 (m.steps + 1)).leave
 split
 · exact .inl rfl
 · rename_i h15 h16 h17 h20 h21 h22 h23 h24
   exact (hterm h20 h23 h24).plain x him
end
def Mx.pl0 (m : Mx) (x : Ins) : Mx := m.plain x
theorem Mx.pl0_eq (m : Mx) (x : Ins) : m.pl0 x = m.plain x := rfl
end Go.Proofs.YtcnndoefgjbmiaaGreat.pm
