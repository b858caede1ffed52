/- What is read ahead of each instruction of a target. -/
import Derived.Test.YtcnndoefgjbmiaaGreatGJp
set_option linter.unusedVariables false
set_option maxRecDepth 10000
namespace Go.Proofs.YtcnndoefgjbmiaaGreat.pm
open Go.RowKit
structure OkX (p : List Fr) (m : Mx) (x : Ins) : Prop where
 gx : ∃ prm sz, GX p.length prm sz (p.getD m.top.f Fr.z).code.length x
 rd : (x.op = 15 ∨ x.op = 17) → m.sp + x.b.toNat + x.c.toNat ≤ m.mem.length
 wr : (x.op = 16 ∨ x.op = 17) → m.sp + x.a.toNat + x.c.toNat ≤ m.mem.length
 im : 0 ≤ x.imm ∧ x.imm < 18446744073709551616
 sz : x.op = 22 → ((szF p x.a.toNat : Nat) : Int) = (p.getD x.a.toNat Fr.z).size ∧ szF p x.a.toNat < 2147483520
 sz0 : ((szF p m.top.f : Nat) : Int) = (p.getD m.top.f Fr.z).size ∧ szF p m.top.f < 2147483520
section
variable {B mb cs ct cp : Nat} {L : Pl} {ad : Addr} {iv : Value} {As At : Option Addr} {m : Mx} {p : List Fr}
structure Pre (w : World) (B mb : Nat) (L : Pl) (ad : Addr) (p : List Fr) (cp : Nat) (iv : Value) (As : Option Addr) (cs : Nat) (At : Option Addr) (ct : Nat) (m : Mx) : Prop where
 at_ : MAt w B mb L ad (.slice (some ad) p.length cp) iv As cs At ct m
 wf : Wf p m
 gx : Gx w 0 B (some ad) p
 hB : B ≤ w.heap.size
 hp : p.length ≤ maxLen
 big : m.acts.length ≤ 1000000
 st : m.steps ≤ 1000000
 pc : ∀ a ∈ m.acts, a.pc ≤ 1000000
 len : m.use.length = m.mem.length
 mem : m.mem.length ≤ 1048576
 m256 : ∀ v ∈ m.mem, v < 256
 rgw : ∀ r, W64x (rg m r)
 tr : m.trace.length ≤ 1000000
 sp : m.sp ≤ m.tp
 tp : m.tp ≤ m.mem.length
 dp : m.deep ≤ 1048576
 inx : InX w B iv m.inp
 en : m.ended = false
theorem Pre.after {w w' : World} (h : Pre w B mb L ad p cp iv As cs At ct m) (hb : Below w.heap.size w w') : Pre w' B mb L ad p cp iv As cs At ct m :=
 ⟨h.at_.after hb, h.wf, h.gx.keep (Kp.of_below hb h.hB), Nat.le_trans h.hB hb.size, h.hp, h.big, h.st, h.pc, h.len, h.mem, h.m256, h.rgw, h.tr, h.sp, h.tp, h.dp, h.inx.after (hb.mono h.hB), h.en⟩
theorem MAt.top_cells {w : World} {pv : Value} (h : MAt w B mb L ad pv iv As cs At ct m) (h1 : 1 ≤ m.acts.length) : ∃ g t, As = some ⟨g, 0, none⟩ ∧ m.acts.length = t + 1 ∧ B ≤ g ∧ m.top ∈ m.acts ∧ t + 1 ≤ cs ∧
 w.cell? ⟨g, t * 2, none⟩ = some (.pointer (some (ad.add (m.top.f * 3)))) ∧ w.cell? ⟨g, t * 2 + 1, none⟩ = some (.int .i64 m.top.pc) ∧ (∀ j, w.frozen? ⟨g, j, none⟩ = false) := by
 obtain ⟨g, c, hf, hg1, hg2⟩ := h.own.form (by omega)
 obtain ⟨rfl, rfl⟩ : As = some ⟨g, 0, none⟩ ∧ cs = c := by injection hf; exact ⟨by assumption, by assumption⟩
 obtain ⟨t, ht⟩ : ∃ t, m.acts.length = t + 1 := ⟨m.acts.length - 1, by omega⟩
 have et : m.top = m.acts.getD t Ac.z := by unfold Mx.top; rw [show m.acts.length - 1 = t by omega]
 have g0 : ∀ j, j < 2 → w.cell? ⟨g, t * 2 + j, none⟩ = (acV ad m.top)[j]? := fun j hj => by
  rw [et]
  exact (h.own.cellAt (t * 2 + j) (by omega)).trans (flat_get (acV_len ad) Ac.z m.acts t j (by omega) hj)
 refine ⟨g, t, rfl, ht, hg1, ?_, by have := cap8 h.own; omega, ?_, ?_, fun j => h.own.frozenAt j⟩
 · rw [et]; exact getD_mem' (by omega)
 · simpa [acV] using g0 0 (by omega)
 · simpa [acV] using g0 1 (by omega)
theorem next_top' (h : 1 ≤ m.acts.length) : m.next.top = { m.top with pc := m.top.pc + 1 } := by
 unfold Mx.next Mx.top Mx.setTop
 simp only [List.length_set]
 rw [List.getD_eq_getElem?_getD, List.getElem?_set_self (by omega)]
 rfl
end
section
variable {m : Mx} {p : List Fr} {al : Int}
theorem mem_len (hp : RT al p) (h : GI al p m) : (stepX p m).mem.length = m.mem.length := by
 have hl := h.wf.live _ (top_mem h.wf.some_)
 have hg := hp.fr _ hl.1
 have gx := inE_gx (hg.ins _ (ins_mem h.wf))
 have hrm := h.room
 have htp := h.tp
 have hsz := szF_def hp hl.1
 have hpr := prF_def hp hl.1
 have e1 : m.next.mem = m.mem := rfl
 have e2 : m.next.sp = m.sp := rfl
 have hw : ∀ (o : Nat) (b : List Nat), m.sp + o + b.length ≤ m.mem.length → (m.next.wr o b).mem.length = m.mem.length := fun o b hb => length_splice _ _ _ (by rw [e1, e2]; exact hb)
 unfold stepX
 generalize m.ins p = x at *
 unfold doX
 split
 · unfold Mx.load; split <;> rfl
 split
 · rename_i ho
   have := gx.wr (.inl ho)
   have := gx.sc (.inr (.inl ho))
   exact hw _ _ (by rw [bytesV_len]; omega)
 split
 · rename_i ho
   have := gx.rd (.inr ho)
   have := gx.wr (.inr ho)
   have := gx.sc (.inr (.inr ho))
   unfold Mx.moveIn
   split
   · rename_i l hl'
     have hlen : l.length ≤ x.c.toNat := by
      unfold Mx.rd at hl'
      split at hl'
      · injection hl' with hl'
        rw [← hl', List.length_take]; omega
      · cases hl'
     exact hw _ _ (by omega)
   · rfl
 split
 · rfl
 split
 · split <;> rfl
 split
 · unfold Mx.call; split <;> rfl
 split
 · unfold Mx.leave; split <;> rfl
 split
 · rfl
 · unfold Mx.plain
   repeat' split
   all_goals rfl
theorem acts_stepX (p : List Fr) (m : Mx) : (stepX p m).acts.length ≤ m.acts.length + 1 := by
 have hn : m.next.acts.length = m.acts.length := by simp [Mx.next, Mx.setTop]
 have hpl : ∀ x, (m.next.plain x).acts = m.next.acts := fun x => by
  unfold Mx.plain
  repeat' split
  all_goals rfl
 have hst : ∀ a, (m.next.setTop a).acts.length = m.acts.length := fun a => by simp [Mx.setTop, hn]
 unfold stepX doX
 split
 · unfold Mx.load; split <;> (show m.next.acts.length ≤ _; omega)
 split
 · show m.next.acts.length ≤ _; omega
 split
 · unfold Mx.moveIn; split <;> (show m.next.acts.length ≤ _; omega)
 split
 · rw [hst]; omega
 split
 · split
   · omega
   · rw [hst]; omega
 split
 · unfold Mx.call
   split
   · show m.next.acts.length ≤ _; omega
   · show (m.next.acts ++ [_]).length ≤ _; rw [List.length_append]; simp; omega
 split
 · unfold Mx.leave
   split
   · show (m.next.acts.take 0).length ≤ _; simp
   · show (m.next.acts.take _).length ≤ _; rw [List.length_take]; omega
 split
 · show m.next.acts.length ≤ _; omega
 · rw [hpl]; omega
structure FitX (p : List Fr) (m : Mx) : Prop where
 wf : Wf p m
 ok : OkX p m (m.ins p)
 big : m.acts.length ≤ 1000000
 pc : ∀ a ∈ m.acts, a.pc ≤ 1000000
 len : m.use.length = m.mem.length
 mem : m.mem.length ≤ 1048576
 m256 : ∀ v ∈ m.mem, v < 256
 rgw : ∀ r, W64x (rg m r)
 tr : m.trace.length ≤ 1000000
 sp : m.sp ≤ m.tp
 tp : m.tp ≤ m.mem.length
 dp : m.deep ≤ 1048576
def Good (al : Int) (p : List Fr) (N : Nat) (m : Mx) : Prop := (m.ended = true ∨ (GI al p m ∧ m.mem.length = N)) ∧ m.acts.length ≤ m.steps + 1 ∧ m.trace.length ≤ m.steps
theorem good_step (hp : RT al p) {N : Nat} (hN : N ≤ 1048576) (h : Good al p N m) (he : m.ended = false) (hs : m.steps ≤ 100000) : FitX p m ∧ Good al p N (stepX p m) := by
 obtain ⟨h1, h2, h3⟩ := h
 rcases h1 with h1 | ⟨h1, h4⟩
 · rw [h1] at he; cases he
 · obtain ⟨t, ht, htl⟩ := trace_stepX p m
   have ha := acts_stepX p m
   have hl := h1.wf.live _ (top_mem h1.wf.some_)
   have hg := hp.fr _ hl.1
   have gx := inE_gx (hg.ins _ (ins_mem h1.wf))
   have hrm := h1.room
   have htp := h1.tp
   have hsz := szF_def hp hl.1
   have hpr := prF_def hp hl.1
   have hml := mem_len hp h1
   refine ⟨⟨h1.wf, ⟨⟨_, _, gx⟩, fun ho => ?_, fun ho => ?_, hp.imm _ hl.1 _ (ins_mem h1.wf), fun ho => ?_, ⟨hsz, ?_⟩⟩, by omega, fun a ha => ?_, h1.len, by omega, h1.mem, fun r => h1.rg r, by omega, by omega, htp, by have := h1.deep; omega⟩, ?_, ?_, ?_⟩
   · have := gx.rd ho
     have := gx.sc (by omega)
     omega
   · have := gx.wr ho
     have := gx.sc (by omega)
     omega
   · have hc := gx.ca ho
     have hq := szF_def hp (f := (m.ins p).a.toNat) (by omega)
     have hr := (hp.fr (m.ins p).a.toNat (by omega)).size.2
     exact ⟨hq, by omega⟩
   · have := hg.size.2; omega
   · have := h1.wf.live a ha
     have := (hp.fr _ this.1).nc.2
     omega
   · rcases h1.doX hp with h5 | h5
     · exact .inl h5
     · exact .inr ⟨h5, hml.trans h4⟩
   · rw [steps_stepX]; omega
   · rw [steps_stepX, ht, List.length_append]; omega
def startX (p : List Fr) (inp : List Nat) (size tp F : Nat) : Mx := if 0 < F then (Mx.start inp size tp).call 0 (szF p 0) else Mx.start inp size tp
theorem good_start (hp : RT al p) {inp : List Nat} (hi : ∀ v ∈ inp, v < 18446744073709551616) {size tp : Nat} (ht : tp ≤ size) : Good al p size ((Mx.start inp size tp).call 0 (szF p 0)) := by
 have h0 : 0 < p.length := hp.len.1
 unfold Mx.call
 split
 · exact ⟨.inl rfl, by simp [Mx.start, Mx.stop], by simp [Mx.start, Mx.stop]⟩
 · rename_i hz
   have hz' : ¬ tp < szF p 0 := hz
   have hul : (splice (List.replicate size false) (tp - szF p 0) (List.replicate (szF p 0) false)).length = size := by
    rw [length_splice _ _ _ (by rw [List.length_replicate, List.length_replicate]; omega), List.length_replicate]
   refine ⟨.inr ⟨⟨⟨rfl, fun a ha => ?_, by simp [Mx.start]⟩, fun v hv => ?_, hi, fun v hv => ?_, ?_, ?_, ?_, fun i hi => ?_, ?_, ?_⟩, ?_⟩, by simp [Mx.start], by simp [Mx.start]⟩
   · have ha' : a = ⟨0, 0⟩ := by simpa [Mx.start] using ha
     rw [ha']
     exact ⟨h0, by have := (hp.fr 0 h0).nc; show 0 < (p.getD 0 Fr.z).code.length; omega⟩
   · have hv' : v ∈ List.replicate 8 ((0 : Nat), (0 : Nat)) := hv
     rw [(List.mem_replicate.1 hv').2]
     exact ⟨by show 0 < _; omega, by show 0 < _; omega⟩
   · have hv' : v ∈ List.replicate size 0 := hv
     rw [(List.mem_replicate.1 hv').2]; omega
   · show (splice (List.replicate size false) (tp - szF p 0) _).length = (List.replicate size 0).length
     rw [hul, List.length_replicate]
   · show tp ≤ (List.replicate size 0).length
     rw [List.length_replicate]; exact ht
   · show tp - szF p 0 + (szF p 0 + 0) = tp
     omega
   · have hi' : i + 1 < 1 := hi
     omega
   · show (p.getD 0 Fr.z).params.toNat = 0
     rw [hp.ent]; rfl
   · show (if 0 < tp - (tp - szF p 0) then tp - (tp - szF p 0) else 0) ≤ tp
     split <;> omega
   · show (List.replicate size 0).length = size
     rw [List.length_replicate]
def tpOf (al : Int) (size : Nat) : Nat := ((size : Int) - (size : Int) % al).toNat
theorem tpOf_le (al : Int) (h : 1 ≤ al) (size : Nat) : tpOf al size ≤ size := by
 unfold tpOf
 have := Int.emod_nonneg (size : Int) (show al ≠ 0 by omega)
 omega
theorem tpOf_int (al : Int) (h : 1 ≤ al) (size : Nat) : ((tpOf al size : Nat) : Int) = (size : Int) - (size : Int) % al := by
 unfold tpOf
 have h1 := Int.emod_nonneg (size : Int) (show al ≠ 0 by omega)
 have h2 : (size : Int) % al ≤ size := by
  have h4 : al = ((al.toNat : Nat) : Int) := by omega
  have h5 : size % al.toNat ≤ size := Nat.mod_le _ _
  rw [h4]; omega
 omega
end
end Go.Proofs.YtcnndoefgjbmiaaGreat.pm
