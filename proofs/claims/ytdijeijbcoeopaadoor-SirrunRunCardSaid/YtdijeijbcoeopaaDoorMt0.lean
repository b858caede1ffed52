/- One step of the machine. -/
import Derived.Test.YtdijeijbcoeopaaDoorGMs
import Derived.Test.YtdijeijbcoeopaaDoorGVa
set_option linter.unusedVariables false
set_option maxRecDepth 10000
set_option maxHeartbeats 8000000
namespace Go.Proofs.YtdijeijbcoeopaaDoor.pm
open Go.RowKit
def Mx.ins (p : List Fn) (m : Mx) : Ins := (p.getD m.top.f Fn.z).code.getD m.top.pc Ins.z
def Mx.next (m : Mx) : Mx := { m.setTop { m.top with pc := m.top.pc + 1 } with steps := m.steps + 1 }
def szOf8 (p : List Fn) (m : Mx) (x : Ins) : Int := ((p.getD m.top.f Fn.z).slots.getD x.a.toNat (0, 0)).1
def vcut (v : Nat × Nat) (z : Int) : Nat × Nat := ((truncS v.1 v.2 z).1, (truncS v.1 v.2 z).2)
def Mx.moveIn (m : Mx) (a : Int) (r : Option (Nat × Nat)) : Mx :=
 match r with
 | some v => m.defS a v
 | none => m.stop 3
def stepM (p : List Fn) (m : Mx) : Mx :=
 let x := m.ins p
 let k := m.next
 if x.op = 0 then { k with regs := k.regs.set x.a.toNat (x.imm.toNat, 0) }
 else if x.op = 22 then k.call x.a.toNat
 else if x.op = 23 then
  if m.acts.length = 1 then ({ k with acts := k.acts.take 0, res := rg k 0 } : Mx).stop 0 else { k with acts := k.acts.take (m.acts.length - 1) }
 else if x.op = 15 then k.take x.a.toNat (k.look m.top.ms x.b)
 else if x.op = 16 then k.defS x.a (vcut (rg k x.b.toNat) (szOf8 p m x))
 else if x.op = 18 then k.defA x.a (rg k x.b.toNat)
 else if x.op = 19 then k.take x.a.toNat (k.look (m.acts.getD (m.acts.length - 2) Ac.z).ma x.b)
 else if x.op = 21 then if (rg k x.a.toNat).1 = 0 then k else k.setTop { k.top with pc := x.b.toNat }
 else if x.op = 17 then k.moveIn x.a (k.look m.top.ms x.b)
 else if x.op = 20 then k.setTop { k.top with pc := x.a.toNat }
 else if x.op = 24 then ({ k with code := x.imm.toNat } : Mx).stop 1
 else k
def OpOk (p : List Fn) (m : Mx) (x : Ins) : Prop :=
 (x.op = 0 ∧ (0 ≤ x.a ∧ x.a < 8) ∧ 0 ≤ x.imm) ∨ (x.op = 22 ∧ 0 ≤ x.a ∧ x.a < p.length) ∨ x.op = 23 ∨
 (x.op = 15 ∧ (0 ≤ x.a ∧ x.a < 8) ∧ 0 ≤ x.b ∧ x.b ≤ 1000000) ∨ (x.op = 16 ∧ (0 ≤ x.a ∧ x.a < (p.getD m.top.f Fn.z).slots.length ∧ x.a ≤ 1000000) ∧ (0 ≤ x.b ∧ x.b < 8) ∧ ((rg m x.b.toNat).1 < 18446744073709551616 ∧ (rg m x.b.toNat).2 < 18446744073709551616) ∧ -9223372036854775808 ≤ szOf8 p m x ∧ szOf8 p m x ≤ 9223372036854775807) ∨
 (x.op = 18 ∧ (0 ≤ x.a ∧ x.a ≤ 1000000) ∧ 0 ≤ x.b ∧ x.b < 8) ∨ (x.op = 19 ∧ (0 ≤ x.a ∧ x.a < 8) ∧ (0 ≤ x.b ∧ x.b ≤ 1000000) ∧ 2 ≤ m.acts.length) ∨ (x.op = 21 ∧ (0 ≤ x.a ∧ x.a < 8) ∧ 0 ≤ x.b) ∨
 (x.op = 17 ∧ (0 ≤ x.a ∧ x.a ≤ 1000000) ∧ 0 ≤ x.b ∧ x.b ≤ 1000000) ∨ (x.op = 20 ∧ 0 ≤ x.a) ∨ (x.op = 24 ∧ 0 ≤ x.imm)
section
variable {B n mb cs ct np cp : Nat} {ad : Addr} {iv : Value} {As At : Option Addr} {bl : List Nat} {m : Mx} {p : List Fn}
structure Pre (w : World) (B n mb : Nat) (ad : Addr) (p : List Fn) (cp : Nat) (iv : Value) (As : Option Addr) (cs : Nat) (At : Option Addr) (ct : Nat) (bl : List Nat) (m : Mx) : Prop where
 at_ : MAt w B n mb ad (.slice (some ad) p.length cp) iv As cs At ct bl m
 wf : Wf p m
 fx : Fx w 0 B (some ad) p
 hB : B ≤ w.heap.size
 hp : p.length ≤ maxLen
 big : m.acts.length ≤ 1000000
 st : m.steps ≤ 1000000
 pc : ∀ a ∈ m.acts, a.pc ≤ 1000000
 nb : n ≤ 1000000
theorem Pre.top_cells {w : World} (h : Pre w B n mb ad p cp iv As cs At ct bl m) : ∃ g t, As = some ⟨g, 0, none⟩ ∧ m.acts.length = t + 1 ∧ B ≤ g ∧ m.top ∈ m.acts ∧
 w.cell? ⟨g, t * 4, none⟩ = some (.pointer (some (ad.add (m.top.f * 3)))) ∧ w.cell? ⟨g, t * 4 + 1, none⟩ = some (.int .i64 m.top.pc) ∧
 w.cell? ⟨g, t * 4 + 2, none⟩ = some (.map (m.top.ms.map fun i => bl.getD i 0)) ∧ w.cell? ⟨g, t * 4 + 3, none⟩ = some (.map (m.top.ma.map fun i => bl.getD i 0)) ∧ (∀ j, w.frozen? ⟨g, j, none⟩ = false) := by
 have h1 := h.wf.some_
 obtain ⟨g, c, hf, hg1, hg2⟩ := h.at_.own.form (by omega)
 obtain ⟨rfl, rfl⟩ : As = some ⟨g, 0, none⟩ ∧ cs = c := by injection hf; exact ⟨by assumption, by assumption⟩
 obtain ⟨t, ht⟩ : ∃ t, m.acts.length = t + 1 := ⟨m.acts.length - 1, by omega⟩
 have et : m.top = m.acts.getD t Ac.z := by unfold Mx.top; rw [show m.acts.length - 1 = t by omega]
 have g0 : ∀ j, j < 4 → w.cell? ⟨g, t * 4 + j, none⟩ = (acV ad bl m.top)[j]? := fun j hj => by
  rw [et]
  exact (h.at_.own.cellAt (t * 4 + j) (by omega)).trans (flat_get (acV_len ad bl) Ac.z m.acts t j (by omega) hj)
 refine ⟨g, t, rfl, ht, hg1, ?_, ?_, ?_, ?_, ?_, fun j => h.at_.own.frozenAt j⟩
 · rw [et]; exact getD_mem' (by omega)
 · simpa [acV] using g0 0 (by omega)
 · simpa [acV] using g0 1 (by omega)
 · simpa [acV] using g0 2 (by omega)
 · simpa [acV] using g0 3 (by omega)
theorem Pre.after {w w' : World} (h : Pre w B n mb ad p cp iv As cs At ct bl m) (hb : Below w.heap.size w w') : Pre w' B n mb ad p cp iv As cs At ct bl m :=
 ⟨h.at_.after hb, h.wf, h.fx.keep (Kp.of_below hb h.hB), Nat.le_trans h.hB hb.size, h.hp, h.big, h.st, h.pc, h.nb⟩
theorem next_top (h : 1 ≤ m.acts.length) : m.next.top = { m.top with pc := m.top.pc + 1 } := by
 unfold Mx.next Mx.top Mx.setTop
 simp only [List.length_set]
 rw [List.getD_eq_getElem?_getD, List.getElem?_set_self (by omega)]
 rfl
theorem next_live (h : Wf p m) : ∀ a ∈ m.next.acts, (∀ i, a.ms = some i → i < m.next.hp.length) ∧ (∀ i, a.ma = some i → i < m.next.hp.length) := fun a ha => by
 have ht : m.top ∈ m.acts := by
  unfold Mx.top
  exact getD_mem' (by have := h.some_; omega)
 have ha' : a ∈ m.acts.set (m.acts.length - 1) { m.top with pc := m.top.pc + 1 } := ha
 rcases List.mem_or_eq_of_mem_set ha' with h1 | h1
 · exact ⟨(h.live a h1).2.2.1, (h.live a h1).2.2.2⟩
 · subst h1
   exact ⟨(h.live _ ht).2.2.1, (h.live _ ht).2.2.2⟩
theorem opt_if (r : Option (Nat × Nat)) : (if r.isSome = true then some (r.getD (0, 0)) else none) = r := by cases r <;> rfl
theorem look_at {w : World} {pv : Value} (h : MAt w B n mb ad pv iv As cs At ct bl m) (o : Option Nat) (ho : ∀ i, o = some i → i < m.hp.length) (k : Int) (hk : (Lit.int .i64 k).wf = true) :
 (Instr.lookup 88 (.map (o.map fun i => bl.getD i 0)) (.int .i64 k) true).run Tryd.prog w = .ok (.tuple #[.agg #[.int .u64 ((m.look o k).getD (0, 0)).1, .int .u64 ((m.look o k).getD (0, 0)).2], .bool (m.look o k).isSome]) w := by
 cases o with
 | none => exact MpO.look (o := none) (L := []) (n := 0) rfl hk
 | some i => exact Mp.look (h.maps i (by rw [h.bll]; exact ho i rfl)).2 hk
theorem const_any (w : World) (a : Nat) (b c : Int) (imm : Nat) (ha : a < 8) (hr8 : m.regs.length = 8) (h : MAt w B n mb ad (.slice (some ad) np cp) iv As cs At ct bl m) (hB : B ≤ w.heap.size) :
 Calls Tryd.prog 44 #[.pointer (some ⟨mb, 0, none⟩), .agg #[.int .i64 0, .int .i64 a, .int .i64 b, .int .i64 c, .int .u64 imm]] w (StepD w B n mb ad (.slice (some ad) np cp) iv { m with regs := m.regs.set a (imm, 0) }) := by
 obtain ⟨W1, hW1⟩ : ∃ W1, W1 = w.alloc (.cells #[.int .i64 0, .int .i64 a, .int .i64 b, .int .i64 c, .int .u64 imm] 50) := ⟨_, rfl⟩
 have hB1 : Below w.heap.size w W1 := by rw [hW1]; exact bR.alloc nL _
 have HK : Hid (Blk W1 w.heap.size 50 #[.int .i64 0, .int .i64 a, .int .i64 b, .int .i64 c, .int .u64 imm]) := hQ (by rw [hW1]; exact Blk.new _ _ _)
 have HM := hQ (h.after hB1)
 have hmb := h.hmb
 have HB1 : Hid (Below B w W1) := hQ (hB1.mono hB)
 have HW1 := hQ hW1
 have hai : (a : Int) < 8 := by omega
 have ha0 : (0 : Int) ≤ (a : Int) := by omega
 clear h hW1 hB1
 obtain ⟨x0, x1, -, -, x4, -⟩ := HK.out.c5
 obtain ⟨c0, c1⟩ := reg_cell HM.out.blk ha
 have f0 := HM.out.blk.frozen (2 + a * 2)
 have f1 := HM.out.blk.frozen (2 + a * 2 + 1)
 have hlt := HM.out.blk.lt
 go_enter Tryd.func44, Tryd.ntmps44
 go_upto_region 1 with (fail)
 rw [← HW1.out]
 go_upto_region 8 with (fail)
 go_region_with (fail)
 all_goals go_wp2
 all_goals go_end0
 all_goals have hm := (HM.out.rset hr8 ha (imm, 0)).after (bR.drew)
 all_goals exact ⟨rfl, HB1.out.trans (((below_set (p := ⟨mb, 2 + a * 2, none⟩) hmb _).trans (below_set (p := ⟨mb, 2 + a * 2 + 1, none⟩) hmb _)).drew), _, _, _, _, _, hm.mono (Nat.le_succ _)⟩
end
end Go.Proofs.YtdijeijbcoeopaaDoor.pm
