/- One step of the machine: const, call, ret. -/
import Derived.Test.YtdijeijbcoeopaaDoorMt0
set_option linter.unusedVariables false
set_option maxRecDepth 10000
set_option maxHeartbeats 8000000
namespace Go.Proofs.YtdijeijbcoeopaaDoor.pm
open Go.RowKit
section
variable {B n mb cs ct np cp : Nat} {ad : Addr} {iv : Value} {As At : Option Addr} {bl : List Nat} {m : Mx} {p : List Fn}
theorem step_a (w : World) (h : Pre w B n mb ad p cp iv As cs At ct bl m) (hop : OpOk p m (m.ins p)) (hsub : (m.ins p).op = 0 ∨ (m.ins p).op = 22 ∨ (m.ins p).op = 23) :
 Calls Tryd.prog 32 #[.pointer (some ⟨mb, 0, none⟩)] w (StepD w B n mb ad (.slice (some ad) p.length cp) iv (stepM p m)) := by
 obtain ⟨g, t, rfl, ht, hgB, htop, -⟩ := h.top_cells
 obtain ⟨-, -, c18, -, -, -, -, hlt⟩ := h.at_.cells
 have hbig := h.big
 rw [ht] at c18
 have hti : (t : Int) < (t : Int) + 1 := by omega
 have ht0 : (0 : Int) ≤ (t : Int) := by omega
 have htb : (t : Int) ≤ 1000000 := by omega
 have H0 := hQ h
 have HT := hQ ht
 have hmb := h.at_.hmb
 clear h ht
 go_enter Tryd.func32, Tryd.ntmps32
 go_upto_region 0 with (fail)
 go_quiet (fail)
 go_upto_region 1 with (fail)
 have HB1 : Hid (Below w.heap.size w (w.drewN nq)) := hQ (below_drewN bR _)
 obtain ⟨W1, hW1⟩ : ∃ W1, W1 = w.drewN nq := ⟨_, rfl⟩
 rw [← hW1] at HB1 ⊢
 clear hW1 c18 hlt
 have H := hQ (H0.out.after HB1.out)
 have h := H.out
 obtain ⟨g', t', e1, e2, -, -, a0, a1, a2, a3, hfz⟩ := h.top_cells
 obtain rfl : g = g' := by injection e1 with e1; injection e1
 obtain rfl : t = t' := by have := HT.out; omega
 obtain ⟨lf, lc, -, -⟩ := h.wf.live _ htop
 obtain ⟨ad', As', cs', Ai, ci, hadd, hbl, -, -, y2, -, -, -, nx, -, m1, m2⟩ := h.fx.whole lf
 obtain rfl : ad = ad' := by injection hadd
 obtain ⟨ai, rfl, hbi, x0, x1, x2, x3, x4⟩ := nx.whole lc
 obtain ⟨-, -, c18, -, -, c25, -, hlt⟩ := h.at_.cells
 have f25 := h.at_.blk.frozen 25
 have hpc := h.pc _ htop
 have hst := h.st
 have hB := h.hB
 have hp := h.hp
 have f1 := hfz (t * 4 + 1)
 rw [e2] at c18
 obtain ⟨fc, hfc⟩ : ∃ fc, fc = (p.getD m.top.f Fn.z).code := ⟨_, rfl⟩
 obtain ⟨x, hx⟩ : ∃ x, x = fc.getD m.top.pc Ins.z := ⟨_, rfl⟩
 rw [← hfc] at y2 lc x0 x1 x2 x3 x4 m1 m2
 rw [← hx] at x0 x1 x2 x3 x4
 have hxe : m.ins p = x := by rw [hx, hfc]; rfl
 have hop' : OpOk p m x := by rw [← hxe]; exact hop
 have HXE := hQ hxe
 have HSUB := hQ (hxe ▸ hsub)
 obtain ⟨pc, hpce⟩ : ∃ pc, pc = m.top.pc := ⟨_, rfl⟩
 obtain ⟨tf, htf⟩ : ∃ tf, tf = m.top.f := ⟨_, rfl⟩
 rw [← hpce] at a1 lc x0 x1 x2 x3 x4 hpc
 rw [← htf] at a0 lf y2
 have hpi : (pc : Int) < (fc.length : Int) := by omega
 have hp0 : (0 : Int) ≤ (pc : Int) := by omega
 have hpc' : (pc : Int) ≤ 1000000 := by omega
 have hst' : (m.steps : Int) ≤ 1000000 := by omega
 have HX := hQ hx
 have HFC := hQ hfc
 have HPC := hQ hpce
 have HTF := hQ htf
 clear h hx hfc hpce htf hfz hadd nx hop e1 e2 hxe hsub
 go_cut [3] (fun s3 wx => s3 = .pointer (some ⟨W1.heap.size, 0, none⟩) ∧ Hid (Blk wx W1.heap.size 50 #[.int .i64 x.op, .int .i64 x.a, .int .i64 x.b, .int .i64 x.c, .int .u64 x.imm]) ∧ Hid (Below W1.heap.size W1 wx))
 case first =>
  go_region_held3 (fun W => (W.cell? ⟨g, t * 4, none⟩ = some (.pointer (some (ad.add (tf * 3)))) ∧ W.cell? ⟨g, t * 4 + 1, none⟩ = some (.int .i64 pc)) ∧ W.cell? ⟨(ad.add (tf * 3)).block, (ad.add (tf * 3)).off + 2, none⟩ = some (.slice (some ai) fc.length ci) ∧ (W.cell? (ai.add (pc * 5)) = some (.int .i64 x.op) ∧ W.cell? ⟨(ai.add (pc * 5)).block, (ai.add (pc * 5)).off + 1, none⟩ = some (.int .i64 x.a) ∧ W.cell? ⟨(ai.add (pc * 5)).block, (ai.add (pc * 5)).off + 2, none⟩ = some (.int .i64 x.b) ∧ W.cell? ⟨(ai.add (pc * 5)).block, (ai.add (pc * 5)).off + 3, none⟩ = some (.int .i64 x.c) ∧ W.cell? ⟨(ai.add (pc * 5)).block, (ai.add (pc * 5)).off + 4, none⟩ = some (.int .u64 x.imm))) (first | exact ⟨⟨a0, a1⟩, y2, x0, x1, x2, x3, x4⟩ | go_keep) (fail)
  all_goals go_wp2_with fail
  all_goals go_meet
  all_goals exact ⟨rfl, hQ ((Blk.new _ _ _).drew), hQ ((bR.alloc nL _).drew)⟩
 case rest =>
  obtain ⟨rfl, HK3, HB3⟩ := hcut
  obtain ⟨W2, hW2⟩ : ∃ W2, W2 = wc := ⟨_, rfl⟩
  subst hW2
  have HM2 := hQ (H.out.at_.after HB3.out)
  have HB2 : Hid (Below B w W2) := hQ ((HB1.out.mono (by have := H0.out.hB; omega)).trans (HB3.out.mono hB))
  clear a0 a1 a2 a3 y2 x0 x1 x2 x3 x4 c18 c25 f25 f1 hlt
  obtain ⟨g3, hg3⟩ : ∃ g3, g3 = W1.heap.size := ⟨_, rfl⟩
  rw [← hg3] at HK3 ⊢
  have hg3B : B ≤ g3 := by omega
  clear hg3
  have z1 : W2.cell? ⟨g, t * 4 + 1, none⟩ = some (.int .i64 pc) := by
   have h := H.out.after HB3.out
   obtain ⟨g', t', e1, e2, -, -, -, a1, -⟩ := h.top_cells
   obtain rfl : g = g' := by injection e1 with e1; injection e1
   obtain rfl : t = t' := by have := HT.out; omega
   rw [HPC.out]; exact a1
  have zf : W2.frozen? ⟨g, t * 4 + 1, none⟩ = false := HM2.out.own.frozenAt _
  go_upto_region 3 with (fail)
  obtain ⟨W3, hW3⟩ : ∃ W3, W3 = W2.setCell ⟨g, t * 4 + 1, none⟩ (.int .i64 ((pc : Int) + 1)) := ⟨_, rfl⟩
  rw [← hW3]
  have HM3 : Hid (MAt W3 B n mb ad (.slice (some ad) p.length cp) iv (some ⟨g, 0, none⟩) cs At ct bl (m.setTop { m.top with pc := m.top.pc + 1 })) := hQ (by
   rw [hW3, HPC.out]
   exact HM2.out.aset HT.out (by omega) _ _ (by simp [acV]))
  have HB23 : Hid (Below B W2 W3) := hQ (by rw [hW3]; exact below_set (p := ⟨g, t * 4 + 1, none⟩) hgB _)
  have HK33 : Hid (Blk W3 g3 50 #[.int .i64 x.op, .int .i64 x.a, .int .i64 x.b, .int .i64 x.c, .int .u64 x.imm]) := hQ (by rw [hW3]; exact HK3.out.far (p := ⟨g, t * 4 + 1, none⟩) (fun e => blk_own_ne (gb := 0) HK3.out HM2.out.own (by decide) (by rw [e]; rfl)) _)
  clear hW3 z1 zf
  obtain ⟨-, -, -, -, -, c25, -, hlt⟩ := HM3.out.cells
  have c25' : W3.cell? ⟨mb, 25, none⟩ = some (.int .i64 m.steps) := c25
  have f25 := HM3.out.blk.frozen 25
  clear c25
  go_upto_region 4 with (fail)
  obtain ⟨W4, hW4⟩ : ∃ W4, W4 = W3.setCell ⟨mb, 25, none⟩ (.int .i64 ((m.steps : Int) + 1)) := ⟨_, rfl⟩
  rw [← hW4]
  have HM4 : Hid (MAt W4 B n mb ad (.slice (some ad) p.length cp) iv (some ⟨g, 0, none⟩) cs At ct bl m.next) := hQ (by
   rw [hW4]
   exact HM3.out.mset 25 _ m.next rfl rfl rfl rfl)
  have HB4 : Hid (Below B w W4) := hQ (by rw [hW4]; exact (HB2.out.trans HB23.out).trans (below_set (p := ⟨mb, 25, none⟩) hmb _))
  have HK4 : Hid (Blk W4 g3 50 #[.int .i64 x.op, .int .i64 x.a, .int .i64 x.b, .int .i64 x.c, .int .u64 x.imm]) := hQ (by rw [hW4]; exact HK33.out.far (p := ⟨mb, 25, none⟩) (Blk.ne_ HK33.out HM3.out.blk (by decide)) _)
  have HBs : Hid (B ≤ W4.heap.size) := hQ (Nat.le_trans H0.out.hB HB4.out.size)
  have HL : Hid (m.next.acts.length = t + 1) := hQ (by simp [Mx.next, Mx.setTop]; exact HT.out)
  have HR8 : Hid (m.next.regs.length = 8) := hQ H0.out.wf.regs
  clear hW4 c25' f25 hlt HM2 HM3 HK3 HK33 HB23 HB2
  obtain ⟨o0, o1, o2, o3, o4, -⟩ := HK4.out.c5
  have HOPS := hQ hop'
  clear hop'
  have HTOP := hQ (next_top (m := m) H0.out.wf.some_)
  have HLIV := hQ (next_live H0.out.wf)
  rcases HOPS.out with ⟨ho, ⟨ha0, ha1⟩, hi⟩ | ⟨ho, ha0, ha1⟩ | ho | ⟨ho, ⟨ha0, ha1⟩, hb0, hb1⟩ | ⟨ho, ⟨ha0, ha1, ha2⟩, ⟨hb0, hb1⟩, ⟨hv1, hv2⟩, hs0, hs1⟩ | ⟨ho, ⟨ha0, ha1⟩, hb0, hb1⟩ | ⟨ho, ⟨ha0, ha1⟩, ⟨hb0, hb1⟩, hl2⟩ | ⟨ho, ⟨ha0, ha1⟩, hb0⟩ | ⟨ho, ⟨ha0, ha1⟩, hb0, hb1⟩ | ⟨ho, ha0⟩ | ⟨ho, hi⟩
  all_goals clear HOPS
  ·
    have HE : Hid (stepM p m = { m.next with regs := m.next.regs.set x.a.toNat (x.imm.toNat, 0) }) := hQ (by unfold stepM; rw [HXE.out]; simp only [ho, if_true])
    rw [ho] at o0
    obtain ⟨a, ha⟩ := Int.eq_ofNat_of_zero_le ha0
    obtain ⟨im, him⟩ := Int.eq_ofNat_of_zero_le hi
    rw [ha] at o1 HE ha1
    rw [him] at o4 HE
    go_wp2_with fail
    refine (const_any _ a x.b x.c im (by omega) HR8.out HM4.out HBs.out).mono ?_
    rintro e w5 ⟨rfl, b5, As', cs', At', ct', bl', m5⟩
    have HM5 := hQ m5
    have HB5 := hQ (HB4.out.trans b5)
    clear m5 b5
    go_wp2
    go_end0
    rw [HE.out]
    exact ⟨rfl, HB5.out, _, _, _, _, _, HM5.out⟩
  ·
    have HE : Hid (stepM p m = m.next.call x.a.toNat) := hQ (by unfold stepM; rw [HXE.out]; simp only [ho]; rfl)
    rw [ho] at o0
    obtain ⟨a, ha⟩ := Int.eq_ofNat_of_zero_le ha0
    rw [ha] at o1 HE ha1
    go_wp2_with fail
    refine (call_any _ p.length cp a (by omega) H0.out.hp (by have := HL.out; have := HT.out; omega) HM4.out HBs.out).mono ?_
    rintro e w5 ⟨rfl, b5, As', cs', m5⟩
    have HM5 := hQ m5
    have HB5 := hQ (HB4.out.trans b5)
    clear m5 b5
    go_wp2
    go_end0
    rw [HE.out]
    exact ⟨rfl, HB5.out, _, _, _, _, _, HM5.out.mono (Nat.le_succ _)⟩
  ·
    rw [ho] at o0
    obtain ⟨-, -, c18, -, -, -, -, hlt⟩ := HM4.out.cells
    rw [HL.out] at c18
    have f18 := HM4.out.blk.frozen 18
    have hcs : t + 1 ≤ cs := by have := (own_cap HM4.out.own).2; have := HL.out; omega
    have hcsi : (t : Int) ≤ (cs : Int) := by omega
    have hcs0 : ¬ cs = 0 := by omega
    have hcs1 : 0 < cs := by omega
    have hcs2 : ¬ cs ≤ 0 := by omega
    have hcs3 : t ≤ cs := by omega
    have hwt : IntKind.i64.wrap (t : Int) = (t : Int) := IntWalk.i64_in _ (by omega)
    go_upto_region 29 with (fail)
    go_cut [] (fun wx => Hid (MAt wx B n mb ad (.slice (some ad) p.length cp) iv (some ⟨g, 0, none⟩) cs At ct bl { m.next with acts := m.next.acts.take t }) ∧ Hid (Below B w wx))
    case first =>
     go_region_with (fail)
     all_goals go_wp2_with fail
     all_goals go_meet
     all_goals exact ⟨hQ ((HM4.out.pop HL.out).after (bR.drew)), hQ (HB4.out.trans ((below_set (p := ⟨mb, 18, none⟩) hmb _).drew))⟩
    case rest =>
     obtain ⟨HM5, HB5⟩ := hcut
     obtain ⟨W5, hW5⟩ : ∃ W5, W5 = wc := ⟨_, rfl⟩
     subst hW5
     clear o0 o1 o2 o3 o4 c18 f18 hlt
     obtain ⟨-, -, c18, -, -, -, -, hlt⟩ := HM5.out.cells
     have hl5 : ({ m.next with acts := m.next.acts.take t } : Mx).acts.length = t := by
      show (m.next.acts.take t).length = t
      rw [List.length_take]; have := HL.out; omega
     rw [hl5] at c18
     clear hl5
     by_cases ht : t = 0
     · have HE : Hid (stepM p m = ({ m.next with acts := m.next.acts.take t, res := rg m.next 0 } : Mx).stop 0) := hQ (by
        unfold stepM; rw [HXE.out]; simp only [ho]
        rw [if_neg (by decide), if_neg (by decide), if_true, if_pos (by have := HT.out; omega), ht])
       have HT0 := hQ ht
       have e0 : ((t : Int) == 0) = true := by simp [ht]
       clear ht
       have r0 : W5.cell? ⟨mb, 2, none⟩ = some (.int .u64 (rg m.next 0).1) := HM5.out.blk.cell 2
       have r1 : W5.cell? ⟨mb, 3, none⟩ = some (.int .u64 (rg m.next 0).2) := HM5.out.blk.cell 3
       have r2 : W5.cell? ⟨mb, 22, none⟩ = some (.int .u64 m.next.res.1) := HM5.out.blk.cell 22
       have r3 : W5.cell? ⟨mb, 23, none⟩ = some (.int .u64 m.next.res.2) := HM5.out.blk.cell 23
       have f22 := HM5.out.blk.frozen 22
       have f23 := HM5.out.blk.frozen 23
       go_upto_region 32 with (fail)
       obtain ⟨W6, hW6⟩ : ∃ W6, W6 = (W5.setCell ⟨mb, 22, none⟩ (.int .u64 (rg m.next 0).1)).setCell ⟨mb, 23, none⟩ (.int .u64 (rg m.next 0).2) := ⟨_, rfl⟩
       rw [← hW6]
       have HM6 : Hid (MAt W6 B n mb ad (.slice (some ad) p.length cp) iv (some ⟨g, 0, none⟩) cs At ct bl { m.next with acts := m.next.acts.take t, res := rg m.next 0 }) := hQ (by
        rw [hW6]
        exact (HM5.out.mset 22 (.int .u64 (rg m.next 0).1) { m.next with acts := m.next.acts.take t, res := ((rg m.next 0).1, m.next.res.2) } rfl rfl rfl rfl).mset 23 (.int .u64 (rg m.next 0).2) { m.next with acts := m.next.acts.take t, res := rg m.next 0 } rfl rfl rfl rfl)
       have HB6 : Hid (Below B w W6) := hQ (by rw [hW6]; exact HB5.out.trans ((below_set (p := ⟨mb, 22, none⟩) hmb _).trans (below_set (p := ⟨mb, 23, none⟩) hmb _)))
       clear hW6 r0 r1 r2 r3 f22 f23 c18
       go_wp2_with fail
       refine (stop_any _ 0 HM6.out).mono ?_
       rintro e w7 ⟨rfl, m7, b7⟩
       have HM7 := hQ m7
       have HB7 := hQ (HB6.out.trans b7)
       clear m7 b7
       go_wp2
       go_end0
       rw [HE.out]
       exact ⟨rfl, HB7.out, _, _, _, _, _, HM7.out.mono (Nat.le_succ _)⟩
     · have HE : Hid (stepM p m = { m.next with acts := m.next.acts.take t }) := hQ (by
        unfold stepM; rw [HXE.out]; simp only [ho]
        rw [if_neg (by decide), if_neg (by decide), if_true, if_neg (by have := HT.out; omega)]
        have e : m.acts.length - 1 = t := by have := HT.out; omega
        rw [e])
       have e0 : ((t : Int) == 0) = false := by rw [beq_eq_false_iff_ne]; omega
       clear ht
       go_wp2
       go_end0
       rw [HE.out]
       exact ⟨rfl, HB5.out, _, _, _, _, _, HM5.out.mono (Nat.le_succ _)⟩
  · exfalso; have := HSUB.out; omega
  · exfalso; have := HSUB.out; omega
  · exfalso; have := HSUB.out; omega
  · exfalso; have := HSUB.out; omega
  · exfalso; have := HSUB.out; omega
  · exfalso; have := HSUB.out; omega
  · exfalso; have := HSUB.out; omega
  · exfalso; have := HSUB.out; omega
end
end Go.Proofs.YtdijeijbcoeopaaDoor.pm
