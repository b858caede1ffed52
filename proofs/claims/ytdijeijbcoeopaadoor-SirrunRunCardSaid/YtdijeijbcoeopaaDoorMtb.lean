/- One step of the machine: load, store. -/
import Derived.Test.YtdijeijbcoeopaaDoorMt0
set_option linter.unusedVariables false
set_option maxRecDepth 10000
set_option maxHeartbeats 8000000
namespace Go.Proofs.YtdijeijbcoeopaaDoor.pm
open Go.RowKit
section
variable {B n mb cs ct np cp : Nat} {ad : Addr} {iv : Value} {As At : Option Addr} {bl : List Nat} {m : Mx} {p : List Fn}
theorem step_b (w : World) (h : Pre w B n mb ad p cp iv As cs At ct bl m) (hop : OpOk p m (m.ins p)) (hsub : (m.ins p).op = 15 ∨ (m.ins p).op = 16) :
 Calls Tryd.prog 32 #[.pointer (some ⟨mb, 0, none⟩)] w (StepD w B n mb ad (.slice (some ad) p.length cp) iv (stepM p m)) := by
 obtain ⟨g, t, rfl, ht, hgB, htop, -⟩ := h.top_cells
 obtain ⟨-, -, c18, -, -, -, -, hlt⟩ := h.at_.cells
 have hbig := h.big
 rw [ht] at c18
 have hti : (t : Int) < (t : Int) + 1 := by omega
 have ht0 : (0 : Int) ≤ (t : Int) := by omega
 have htb : (t : Int) ≤ 1000000 := by omega
 have H0 := hQ h
 have HT := hQ ht
 have hmb := h.at_.hmb
 clear h ht
 go_enter Tryd.func32, Tryd.ntmps32
 go_upto_region 0 with (fail)
 go_quiet (fail)
 go_upto_region 1 with (fail)
 have HB1 : Hid (Below w.heap.size w (w.drewN nq)) := hQ (below_drewN bR _)
 obtain ⟨W1, hW1⟩ : ∃ W1, W1 = w.drewN nq := ⟨_, rfl⟩
 rw [← hW1] at HB1 ⊢
 clear hW1 c18 hlt
 have H := hQ (H0.out.after HB1.out)
 have h := H.out
 obtain ⟨g', t', e1, e2, -, -, a0, a1, a2, a3, hfz⟩ := h.top_cells
 obtain rfl : g = g' := by injection e1 with e1; injection e1
 obtain rfl : t = t' := by have := HT.out; omega
 obtain ⟨lf, lc, -, -⟩ := h.wf.live _ htop
 obtain ⟨ad', As', cs', Ai, ci, hadd, hbl, -, -, y2, -, -, -, nx, -, m1, m2⟩ := h.fx.whole lf
 obtain rfl : ad = ad' := by injection hadd
 obtain ⟨ai, rfl, hbi, x0, x1, x2, x3, x4⟩ := nx.whole lc
 obtain ⟨-, -, c18, -, -, c25, -, hlt⟩ := h.at_.cells
 have f25 := h.at_.blk.frozen 25
 have hpc := h.pc _ htop
 have hst := h.st
 have hB := h.hB
 have hp := h.hp
 have f1 := hfz (t * 4 + 1)
 rw [e2] at c18
 obtain ⟨fc, hfc⟩ : ∃ fc, fc = (p.getD m.top.f Fn.z).code := ⟨_, rfl⟩
 obtain ⟨x, hx⟩ : ∃ x, x = fc.getD m.top.pc Ins.z := ⟨_, rfl⟩
 rw [← hfc] at y2 lc x0 x1 x2 x3 x4 m1 m2
 rw [← hx] at x0 x1 x2 x3 x4
 have hxe : m.ins p = x := by rw [hx, hfc]; rfl
 have hop' : OpOk p m x := by rw [← hxe]; exact hop
 have HXE := hQ hxe
 have HSUB := hQ (hxe ▸ hsub)
 obtain ⟨pc, hpce⟩ : ∃ pc, pc = m.top.pc := ⟨_, rfl⟩
 obtain ⟨tf, htf⟩ : ∃ tf, tf = m.top.f := ⟨_, rfl⟩
 rw [← hpce] at a1 lc x0 x1 x2 x3 x4 hpc
 rw [← htf] at a0 lf y2
 have hpi : (pc : Int) < (fc.length : Int) := by omega
 have hp0 : (0 : Int) ≤ (pc : Int) := by omega
 have hpc' : (pc : Int) ≤ 1000000 := by omega
 have hst' : (m.steps : Int) ≤ 1000000 := by omega
 have HX := hQ hx
 have HFC := hQ hfc
 have HPC := hQ hpce
 have HTF := hQ htf
 clear h hx hfc hpce htf hfz hadd nx hop e1 e2 hxe hsub
 go_cut [3] (fun s3 wx => s3 = .pointer (some ⟨W1.heap.size, 0, none⟩) ∧ Hid (Blk wx W1.heap.size 50 #[.int .i64 x.op, .int .i64 x.a, .int .i64 x.b, .int .i64 x.c, .int .u64 x.imm]) ∧ Hid (Below W1.heap.size W1 wx))
 case first =>
  go_region_held3 (fun W => (W.cell? ⟨g, t * 4, none⟩ = some (.pointer (some (ad.add (tf * 3)))) ∧ W.cell? ⟨g, t * 4 + 1, none⟩ = some (.int .i64 pc)) ∧ W.cell? ⟨(ad.add (tf * 3)).block, (ad.add (tf * 3)).off + 2, none⟩ = some (.slice (some ai) fc.length ci) ∧ (W.cell? (ai.add (pc * 5)) = some (.int .i64 x.op) ∧ W.cell? ⟨(ai.add (pc * 5)).block, (ai.add (pc * 5)).off + 1, none⟩ = some (.int .i64 x.a) ∧ W.cell? ⟨(ai.add (pc * 5)).block, (ai.add (pc * 5)).off + 2, none⟩ = some (.int .i64 x.b) ∧ W.cell? ⟨(ai.add (pc * 5)).block, (ai.add (pc * 5)).off + 3, none⟩ = some (.int .i64 x.c) ∧ W.cell? ⟨(ai.add (pc * 5)).block, (ai.add (pc * 5)).off + 4, none⟩ = some (.int .u64 x.imm))) (first | exact ⟨⟨a0, a1⟩, y2, x0, x1, x2, x3, x4⟩ | go_keep) (fail)
  all_goals go_wp2_with fail
  all_goals go_meet
  all_goals exact ⟨rfl, hQ ((Blk.new _ _ _).drew), hQ ((bR.alloc nL _).drew)⟩
 case rest =>
  obtain ⟨rfl, HK3, HB3⟩ := hcut
  obtain ⟨W2, hW2⟩ : ∃ W2, W2 = wc := ⟨_, rfl⟩
  subst hW2
  have HM2 := hQ (H.out.at_.after HB3.out)
  have HB2 : Hid (Below B w W2) := hQ ((HB1.out.mono (by have := H0.out.hB; omega)).trans (HB3.out.mono hB))
  clear a0 a1 a2 a3 y2 x0 x1 x2 x3 x4 c18 c25 f25 f1 hlt
  obtain ⟨g3, hg3⟩ : ∃ g3, g3 = W1.heap.size := ⟨_, rfl⟩
  rw [← hg3] at HK3 ⊢
  have hg3B : B ≤ g3 := by omega
  clear hg3
  have z1 : W2.cell? ⟨g, t * 4 + 1, none⟩ = some (.int .i64 pc) := by
   have h := H.out.after HB3.out
   obtain ⟨g', t', e1, e2, -, -, -, a1, -⟩ := h.top_cells
   obtain rfl : g = g' := by injection e1 with e1; injection e1
   obtain rfl : t = t' := by have := HT.out; omega
   rw [HPC.out]; exact a1
  have zf : W2.frozen? ⟨g, t * 4 + 1, none⟩ = false := HM2.out.own.frozenAt _
  go_upto_region 3 with (fail)
  obtain ⟨W3, hW3⟩ : ∃ W3, W3 = W2.setCell ⟨g, t * 4 + 1, none⟩ (.int .i64 ((pc : Int) + 1)) := ⟨_, rfl⟩
  rw [← hW3]
  have HM3 : Hid (MAt W3 B n mb ad (.slice (some ad) p.length cp) iv (some ⟨g, 0, none⟩) cs At ct bl (m.setTop { m.top with pc := m.top.pc + 1 })) := hQ (by
   rw [hW3, HPC.out]
   exact HM2.out.aset HT.out (by omega) _ _ (by simp [acV]))
  have HB23 : Hid (Below B W2 W3) := hQ (by rw [hW3]; exact below_set (p := ⟨g, t * 4 + 1, none⟩) hgB _)
  have HK33 : Hid (Blk W3 g3 50 #[.int .i64 x.op, .int .i64 x.a, .int .i64 x.b, .int .i64 x.c, .int .u64 x.imm]) := hQ (by rw [hW3]; exact HK3.out.far (p := ⟨g, t * 4 + 1, none⟩) (fun e => blk_own_ne (gb := 0) HK3.out HM2.out.own (by decide) (by rw [e]; rfl)) _)
  clear hW3 z1 zf
  obtain ⟨-, -, -, -, -, c25, -, hlt⟩ := HM3.out.cells
  have c25' : W3.cell? ⟨mb, 25, none⟩ = some (.int .i64 m.steps) := c25
  have f25 := HM3.out.blk.frozen 25
  clear c25
  go_upto_region 4 with (fail)
  obtain ⟨W4, hW4⟩ : ∃ W4, W4 = W3.setCell ⟨mb, 25, none⟩ (.int .i64 ((m.steps : Int) + 1)) := ⟨_, rfl⟩
  rw [← hW4]
  have HM4 : Hid (MAt W4 B n mb ad (.slice (some ad) p.length cp) iv (some ⟨g, 0, none⟩) cs At ct bl m.next) := hQ (by
   rw [hW4]
   exact HM3.out.mset 25 _ m.next rfl rfl rfl rfl)
  have HB4 : Hid (Below B w W4) := hQ (by rw [hW4]; exact (HB2.out.trans HB23.out).trans (below_set (p := ⟨mb, 25, none⟩) hmb _))
  have HK4 : Hid (Blk W4 g3 50 #[.int .i64 x.op, .int .i64 x.a, .int .i64 x.b, .int .i64 x.c, .int .u64 x.imm]) := hQ (by rw [hW4]; exact HK33.out.far (p := ⟨mb, 25, none⟩) (Blk.ne_ HK33.out HM3.out.blk (by decide)) _)
  have HBs : Hid (B ≤ W4.heap.size) := hQ (Nat.le_trans H0.out.hB HB4.out.size)
  have HL : Hid (m.next.acts.length = t + 1) := hQ (by simp [Mx.next, Mx.setTop]; exact HT.out)
  have HR8 : Hid (m.next.regs.length = 8) := hQ H0.out.wf.regs
  clear hW4 c25' f25 hlt HM2 HM3 HK3 HK33 HB23 HB2
  obtain ⟨o0, o1, o2, o3, o4, -⟩ := HK4.out.c5
  have HOPS := hQ hop'
  clear hop'
  have HTOP := hQ (next_top (m := m) H0.out.wf.some_)
  have HLIV := hQ (next_live H0.out.wf)
  rcases HOPS.out with ⟨ho, ⟨ha0, ha1⟩, hi⟩ | ⟨ho, ha0, ha1⟩ | ho | ⟨ho, ⟨ha0, ha1⟩, hb0, hb1⟩ | ⟨ho, ⟨ha0, ha1, ha2⟩, ⟨hb0, hb1⟩, ⟨hv1, hv2⟩, hs0, hs1⟩ | ⟨ho, ⟨ha0, ha1⟩, hb0, hb1⟩ | ⟨ho, ⟨ha0, ha1⟩, ⟨hb0, hb1⟩, hl2⟩ | ⟨ho, ⟨ha0, ha1⟩, hb0⟩ | ⟨ho, ⟨ha0, ha1⟩, hb0, hb1⟩ | ⟨ho, ha0⟩ | ⟨ho, hi⟩
  all_goals clear HOPS
  · exfalso; have := HSUB.out; omega
  · exfalso; have := HSUB.out; omega
  · exfalso; have := HSUB.out; omega
  ·
    rw [ho] at o0
    obtain ⟨a, ha⟩ := Int.eq_ofNat_of_zero_le ha0
    obtain ⟨r, hr⟩ : ∃ r, r = m.next.look m.top.ms x.b := ⟨_, rfl⟩
    have HE : Hid (stepM p m = m.next.take a r) := hQ (by unfold stepM; rw [HXE.out]; simp only [ho]; rw [hr, ha]; rfl)
    rw [ha] at o1 ha1
    have HLK : Hid (∀ W, Below W4.heap.size W4 W → (Instr.lookup 88 (.map (m.top.ms.map fun i => bl.getD i 0)) (.int .i64 x.b) true).run Tryd.prog W = .ok (.tuple #[.agg #[.int .u64 ((m.next.look m.top.ms x.b).getD (0, 0)).1, .int .u64 ((m.next.look m.top.ms x.b).getD (0, 0)).2], .bool (m.next.look m.top.ms x.b).isSome]) W) := hQ (fun W h => look_at (HM4.out.after h) m.top.ms (fun i hi => (HLIV.out m.next.top (by unfold Mx.top; exact getD_mem' (by have := HL.out; omega))).1 i (by rw [HTOP.out]; exact hi)) x.b (by simp [Lit.wf, IntKind.min, IntKind.max, IntKind.signed, IntKind.bits]; omega))
    have s2 : W4.cell? ⟨g, t * 4 + 2, none⟩ = (acV ad bl m.next.top)[2]? := by
     have et : m.next.top = m.next.acts.getD t Ac.z := by unfold Mx.top; rw [show m.next.acts.length - 1 = t by have := HL.out; omega]
     rw [et]
     exact (HM4.out.own.cellAt (t * 4 + 2) (by have := HL.out; omega)).trans (flat_get (acV_len ad bl) Ac.z m.next.acts t 2 (by have := HL.out; omega) (by omega))
    rw [HTOP.out] at s2
    have s2' : W4.cell? ⟨g, t * 4 + 2, none⟩ = some (.map (m.top.ms.map fun i => bl.getD i 0)) := s2
    rw [← hr] at HLK
    obtain ⟨mo, hmo⟩ : ∃ mo, mo = m.top.ms.map (fun i => bl.getD i 0) := ⟨_, rfl⟩
    rw [← hmo] at s2' HLK
    obtain ⟨rv, hrv⟩ : ∃ rv, rv = r.getD (0, 0) := ⟨_, rfl⟩
    obtain ⟨rs, hrs⟩ : ∃ rs, rs = r.isSome := ⟨_, rfl⟩
    rw [← hrv, ← hrs] at HLK
    have HRR : Hid ((if rs = true then some rv else none) = r) := hQ (by rw [hrv, hrs]; exact opt_if r)
    clear s2 hr hmo hrv hrs
    have hg3l : g3 < W4.heap.size := HK4.out.lt
    have hgl : g < W4.heap.size := (HM4.out.own.lt g rfl).2
    go_upto_region 7 with (fail)
    go_cut [4, 5] (fun s4 s5 wx => s4 = .pointer (some ⟨W4.heap.size, 0, none⟩) ∧ s5 = .bool rs ∧ Hid (Blk wx W4.heap.size 37 #[.int .u64 rv.1, .int .u64 rv.2]) ∧ Hid (Blk wx g3 50 #[.int .i64 x.op, .int .i64 x.a, .int .i64 x.b, .int .i64 x.c, .int .u64 x.imm]) ∧ Hid (Below W4.heap.size W4 wx))
    case first =>
     have HKL : Hid (∀ W, Below W4.heap.size W4 W → (W.cell? ⟨g, t * 4 + 2, none⟩ = some (.map mo) ∧ W.cell? ⟨g3, 2, none⟩ = some (.int .i64 x.b)) ∧ (Instr.lookup 88 (.map mo) (.int .i64 x.b) true).run Tryd.prog W = .ok (.tuple #[.agg #[.int .u64 rv.1, .int .u64 rv.2], .bool rs]) W) := hQ (fun W h => ⟨⟨(h.cell (cell_lt s2')).trans s2', (h.cell (cell_lt o2)).trans o2⟩, HLK.out W h⟩)
     have HD1 : Hid (Below W4.heap.size W4 W4.drew) := hQ (bR.drew)
     obtain ⟨⟨p1, p2⟩, p3⟩ := HKL.out _ HD1.out
     clear s2' o2
     go_region_held3 (fun W => (W.cell? ⟨g, t * 4 + 2, none⟩ = some (.map mo) ∧ W.cell? ⟨g3, 2, none⟩ = some (.int .i64 x.b)) ∧ (Instr.lookup 88 (.map mo) (.int .i64 x.b) true).run Tryd.prog W = .ok (.tuple #[.agg #[.int .u64 rv.1, .int .u64 rv.2], .bool rs]) W)
      (first | exact HKL.out _ HD1.out | exact HKL.out _ ((bR.alloc nL _).drew) | exact HKL.out _ ((bR.drew).alloc nL _) | exact HKL.out _ ((bR.alloc nL _))) (fail)
     all_goals go_wp2_with fail
     all_goals go_meet
     all_goals exact ⟨rfl, rfl, hQ ((Blk.new _ _ _).drew), hQ ((HK4.out.alloc _).drew), hQ ((bR.alloc nL _).drew)⟩
    case rest =>
     obtain ⟨rfl, rfl, HKV, HKX, HB5⟩ := hcut
     obtain ⟨W5, hW5⟩ : ∃ W5, W5 = wc := ⟨_, rfl⟩
     subst hW5
     have HM5 := hQ (HM4.out.after HB5.out)
     have HB5' : Hid (Below B w W5) := hQ (HB4.out.trans (HB5.out.mono HBs.out))
     clear o0 o1 o2 o3 o4 s2'
     obtain ⟨o0, o1, -, -, -, -⟩ := HKX.out.c5
     rw [ha] at o1
     obtain ⟨v0, v1, -, -, -⟩ := HKV.out.c2
     go_wp2_with fail
     refine (take_any W5 a (by omega) HR8.out rv rs HM5.out).mono ?_
     rintro e w9 ⟨rfl, m9, b9⟩
     rw [HRR.out] at m9
     have HM9 := hQ m9
     have HB9 := hQ (HB5'.out.trans b9)
     clear m9 b9
     go_wp2
     go_end0
     rw [HE.out]
     exact ⟨rfl, HB9.out, _, _, _, _, _, HM9.out.mono (Nat.le_succ _)⟩
  ·
    rw [ho] at o0
    obtain ⟨a, ha⟩ := Int.eq_ofNat_of_zero_le ha0
    obtain ⟨bb, hbb⟩ := Int.eq_ofNat_of_zero_le hb0
    rw [ha] at o1 ha1 ha2
    rw [hbb] at o2 hb1 hv1 hv2
    simp only [Int.toNat_natCast] at hv1 hv2
    obtain ⟨z, hz⟩ : ∃ z, z = szOf8 p m x := ⟨_, rfl⟩
    obtain ⟨v, hv⟩ : ∃ v, v = rg m.next bb := ⟨_, rfl⟩
    obtain ⟨c, hc⟩ : ∃ c, c = vcut v z := ⟨_, rfl⟩
    have HE : Hid (stepM p m = m.next.defS a c) := hQ (by unfold stepM; rw [HXE.out]; simp only [ho]; rw [hc, hv, hz, ha, hbb]; rfl)
    have hvm : rg m bb = v := by rw [hv]; rfl
    rw [hvm] at hv1 hv2
    rw [← hz] at hs0 hs1
    obtain ⟨r0, r1⟩ := reg_cell HM4.out.blk (r := bb) (by omega)
    rw [← hv] at r0 r1
    have hbi : (bb : Int) < 8 := by omega
    have hbi0 : (0 : Int) ≤ (bb : Int) := by omega
    obtain ⟨ad', As2, cs2, -, -, hadd, hbl2, -, y1, -, -, -, sx, -, ⟨n1, -⟩, -⟩ := (H0.out.fx.keep (fun b _ hb => HB4.out.block b hb)).whole lf
    obtain rfl : ad = ad' := by injection hadd
    obtain ⟨fs, hfs⟩ : ∃ fs, fs = (p.getD tf Fn.z).slots := ⟨_, rfl⟩
    have hal : a < fs.length := by rw [hfs, HTF.out]; omega
    rw [← hfs] at y1 sx n1
    obtain ⟨a2, rfl, hb2, z0, -⟩ := sx.whole hal
    have hzz : (fs.getD a (0, 0)).1 = z := by rw [hz, hfs, HTF.out]; unfold szOf8; rw [ha]; rfl
    rw [hzz] at z0
    obtain ⟨ns, hns⟩ : ∃ ns, ns = fs.length := ⟨_, rfl⟩
    rw [← hns] at y1 hal
    have hali : (a : Int) < (ns : Int) := by omega
    have hai0 : (0 : Int) ≤ (a : Int) := by omega
    have w0 : W4.cell? ⟨g, t * 4, none⟩ = some (.pointer (some (ad.add (tf * 3)))) := by
     have et : m.next.top = m.next.acts.getD t Ac.z := by unfold Mx.top; rw [show m.next.acts.length - 1 = t by have := HL.out; omega]
     have h := (HM4.out.own.cellAt (t * 4 + 0) (by have := HL.out; omega)).trans (flat_get (acV_len ad bl) Ac.z m.next.acts t 0 (by have := HL.out; omega) (by omega))
     rw [← et, HTOP.out] at h
     rw [HTF.out]
     simpa [acV] using h
    have hwf : (Lit.int .i64 (a : Int)).wf = true := by simp [Lit.wf, IntKind.min, IntKind.max, IntKind.signed, IntKind.bits]; omega
    have HC1 : Hid (∀ W, Below W4.heap.size W4 W → Calls Tryd.prog 43 #[.agg #[.int .u64 v.1, .int .u64 v.2], .int .i64 z] W fun e w' => e = .returned (.agg #[.int .u64 c.1, .int .u64 c.2]) ∧ Below W4.heap.size W4 w') := hQ (fun W hW => (trunc_any v.1 v.2 hv1 hv2 z hs0 hs1 W).mono fun e w' ⟨p1, p2⟩ => ⟨by rw [p1, hc]; rfl, hW.trans (p2.mono hW.size)⟩)
    have HC2 : Hid (∀ W, Below W4.heap.size W4 W → Calls Tryd.prog 42 #[.pointer (some ⟨g, t * 4 + 2, none⟩), .int .i64 (a : Int), .agg #[.int .u64 c.1, .int .u64 c.2]] W (DefD W B n mb ad (.slice (some ad) p.length cp) iv g t (m.next.defS a c))) := hQ (fun W hW => define_s W g t (HM4.out.after hW) HL.out HLIV.out (Nat.le_trans HBs.out hW.size) (by have := H0.out.nb; omega) a hwf c)
    have HS4 : Hid (∀ W, Below W4.heap.size W4 W → ((W.cell? ⟨g3, 1, none⟩ = some (.int .i64 a) ∧ W.cell? ⟨g3, 2, none⟩ = some (.int .i64 bb)) ∧ W.cell? ⟨mb, 2 + bb * 2, none⟩ = some (.int .u64 v.1) ∧ W.cell? ⟨mb, 2 + bb * 2 + 1, none⟩ = some (.int .u64 v.2)) ∧ (W.cell? ⟨g, t * 4, none⟩ = some (.pointer (some (ad.add (tf * 3)))) ∧ W.cell? ⟨(ad.add (tf * 3)).block, (ad.add (tf * 3)).off + 1, none⟩ = some (.slice (some a2) ns cs2) ∧ W.cell? (a2.add (a * 2)) = some (.int .i64 z))) := hQ (fun W h => ⟨⟨⟨(h.cell (cell_lt o1)).trans o1, (h.cell (cell_lt o2)).trans o2⟩, (h.cell (cell_lt r0)).trans r0, (h.cell (cell_lt r1)).trans r1⟩, (h.cell (cell_lt w0)).trans w0, (h.cell (cell_lt y1)).trans y1, (h.cell (cell_lt z0)).trans z0⟩)
    have HS9 : Hid (∀ W' W, Below W4.heap.size W4 W' → Below B W' W → Frm W' W → W.cell? ⟨g, t * 4, none⟩ = W'.cell? ⟨g, t * 4, none⟩ → ((W.cell? ⟨g3, 1, none⟩ = some (.int .i64 a) ∧ W.cell? ⟨g3, 2, none⟩ = some (.int .i64 bb)) ∧ W.cell? ⟨mb, 2 + bb * 2, none⟩ = some (.int .u64 v.1) ∧ W.cell? ⟨mb, 2 + bb * 2 + 1, none⟩ = some (.int .u64 v.2)) ∧ (W.cell? ⟨g, t * 4, none⟩ = some (.pointer (some (ad.add (tf * 3)))) ∧ W.cell? ⟨(ad.add (tf * 3)).block, (ad.add (tf * 3)).off + 1, none⟩ = some (.slice (some a2) ns cs2) ∧ W.cell? (a2.add (a * 2)) = some (.int .i64 z))) := hQ (fun W' W h hb hf hp => by
     obtain ⟨⟨⟨q1, q2⟩, q3, q4⟩, q5, q6, q7⟩ := HS4.out W' h
     have hg3 : W'.heap[g3]? = some (.cells _ 50 (0, 0)) := HK4.out.after h
     have hmb' : W'.heap[mb]? = some (.cells _ 71 (0, 0)) := HM4.out.blk.after h
     have e1 : ∀ o, W.cell? ⟨g3, o, none⟩ = W'.cell? ⟨g3, o, none⟩ := fun o => World.cell?_of_block (a := ⟨g3, o, none⟩) ((hf _ _ _ _ hg3 (by decide)).trans hg3.symm)
     have e2 : ∀ o, W.cell? ⟨mb, o, none⟩ = W'.cell? ⟨mb, o, none⟩ := fun o => World.cell?_of_block (a := ⟨mb, o, none⟩) ((hf _ _ _ _ hmb' (by decide)).trans hmb'.symm)
     exact ⟨⟨⟨(e1 _).trans q1, (e1 _).trans q2⟩, (e2 _).trans q3, (e2 _).trans q4⟩, hp.trans q5, (hb.cell (by show (ad.add (tf * 3)).block < B; rw [block_of_add]; exact hbl2)).trans q6, (hb.cell (by rw [block_of_add]; exact hb2)).trans q7⟩)
    have HD1 : Hid (Below W4.heap.size W4 W4.drew) := hQ (bR.drew)
    clear hz hv hc hvm hzz hns hfs sx hadd r0 r1 w0 y1 z0 hv1 hv2 ha hbb
    go_upto_region 10 with (fail)
    clear o0 o1 o2 o3 o4
    obtain ⟨⟨⟨p1, p2⟩, p3, p4⟩, p5, p6, p7⟩ := HS4.out _ HD1.out
    go_region_held3 (fun W => ((W.cell? ⟨g3, 1, none⟩ = some (.int .i64 a) ∧ W.cell? ⟨g3, 2, none⟩ = some (.int .i64 bb)) ∧ W.cell? ⟨mb, 2 + bb * 2, none⟩ = some (.int .u64 v.1) ∧ W.cell? ⟨mb, 2 + bb * 2 + 1, none⟩ = some (.int .u64 v.2)) ∧ (W.cell? ⟨g, t * 4, none⟩ = some (.pointer (some (ad.add (tf * 3)))) ∧ W.cell? ⟨(ad.add (tf * 3)).block, (ad.add (tf * 3)).off + 1, none⟩ = some (.slice (some a2) ns cs2) ∧ W.cell? (a2.add (a * 2)) = some (.int .i64 z)))
     (with_reducible first | assumption | exact HS4.out _ HA1.out | exact HS4.out _ HD1.out) (first
     | (go_at_call 43; refine (HC1.out _ HD1.out).mono ?_; rintro e w8 ⟨rfl, b8⟩; have HA1 := hQ b8; clear b8)
     | (go_at_call 42; refine (HC2.out _ HA1.out).mono ?_; rintro e w9 ⟨⟨rfl, b9, As9, cs9, At9, ct9, bl9, m9⟩, fr9, pc9⟩; have hs9 := HS9.out _ _ HA1.out b9 fr9 pc9; have HM9 := hQ m9; have HB9 := hQ ((HB4.out.trans (HA1.out.mono HBs.out)).trans b9); clear m9 b9 fr9 pc9))
    go_wp2
    go_end0
    rw [HE.out]
    exact ⟨rfl, HB9.out, _, _, _, _, _, HM9.out⟩
  · exfalso; have := HSUB.out; omega
  · exfalso; have := HSUB.out; omega
  · exfalso; have := HSUB.out; omega
  · exfalso; have := HSUB.out; omega
  · exfalso; have := HSUB.out; omega
  · exfalso; have := HSUB.out; omega
end
end Go.Proofs.YtdijeijbcoeopaaDoor.pm
