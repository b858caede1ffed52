/- One step of the machine: one of three. -/
import Derived.Test.YtcnndoefgjbmiaaGreatGJj
set_option linter.unusedVariables false
set_option maxRecDepth 10000
set_option maxHeartbeats 8000000
namespace Go.Proofs.YtcnndoefgjbmiaaGreat.pm
open Go.RowKit
section
variable {B mb cs ct cp : Nat} {L : Pl} {ad : Addr} {iv : Value} {As At : Option Addr} {m : Mx} {p : List Fr}
theorem step_kd (w : World) (h : Pre w B mb L ad p cp iv As cs At ct m) (hop : OkX p m (m.ins p)) (hsub : ((m.ins p).op = 20 ∨ (m.ins p).op = 24) ∨ ((m.ins p).op = 21 ∨ (m.ins p).op = 22) ∨ (m.ins p).op = 23) :
 Calls Tryz.prog 30 #[.pointer (some ⟨mb, 0, none⟩)] w (StepI w B mb L ad (.slice (some ad) p.length cp) (stepX p m)) := by
 obtain ⟨g, t, rfl, ht, hgB, htop, hcs, -⟩ := h.at_.top_cells h.wf.some_
 obtain ⟨-, -, -, -, -, -, -, -, -, c30, -, hlt⟩ := h.at_.cells
 have hbig := h.big
 rw [ht] at c30
 have hti : (t : Int) < (t : Int) + 1 := by omega
 have ht0 : (0 : Int) ≤ (t : Int) := by omega
 have htb : (t : Int) ≤ 1000000 := by omega
 have H0 := hQ h
 have HT := hQ ht
 have hmb := h.at_.hmb
 clear h ht
 go_enter Tryz.func30, Tryz.ntmps30
 go_upto_region 0 with (fail)
 go_quiet (fail)
 go_upto_region 1 with (fail)
 have HB1 : Hid (Below w.heap.size w (w.drewN nq)) := hQ (below_drewN bR _)
 obtain ⟨W1, hW1⟩ : ∃ W1, W1 = w.drewN nq := ⟨_, rfl⟩
 rw [← hW1] at HB1 ⊢
 clear hW1 c30 hlt
 have H := hQ (H0.out.after HB1.out)
 have h := H.out
 obtain ⟨g', t', e1, e2, -, -, -, a0, a1, hfz⟩ := h.at_.top_cells h.wf.some_
 obtain rfl : g = g' := by injection e1 with e1; injection e1
 obtain rfl : t = t' := by have := HT.out; omega
 obtain ⟨lf, lc⟩ := h.wf.live _ htop
 obtain ⟨ad', Ai, ci, hadd, hbl, -, -, y2, -, -, nx, m1, m2⟩ := h.gx.whole lf
 obtain rfl : ad = ad' := by injection hadd
 obtain ⟨ai, rfl, hbi, x0, x1, x2, x3, x4⟩ := nx.whole lc
 have hpc := h.pc _ htop
 have hst := h.st
 have hB := h.hB
 have hp := h.hp
 obtain ⟨fc, hfc⟩ : ∃ fc, fc = (p.getD m.top.f Fr.z).code := ⟨_, rfl⟩
 obtain ⟨x, hx⟩ : ∃ x, x = fc.getD m.top.pc Ins.z := ⟨_, rfl⟩
 rw [← hfc] at y2 lc x0 x1 x2 x3 x4 m1 m2
 rw [← hx] at x0 x1 x2 x3 x4
 have hxe : m.ins p = x := by rw [hx, hfc]; rfl
 have hop' : OkX p m x := by rw [← hxe]; exact hop
 have HXE := hQ hxe
 have HSUB := hQ (hxe ▸ hsub)
 obtain ⟨pc, hpce⟩ : ∃ pc, pc = m.top.pc := ⟨_, rfl⟩
 obtain ⟨tf, htf⟩ : ∃ tf, tf = m.top.f := ⟨_, rfl⟩
 rw [← hpce] at a1 lc x0 x1 x2 x3 x4 hpc
 rw [← htf] at a0 lf y2
 have hpi : (pc : Int) < (fc.length : Int) := by omega
 have hp0 : (0 : Int) ≤ (pc : Int) := by omega
 have hpc' : (pc : Int) ≤ 1000000 := by omega
 have hst' : (m.steps : Int) ≤ 1000000 := by omega
 have HX := hQ hx
 have HFC := hQ hfc
 have HPC := hQ hpce
 have HTF := hQ htf
 have HOPS := hQ hop'
 clear h hx hfc hpce htf hfz hadd nx hop e1 e2 hxe hsub hop'
 go_cut [3] (fun s3 wx => s3 = .pointer (some ⟨W1.heap.size, 0, none⟩) ∧ Hid (Blk wx W1.heap.size 50 #[.int .i64 x.op, .int .i64 x.a, .int .i64 x.b, .int .i64 x.c, .int .u64 x.imm]) ∧ Hid (Below W1.heap.size W1 wx))
 case first =>
  go_region_held3 (fun W => (W.cell? ⟨g, t * 2, none⟩ = some (.pointer (some (ad.add (tf * 3)))) ∧ W.cell? ⟨g, t * 2 + 1, none⟩ = some (.int .i64 pc)) ∧ W.cell? ⟨(ad.add (tf * 3)).block, (ad.add (tf * 3)).off + 2, none⟩ = some (.slice (some ai) fc.length ci) ∧ (W.cell? (ai.add (pc * 5)) = some (.int .i64 x.op) ∧ W.cell? ⟨(ai.add (pc * 5)).block, (ai.add (pc * 5)).off + 1, none⟩ = some (.int .i64 x.a) ∧ W.cell? ⟨(ai.add (pc * 5)).block, (ai.add (pc * 5)).off + 2, none⟩ = some (.int .i64 x.b) ∧ W.cell? ⟨(ai.add (pc * 5)).block, (ai.add (pc * 5)).off + 3, none⟩ = some (.int .i64 x.c) ∧ W.cell? ⟨(ai.add (pc * 5)).block, (ai.add (pc * 5)).off + 4, none⟩ = some (.int .u64 x.imm))) (first | exact ⟨⟨a0, a1⟩, y2, x0, x1, x2, x3, x4⟩ | go_keep) (fail)
  all_goals go_wp2_with fail
  all_goals go_meet
  all_goals exact ⟨rfl, hQ ((Blk.new _ _ _).drew), hQ ((bR.alloc nL _).drew)⟩
 case rest =>
  obtain ⟨rfl, HK3, HB3⟩ := hcut
  obtain ⟨W2, hW2⟩ : ∃ W2, W2 = wc := ⟨_, rfl⟩
  subst hW2
  have HM2 := hQ (H.out.at_.after HB3.out)
  have HB2 : Hid (Below B w W2) := hQ ((HB1.out.mono (by have := H0.out.hB; omega)).trans (HB3.out.mono hB))
  clear a0 a1 y2 x0 x1 x2 x3 x4
  obtain ⟨g3, hg3⟩ : ∃ g3, g3 = W1.heap.size := ⟨_, rfl⟩
  rw [← hg3] at HK3 ⊢
  have hg3B : B ≤ g3 := by omega
  clear hg3
  have z1 : W2.cell? ⟨g, t * 2 + 1, none⟩ = some (.int .i64 pc) := by
   obtain ⟨g', t', e1, e2, -, -, -, -, a1, -⟩ := HM2.out.top_cells H.out.wf.some_
   obtain rfl : g = g' := by injection e1 with e1; injection e1
   obtain rfl : t = t' := by have := HT.out; omega
   rw [HPC.out]; exact a1
  have zf : W2.frozen? ⟨g, t * 2 + 1, none⟩ = false := HM2.out.own.frozenAt _
  go_upto_region 3 with (fail)
  obtain ⟨W3, hW3⟩ : ∃ W3, W3 = W2.setCell ⟨g, t * 2 + 1, none⟩ (.int .i64 ((pc : Int) + 1)) := ⟨_, rfl⟩
  rw [← hW3]
  have HM3 : Hid (MAt W3 B mb L ad (.slice (some ad) p.length cp) iv (some ⟨g, 0, none⟩) cs At ct (m.setTop { m.top with pc := m.top.pc + 1 })) := hQ (by
   rw [hW3, HPC.out]
   exact HM2.out.aset HT.out (by omega) _ _ (by simp [acV]))
  have HB23 : Hid (Below B W2 W3) := hQ (by rw [hW3]; exact below_set (p := ⟨g, t * 2 + 1, none⟩) hgB _)
  have HK33 : Hid (Blk W3 g3 50 #[.int .i64 x.op, .int .i64 x.a, .int .i64 x.b, .int .i64 x.c, .int .u64 x.imm]) := hQ (by rw [hW3]; exact HK3.out.far (p := ⟨g, t * 2 + 1, none⟩) (fun e => blk_own_ne (gb := 0) HK3.out HM2.out.own (by decide) (by rw [e]; rfl)) _)
  clear hW3 z1 zf
  have c22 : W3.cell? ⟨mb, 22, none⟩ = some (.int .i64 m.steps) := HM3.out.blk.cell 22
  have hlt := HM3.out.blk.lt
  have f22 := HM3.out.blk.frozen 22
  go_upto_region 4 with (fail)
  obtain ⟨W4, hW4⟩ : ∃ W4, W4 = W3.setCell ⟨mb, 22, none⟩ (.int .i64 ((m.steps : Int) + 1)) := ⟨_, rfl⟩
  rw [← hW4]
  have HM4 : Hid (MAt W4 B mb L ad (.slice (some ad) p.length cp) iv (some ⟨g, 0, none⟩) cs At ct m.next) := hQ (by
   rw [hW4]
   exact HM3.out.mset 22 _ m.next rfl rfl rfl rfl iv rfl)
  have HB4 : Hid (Below B w W4) := hQ (by rw [hW4]; exact (HB2.out.trans HB23.out).trans (below_set (p := ⟨mb, 22, none⟩) hmb _))
  have HK4 : Hid (Blk W4 g3 50 #[.int .i64 x.op, .int .i64 x.a, .int .i64 x.b, .int .i64 x.c, .int .u64 x.imm]) := hQ (by rw [hW4]; exact HK33.out.far (p := ⟨mb, 22, none⟩) (Blk.ne_ HK33.out HM3.out.blk (by decide)) _)
  have HBs : Hid (B ≤ W4.heap.size) := hQ (Nat.le_trans H0.out.hB HB4.out.size)
  have HL : Hid (m.next.acts.length = t + 1) := hQ (by simp [Mx.next, Mx.setTop]; exact HT.out)
  have HIX : Hid (InX W4 B iv m.next.inp) := hQ (H0.out.inx.after HB4.out)
  have HE0 : Hid (stepX p m = doX p m.next x) := hQ (by unfold stepX; rw [HXE.out])
  have HTOP := hQ (next_top' (m := m) H0.out.wf.some_)
  clear hW4 c22 f22 hlt HM2 HM3 HK3 HK33 HB23 HB2 HB1 HB3 H HX HFC
  obtain ⟨k, hk⟩ : ∃ k, k = m.next := ⟨_, rfl⟩
  have q0 : k.mem = m.mem := by rw [hk]; rfl
  have q1 : k.use = m.use := by rw [hk]; rfl
  have q2 : k.sp = m.sp := by rw [hk]; rfl
  have q3 : k.ended = false := by rw [hk]; exact H0.out.en
  have q4 : ∀ r, rg k r = rg m r := fun r => by rw [hk]; rfl
  have q5 : k.tp = m.tp := by rw [hk]; rfl
  have q6 : k.deep = m.deep := by rw [hk]; rfl
  have q7 : k.regs.length = 8 := by rw [hk]; exact H0.out.wf.regs
  have q8 : k.trace = m.trace := by rw [hk]; rfl
  have HINP : Hid (k.inp = m.inp) := hQ (by rw [hk]; rfl)
  have HQ := hQ (⟨q0, q1, q2, q3, q4, q5, q6, q7, q8⟩ : k.mem = m.mem ∧ k.use = m.use ∧ k.sp = m.sp ∧ k.ended = false ∧ (∀ r, rg k r = rg m r) ∧ k.tp = m.tp ∧ k.deep = m.deep ∧ k.regs.length = 8 ∧ k.trace = m.trace)
  rw [← hk] at HM4 HL HIX HTOP HE0
  clear hk q0 q1 q2 q3 q4 q5 q6 q7 q8
  have hops := HOPS.out
  obtain ⟨op, xa, xb, xc, xi⟩ := x
  dsimp only at HK4
  obtain ⟨o0, o1, o2, o3, o4, -, -, -, -, -, oz⟩ := HK4.out.c5
  rcases HSUB.out with hs | hs | hs
  · replace HSUB := hQ hs
    clear hs
    rcases HSUB.out with ho | ho
    ·
      dsimp only at ho
      subst ho
      obtain ⟨prm, sz, gx⟩ := hops.gx
      have hj := gx.ja rfl
      dsimp only at hj
      obtain ⟨a, rfl⟩ := Int.eq_ofNat_of_zero_le hj.1
      have HE : Hid (doX p k ⟨20, (a : Int), xb, xc, xi⟩ = k.setTop { k.top with pc := a }) := hQ (by unfold doX; simp)
      have z1 : W4.cell? ⟨g, t * 2 + 1, none⟩ = some (.int .i64 k.top.pc) := by
       obtain ⟨g', t', e1, e2, -, -, -, -, a1, -⟩ := HM4.out.top_cells (by have := HL.out; omega)
       obtain rfl : g = g' := by injection e1 with e1; injection e1
       obtain rfl : t = t' := by have := HL.out; omega
       exact a1
      have zf : W4.frozen? ⟨g, t * 2 + 1, none⟩ = false := HM4.out.own.frozenAt _
      clear hops gx hj
      go_wp2
      go_end0
      rw [HE0.out, HE.out]
      exact ⟨rfl, HB4.out.trans (below_set (p := ⟨g, t * 2 + 1, none⟩) hgB _), _, _, _, _, _, HM4.out.aset HL.out (j := 1) (by omega) (.int .i64 (a : Int)) { k.top with pc := a } (by simp [acV]), HIX.out.after (below_set (p := ⟨g, t * 2 + 1, none⟩) hgB _)⟩
    ·
      dsimp only at ho
      subst ho
      obtain ⟨i, rfl⟩ := Int.eq_ofNat_of_zero_le hops.im.1
      have HE : Hid (doX p k ⟨24, xa, xb, xc, (i : Int)⟩ = ({ k with code := i } : Mx).stop 1) := hQ (by unfold doX; simp)
      have c18 : W4.cell? ⟨mb, 18, none⟩ = some (.int .u64 k.code) := HM4.out.blk.cell 18
      have f18 := HM4.out.blk.frozen 18
      have hlt := HM4.out.blk.lt
      clear hops
      go_upto_region 31 with (fail)
      have HM5 := hQ (HM4.out.mset 18 (.int .u64 (i : Int)) { k with code := i } rfl rfl rfl rfl iv rfl)
      have HB5 : Hid (Below B w (W4.setCell ⟨mb, 18, none⟩ (.int .u64 (i : Int)))) := hQ (HB4.out.trans (below_set (p := ⟨mb, 18, none⟩) hmb _))
      have HI5 := hQ (HIX.out.after (below_set (p := ⟨mb, 18, none⟩) hmb (.int .u64 (i : Int))))
      clear o0 o1 o2 o3 o4 oz c18 f18 hlt
      generalize W4.setCell ⟨mb, 18, none⟩ (.int .u64 (i : Int)) = W5 at *
      go_wp2_with fail
      refine (stop_any _ 1 HM5.out).mono ?_
      rintro e w6 ⟨rfl, m6, b6⟩
      have HM6 := hQ m6
      have HB6 := hQ b6
      clear m6 b6
      go_wp2
      go_end0
      rw [HE0.out, HE.out]
      exact ⟨rfl, HB5.out.trans HB6.out, _, _, _, _, _, HM6.out, HI5.out.after HB6.out⟩
  · replace HSUB := hQ hs
    clear hs
    rcases HSUB.out with ho | ho
    ·
      dsimp only at ho
      subst ho
      obtain ⟨prm, sz, gx⟩ := hops.gx
      have hj := gx.jb rfl
      have hr := gx.ra (.inr rfl)
      dsimp only at hj hr
      obtain ⟨a, rfl⟩ := Int.eq_ofNat_of_zero_le hr.1
      obtain ⟨b, rfl⟩ := Int.eq_ofNat_of_zero_le hj.1
      have ha8 : a < 8 := by have := hr.2; omega
      have hai : (a : Int) < 8 := by omega
      have ha0 : (0 : Int) ≤ (a : Int) := by omega
      obtain ⟨c0, -⟩ := reg_cell HM4.out.blk ha8
      have hlt := HM4.out.blk.lt
      have HE : Hid (doX p k ⟨21, (a : Int), (b : Int), xc, xi⟩ = if (rg k a).1 = 0 then k else k.setTop { k.top with pc := b }) := hQ (by unfold doX; simp)
      obtain ⟨v, hv⟩ : ∃ v, v = (rg k a).1 := ⟨_, rfl⟩
      rw [← hv] at c0 HE
      have HBD : ∀ q, Hid (Below W4.heap.size W4 (W4.drewN q)) := fun q => hQ (below_drewN bR _)
      clear hops gx hj hr hv
      by_cases hv0 : v = 0
      · subst hv0
        go_upto_region 19 with (fail)
        go_quiet (fail)
        go_wp2
        go_end0
        rw [HE0.out, HE.out, if_pos (by first | rfl | trivial)]
        exact ⟨rfl, HB4.out.trans ((HBD _).out.mono HBs.out), _, _, _, _, _, HM4.out.after (HBD _).out, HIX.out.after ((HBD _).out.mono HBs.out)⟩
      · have hvi : ((v : Int) == 0) = false := by rw [beq_eq_false_iff_ne]; omega
        have hvn : ((v : Int) != 0) = true := by simp [hv0]
        have HV0 := hQ hv0
        clear hv0
        go_upto_region 19 with (fail)
        go_quiet (fail)
        have HM5 := hQ (HM4.out.after (HBD nq).out)
        have HB5 := hQ (HB4.out.trans ((HBD nq).out.mono HBs.out))
        have HK5 := hQ (HK4.out.after (HBD nq).out)
        have HI5 := hQ (HIX.out.after ((HBD nq).out.mono HBs.out))
        clear HBD o0 o1 o2 o3 o4 oz c0 hlt
        generalize W4.drewN nq = W5 at *
        obtain ⟨-, -, o2, -, -, -, -, -, -, -, oz⟩ := HK5.out.c5
        have z1 : W5.cell? ⟨g, t * 2 + 1, none⟩ = some (.int .i64 k.top.pc) := by
         obtain ⟨g', t', e1, e2, -, -, -, -, a1, -⟩ := HM5.out.top_cells (by have := HL.out; omega)
         obtain rfl : g = g' := by injection e1 with e1; injection e1
         obtain rfl : t = t' := by have := HL.out; omega
         exact a1
        have zf : W5.frozen? ⟨g, t * 2 + 1, none⟩ = false := HM5.out.own.frozenAt _
        go_wp2
        go_end0
        rw [HE0.out, HE.out, if_neg HV0.out]
        exact ⟨rfl, HB5.out.trans (below_set (p := ⟨g, t * 2 + 1, none⟩) hgB _), _, _, _, _, _, HM5.out.aset HL.out (j := 1) (by omega) (.int .i64 (b : Int)) { k.top with pc := b } (by simp [acV]), HI5.out.after (below_set (p := ⟨g, t * 2 + 1, none⟩) hgB _)⟩
    ·
      dsimp only at ho
      subst ho
      obtain ⟨prm, sz, gx⟩ := hops.gx
      have hj := gx.ca rfl
      have hs := hops.sz rfl
      dsimp only at hj hs
      obtain ⟨a, rfl⟩ := Int.eq_ofNat_of_zero_le hj.1
      have HE : Hid (doX p k ⟨22, (a : Int), xb, xc, xi⟩ = k.call a (szF p a)) := hQ (by unfold doX; simp)
      have hap : a < p.length := by have := hj.2; omega
      obtain ⟨q0, q1, q2, -, -, q5, q6, -, -⟩ := HQ.out
      have HCL := hQ (call_any W4 p cp a (szF p a) hap (by simpa using hs.1.symm) (by simpa using hs.2) H0.out.hp (by have := HL.out; have := HT.out; have := H0.out.big; omega) (by rw [q2, q5]; exact H0.out.sp) (by rw [q5, q0]; exact H0.out.tp) (by rw [q0]; exact H0.out.mem) (by rw [q6]; exact H0.out.dp) (by rw [q1, q0]; exact H0.out.len) HM4.out HBs.out (H0.out.gx.keep fun b _ hn => HB4.out.block b hn))
      clear hops gx hj hs q0 q1 q2 q5 q6
      go_wp2_with fail
      refine HCL.out.mono ?_
      rintro e w5 ⟨rfl, b5, As', cs', m5⟩
      have HM5 := hQ m5
      have HB5 := hQ b5
      clear m5 b5
      go_wp2
      go_end0
      have hinp : (k.call a (szF p a)).inp = k.inp := by unfold Mx.call; split <;> rfl
      rw [HE0.out, HE.out]
      exact ⟨rfl, HB4.out.trans HB5.out, _, _, _, _, _, HM5.out, by rw [hinp]; exact HIX.out.after HB5.out⟩
  · replace HSUB := hQ hs
    clear hs
    have ho := HSUB.out
    dsimp only at ho
    subst ho
    have hs := hops.sz0
    have hmt : k.top.f = m.top.f := by rw [HTOP.out]
    obtain ⟨z, hz⟩ : ∃ z, z = szF p m.top.f := ⟨_, rfl⟩
    rw [← hz] at hs
    have HE : Hid (doX p k ⟨23, xa, xb, xc, xi⟩ = k.leave z) := hQ (by unfold doX; simp [hmt, hz])
    obtain ⟨q0, q1, q2, q3, q4, q5, -, -, -⟩ := HQ.out
    have hsp : k.sp ≤ 1048576 := by rw [q2]; have := H0.out.sp; have := H0.out.tp; have := H0.out.mem; omega
    have hlf : m.top.f < p.length := (H0.out.wf.live _ htop).1
    have hgx4 : Gx W4 0 B (some ad) p := H0.out.gx.keep fun b _ hn => HB4.out.block b hn
    obtain ⟨ad', Ai', ci', hadd', hbl', -, y1, -⟩ := hgx4.whole hlf
    obtain rfl : ad = ad' := by injection hadd'
    rw [← hs.1] at y1
    obtain ⟨g', t', e1, e2, -, -, -, a0, -, -⟩ := HM4.out.top_cells (by have := HL.out; omega)
    obtain rfl : g = g' := by injection e1 with e1; injection e1
    obtain rfl : t = t' := by have := HL.out; omega
    rw [hmt] at a0
    obtain ⟨-, -, -, -, -, -, -, c28, -, -, -, hlt⟩ := HM4.out.cells
    have f28 := HM4.out.blk.frozen 28
    obtain ⟨sp, hsp'⟩ : ∃ sp, sp = k.sp := ⟨_, rfl⟩
    rw [← hsp'] at c28 hsp
    have hzi : (z : Int) < 2147483520 := by have := hs.2; omega
    have hz0 : (0 : Int) ≤ (z : Int) := by omega
    have hsi : (sp : Int) ≤ 1048576 := by omega
    have hs0 : (0 : Int) ≤ (sp : Int) := by omega
    obtain ⟨s2, hs2⟩ : ∃ s2, s2 = sp + z := ⟨_, rfl⟩
    have hs2i : (sp : Int) + (z : Int) = (s2 : Int) := by omega
    have hw2 : IntKind.i64.wrap (s2 : Int) = (s2 : Int) := IntWalk.i64_in _ (by omega)
    have HLV : Hid (k.leave z = if k.acts.length = 1 then ({ k with sp := s2, acts := k.acts.take 0, res := rg k 0 } : Mx).stop 0 else { k with sp := s2, acts := k.acts.take (k.acts.length - 1) }) := hQ (by unfold Mx.leave; rw [hs2, hsp'])
    obtain ⟨tf2, htf2⟩ : ∃ tf2, tf2 = m.top.f := ⟨_, rfl⟩
    rw [← htf2] at a0 y1
    clear hops hs hz q0 q1 q2 q3 q4 q5 hmt hlf hgx4 hadd' hbl' e1 e2 hsp hsp' hs2 htf2
    go_upto_region 24 with (fail)
    go_still_tail 16, (by kernel_rfl)
    change wpList _ _ _ _ _ W4.drew
    go_upto_region 25 with (fail)
    obtain ⟨W5, hW5⟩ : ∃ W5, W5 = (W4.setCell ⟨mb, 28, none⟩ (.int .i64 (s2 : Int))).drew := ⟨_, rfl⟩
    rw [← hW5]
    obtain ⟨k2, hk2⟩ : ∃ k2, k2 = ({ k with sp := s2 } : Mx) := ⟨_, rfl⟩
    have HM5 : Hid (MAt W5 B mb L ad (.slice (some ad) p.length cp) iv (some ⟨g, 0, none⟩) cs At ct k2) := hQ (by
     rw [hW5, hk2]
     exact (HM4.out.mset 28 (.int .i64 (s2 : Int)) { k with sp := s2 } rfl rfl rfl rfl iv rfl).after (bR.drew))
    have HB5 : Hid (Below B w W5) := hQ (by rw [hW5]; exact (HB4.out.trans (below_set (p := ⟨mb, 28, none⟩) hmb _)).drew)
    have HL2 : Hid (k2.acts.length = t + 1) := hQ (by rw [hk2]; exact HL.out)
    have HK2 := hQ hk2
    clear hW5 hk2 o0 o1 o2 o3 o4 oz f28 c28 y1 a0 hlt HB4 hs2i hw2 hzi hz0 hsi hs0
    obtain ⟨-, -, -, -, -, -, -, -, -, c30, -, hlt⟩ := HM5.out.cells
    rw [HL2.out] at c30
    have f30 := HM5.out.blk.frozen 30
    have hcsi : (t : Int) ≤ (cs : Int) := by omega
    have hcs0 : ¬ cs = 0 := by omega
    have hcs1 : 0 < cs := by omega
    have hcs2 : ¬ cs ≤ 0 := by omega
    have hcs3 : t ≤ cs := by omega
    have hwt : IntKind.i64.wrap (t : Int) = (t : Int) := IntWalk.i64_in _ (by omega)
    go_still_tail 14, (by kernel_rfl)
    change wpList _ _ _ _ _ W5.drew
    go_upto_region 26 with (fail)
    obtain ⟨W6, hW6⟩ : ∃ W6, W6 = (W5.setCell ⟨mb, 30, none⟩ (.slice (some ⟨g, 0, none⟩) t cs)).drew := ⟨_, rfl⟩
    rw [← hW6]
    obtain ⟨k3, hk3⟩ : ∃ k3, k3 = ({ k2 with acts := k2.acts.take t } : Mx) := ⟨_, rfl⟩
    have HM6 : Hid (MAt W6 B mb L ad (.slice (some ad) p.length cp) iv (some ⟨g, 0, none⟩) cs At ct k3) := hQ (by
     rw [hW6, hk3]
     exact (HM5.out.pop HL2.out).after (bR.drew))
    have HB6 : Hid (Below B w W6) := hQ (by rw [hW6]; exact (HB5.out.trans (below_set (p := ⟨mb, 30, none⟩) hmb _)).drew)
    have hl6 : k3.acts.length = t := by
     rw [hk3]
     show (k2.acts.take t).length = t
     rw [List.length_take]; have := HL2.out; omega
    have hi6 : k3.inp = k.inp := by rw [hk3, HK2.out]
    have HI6 : Hid (InX W6 B iv k3.inp) := hQ (by rw [hi6]; exact H0.out.inx.after HB6.out |> fun h => (by
     have e : k.inp = m.inp := HINP.out
     rw [e]; exact h))
    have HK3 := hQ hk3
    clear hW6 hk3 hi6 c30 f30 hlt HM5 HB5
    obtain ⟨-, -, -, -, -, -, -, -, -, c30, -, hlt⟩ := HM6.out.cells
    rw [hl6] at c30
    clear hl6
    by_cases h0 : t = 0
    · have e0 : ((t : Int) == 0) = true := by simp [h0]
      have HEL : Hid (k.leave z = ({ k3 with res := rg k3 0 } : Mx).stop 0) := hQ (by
       rw [HLV.out, if_pos (by have := HL.out; omega), HK3.out, HK2.out, h0]
       rfl)
      clear h0
      have r0 : W6.cell? ⟨mb, 0, none⟩ = some (.int .u64 (rg k3 0).1) := HM6.out.blk.cell 0
      have r1 : W6.cell? ⟨mb, 1, none⟩ = some (.int .u64 (rg k3 0).2) := HM6.out.blk.cell 1
      have r2 : W6.cell? ⟨mb, 19, none⟩ = some (.int .u64 k3.res.1) := HM6.out.blk.cell 19
      have r3 : W6.cell? ⟨mb, 20, none⟩ = some (.int .u64 k3.res.2) := HM6.out.blk.cell 20
      have f19 := HM6.out.blk.frozen 19
      have f20 := HM6.out.blk.frozen 20
      go_upto_region 28 with (fail)
      have HM7 := hQ ((HM6.out.mset 19 (.int .u64 (rg k3 0).1) { k3 with res := ((rg k3 0).1, k3.res.2) } rfl rfl rfl rfl iv rfl).mset 20 (.int .u64 (rg k3 0).2) { k3 with res := rg k3 0 } rfl rfl rfl rfl iv rfl)
      have HX7 : Hid (Below B W6 ((W6.setCell ⟨mb, 19, none⟩ (.int .u64 (rg k3 0).1)).setCell ⟨mb, 20, none⟩ (.int .u64 (rg k3 0).2))) := hQ ((below_set (p := ⟨mb, 19, none⟩) hmb _).trans (below_set (p := ⟨mb, 20, none⟩) hmb _))
      clear r0 r1 r2 r3 f19 f20 c30 hlt
      generalize (W6.setCell ⟨mb, 19, none⟩ (.int .u64 (rg k3 0).1)).setCell ⟨mb, 20, none⟩ (.int .u64 (rg k3 0).2) = W7 at *
      go_wp2_with fail
      refine (stop_any _ 0 HM7.out).mono ?_
      rintro e w8 ⟨rfl, m8, b8⟩
      have HM8 := hQ m8
      have HB8 := hQ b8
      clear m8 b8
      go_wp2
      go_end0
      rw [HE0.out, HE.out, HEL.out]
      exact ⟨rfl, HB6.out.trans (HX7.out.trans HB8.out), _, _, _, _, _, HM8.out, HI6.out.after (HX7.out.trans HB8.out)⟩
    · have e0 : ((t : Int) == 0) = false := by rw [beq_eq_false_iff_ne]; omega
      have HEL : Hid (k.leave z = k3) := hQ (by
       rw [HLV.out, if_neg (by have := HL.out; omega), HK3.out, HK2.out, show k.acts.length - 1 = t by have := HL.out; omega])
      clear h0
      go_wp2
      go_end0
      rw [HE0.out, HE.out, HEL.out]
      exact ⟨rfl, HB6.out, _, _, _, _, _, HM6.out, HI6.out⟩
end
end Go.Proofs.YtcnndoefgjbmiaaGreat.pm
