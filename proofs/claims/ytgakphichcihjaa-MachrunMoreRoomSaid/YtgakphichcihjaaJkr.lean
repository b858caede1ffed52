/- One step of the machine: Return. -/
import Derived.Test.YtgakphichcihjaaGJj
namespace Go.Proofs.Ytgakphichcihjaa.pm
open Go.RowKit
set_option linter.unusedVariables false
set_option maxRecDepth 10000
section
variable {B mb cs ct cp : Nat} {L : Pl} {ad : Addr} {iv : Value} {As At : Option Addr} {m : Mx} {p : List Fr}
set_option maxHeartbeats 16000000 in
theorem step_r (w : World) (h : Pre w B mb L ad p cp iv As cs At ct m) (hop : OkX p m (m.ins p)) (hsub : (m.ins p).op = 23) :
    Calls Try.prog 65 #[.pointer (some ⟨mb, 0, none⟩)] w (StepI w B mb L ad (.slice (some ad) p.length cp) (stepX p m)) := by
  obtain ⟨g, t, rfl, ht, hgB, htop, hcs, -⟩ := h.at_.top_cells h.wf.some_
  obtain ⟨-, -, -, -, -, -, -, -, -, c30, -, hlt⟩ := h.at_.cells
  have hbig := h.big
  rw [ht] at c30
  have hti : (t : Int) < (t : Int) + 1 := by omega
  have ht0 : (0 : Int) ≤ (t : Int) := by omega
  have htb : (t : Int) ≤ 1000000 := by omega
  have H0 := Lib.hid h
  have HT := Lib.hid ht
  have hmb := h.at_.hmb
  clear h ht
  go_enter Try.func65, Try.ntmps65
  go_upto_region 0 with (fail)
  go_quiet (fail)
  go_upto_region 1 with (fail)
  have HB1 : Hid (Below w.heap.size w (w.drewN nq)) := Lib.hid (below_drewN (Below.refl _ _) _)
  obtain ⟨W1, hW1⟩ : ∃ W1, W1 = w.drewN nq := ⟨_, rfl⟩
  rw [← hW1] at HB1 ⊢
  clear hW1 c30 hlt
  have H := Lib.hid (H0.out.after HB1.out)
  have h := H.out
  obtain ⟨g', t', e1, e2, -, -, -, a0, a1, hfz⟩ := h.at_.top_cells h.wf.some_
  obtain rfl : g = g' := by injection e1 with e1; injection e1
  obtain rfl : t = t' := by have := HT.out; omega
  obtain ⟨lf, lc⟩ := h.wf.live _ htop
  obtain ⟨ad', Ai, ci, hadd, hbl, -, -, y2, -, -, nx, m1, m2⟩ := h.gx.whole lf
  obtain rfl : ad = ad' := by injection hadd
  obtain ⟨ai, rfl, hbi, x0, x1, x2, x3, x4⟩ := nx.whole lc
  have hpc := h.pc _ htop
  have hst := h.st
  have hB := h.hB
  have hp := h.hp
  obtain ⟨fc, hfc⟩ : ∃ fc, fc = (p.getD m.top.f Fr.z).code := ⟨_, rfl⟩
  obtain ⟨x, hx⟩ : ∃ x, x = fc.getD m.top.pc Ins.z := ⟨_, rfl⟩
  rw [← hfc] at y2 lc x0 x1 x2 x3 x4 m1 m2
  rw [← hx] at x0 x1 x2 x3 x4
  have hxe : m.ins p = x := by rw [hx, hfc]; rfl
  have hop' : OkX p m x := by rw [← hxe]; exact hop
  have HXE := Lib.hid hxe
  have HSUB := Lib.hid (hxe ▸ hsub)
  obtain ⟨pc, hpce⟩ : ∃ pc, pc = m.top.pc := ⟨_, rfl⟩
  obtain ⟨tf, htf⟩ : ∃ tf, tf = m.top.f := ⟨_, rfl⟩
  rw [← hpce] at a1 lc x0 x1 x2 x3 x4 hpc
  rw [← htf] at a0 lf y2
  have hpi : (pc : Int) < (fc.length : Int) := by omega
  have hp0 : (0 : Int) ≤ (pc : Int) := by omega
  have hpc' : (pc : Int) ≤ 1000000 := by omega
  have hst' : (m.steps : Int) ≤ 1000000 := by omega
  have HX := Lib.hid hx
  have HFC := Lib.hid hfc
  have HPC := Lib.hid hpce
  have HTF := Lib.hid htf
  have HOPS := Lib.hid hop'
  clear h hx hfc hpce htf hfz hadd nx hop e1 e2 hxe hsub hop'
  go_cut [3] (fun s3 wx => s3 = .pointer (some ⟨W1.heap.size, 0, none⟩) ∧ Hid (Blk wx W1.heap.size 45 #[.int .i64 x.op, .int .i64 x.a, .int .i64 x.b, .int .i64 x.c, .int .u64 x.imm]) ∧ Hid (Below W1.heap.size W1 wx))
  case first =>
    go_region_held3 (fun W => (W.cell? ⟨g, t * 2, none⟩ = some (.pointer (some (ad.add (tf * 3)))) ∧ W.cell? ⟨g, t * 2 + 1, none⟩ = some (.int .i64 pc)) ∧ W.cell? ⟨(ad.add (tf * 3)).block, (ad.add (tf * 3)).off + 2, none⟩ = some (.slice (some ai) fc.length ci) ∧ (W.cell? (ai.add (pc * 5)) = some (.int .i64 x.op) ∧ W.cell? ⟨(ai.add (pc * 5)).block, (ai.add (pc * 5)).off + 1, none⟩ = some (.int .i64 x.a) ∧ W.cell? ⟨(ai.add (pc * 5)).block, (ai.add (pc * 5)).off + 2, none⟩ = some (.int .i64 x.b) ∧ W.cell? ⟨(ai.add (pc * 5)).block, (ai.add (pc * 5)).off + 3, none⟩ = some (.int .i64 x.c) ∧ W.cell? ⟨(ai.add (pc * 5)).block, (ai.add (pc * 5)).off + 4, none⟩ = some (.int .u64 x.imm))) (first | exact ⟨⟨a0, a1⟩, y2, x0, x1, x2, x3, x4⟩ | go_keep) (fail)
    all_goals go_wp2_with fail
    all_goals go_meet
    all_goals exact ⟨rfl, Lib.hid ((Blk.new _ _ _).drew), Lib.hid (((Below.refl _ _).alloc (Nat.le_refl _) _).drew)⟩
  case rest =>
    obtain ⟨rfl, HK3, HB3⟩ := hcut
    obtain ⟨W2, hW2⟩ : ∃ W2, W2 = wc := ⟨_, rfl⟩
    subst hW2
    have HM2 := Lib.hid (H.out.at_.after HB3.out)
    have HB2 : Hid (Below B w W2) := Lib.hid ((HB1.out.mono (by have := H0.out.hB; omega)).trans (HB3.out.mono hB))
    clear a0 a1 y2 x0 x1 x2 x3 x4
    obtain ⟨g3, hg3⟩ : ∃ g3, g3 = W1.heap.size := ⟨_, rfl⟩
    rw [← hg3] at HK3 ⊢
    have hg3B : B ≤ g3 := by omega
    clear hg3
    have z1 : W2.cell? ⟨g, t * 2 + 1, none⟩ = some (.int .i64 pc) := by
      obtain ⟨g', t', e1, e2, -, -, -, -, a1, -⟩ := HM2.out.top_cells H.out.wf.some_
      obtain rfl : g = g' := by injection e1 with e1; injection e1
      obtain rfl : t = t' := by have := HT.out; omega
      rw [HPC.out]; exact a1
    have zf : W2.frozen? ⟨g, t * 2 + 1, none⟩ = false := HM2.out.own.frozenAt _
    go_upto_region 3 with (fail)
    obtain ⟨W3, hW3⟩ : ∃ W3, W3 = W2.setCell ⟨g, t * 2 + 1, none⟩ (.int .i64 ((pc : Int) + 1)) := ⟨_, rfl⟩
    rw [← hW3]
    have HM3 : Hid (MAt W3 B mb L ad (.slice (some ad) p.length cp) iv (some ⟨g, 0, none⟩) cs At ct (m.setTop { m.top with pc := m.top.pc + 1 })) := Lib.hid (by
      rw [hW3, HPC.out]
      exact HM2.out.aset HT.out (by omega) _ _ (by simp [acV]))
    have HB23 : Hid (Below B W2 W3) := Lib.hid (by rw [hW3]; exact below_set (p := ⟨g, t * 2 + 1, none⟩) hgB _)
    have HK33 : Hid (Blk W3 g3 45 #[.int .i64 x.op, .int .i64 x.a, .int .i64 x.b, .int .i64 x.c, .int .u64 x.imm]) := Lib.hid (by rw [hW3]; exact HK3.out.far (p := ⟨g, t * 2 + 1, none⟩) (fun e => blk_own_ne (gb := 0) HK3.out HM2.out.own (by decide) (by rw [e]; rfl)) _)
    clear hW3 z1 zf
    have c22 : W3.cell? ⟨mb, 22, none⟩ = some (.int .i64 m.steps) := HM3.out.blk.cell 22
    have hlt := HM3.out.blk.lt
    have f22 := HM3.out.blk.frozen 22
    go_upto_region 4 with (fail)
    obtain ⟨W4, hW4⟩ : ∃ W4, W4 = W3.setCell ⟨mb, 22, none⟩ (.int .i64 ((m.steps : Int) + 1)) := ⟨_, rfl⟩
    rw [← hW4]
    have HM4 : Hid (MAt W4 B mb L ad (.slice (some ad) p.length cp) iv (some ⟨g, 0, none⟩) cs At ct m.next) := Lib.hid (by
      rw [hW4]
      exact HM3.out.mset 22 _ m.next rfl rfl rfl rfl iv rfl)
    have HB4 : Hid (Below B w W4) := Lib.hid (by rw [hW4]; exact (HB2.out.trans HB23.out).trans (below_set (p := ⟨mb, 22, none⟩) hmb _))
    have HK4 : Hid (Blk W4 g3 45 #[.int .i64 x.op, .int .i64 x.a, .int .i64 x.b, .int .i64 x.c, .int .u64 x.imm]) := Lib.hid (by rw [hW4]; exact HK33.out.far (p := ⟨mb, 22, none⟩) (Blk.ne_ HK33.out HM3.out.blk (by decide)) _)
    have HBs : Hid (B ≤ W4.heap.size) := Lib.hid (Nat.le_trans H0.out.hB HB4.out.size)
    have HL : Hid (m.next.acts.length = t + 1) := Lib.hid (by simp [Mx.next, Mx.setTop]; exact HT.out)
    have HIX : Hid (InX W4 B iv m.next.inp) := Lib.hid (H0.out.inx.after HB4.out)
    have HE0 : Hid (stepX p m = doX p m.next x) := Lib.hid (by unfold stepX; rw [HXE.out])
    have HTOP := Lib.hid (next_top' (m := m) H0.out.wf.some_)
    clear hW4 c22 f22 hlt HM2 HM3 HK3 HK33 HB23 HB2 HB1 HB3 H HX HFC
    obtain ⟨k, hk⟩ : ∃ k, k = m.next := ⟨_, rfl⟩
    have q0 : k.mem = m.mem := by rw [hk]; rfl
    have q1 : k.use = m.use := by rw [hk]; rfl
    have q2 : k.sp = m.sp := by rw [hk]; rfl
    have q3 : k.ended = false := by rw [hk]; exact H0.out.en
    have q4 : ∀ r, rg k r = rg m r := fun r => by rw [hk]; rfl
    have q5 : k.tp = m.tp := by rw [hk]; rfl
    have q6 : k.deep = m.deep := by rw [hk]; rfl
    have q7 : k.regs.length = 8 := by rw [hk]; exact H0.out.wf.regs
    have q8 : k.trace = m.trace := by rw [hk]; rfl
    have HINP : Hid (k.inp = m.inp) := Lib.hid (by rw [hk]; rfl)
    have HQ := Lib.hid (⟨q0, q1, q2, q3, q4, q5, q6, q7, q8⟩ : k.mem = m.mem ∧ k.use = m.use ∧ k.sp = m.sp ∧ k.ended = false ∧ (∀ r, rg k r = rg m r) ∧ k.tp = m.tp ∧ k.deep = m.deep ∧ k.regs.length = 8 ∧ k.trace = m.trace)
    rw [← hk] at HM4 HL HIX HTOP HE0
    clear hk q0 q1 q2 q3 q4 q5 q6 q7 q8
    have hops := HOPS.out
    obtain ⟨op, xa, xb, xc, xi⟩ := x
    dsimp only at HK4
    obtain ⟨o0, o1, o2, o3, o4, -, -, -, -, -, oz⟩ := HK4.out.c5
    have ho := HSUB.out
    dsimp only at ho
    subst ho
    have hs := hops.sz0
    have hmt : k.top.f = m.top.f := by rw [HTOP.out]
    obtain ⟨z, hz⟩ : ∃ z, z = szF p m.top.f := ⟨_, rfl⟩
    rw [← hz] at hs
    have HE : Hid (doX p k ⟨23, xa, xb, xc, xi⟩ = k.leave z) := Lib.hid (by unfold doX; simp [hmt, hz])
    obtain ⟨q0, q1, q2, q3, q4, q5, -, -, -⟩ := HQ.out
    have hsp : k.sp ≤ 1048576 := by rw [q2]; have := H0.out.sp; have := H0.out.tp; have := H0.out.mem; omega
    have hlf : m.top.f < p.length := (H0.out.wf.live _ htop).1
    have hgx4 : Gx W4 0 B (some ad) p := H0.out.gx.keep fun b _ hn => HB4.out.block b hn
    obtain ⟨ad', Ai', ci', hadd', hbl', -, y1, -⟩ := hgx4.whole hlf
    obtain rfl : ad = ad' := by injection hadd'
    rw [← hs.1] at y1
    obtain ⟨g', t', e1, e2, -, -, -, a0, -, -⟩ := HM4.out.top_cells (by have := HL.out; omega)
    obtain rfl : g = g' := by injection e1 with e1; injection e1
    obtain rfl : t = t' := by have := HL.out; omega
    rw [hmt] at a0
    obtain ⟨-, -, -, -, -, -, -, c28, -, -, -, hlt⟩ := HM4.out.cells
    have f28 := HM4.out.blk.frozen 28
    obtain ⟨sp, hsp'⟩ : ∃ sp, sp = k.sp := ⟨_, rfl⟩
    rw [← hsp'] at c28 hsp
    have hzi : (z : Int) < 2147483520 := by have := hs.2; omega
    have hz0 : (0 : Int) ≤ (z : Int) := by omega
    have hsi : (sp : Int) ≤ 1048576 := by omega
    have hs0 : (0 : Int) ≤ (sp : Int) := by omega
    obtain ⟨s2, hs2⟩ : ∃ s2, s2 = sp + z := ⟨_, rfl⟩
    have hs2i : (sp : Int) + (z : Int) = (s2 : Int) := by omega
    have hw2 : IntKind.i64.wrap (s2 : Int) = (s2 : Int) := IntWalk.i64_in _ (by omega)
    have HLV : Hid (k.leave z = if k.acts.length = 1 then ({ k with sp := s2, acts := k.acts.take 0, res := rg k 0 } : Mx).stop 0 else { k with sp := s2, acts := k.acts.take (k.acts.length - 1) }) := Lib.hid (by unfold Mx.leave; rw [hs2, hsp'])
    obtain ⟨tf2, htf2⟩ : ∃ tf2, tf2 = m.top.f := ⟨_, rfl⟩
    rw [← htf2] at a0 y1
    clear hops hs hz q0 q1 q2 q3 q4 q5 hmt hlf hgx4 hadd' hbl' e1 e2 hsp hsp' hs2 htf2
    go_upto_region 24 with (fail)
    go_still_tail 16, (by kernel_rfl)
    change wpList _ _ _ _ _ W4.drew
    go_upto_region 25 with (fail)
    obtain ⟨W5, hW5⟩ : ∃ W5, W5 = (W4.setCell ⟨mb, 28, none⟩ (.int .i64 (s2 : Int))).drew := ⟨_, rfl⟩
    rw [← hW5]
    obtain ⟨k2, hk2⟩ : ∃ k2, k2 = ({ k with sp := s2 } : Mx) := ⟨_, rfl⟩
    have HM5 : Hid (MAt W5 B mb L ad (.slice (some ad) p.length cp) iv (some ⟨g, 0, none⟩) cs At ct k2) := Lib.hid (by
      rw [hW5, hk2]
      exact (HM4.out.mset 28 (.int .i64 (s2 : Int)) { k with sp := s2 } rfl rfl rfl rfl iv rfl).after ((Below.refl _ _).drew))
    have HB5 : Hid (Below B w W5) := Lib.hid (by rw [hW5]; exact (HB4.out.trans (below_set (p := ⟨mb, 28, none⟩) hmb _)).drew)
    have HL2 : Hid (k2.acts.length = t + 1) := Lib.hid (by rw [hk2]; exact HL.out)
    have HK2 := Lib.hid hk2
    clear hW5 hk2 o0 o1 o2 o3 o4 oz f28 c28 y1 a0 hlt HB4 hs2i hw2 hzi hz0 hsi hs0
    obtain ⟨-, -, -, -, -, -, -, -, -, c30, -, hlt⟩ := HM5.out.cells
    rw [HL2.out] at c30
    have f30 := HM5.out.blk.frozen 30
    have hcsi : (t : Int) ≤ (cs : Int) := by omega
    have hcs0 : ¬ cs = 0 := by omega
    have hcs1 : 0 < cs := by omega
    have hcs2 : ¬ cs ≤ 0 := by omega
    have hcs3 : t ≤ cs := by omega
    have hwt : IntKind.i64.wrap (t : Int) = (t : Int) := IntWalk.i64_in _ (by omega)
    go_still_tail 14, (by kernel_rfl)
    change wpList _ _ _ _ _ W5.drew
    go_upto_region 26 with (fail)
    obtain ⟨W6, hW6⟩ : ∃ W6, W6 = (W5.setCell ⟨mb, 30, none⟩ (.slice (some ⟨g, 0, none⟩) t cs)).drew := ⟨_, rfl⟩
    rw [← hW6]
    obtain ⟨k3, hk3⟩ : ∃ k3, k3 = ({ k2 with acts := k2.acts.take t } : Mx) := ⟨_, rfl⟩
    have HM6 : Hid (MAt W6 B mb L ad (.slice (some ad) p.length cp) iv (some ⟨g, 0, none⟩) cs At ct k3) := Lib.hid (by
      rw [hW6, hk3]
      exact (HM5.out.pop HL2.out).after ((Below.refl _ _).drew))
    have HB6 : Hid (Below B w W6) := Lib.hid (by rw [hW6]; exact (HB5.out.trans (below_set (p := ⟨mb, 30, none⟩) hmb _)).drew)
    have hl6 : k3.acts.length = t := by
      rw [hk3]
      show (k2.acts.take t).length = t
      rw [List.length_take]; have := HL2.out; omega
    have hi6 : k3.inp = k.inp := by rw [hk3, HK2.out]
    have HI6 : Hid (InX W6 B iv k3.inp) := Lib.hid (by rw [hi6]; exact H0.out.inx.after HB6.out |> fun h => (by
      have e : k.inp = m.inp := HINP.out
      rw [e]; exact h))
    have HK3 := Lib.hid hk3
    clear hW6 hk3 hi6 c30 f30 hlt HM5 HB5
    obtain ⟨-, -, -, -, -, -, -, -, -, c30, -, hlt⟩ := HM6.out.cells
    rw [hl6] at c30
    clear hl6
    by_cases h0 : t = 0
    · have e0 : ((t : Int) == 0) = true := by simp [h0]
      have HEL : Hid (k.leave z = ({ k3 with res := rg k3 0 } : Mx).stop 0) := Lib.hid (by
        rw [HLV.out, if_pos (by have := HL.out; omega), HK3.out, HK2.out, h0]
        rfl)
      clear h0
      have r0 : W6.cell? ⟨mb, 0, none⟩ = some (.int .u64 (rg k3 0).1) := HM6.out.blk.cell 0
      have r1 : W6.cell? ⟨mb, 1, none⟩ = some (.int .u64 (rg k3 0).2) := HM6.out.blk.cell 1
      have r2 : W6.cell? ⟨mb, 19, none⟩ = some (.int .u64 k3.res.1) := HM6.out.blk.cell 19
      have r3 : W6.cell? ⟨mb, 20, none⟩ = some (.int .u64 k3.res.2) := HM6.out.blk.cell 20
      have f19 := HM6.out.blk.frozen 19
      have f20 := HM6.out.blk.frozen 20
      go_upto_region 28 with (fail)
      have HM7 := Lib.hid ((HM6.out.mset 19 (.int .u64 (rg k3 0).1) { k3 with res := ((rg k3 0).1, k3.res.2) } rfl rfl rfl rfl iv rfl).mset 20 (.int .u64 (rg k3 0).2) { k3 with res := rg k3 0 } rfl rfl rfl rfl iv rfl)
      have HX7 : Hid (Below B W6 ((W6.setCell ⟨mb, 19, none⟩ (.int .u64 (rg k3 0).1)).setCell ⟨mb, 20, none⟩ (.int .u64 (rg k3 0).2))) := Lib.hid ((below_set (p := ⟨mb, 19, none⟩) hmb _).trans (below_set (p := ⟨mb, 20, none⟩) hmb _))
      clear r0 r1 r2 r3 f19 f20 c30 hlt
      generalize (W6.setCell ⟨mb, 19, none⟩ (.int .u64 (rg k3 0).1)).setCell ⟨mb, 20, none⟩ (.int .u64 (rg k3 0).2) = W7 at *
      go_wp2_with fail
      refine (stop_any _ 0 HM7.out).mono ?_
      rintro e w8 ⟨rfl, m8, b8⟩
      have HM8 := Lib.hid m8
      have HB8 := Lib.hid b8
      clear m8 b8
      go_wp2
      go_end0
      rw [HE0.out, HE.out, HEL.out]
      exact ⟨rfl, HB6.out.trans (HX7.out.trans HB8.out), _, _, _, _, _, HM8.out, HI6.out.after (HX7.out.trans HB8.out)⟩
    · have e0 : ((t : Int) == 0) = false := by rw [beq_eq_false_iff_ne]; omega
      have HEL : Hid (k.leave z = k3) := Lib.hid (by
        rw [HLV.out, if_neg (by have := HL.out; omega), HK3.out, HK2.out, show k.acts.length - 1 = t by have := HL.out; omega])
      clear h0
      go_wp2
      go_end0
      rw [HE0.out, HE.out, HEL.out]
      exact ⟨rfl, HB6.out, _, _, _, _, _, HM6.out, HI6.out⟩
end
end Go.Proofs.Ytgakphichcihjaa.pm
