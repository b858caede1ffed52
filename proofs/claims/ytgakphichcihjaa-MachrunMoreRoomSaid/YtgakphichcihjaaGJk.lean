/- One step of the machine: the operations on registers. -/
import Derived.Test.YtgakphichcihjaaGJj
import Derived.Test.YtgakphichcihjaaJl
namespace Go.Proofs.Ytgakphichcihjaa.pm
open Go.RowKit
set_option linter.unusedVariables false
set_option maxRecDepth 10000
section
variable {B mb cs ct cp : Nat} {L : Pl} {ad : Addr} {iv : Value} {As At : Option Addr} {m : Mx} {p : List Fr}
set_option maxHeartbeats 16000000 in
theorem step_p (w : World) (h : Pre w B mb L ad p cp iv As cs At ct m) (hop : OkX p m (m.ins p)) (hsub : (m.ins p).op ≤ 14) :
    Calls Try.prog 65 #[.pointer (some ⟨mb, 0, none⟩)] w (StepI w B mb L ad (.slice (some ad) p.length cp) (stepX p m)) := by
  obtain ⟨g, t, rfl, ht, hgB, htop, hcs, -⟩ := h.at_.top_cells h.wf.some_
  obtain ⟨-, -, -, -, -, -, -, -, -, c30, -, hlt⟩ := h.at_.cells
  have hbig := h.big
  rw [ht] at c30
  have hti : (t : Int) < (t : Int) + 1 := by omega
  have ht0 : (0 : Int) ≤ (t : Int) := by omega
  have htb : (t : Int) ≤ 1000000 := by omega
  have H0 := Lib.hid h
  have HT := Lib.hid ht
  have hmb := h.at_.hmb
  clear h ht
  go_enter Try.func65, Try.ntmps65
  go_upto_region 0 with (fail)
  go_quiet (fail)
  go_upto_region 1 with (fail)
  have HB1 : Hid (Below w.heap.size w (w.drewN nq)) := Lib.hid (below_drewN (Below.refl _ _) _)
  obtain ⟨W1, hW1⟩ : ∃ W1, W1 = w.drewN nq := ⟨_, rfl⟩
  rw [← hW1] at HB1 ⊢
  clear hW1 c30 hlt
  have H := Lib.hid (H0.out.after HB1.out)
  have h := H.out
  obtain ⟨g', t', e1, e2, -, -, -, a0, a1, hfz⟩ := h.at_.top_cells h.wf.some_
  obtain rfl : g = g' := by injection e1 with e1; injection e1
  obtain rfl : t = t' := by have := HT.out; omega
  obtain ⟨lf, lc⟩ := h.wf.live _ htop
  obtain ⟨ad', Ai, ci, hadd, hbl, -, -, y2, -, -, nx, m1, m2⟩ := h.gx.whole lf
  obtain rfl : ad = ad' := by injection hadd
  obtain ⟨ai, rfl, hbi, x0, x1, x2, x3, x4⟩ := nx.whole lc
  have hpc := h.pc _ htop
  have hst := h.st
  have hB := h.hB
  have hp := h.hp
  obtain ⟨fc, hfc⟩ : ∃ fc, fc = (p.getD m.top.f Fr.z).code := ⟨_, rfl⟩
  obtain ⟨x, hx⟩ : ∃ x, x = fc.getD m.top.pc Ins.z := ⟨_, rfl⟩
  rw [← hfc] at y2 lc x0 x1 x2 x3 x4 m1 m2
  rw [← hx] at x0 x1 x2 x3 x4
  have hxe : m.ins p = x := by rw [hx, hfc]; rfl
  have hop' : OkX p m x := by rw [← hxe]; exact hop
  have HXE := Lib.hid hxe
  have HSUB := Lib.hid (hxe ▸ hsub)
  obtain ⟨pc, hpce⟩ : ∃ pc, pc = m.top.pc := ⟨_, rfl⟩
  obtain ⟨tf, htf⟩ : ∃ tf, tf = m.top.f := ⟨_, rfl⟩
  rw [← hpce] at a1 lc x0 x1 x2 x3 x4 hpc
  rw [← htf] at a0 lf y2
  have hpi : (pc : Int) < (fc.length : Int) := by omega
  have hp0 : (0 : Int) ≤ (pc : Int) := by omega
  have hpc' : (pc : Int) ≤ 1000000 := by omega
  have hst' : (m.steps : Int) ≤ 1000000 := by omega
  have HX := Lib.hid hx
  have HFC := Lib.hid hfc
  have HPC := Lib.hid hpce
  have HTF := Lib.hid htf
  have HOPS := Lib.hid hop'
  clear h hx hfc hpce htf hfz hadd nx hop e1 e2 hxe hsub hop'
  go_cut [3] (fun s3 wx => s3 = .pointer (some ⟨W1.heap.size, 0, none⟩) ∧ Hid (Blk wx W1.heap.size 45 #[.int .i64 x.op, .int .i64 x.a, .int .i64 x.b, .int .i64 x.c, .int .u64 x.imm]) ∧ Hid (Below W1.heap.size W1 wx))
  case first =>
    go_region_held3 (fun W => (W.cell? ⟨g, t * 2, none⟩ = some (.pointer (some (ad.add (tf * 3)))) ∧ W.cell? ⟨g, t * 2 + 1, none⟩ = some (.int .i64 pc)) ∧ W.cell? ⟨(ad.add (tf * 3)).block, (ad.add (tf * 3)).off + 2, none⟩ = some (.slice (some ai) fc.length ci) ∧ (W.cell? (ai.add (pc * 5)) = some (.int .i64 x.op) ∧ W.cell? ⟨(ai.add (pc * 5)).block, (ai.add (pc * 5)).off + 1, none⟩ = some (.int .i64 x.a) ∧ W.cell? ⟨(ai.add (pc * 5)).block, (ai.add (pc * 5)).off + 2, none⟩ = some (.int .i64 x.b) ∧ W.cell? ⟨(ai.add (pc * 5)).block, (ai.add (pc * 5)).off + 3, none⟩ = some (.int .i64 x.c) ∧ W.cell? ⟨(ai.add (pc * 5)).block, (ai.add (pc * 5)).off + 4, none⟩ = some (.int .u64 x.imm))) (first | exact ⟨⟨a0, a1⟩, y2, x0, x1, x2, x3, x4⟩ | go_keep) (fail)
    all_goals go_wp2_with fail
    all_goals go_meet
    all_goals exact ⟨rfl, Lib.hid ((Blk.new _ _ _).drew), Lib.hid (((Below.refl _ _).alloc (Nat.le_refl _) _).drew)⟩
  case rest =>
    obtain ⟨rfl, HK3, HB3⟩ := hcut
    obtain ⟨W2, hW2⟩ : ∃ W2, W2 = wc := ⟨_, rfl⟩
    subst hW2
    have HM2 := Lib.hid (H.out.at_.after HB3.out)
    have HB2 : Hid (Below B w W2) := Lib.hid ((HB1.out.mono (by have := H0.out.hB; omega)).trans (HB3.out.mono hB))
    clear a0 a1 y2 x0 x1 x2 x3 x4
    obtain ⟨g3, hg3⟩ : ∃ g3, g3 = W1.heap.size := ⟨_, rfl⟩
    rw [← hg3] at HK3 ⊢
    have hg3B : B ≤ g3 := by omega
    clear hg3
    have z1 : W2.cell? ⟨g, t * 2 + 1, none⟩ = some (.int .i64 pc) := by
      obtain ⟨g', t', e1, e2, -, -, -, -, a1, -⟩ := HM2.out.top_cells H.out.wf.some_
      obtain rfl : g = g' := by injection e1 with e1; injection e1
      obtain rfl : t = t' := by have := HT.out; omega
      rw [HPC.out]; exact a1
    have zf : W2.frozen? ⟨g, t * 2 + 1, none⟩ = false := HM2.out.own.frozenAt _
    go_upto_region 3 with (fail)
    obtain ⟨W3, hW3⟩ : ∃ W3, W3 = W2.setCell ⟨g, t * 2 + 1, none⟩ (.int .i64 ((pc : Int) + 1)) := ⟨_, rfl⟩
    rw [← hW3]
    have HM3 : Hid (MAt W3 B mb L ad (.slice (some ad) p.length cp) iv (some ⟨g, 0, none⟩) cs At ct (m.setTop { m.top with pc := m.top.pc + 1 })) := Lib.hid (by
      rw [hW3, HPC.out]
      exact HM2.out.aset HT.out (by omega) _ _ (by simp [acV]))
    have HB23 : Hid (Below B W2 W3) := Lib.hid (by rw [hW3]; exact below_set (p := ⟨g, t * 2 + 1, none⟩) hgB _)
    have HK33 : Hid (Blk W3 g3 45 #[.int .i64 x.op, .int .i64 x.a, .int .i64 x.b, .int .i64 x.c, .int .u64 x.imm]) := Lib.hid (by rw [hW3]; exact HK3.out.far (p := ⟨g, t * 2 + 1, none⟩) (fun e => blk_own_ne (gb := 0) HK3.out HM2.out.own (by decide) (by rw [e]; rfl)) _)
    clear hW3 z1 zf
    have c22 : W3.cell? ⟨mb, 22, none⟩ = some (.int .i64 m.steps) := HM3.out.blk.cell 22
    have hlt := HM3.out.blk.lt
    have f22 := HM3.out.blk.frozen 22
    go_upto_region 4 with (fail)
    obtain ⟨W4, hW4⟩ : ∃ W4, W4 = W3.setCell ⟨mb, 22, none⟩ (.int .i64 ((m.steps : Int) + 1)) := ⟨_, rfl⟩
    rw [← hW4]
    have HM4 : Hid (MAt W4 B mb L ad (.slice (some ad) p.length cp) iv (some ⟨g, 0, none⟩) cs At ct m.next) := Lib.hid (by
      rw [hW4]
      exact HM3.out.mset 22 _ m.next rfl rfl rfl rfl iv rfl)
    have HB4 : Hid (Below B w W4) := Lib.hid (by rw [hW4]; exact (HB2.out.trans HB23.out).trans (below_set (p := ⟨mb, 22, none⟩) hmb _))
    have HK4 : Hid (Blk W4 g3 45 #[.int .i64 x.op, .int .i64 x.a, .int .i64 x.b, .int .i64 x.c, .int .u64 x.imm]) := Lib.hid (by rw [hW4]; exact HK33.out.far (p := ⟨mb, 22, none⟩) (Blk.ne_ HK33.out HM3.out.blk (by decide)) _)
    have HBs : Hid (B ≤ W4.heap.size) := Lib.hid (Nat.le_trans H0.out.hB HB4.out.size)
    have HL : Hid (m.next.acts.length = t + 1) := Lib.hid (by simp [Mx.next, Mx.setTop]; exact HT.out)
    have HIX : Hid (InX W4 B iv m.next.inp) := Lib.hid (H0.out.inx.after HB4.out)
    have HE0 : Hid (stepX p m = doX p m.next x) := Lib.hid (by unfold stepX; rw [HXE.out])
    have HTOP := Lib.hid (next_top' (m := m) H0.out.wf.some_)
    clear hW4 c22 f22 hlt HM2 HM3 HK3 HK33 HB23 HB2 HB1 HB3 H HX HFC
    obtain ⟨k, hk⟩ : ∃ k, k = m.next := ⟨_, rfl⟩
    have q0 : k.mem = m.mem := by rw [hk]; rfl
    have q1 : k.use = m.use := by rw [hk]; rfl
    have q2 : k.sp = m.sp := by rw [hk]; rfl
    have q3 : k.ended = false := by rw [hk]; exact H0.out.en
    have q4 : ∀ r, rg k r = rg m r := fun r => by rw [hk]; rfl
    have q5 : k.tp = m.tp := by rw [hk]; rfl
    have q6 : k.deep = m.deep := by rw [hk]; rfl
    have q7 : k.regs.length = 8 := by rw [hk]; exact H0.out.wf.regs
    have q8 : k.trace = m.trace := by rw [hk]; rfl
    have HINP : Hid (k.inp = m.inp) := Lib.hid (by rw [hk]; rfl)
    have HQ := Lib.hid (⟨q0, q1, q2, q3, q4, q5, q6, q7, q8⟩ : k.mem = m.mem ∧ k.use = m.use ∧ k.sp = m.sp ∧ k.ended = false ∧ (∀ r, rg k r = rg m r) ∧ k.tp = m.tp ∧ k.deep = m.deep ∧ k.regs.length = 8 ∧ k.trace = m.trace)
    rw [← hk] at HM4 HL HIX HTOP HE0
    clear hk q0 q1 q2 q3 q4 q5 q6 q7 q8
    have hops := HOPS.out
    obtain ⟨op, xa, xb, xc, xi⟩ := x
    dsimp only at HK4
    obtain ⟨o0, o1, o2, o3, o4, -, -, -, -, -, oz⟩ := HK4.out.c5
    have ho := HSUB.out
    dsimp only at ho
    obtain ⟨prm, sz, gx⟩ := hops.gx
    have hp0 := gx.op.1
    dsimp only at hp0
    obtain ⟨-, -, -, -, q4, -, -, q7, q8⟩ := HQ.out
    have HCM : Hid (∀ W, Below W4.heap.size W4 W → Calls Try.prog 91 #[.pointer (some ⟨mb, 0, none⟩), .agg #[.int .i64 op, .int .i64 xa, .int .i64 xb, .int .i64 xc, .int .u64 xi]] W (StepI W B mb L ad (.slice (some ad) p.length cp) (k.plain ⟨op, xa, xb, xc, xi⟩))) := Lib.hid (fun W hW => comp_any W ⟨op, xa, xb, xc, xi⟩ _ prm sz _ gx ho hops.im.1 q7 (fun r => by rw [q4]; exact H0.out.rgw r) (by rw [q8]; exact H0.out.tr) (HM4.out.after hW) (HIX.out.after (hW.mono HBs.out)) (Nat.le_trans HBs.out hW.size))
    have HE : Hid (doX p k ⟨op, xa, xb, xc, xi⟩ = k.plain ⟨op, xa, xb, xc, xi⟩) := Lib.hid (by
      unfold doX
      dsimp only
      rw [if_neg (by omega), if_neg (by omega), if_neg (by omega), if_neg (by omega), if_neg (by omega), if_neg (by omega), if_neg (by omega), if_neg (by omega)])
    have n15 : (op == 15) = false := by rw [beq_eq_false_iff_ne]; omega
    have n16 : (op == 16) = false := by rw [beq_eq_false_iff_ne]; omega
    have n17 : (op == 17) = false := by rw [beq_eq_false_iff_ne]; omega
    have n20 : (op == 20) = false := by rw [beq_eq_false_iff_ne]; omega
    have n21 : (op == 21) = false := by rw [beq_eq_false_iff_ne]; omega
    have n22 : (op == 22) = false := by rw [beq_eq_false_iff_ne]; omega
    have n23 : (op == 23) = false := by rw [beq_eq_false_iff_ne]; omega
    have n24 : (op == 24) = false := by rw [beq_eq_false_iff_ne]; omega
    have HD1 : Hid (Below W4.heap.size W4 W4.drew) := Lib.hid ((Below.refl _ _).drew)
    clear hops gx hp0 ho q4 q7 q8
    go_upto_region 5 with (fail)
    go_region_with (first
      | (go_at_call 91; refine (HCM.out _ HD1.out).mono ?_; rintro e w5 ⟨rfl, b5, iv5, As5, cs5, At5, ct5, m5, i5⟩; have HM5 := Lib.hid m5; have HI5 := Lib.hid i5; have HB5 := Lib.hid b5; clear m5 i5 b5))
    all_goals go_wp2
    all_goals go_end0
    all_goals rw [HE0.out, HE.out]
    all_goals exact ⟨rfl, HB4.out.trans ((HD1.out.mono HBs.out).trans HB5.out), _, _, _, _, _, HM5.out, HI5.out⟩
end
end Go.Proofs.Ytgakphichcihjaa.pm
namespace Go.Proofs.Ytgakphichcihjaa.pm
open Go.RowKit
set_option linter.unusedVariables false
set_option maxRecDepth 10000
section
variable {B mb cs ct cp : Nat} {L : Pl} {ad : Addr} {iv : Value} {As At : Option Addr} {m : Mx} {p : List Fr}
set_option maxHeartbeats 16000000 in
theorem step_j (w : World) (h : Pre w B mb L ad p cp iv As cs At ct m) (hop : OkX p m (m.ins p)) (hsub : (m.ins p).op = 20 ∨ (m.ins p).op = 24) :
    Calls Try.prog 65 #[.pointer (some ⟨mb, 0, none⟩)] w (StepI w B mb L ad (.slice (some ad) p.length cp) (stepX p m)) := by
  obtain ⟨g, t, rfl, ht, hgB, htop, hcs, -⟩ := h.at_.top_cells h.wf.some_
  obtain ⟨-, -, -, -, -, -, -, -, -, c30, -, hlt⟩ := h.at_.cells
  have hbig := h.big
  rw [ht] at c30
  have hti : (t : Int) < (t : Int) + 1 := by omega
  have ht0 : (0 : Int) ≤ (t : Int) := by omega
  have htb : (t : Int) ≤ 1000000 := by omega
  have H0 := Lib.hid h
  have HT := Lib.hid ht
  have hmb := h.at_.hmb
  clear h ht
  go_enter Try.func65, Try.ntmps65
  go_upto_region 0 with (fail)
  go_quiet (fail)
  go_upto_region 1 with (fail)
  have HB1 : Hid (Below w.heap.size w (w.drewN nq)) := Lib.hid (below_drewN (Below.refl _ _) _)
  obtain ⟨W1, hW1⟩ : ∃ W1, W1 = w.drewN nq := ⟨_, rfl⟩
  rw [← hW1] at HB1 ⊢
  clear hW1 c30 hlt
  have H := Lib.hid (H0.out.after HB1.out)
  have h := H.out
  obtain ⟨g', t', e1, e2, -, -, -, a0, a1, hfz⟩ := h.at_.top_cells h.wf.some_
  obtain rfl : g = g' := by injection e1 with e1; injection e1
  obtain rfl : t = t' := by have := HT.out; omega
  obtain ⟨lf, lc⟩ := h.wf.live _ htop
  obtain ⟨ad', Ai, ci, hadd, hbl, -, -, y2, -, -, nx, m1, m2⟩ := h.gx.whole lf
  obtain rfl : ad = ad' := by injection hadd
  obtain ⟨ai, rfl, hbi, x0, x1, x2, x3, x4⟩ := nx.whole lc
  have hpc := h.pc _ htop
  have hst := h.st
  have hB := h.hB
  have hp := h.hp
  obtain ⟨fc, hfc⟩ : ∃ fc, fc = (p.getD m.top.f Fr.z).code := ⟨_, rfl⟩
  obtain ⟨x, hx⟩ : ∃ x, x = fc.getD m.top.pc Ins.z := ⟨_, rfl⟩
  rw [← hfc] at y2 lc x0 x1 x2 x3 x4 m1 m2
  rw [← hx] at x0 x1 x2 x3 x4
  have hxe : m.ins p = x := by rw [hx, hfc]; rfl
  have hop' : OkX p m x := by rw [← hxe]; exact hop
  have HXE := Lib.hid hxe
  have HSUB := Lib.hid (hxe ▸ hsub)
  obtain ⟨pc, hpce⟩ : ∃ pc, pc = m.top.pc := ⟨_, rfl⟩
  obtain ⟨tf, htf⟩ : ∃ tf, tf = m.top.f := ⟨_, rfl⟩
  rw [← hpce] at a1 lc x0 x1 x2 x3 x4 hpc
  rw [← htf] at a0 lf y2
  have hpi : (pc : Int) < (fc.length : Int) := by omega
  have hp0 : (0 : Int) ≤ (pc : Int) := by omega
  have hpc' : (pc : Int) ≤ 1000000 := by omega
  have hst' : (m.steps : Int) ≤ 1000000 := by omega
  have HX := Lib.hid hx
  have HFC := Lib.hid hfc
  have HPC := Lib.hid hpce
  have HTF := Lib.hid htf
  have HOPS := Lib.hid hop'
  clear h hx hfc hpce htf hfz hadd nx hop e1 e2 hxe hsub hop'
  go_cut [3] (fun s3 wx => s3 = .pointer (some ⟨W1.heap.size, 0, none⟩) ∧ Hid (Blk wx W1.heap.size 45 #[.int .i64 x.op, .int .i64 x.a, .int .i64 x.b, .int .i64 x.c, .int .u64 x.imm]) ∧ Hid (Below W1.heap.size W1 wx))
  case first =>
    go_region_held3 (fun W => (W.cell? ⟨g, t * 2, none⟩ = some (.pointer (some (ad.add (tf * 3)))) ∧ W.cell? ⟨g, t * 2 + 1, none⟩ = some (.int .i64 pc)) ∧ W.cell? ⟨(ad.add (tf * 3)).block, (ad.add (tf * 3)).off + 2, none⟩ = some (.slice (some ai) fc.length ci) ∧ (W.cell? (ai.add (pc * 5)) = some (.int .i64 x.op) ∧ W.cell? ⟨(ai.add (pc * 5)).block, (ai.add (pc * 5)).off + 1, none⟩ = some (.int .i64 x.a) ∧ W.cell? ⟨(ai.add (pc * 5)).block, (ai.add (pc * 5)).off + 2, none⟩ = some (.int .i64 x.b) ∧ W.cell? ⟨(ai.add (pc * 5)).block, (ai.add (pc * 5)).off + 3, none⟩ = some (.int .i64 x.c) ∧ W.cell? ⟨(ai.add (pc * 5)).block, (ai.add (pc * 5)).off + 4, none⟩ = some (.int .u64 x.imm))) (first | exact ⟨⟨a0, a1⟩, y2, x0, x1, x2, x3, x4⟩ | go_keep) (fail)
    all_goals go_wp2_with fail
    all_goals go_meet
    all_goals exact ⟨rfl, Lib.hid ((Blk.new _ _ _).drew), Lib.hid (((Below.refl _ _).alloc (Nat.le_refl _) _).drew)⟩
  case rest =>
    obtain ⟨rfl, HK3, HB3⟩ := hcut
    obtain ⟨W2, hW2⟩ : ∃ W2, W2 = wc := ⟨_, rfl⟩
    subst hW2
    have HM2 := Lib.hid (H.out.at_.after HB3.out)
    have HB2 : Hid (Below B w W2) := Lib.hid ((HB1.out.mono (by have := H0.out.hB; omega)).trans (HB3.out.mono hB))
    clear a0 a1 y2 x0 x1 x2 x3 x4
    obtain ⟨g3, hg3⟩ : ∃ g3, g3 = W1.heap.size := ⟨_, rfl⟩
    rw [← hg3] at HK3 ⊢
    have hg3B : B ≤ g3 := by omega
    clear hg3
    have z1 : W2.cell? ⟨g, t * 2 + 1, none⟩ = some (.int .i64 pc) := by
      obtain ⟨g', t', e1, e2, -, -, -, -, a1, -⟩ := HM2.out.top_cells H.out.wf.some_
      obtain rfl : g = g' := by injection e1 with e1; injection e1
      obtain rfl : t = t' := by have := HT.out; omega
      rw [HPC.out]; exact a1
    have zf : W2.frozen? ⟨g, t * 2 + 1, none⟩ = false := HM2.out.own.frozenAt _
    go_upto_region 3 with (fail)
    obtain ⟨W3, hW3⟩ : ∃ W3, W3 = W2.setCell ⟨g, t * 2 + 1, none⟩ (.int .i64 ((pc : Int) + 1)) := ⟨_, rfl⟩
    rw [← hW3]
    have HM3 : Hid (MAt W3 B mb L ad (.slice (some ad) p.length cp) iv (some ⟨g, 0, none⟩) cs At ct (m.setTop { m.top with pc := m.top.pc + 1 })) := Lib.hid (by
      rw [hW3, HPC.out]
      exact HM2.out.aset HT.out (by omega) _ _ (by simp [acV]))
    have HB23 : Hid (Below B W2 W3) := Lib.hid (by rw [hW3]; exact below_set (p := ⟨g, t * 2 + 1, none⟩) hgB _)
    have HK33 : Hid (Blk W3 g3 45 #[.int .i64 x.op, .int .i64 x.a, .int .i64 x.b, .int .i64 x.c, .int .u64 x.imm]) := Lib.hid (by rw [hW3]; exact HK3.out.far (p := ⟨g, t * 2 + 1, none⟩) (fun e => blk_own_ne (gb := 0) HK3.out HM2.out.own (by decide) (by rw [e]; rfl)) _)
    clear hW3 z1 zf
    have c22 : W3.cell? ⟨mb, 22, none⟩ = some (.int .i64 m.steps) := HM3.out.blk.cell 22
    have hlt := HM3.out.blk.lt
    have f22 := HM3.out.blk.frozen 22
    go_upto_region 4 with (fail)
    obtain ⟨W4, hW4⟩ : ∃ W4, W4 = W3.setCell ⟨mb, 22, none⟩ (.int .i64 ((m.steps : Int) + 1)) := ⟨_, rfl⟩
    rw [← hW4]
    have HM4 : Hid (MAt W4 B mb L ad (.slice (some ad) p.length cp) iv (some ⟨g, 0, none⟩) cs At ct m.next) := Lib.hid (by
      rw [hW4]
      exact HM3.out.mset 22 _ m.next rfl rfl rfl rfl iv rfl)
    have HB4 : Hid (Below B w W4) := Lib.hid (by rw [hW4]; exact (HB2.out.trans HB23.out).trans (below_set (p := ⟨mb, 22, none⟩) hmb _))
    have HK4 : Hid (Blk W4 g3 45 #[.int .i64 x.op, .int .i64 x.a, .int .i64 x.b, .int .i64 x.c, .int .u64 x.imm]) := Lib.hid (by rw [hW4]; exact HK33.out.far (p := ⟨mb, 22, none⟩) (Blk.ne_ HK33.out HM3.out.blk (by decide)) _)
    have HBs : Hid (B ≤ W4.heap.size) := Lib.hid (Nat.le_trans H0.out.hB HB4.out.size)
    have HL : Hid (m.next.acts.length = t + 1) := Lib.hid (by simp [Mx.next, Mx.setTop]; exact HT.out)
    have HIX : Hid (InX W4 B iv m.next.inp) := Lib.hid (H0.out.inx.after HB4.out)
    have HE0 : Hid (stepX p m = doX p m.next x) := Lib.hid (by unfold stepX; rw [HXE.out])
    have HTOP := Lib.hid (next_top' (m := m) H0.out.wf.some_)
    clear hW4 c22 f22 hlt HM2 HM3 HK3 HK33 HB23 HB2 HB1 HB3 H HX HFC
    obtain ⟨k, hk⟩ : ∃ k, k = m.next := ⟨_, rfl⟩
    have q0 : k.mem = m.mem := by rw [hk]; rfl
    have q1 : k.use = m.use := by rw [hk]; rfl
    have q2 : k.sp = m.sp := by rw [hk]; rfl
    have q3 : k.ended = false := by rw [hk]; exact H0.out.en
    have q4 : ∀ r, rg k r = rg m r := fun r => by rw [hk]; rfl
    have q5 : k.tp = m.tp := by rw [hk]; rfl
    have q6 : k.deep = m.deep := by rw [hk]; rfl
    have q7 : k.regs.length = 8 := by rw [hk]; exact H0.out.wf.regs
    have q8 : k.trace = m.trace := by rw [hk]; rfl
    have HINP : Hid (k.inp = m.inp) := Lib.hid (by rw [hk]; rfl)
    have HQ := Lib.hid (⟨q0, q1, q2, q3, q4, q5, q6, q7, q8⟩ : k.mem = m.mem ∧ k.use = m.use ∧ k.sp = m.sp ∧ k.ended = false ∧ (∀ r, rg k r = rg m r) ∧ k.tp = m.tp ∧ k.deep = m.deep ∧ k.regs.length = 8 ∧ k.trace = m.trace)
    rw [← hk] at HM4 HL HIX HTOP HE0
    clear hk q0 q1 q2 q3 q4 q5 q6 q7 q8
    have hops := HOPS.out
    obtain ⟨op, xa, xb, xc, xi⟩ := x
    dsimp only at HK4
    obtain ⟨o0, o1, o2, o3, o4, -, -, -, -, -, oz⟩ := HK4.out.c5
    rcases HSUB.out with ho | ho
    · -- Jump
      dsimp only at ho
      subst ho
      obtain ⟨prm, sz, gx⟩ := hops.gx
      have hj := gx.ja rfl
      dsimp only at hj
      obtain ⟨a, rfl⟩ := Int.eq_ofNat_of_zero_le hj.1
      have HE : Hid (doX p k ⟨20, (a : Int), xb, xc, xi⟩ = k.setTop { k.top with pc := a }) := Lib.hid (by unfold doX; simp)
      have z1 : W4.cell? ⟨g, t * 2 + 1, none⟩ = some (.int .i64 k.top.pc) := by
        obtain ⟨g', t', e1, e2, -, -, -, -, a1, -⟩ := HM4.out.top_cells (by have := HL.out; omega)
        obtain rfl : g = g' := by injection e1 with e1; injection e1
        obtain rfl : t = t' := by have := HL.out; omega
        exact a1
      have zf : W4.frozen? ⟨g, t * 2 + 1, none⟩ = false := HM4.out.own.frozenAt _
      clear hops gx hj
      go_wp2
      go_end0
      rw [HE0.out, HE.out]
      exact ⟨rfl, HB4.out.trans (below_set (p := ⟨g, t * 2 + 1, none⟩) hgB _), _, _, _, _, _, HM4.out.aset HL.out (j := 1) (by omega) (.int .i64 (a : Int)) { k.top with pc := a } (by simp [acV]), HIX.out.after (below_set (p := ⟨g, t * 2 + 1, none⟩) hgB _)⟩
    · -- Trap
      dsimp only at ho
      subst ho
      obtain ⟨i, rfl⟩ := Int.eq_ofNat_of_zero_le hops.im.1
      have HE : Hid (doX p k ⟨24, xa, xb, xc, (i : Int)⟩ = ({ k with code := i } : Mx).stop 1) := Lib.hid (by unfold doX; simp)
      have c18 : W4.cell? ⟨mb, 18, none⟩ = some (.int .u64 k.code) := HM4.out.blk.cell 18
      have f18 := HM4.out.blk.frozen 18
      have hlt := HM4.out.blk.lt
      clear hops
      go_upto_region 31 with (fail)
      have HM5 := Lib.hid (HM4.out.mset 18 (.int .u64 (i : Int)) { k with code := i } rfl rfl rfl rfl iv rfl)
      have HB5 : Hid (Below B w (W4.setCell ⟨mb, 18, none⟩ (.int .u64 (i : Int)))) := Lib.hid (HB4.out.trans (below_set (p := ⟨mb, 18, none⟩) hmb _))
      have HI5 := Lib.hid (HIX.out.after (below_set (p := ⟨mb, 18, none⟩) hmb (.int .u64 (i : Int))))
      clear o0 o1 o2 o3 o4 oz c18 f18 hlt
      generalize W4.setCell ⟨mb, 18, none⟩ (.int .u64 (i : Int)) = W5 at *
      go_wp2_with fail
      refine (stop_any _ 1 HM5.out).mono ?_
      rintro e w6 ⟨rfl, m6, b6⟩
      have HM6 := Lib.hid m6
      have HB6 := Lib.hid b6
      clear m6 b6
      go_wp2
      go_end0
      rw [HE0.out, HE.out]
      exact ⟨rfl, HB5.out.trans HB6.out, _, _, _, _, _, HM6.out, HI5.out.after HB6.out⟩
end
end Go.Proofs.Ytgakphichcihjaa.pm
namespace Go.Proofs.Ytgakphichcihjaa.pm
open Go.RowKit
set_option linter.unusedVariables false
set_option maxRecDepth 10000
section
variable {B mb cs ct cp : Nat} {L : Pl} {ad : Addr} {iv : Value} {As At : Option Addr} {m : Mx} {p : List Fr}
set_option maxHeartbeats 16000000 in
theorem step_b (w : World) (h : Pre w B mb L ad p cp iv As cs At ct m) (hop : OkX p m (m.ins p)) (hsub : (m.ins p).op = 21 ∨ (m.ins p).op = 22) :
    Calls Try.prog 65 #[.pointer (some ⟨mb, 0, none⟩)] w (StepI w B mb L ad (.slice (some ad) p.length cp) (stepX p m)) := by
  obtain ⟨g, t, rfl, ht, hgB, htop, hcs, -⟩ := h.at_.top_cells h.wf.some_
  obtain ⟨-, -, -, -, -, -, -, -, -, c30, -, hlt⟩ := h.at_.cells
  have hbig := h.big
  rw [ht] at c30
  have hti : (t : Int) < (t : Int) + 1 := by omega
  have ht0 : (0 : Int) ≤ (t : Int) := by omega
  have htb : (t : Int) ≤ 1000000 := by omega
  have H0 := Lib.hid h
  have HT := Lib.hid ht
  have hmb := h.at_.hmb
  clear h ht
  go_enter Try.func65, Try.ntmps65
  go_upto_region 0 with (fail)
  go_quiet (fail)
  go_upto_region 1 with (fail)
  have HB1 : Hid (Below w.heap.size w (w.drewN nq)) := Lib.hid (below_drewN (Below.refl _ _) _)
  obtain ⟨W1, hW1⟩ : ∃ W1, W1 = w.drewN nq := ⟨_, rfl⟩
  rw [← hW1] at HB1 ⊢
  clear hW1 c30 hlt
  have H := Lib.hid (H0.out.after HB1.out)
  have h := H.out
  obtain ⟨g', t', e1, e2, -, -, -, a0, a1, hfz⟩ := h.at_.top_cells h.wf.some_
  obtain rfl : g = g' := by injection e1 with e1; injection e1
  obtain rfl : t = t' := by have := HT.out; omega
  obtain ⟨lf, lc⟩ := h.wf.live _ htop
  obtain ⟨ad', Ai, ci, hadd, hbl, -, -, y2, -, -, nx, m1, m2⟩ := h.gx.whole lf
  obtain rfl : ad = ad' := by injection hadd
  obtain ⟨ai, rfl, hbi, x0, x1, x2, x3, x4⟩ := nx.whole lc
  have hpc := h.pc _ htop
  have hst := h.st
  have hB := h.hB
  have hp := h.hp
  obtain ⟨fc, hfc⟩ : ∃ fc, fc = (p.getD m.top.f Fr.z).code := ⟨_, rfl⟩
  obtain ⟨x, hx⟩ : ∃ x, x = fc.getD m.top.pc Ins.z := ⟨_, rfl⟩
  rw [← hfc] at y2 lc x0 x1 x2 x3 x4 m1 m2
  rw [← hx] at x0 x1 x2 x3 x4
  have hxe : m.ins p = x := by rw [hx, hfc]; rfl
  have hop' : OkX p m x := by rw [← hxe]; exact hop
  have HXE := Lib.hid hxe
  have HSUB := Lib.hid (hxe ▸ hsub)
  obtain ⟨pc, hpce⟩ : ∃ pc, pc = m.top.pc := ⟨_, rfl⟩
  obtain ⟨tf, htf⟩ : ∃ tf, tf = m.top.f := ⟨_, rfl⟩
  rw [← hpce] at a1 lc x0 x1 x2 x3 x4 hpc
  rw [← htf] at a0 lf y2
  have hpi : (pc : Int) < (fc.length : Int) := by omega
  have hp0 : (0 : Int) ≤ (pc : Int) := by omega
  have hpc' : (pc : Int) ≤ 1000000 := by omega
  have hst' : (m.steps : Int) ≤ 1000000 := by omega
  have HX := Lib.hid hx
  have HFC := Lib.hid hfc
  have HPC := Lib.hid hpce
  have HTF := Lib.hid htf
  have HOPS := Lib.hid hop'
  clear h hx hfc hpce htf hfz hadd nx hop e1 e2 hxe hsub hop'
  go_cut [3] (fun s3 wx => s3 = .pointer (some ⟨W1.heap.size, 0, none⟩) ∧ Hid (Blk wx W1.heap.size 45 #[.int .i64 x.op, .int .i64 x.a, .int .i64 x.b, .int .i64 x.c, .int .u64 x.imm]) ∧ Hid (Below W1.heap.size W1 wx))
  case first =>
    go_region_held3 (fun W => (W.cell? ⟨g, t * 2, none⟩ = some (.pointer (some (ad.add (tf * 3)))) ∧ W.cell? ⟨g, t * 2 + 1, none⟩ = some (.int .i64 pc)) ∧ W.cell? ⟨(ad.add (tf * 3)).block, (ad.add (tf * 3)).off + 2, none⟩ = some (.slice (some ai) fc.length ci) ∧ (W.cell? (ai.add (pc * 5)) = some (.int .i64 x.op) ∧ W.cell? ⟨(ai.add (pc * 5)).block, (ai.add (pc * 5)).off + 1, none⟩ = some (.int .i64 x.a) ∧ W.cell? ⟨(ai.add (pc * 5)).block, (ai.add (pc * 5)).off + 2, none⟩ = some (.int .i64 x.b) ∧ W.cell? ⟨(ai.add (pc * 5)).block, (ai.add (pc * 5)).off + 3, none⟩ = some (.int .i64 x.c) ∧ W.cell? ⟨(ai.add (pc * 5)).block, (ai.add (pc * 5)).off + 4, none⟩ = some (.int .u64 x.imm))) (first | exact ⟨⟨a0, a1⟩, y2, x0, x1, x2, x3, x4⟩ | go_keep) (fail)
    all_goals go_wp2_with fail
    all_goals go_meet
    all_goals exact ⟨rfl, Lib.hid ((Blk.new _ _ _).drew), Lib.hid (((Below.refl _ _).alloc (Nat.le_refl _) _).drew)⟩
  case rest =>
    obtain ⟨rfl, HK3, HB3⟩ := hcut
    obtain ⟨W2, hW2⟩ : ∃ W2, W2 = wc := ⟨_, rfl⟩
    subst hW2
    have HM2 := Lib.hid (H.out.at_.after HB3.out)
    have HB2 : Hid (Below B w W2) := Lib.hid ((HB1.out.mono (by have := H0.out.hB; omega)).trans (HB3.out.mono hB))
    clear a0 a1 y2 x0 x1 x2 x3 x4
    obtain ⟨g3, hg3⟩ : ∃ g3, g3 = W1.heap.size := ⟨_, rfl⟩
    rw [← hg3] at HK3 ⊢
    have hg3B : B ≤ g3 := by omega
    clear hg3
    have z1 : W2.cell? ⟨g, t * 2 + 1, none⟩ = some (.int .i64 pc) := by
      obtain ⟨g', t', e1, e2, -, -, -, -, a1, -⟩ := HM2.out.top_cells H.out.wf.some_
      obtain rfl : g = g' := by injection e1 with e1; injection e1
      obtain rfl : t = t' := by have := HT.out; omega
      rw [HPC.out]; exact a1
    have zf : W2.frozen? ⟨g, t * 2 + 1, none⟩ = false := HM2.out.own.frozenAt _
    go_upto_region 3 with (fail)
    obtain ⟨W3, hW3⟩ : ∃ W3, W3 = W2.setCell ⟨g, t * 2 + 1, none⟩ (.int .i64 ((pc : Int) + 1)) := ⟨_, rfl⟩
    rw [← hW3]
    have HM3 : Hid (MAt W3 B mb L ad (.slice (some ad) p.length cp) iv (some ⟨g, 0, none⟩) cs At ct (m.setTop { m.top with pc := m.top.pc + 1 })) := Lib.hid (by
      rw [hW3, HPC.out]
      exact HM2.out.aset HT.out (by omega) _ _ (by simp [acV]))
    have HB23 : Hid (Below B W2 W3) := Lib.hid (by rw [hW3]; exact below_set (p := ⟨g, t * 2 + 1, none⟩) hgB _)
    have HK33 : Hid (Blk W3 g3 45 #[.int .i64 x.op, .int .i64 x.a, .int .i64 x.b, .int .i64 x.c, .int .u64 x.imm]) := Lib.hid (by rw [hW3]; exact HK3.out.far (p := ⟨g, t * 2 + 1, none⟩) (fun e => blk_own_ne (gb := 0) HK3.out HM2.out.own (by decide) (by rw [e]; rfl)) _)
    clear hW3 z1 zf
    have c22 : W3.cell? ⟨mb, 22, none⟩ = some (.int .i64 m.steps) := HM3.out.blk.cell 22
    have hlt := HM3.out.blk.lt
    have f22 := HM3.out.blk.frozen 22
    go_upto_region 4 with (fail)
    obtain ⟨W4, hW4⟩ : ∃ W4, W4 = W3.setCell ⟨mb, 22, none⟩ (.int .i64 ((m.steps : Int) + 1)) := ⟨_, rfl⟩
    rw [← hW4]
    have HM4 : Hid (MAt W4 B mb L ad (.slice (some ad) p.length cp) iv (some ⟨g, 0, none⟩) cs At ct m.next) := Lib.hid (by
      rw [hW4]
      exact HM3.out.mset 22 _ m.next rfl rfl rfl rfl iv rfl)
    have HB4 : Hid (Below B w W4) := Lib.hid (by rw [hW4]; exact (HB2.out.trans HB23.out).trans (below_set (p := ⟨mb, 22, none⟩) hmb _))
    have HK4 : Hid (Blk W4 g3 45 #[.int .i64 x.op, .int .i64 x.a, .int .i64 x.b, .int .i64 x.c, .int .u64 x.imm]) := Lib.hid (by rw [hW4]; exact HK33.out.far (p := ⟨mb, 22, none⟩) (Blk.ne_ HK33.out HM3.out.blk (by decide)) _)
    have HBs : Hid (B ≤ W4.heap.size) := Lib.hid (Nat.le_trans H0.out.hB HB4.out.size)
    have HL : Hid (m.next.acts.length = t + 1) := Lib.hid (by simp [Mx.next, Mx.setTop]; exact HT.out)
    have HIX : Hid (InX W4 B iv m.next.inp) := Lib.hid (H0.out.inx.after HB4.out)
    have HE0 : Hid (stepX p m = doX p m.next x) := Lib.hid (by unfold stepX; rw [HXE.out])
    have HTOP := Lib.hid (next_top' (m := m) H0.out.wf.some_)
    clear hW4 c22 f22 hlt HM2 HM3 HK3 HK33 HB23 HB2 HB1 HB3 H HX HFC
    obtain ⟨k, hk⟩ : ∃ k, k = m.next := ⟨_, rfl⟩
    have q0 : k.mem = m.mem := by rw [hk]; rfl
    have q1 : k.use = m.use := by rw [hk]; rfl
    have q2 : k.sp = m.sp := by rw [hk]; rfl
    have q3 : k.ended = false := by rw [hk]; exact H0.out.en
    have q4 : ∀ r, rg k r = rg m r := fun r => by rw [hk]; rfl
    have q5 : k.tp = m.tp := by rw [hk]; rfl
    have q6 : k.deep = m.deep := by rw [hk]; rfl
    have q7 : k.regs.length = 8 := by rw [hk]; exact H0.out.wf.regs
    have q8 : k.trace = m.trace := by rw [hk]; rfl
    have HINP : Hid (k.inp = m.inp) := Lib.hid (by rw [hk]; rfl)
    have HQ := Lib.hid (⟨q0, q1, q2, q3, q4, q5, q6, q7, q8⟩ : k.mem = m.mem ∧ k.use = m.use ∧ k.sp = m.sp ∧ k.ended = false ∧ (∀ r, rg k r = rg m r) ∧ k.tp = m.tp ∧ k.deep = m.deep ∧ k.regs.length = 8 ∧ k.trace = m.trace)
    rw [← hk] at HM4 HL HIX HTOP HE0
    clear hk q0 q1 q2 q3 q4 q5 q6 q7 q8
    have hops := HOPS.out
    obtain ⟨op, xa, xb, xc, xi⟩ := x
    dsimp only at HK4
    obtain ⟨o0, o1, o2, o3, o4, -, -, -, -, -, oz⟩ := HK4.out.c5
    rcases HSUB.out with ho | ho
    · -- Branch
      dsimp only at ho
      subst ho
      obtain ⟨prm, sz, gx⟩ := hops.gx
      have hj := gx.jb rfl
      have hr := gx.ra (.inr rfl)
      dsimp only at hj hr
      obtain ⟨a, rfl⟩ := Int.eq_ofNat_of_zero_le hr.1
      obtain ⟨b, rfl⟩ := Int.eq_ofNat_of_zero_le hj.1
      have ha8 : a < 8 := by have := hr.2; omega
      have hai : (a : Int) < 8 := by omega
      have ha0 : (0 : Int) ≤ (a : Int) := by omega
      obtain ⟨c0, -⟩ := reg_cell HM4.out.blk ha8
      have hlt := HM4.out.blk.lt
      have HE : Hid (doX p k ⟨21, (a : Int), (b : Int), xc, xi⟩ = if (rg k a).1 = 0 then k else k.setTop { k.top with pc := b }) := Lib.hid (by unfold doX; simp)
      obtain ⟨v, hv⟩ : ∃ v, v = (rg k a).1 := ⟨_, rfl⟩
      rw [← hv] at c0 HE
      have HBD : ∀ q, Hid (Below W4.heap.size W4 (W4.drewN q)) := fun q => Lib.hid (below_drewN (Below.refl _ _) _)
      clear hops gx hj hr hv
      by_cases hv0 : v = 0
      · subst hv0
        go_upto_region 19 with (fail)
        go_quiet (fail)
        go_wp2
        go_end0
        rw [HE0.out, HE.out, if_pos (by first | rfl | trivial)]
        exact ⟨rfl, HB4.out.trans ((HBD _).out.mono HBs.out), _, _, _, _, _, HM4.out.after (HBD _).out, HIX.out.after ((HBD _).out.mono HBs.out)⟩
      · have hvi : ((v : Int) == 0) = false := by rw [beq_eq_false_iff_ne]; omega
        have hvn : ((v : Int) != 0) = true := by simp [hv0]
        have HV0 := Lib.hid hv0
        clear hv0
        go_upto_region 19 with (fail)
        go_quiet (fail)
        have HM5 := Lib.hid (HM4.out.after (HBD nq).out)
        have HB5 := Lib.hid (HB4.out.trans ((HBD nq).out.mono HBs.out))
        have HK5 := Lib.hid (HK4.out.after (HBD nq).out)
        have HI5 := Lib.hid (HIX.out.after ((HBD nq).out.mono HBs.out))
        clear HBD o0 o1 o2 o3 o4 oz c0 hlt
        generalize W4.drewN nq = W5 at *
        obtain ⟨-, -, o2, -, -, -, -, -, -, -, oz⟩ := HK5.out.c5
        have z1 : W5.cell? ⟨g, t * 2 + 1, none⟩ = some (.int .i64 k.top.pc) := by
          obtain ⟨g', t', e1, e2, -, -, -, -, a1, -⟩ := HM5.out.top_cells (by have := HL.out; omega)
          obtain rfl : g = g' := by injection e1 with e1; injection e1
          obtain rfl : t = t' := by have := HL.out; omega
          exact a1
        have zf : W5.frozen? ⟨g, t * 2 + 1, none⟩ = false := HM5.out.own.frozenAt _
        go_wp2
        go_end0
        rw [HE0.out, HE.out, if_neg HV0.out]
        exact ⟨rfl, HB5.out.trans (below_set (p := ⟨g, t * 2 + 1, none⟩) hgB _), _, _, _, _, _, HM5.out.aset HL.out (j := 1) (by omega) (.int .i64 (b : Int)) { k.top with pc := b } (by simp [acV]), HI5.out.after (below_set (p := ⟨g, t * 2 + 1, none⟩) hgB _)⟩
    · -- Call
      dsimp only at ho
      subst ho
      obtain ⟨prm, sz, gx⟩ := hops.gx
      have hj := gx.ca rfl
      have hs := hops.sz rfl
      dsimp only at hj hs
      obtain ⟨a, rfl⟩ := Int.eq_ofNat_of_zero_le hj.1
      have HE : Hid (doX p k ⟨22, (a : Int), xb, xc, xi⟩ = k.call a (szF p a)) := Lib.hid (by unfold doX; simp)
      have hap : a < p.length := by have := hj.2; omega
      obtain ⟨q0, q1, q2, -, -, q5, q6, -, -⟩ := HQ.out
      have HCL := Lib.hid (call_any W4 p cp a (szF p a) hap (by simpa using hs.1.symm) (by simpa using hs.2) H0.out.hp (by have := HL.out; have := HT.out; have := H0.out.big; omega) (by rw [q2, q5]; exact H0.out.sp) (by rw [q5, q0]; exact H0.out.tp) (by rw [q0]; exact H0.out.mem) (by rw [q6]; exact H0.out.dp) (by rw [q1, q0]; exact H0.out.len) HM4.out HBs.out (H0.out.gx.keep fun b _ hn => HB4.out.block b hn))
      clear hops gx hj hs q0 q1 q2 q5 q6
      go_wp2_with fail
      refine HCL.out.mono ?_
      rintro e w5 ⟨rfl, b5, As', cs', m5⟩
      have HM5 := Lib.hid m5
      have HB5 := Lib.hid b5
      clear m5 b5
      go_wp2
      go_end0
      have hinp : (k.call a (szF p a)).inp = k.inp := by unfold Mx.call; split <;> rfl
      rw [HE0.out, HE.out]
      exact ⟨rfl, HB4.out.trans HB5.out, _, _, _, _, _, HM5.out, by rw [hinp]; exact HIX.out.after HB5.out⟩
end
end Go.Proofs.Ytgakphichcihjaa.pm
