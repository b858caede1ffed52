/- One step of the machine: one of three. -/
import Derived.Test.YtcnndoefgjbmiaaGreatGJj
set_option linter.unusedVariables false
set_option maxRecDepth 10000
set_option maxHeartbeats 8000000
namespace Go.Proofs.YtcnndoefgjbmiaaGreat.pm
open Go.RowKit
section
variable {B mb cs ct cp : Nat} {L : Pl} {ad : Addr} {iv : Value} {As At : Option Addr} {m : Mx} {p : List Fr}
theorem step_kc (w : World) (h : Pre w B mb L ad p cp iv As cs At ct m) (hop : OkX p m (m.ins p)) (hsub : ((m.ins p).op = 16 ∨ (m.ins p).op = 17)) :
 Calls Tryz.prog 30 #[.pointer (some ⟨mb, 0, none⟩)] w (StepI w B mb L ad (.slice (some ad) p.length cp) (stepX p m)) := by
 obtain ⟨g, t, rfl, ht, hgB, htop, hcs, -⟩ := h.at_.top_cells h.wf.some_
 obtain ⟨-, -, -, -, -, -, -, -, -, c30, -, hlt⟩ := h.at_.cells
 have hbig := h.big
 rw [ht] at c30
 have hti : (t : Int) < (t : Int) + 1 := by omega
 have ht0 : (0 : Int) ≤ (t : Int) := by omega
 have htb : (t : Int) ≤ 1000000 := by omega
 have H0 := hQ h
 have HT := hQ ht
 have hmb := h.at_.hmb
 clear h ht
 go_enter Tryz.func30, Tryz.ntmps30
 go_upto_region 0 with (fail)
 go_quiet (fail)
 go_upto_region 1 with (fail)
 have HB1 : Hid (Below w.heap.size w (w.drewN nq)) := hQ (below_drewN bR _)
 obtain ⟨W1, hW1⟩ : ∃ W1, W1 = w.drewN nq := ⟨_, rfl⟩
 rw [← hW1] at HB1 ⊢
 clear hW1 c30 hlt
 have H := hQ (H0.out.after HB1.out)
 have h := H.out
 obtain ⟨g', t', e1, e2, -, -, -, a0, a1, hfz⟩ := h.at_.top_cells h.wf.some_
 obtain rfl : g = g' := by injection e1 with e1; injection e1
 obtain rfl : t = t' := by have := HT.out; omega
 obtain ⟨lf, lc⟩ := h.wf.live _ htop
 obtain ⟨ad', Ai, ci, hadd, hbl, -, -, y2, -, -, nx, m1, m2⟩ := h.gx.whole lf
 obtain rfl : ad = ad' := by injection hadd
 obtain ⟨ai, rfl, hbi, x0, x1, x2, x3, x4⟩ := nx.whole lc
 have hpc := h.pc _ htop
 have hst := h.st
 have hB := h.hB
 have hp := h.hp
 obtain ⟨fc, hfc⟩ : ∃ fc, fc = (p.getD m.top.f Fr.z).code := ⟨_, rfl⟩
 obtain ⟨x, hx⟩ : ∃ x, x = fc.getD m.top.pc Ins.z := ⟨_, rfl⟩
 rw [← hfc] at y2 lc x0 x1 x2 x3 x4 m1 m2
 rw [← hx] at x0 x1 x2 x3 x4
 have hxe : m.ins p = x := by rw [hx, hfc]; rfl
 have hop' : OkX p m x := by rw [← hxe]; exact hop
 have HXE := hQ hxe
 have HSUB := hQ (hxe ▸ hsub)
 obtain ⟨pc, hpce⟩ : ∃ pc, pc = m.top.pc := ⟨_, rfl⟩
 obtain ⟨tf, htf⟩ : ∃ tf, tf = m.top.f := ⟨_, rfl⟩
 rw [← hpce] at a1 lc x0 x1 x2 x3 x4 hpc
 rw [← htf] at a0 lf y2
 have hpi : (pc : Int) < (fc.length : Int) := by omega
 have hp0 : (0 : Int) ≤ (pc : Int) := by omega
 have hpc' : (pc : Int) ≤ 1000000 := by omega
 have hst' : (m.steps : Int) ≤ 1000000 := by omega
 have HX := hQ hx
 have HFC := hQ hfc
 have HPC := hQ hpce
 have HTF := hQ htf
 have HOPS := hQ hop'
 clear h hx hfc hpce htf hfz hadd nx hop e1 e2 hxe hsub hop'
 go_cut [3] (fun s3 wx => s3 = .pointer (some ⟨W1.heap.size, 0, none⟩) ∧ Hid (Blk wx W1.heap.size 50 #[.int .i64 x.op, .int .i64 x.a, .int .i64 x.b, .int .i64 x.c, .int .u64 x.imm]) ∧ Hid (Below W1.heap.size W1 wx))
 case first =>
  go_region_held3 (fun W => (W.cell? ⟨g, t * 2, none⟩ = some (.pointer (some (ad.add (tf * 3)))) ∧ W.cell? ⟨g, t * 2 + 1, none⟩ = some (.int .i64 pc)) ∧ W.cell? ⟨(ad.add (tf * 3)).block, (ad.add (tf * 3)).off + 2, none⟩ = some (.slice (some ai) fc.length ci) ∧ (W.cell? (ai.add (pc * 5)) = some (.int .i64 x.op) ∧ W.cell? ⟨(ai.add (pc * 5)).block, (ai.add (pc * 5)).off + 1, none⟩ = some (.int .i64 x.a) ∧ W.cell? ⟨(ai.add (pc * 5)).block, (ai.add (pc * 5)).off + 2, none⟩ = some (.int .i64 x.b) ∧ W.cell? ⟨(ai.add (pc * 5)).block, (ai.add (pc * 5)).off + 3, none⟩ = some (.int .i64 x.c) ∧ W.cell? ⟨(ai.add (pc * 5)).block, (ai.add (pc * 5)).off + 4, none⟩ = some (.int .u64 x.imm))) (first | exact ⟨⟨a0, a1⟩, y2, x0, x1, x2, x3, x4⟩ | go_keep) (fail)
  all_goals go_wp2_with fail
  all_goals go_meet
  all_goals exact ⟨rfl, hQ ((Blk.new _ _ _).drew), hQ ((bR.alloc nL _).drew)⟩
 case rest =>
  obtain ⟨rfl, HK3, HB3⟩ := hcut
  obtain ⟨W2, hW2⟩ : ∃ W2, W2 = wc := ⟨_, rfl⟩
  subst hW2
  have HM2 := hQ (H.out.at_.after HB3.out)
  have HB2 : Hid (Below B w W2) := hQ ((HB1.out.mono (by have := H0.out.hB; omega)).trans (HB3.out.mono hB))
  clear a0 a1 y2 x0 x1 x2 x3 x4
  obtain ⟨g3, hg3⟩ : ∃ g3, g3 = W1.heap.size := ⟨_, rfl⟩
  rw [← hg3] at HK3 ⊢
  have hg3B : B ≤ g3 := by omega
  clear hg3
  have z1 : W2.cell? ⟨g, t * 2 + 1, none⟩ = some (.int .i64 pc) := by
   obtain ⟨g', t', e1, e2, -, -, -, -, a1, -⟩ := HM2.out.top_cells H.out.wf.some_
   obtain rfl : g = g' := by injection e1 with e1; injection e1
   obtain rfl : t = t' := by have := HT.out; omega
   rw [HPC.out]; exact a1
  have zf : W2.frozen? ⟨g, t * 2 + 1, none⟩ = false := HM2.out.own.frozenAt _
  go_upto_region 3 with (fail)
  obtain ⟨W3, hW3⟩ : ∃ W3, W3 = W2.setCell ⟨g, t * 2 + 1, none⟩ (.int .i64 ((pc : Int) + 1)) := ⟨_, rfl⟩
  rw [← hW3]
  have HM3 : Hid (MAt W3 B mb L ad (.slice (some ad) p.length cp) iv (some ⟨g, 0, none⟩) cs At ct (m.setTop { m.top with pc := m.top.pc + 1 })) := hQ (by
   rw [hW3, HPC.out]
   exact HM2.out.aset HT.out (by omega) _ _ (by simp [acV]))
  have HB23 : Hid (Below B W2 W3) := hQ (by rw [hW3]; exact below_set (p := ⟨g, t * 2 + 1, none⟩) hgB _)
  have HK33 : Hid (Blk W3 g3 50 #[.int .i64 x.op, .int .i64 x.a, .int .i64 x.b, .int .i64 x.c, .int .u64 x.imm]) := hQ (by rw [hW3]; exact HK3.out.far (p := ⟨g, t * 2 + 1, none⟩) (fun e => blk_own_ne (gb := 0) HK3.out HM2.out.own (by decide) (by rw [e]; rfl)) _)
  clear hW3 z1 zf
  have c22 : W3.cell? ⟨mb, 22, none⟩ = some (.int .i64 m.steps) := HM3.out.blk.cell 22
  have hlt := HM3.out.blk.lt
  have f22 := HM3.out.blk.frozen 22
  go_upto_region 4 with (fail)
  obtain ⟨W4, hW4⟩ : ∃ W4, W4 = W3.setCell ⟨mb, 22, none⟩ (.int .i64 ((m.steps : Int) + 1)) := ⟨_, rfl⟩
  rw [← hW4]
  have HM4 : Hid (MAt W4 B mb L ad (.slice (some ad) p.length cp) iv (some ⟨g, 0, none⟩) cs At ct m.next) := hQ (by
   rw [hW4]
   exact HM3.out.mset 22 _ m.next rfl rfl rfl rfl iv rfl)
  have HB4 : Hid (Below B w W4) := hQ (by rw [hW4]; exact (HB2.out.trans HB23.out).trans (below_set (p := ⟨mb, 22, none⟩) hmb _))
  have HK4 : Hid (Blk W4 g3 50 #[.int .i64 x.op, .int .i64 x.a, .int .i64 x.b, .int .i64 x.c, .int .u64 x.imm]) := hQ (by rw [hW4]; exact HK33.out.far (p := ⟨mb, 22, none⟩) (Blk.ne_ HK33.out HM3.out.blk (by decide)) _)
  have HBs : Hid (B ≤ W4.heap.size) := hQ (Nat.le_trans H0.out.hB HB4.out.size)
  have HL : Hid (m.next.acts.length = t + 1) := hQ (by simp [Mx.next, Mx.setTop]; exact HT.out)
  have HIX : Hid (InX W4 B iv m.next.inp) := hQ (H0.out.inx.after HB4.out)
  have HE0 : Hid (stepX p m = doX p m.next x) := hQ (by unfold stepX; rw [HXE.out])
  have HTOP := hQ (next_top' (m := m) H0.out.wf.some_)
  clear hW4 c22 f22 hlt HM2 HM3 HK3 HK33 HB23 HB2 HB1 HB3 H HX HFC
  obtain ⟨k, hk⟩ : ∃ k, k = m.next := ⟨_, rfl⟩
  have q0 : k.mem = m.mem := by rw [hk]; rfl
  have q1 : k.use = m.use := by rw [hk]; rfl
  have q2 : k.sp = m.sp := by rw [hk]; rfl
  have q3 : k.ended = false := by rw [hk]; exact H0.out.en
  have q4 : ∀ r, rg k r = rg m r := fun r => by rw [hk]; rfl
  have q5 : k.tp = m.tp := by rw [hk]; rfl
  have q6 : k.deep = m.deep := by rw [hk]; rfl
  have q7 : k.regs.length = 8 := by rw [hk]; exact H0.out.wf.regs
  have q8 : k.trace = m.trace := by rw [hk]; rfl
  have HINP : Hid (k.inp = m.inp) := hQ (by rw [hk]; rfl)
  have HQ := hQ (⟨q0, q1, q2, q3, q4, q5, q6, q7, q8⟩ : k.mem = m.mem ∧ k.use = m.use ∧ k.sp = m.sp ∧ k.ended = false ∧ (∀ r, rg k r = rg m r) ∧ k.tp = m.tp ∧ k.deep = m.deep ∧ k.regs.length = 8 ∧ k.trace = m.trace)
  rw [← hk] at HM4 HL HIX HTOP HE0
  clear hk q0 q1 q2 q3 q4 q5 q6 q7 q8
  have hops := HOPS.out
  obtain ⟨op, xa, xb, xc, xi⟩ := x
  dsimp only at HK4
  obtain ⟨o0, o1, o2, o3, o4, -, -, -, -, -, oz⟩ := HK4.out.c5
  obtain ⟨prm, sz, gx⟩ := hops.gx
  have ho17 : op = 16 ∨ op = 17 := HSUB.out
  have hwr := gx.wr ho17
  have hsc := gx.sc (.inr ho17)
  have hiw := hops.wr ho17
  dsimp only at hwr hsc hiw
  obtain ⟨a, rfl⟩ := Int.eq_ofNat_of_zero_le hwr.1
  obtain ⟨c, rfl⟩ := Int.eq_ofNat_of_zero_le (show 0 ≤ xc by omega)
  have hc1 : 1 ≤ c := by omega
  have hc2 : c ≤ 16 := by omega
  have hci : (c : Int) ≤ 16 := by omega
  have hci0 : (1 : Int) ≤ (c : Int) := by omega
  obtain ⟨q0, q1, q2, q3, q4, -, -, q7, -⟩ := HQ.out
  have hiw' : k.sp + a + c ≤ k.mem.length := by rw [q2, q0]; simpa using hiw
  have hme : k.mem.length ≤ 1048576 := by rw [q0]; exact H0.out.mem
  have hle : k.use.length = k.mem.length := by rw [q1, q0]; exact H0.out.len
  obtain ⟨gb, cb, gu, cu, hrw⟩ := HM4.out.rw_ hle (by omega)
  have HWR : Hid (∀ (W : World) (A : Option Addr) (cA : Nat) (l : List Nat), c ≤ cA → Below W4.heap.size W4 W → Bs W W.heap.size A c l → Calls Tryz.prog 47 #[.pointer (some ⟨mb, 0, none⟩), .int .i64 (a : Int), .slice A c cA] W fun e w' => e = .returned (.tuple #[]) ∧ MAt w' B mb L ad (.slice (some ad) p.length cp) iv (some ⟨g, 0, none⟩) cs At ct (k.wr a l) ∧ Below B W w') :=
   hQ (fun W A cA l hcA hW hs => mwrite_any W a c cA gb cb gu cu A l hc1 hcA hiw' hme hle hrw (HM4.out.after hW) (Nat.le_trans HBs.out hW.size) hs)
  rcases ho17 with ho | ho
  · subst ho
    have hrb := gx.rb (.inr (.inr rfl))
    dsimp only at hrb
    obtain ⟨b, rfl⟩ := Int.eq_ofNat_of_zero_le hrb.1
    have hb : b < 8 := by have := hrb.2; omega
    have hbi : (b : Int) < 8 := by omega
    have hb0 : (0 : Int) ≤ (b : Int) := by omega
    have hvw : W64x (rg k b) := by rw [q4]; exact H0.out.rgw b
    have HBY : Hid (∀ W, Below W4.heap.size W4 W → Calls Tryz.prog 48 #[.agg #[.int .u64 (rg k b).1, .int .u64 (rg k b).2], .int .i64 (c : Int)] W (BytesR W (rg k b).1 (rg k b).2 c)) := hQ (fun W hW => bytes_r _ _ hvw.1 hvw.2 _ (by omega) (by omega) W)
    have hszo : szOf (c : Int) = c := by unfold szOf; rw [if_pos hsc.1]; simp
    have HSZ := hQ hszo
    have HE : Hid (doX p k ⟨16, (a : Int), (b : Int), (c : Int), xi⟩ = k.wr a (bytesV (rg k b).1 (rg k b).2 c)) := hQ (by unfold doX; simp)
    obtain ⟨c0, c1⟩ := reg_cell HM4.out.blk hb
    have hlt := HM4.out.blk.lt
    clear hops gx hwr hsc hiw hrb q0 q1 q2 q3 q4 q7 hiw' hme hle hrw hvw hszo
    go_upto_region 11 with (fail)
    go_region_with (first
     | (go_at_call 48; refine (HBY.out _ (bR.drew)).mono ?_; rintro e w5 ⟨A, cA, rfl, hs5, hcA, -, b5⟩; have hb5 : Below W4.heap.size W4 w5 := ((Below.refl W4.heap.size W4).drew.trans b5); rw [HSZ.out] at hs5 hcA; have HS5 := hQ hs5; have HBB5 := hQ hb5; have HCA := hQ hcA; obtain ⟨y0, y1, y2, y3, y4, -, -, -, -, -, yz⟩ := (HK4.out.after hb5).c5; (try rw [HSZ.out]); clear hs5 hcA b5 hb5)
     | (go_at_call 47; refine (HWR.out _ _ _ _ HCA.out HBB5.out HS5.out).mono ?_; rintro e w6 ⟨rfl, m6, b6⟩; have HM6 := hQ m6; have HB6 := hQ b6; clear m6 b6))
    all_goals go_wp2
    all_goals go_end0
    all_goals rw [HE0.out, HE.out]
    all_goals exact ⟨rfl, HB4.out.trans ((HBB5.out.mono HBs.out).trans HB6.out), _, _, _, _, _, HM6.out, HIX.out.after ((HBB5.out.mono HBs.out).trans HB6.out)⟩
  · subst ho
    have hrd := gx.rd (.inr rfl)
    have hin := hops.rd (.inr rfl)
    dsimp only at hrd hin
    obtain ⟨b, rfl⟩ := Int.eq_ofNat_of_zero_le hrd.1
    have hin' : k.sp + b + c ≤ k.mem.length := by rw [q2, q0]; simpa using hin
    have HRD := hQ (mread_any W4 b c gb cb gu cu hc1 hin' hme hle (by rw [q0]; exact H0.out.m256) hrw HM4.out HBs.out)
    have HE : Hid (doX p k ⟨17, (a : Int), (b : Int), (c : Int), xi⟩ = k.moveIn a (k.rd b c)) := hQ (by unfold doX; simp)
    have HQ3 := hQ q3
    have HMM : Hid (k.sp + b + c ≤ k.mem.length) := hQ hin'
    clear hops gx hwr hsc hiw hrd hin q0 q1 q2 q3 q4 q7 hiw' hme hle hrw hin'
    go_wp2_with fail
    refine HRD.out.mono ?_
    intro e w5 hr5
    obtain ⟨o, hro⟩ : ∃ o, o = k.rd b c := ⟨_, rfl⟩
    have HLC : Hid (∀ l, o = some l → l.length = c) := hQ (fun l hl => by
     rw [hro] at hl
     unfold Mx.rd at hl
     split at hl
     · injection hl with hl
       have := HMM.out
       rw [← hl, List.length_take, List.length_drop]; omega
     · cases hl)
    rw [← hro] at hr5 HE
    clear hro
    cases o with
    | none =>
     obtain ⟨rfl, m5, b5⟩ := hr5
     have HM5 := hQ m5
     have HB5 := hQ b5
     clear m5 b5 o0 o1 o2 o3 o4 oz
     have c23 : w5.cell? ⟨mb, 23, none⟩ = some (.bool true) := HM5.out.blk.cell 23
     have hlt := HM5.out.blk.lt
     go_wp2
     go_end0
     rw [HE0.out, HE.out]
     exact ⟨rfl, HB4.out.trans HB5.out, _, _, _, _, _, HM5.out, HIX.out.after HB5.out⟩
    | some l =>
     obtain ⟨A, cA, rfl, hcA, hbs, m5, b5⟩ := hr5
     have hl := HLC.out l rfl
     rw [hl] at hcA hbs
     have HB5 := hQ b5
     have HK5 := hQ (HK4.out.after b5)
     have HW := hQ (HWR.out w5 A cA l hcA b5 hbs)
     have c23 : w5.cell? ⟨mb, 23, none⟩ = some (.bool false) := by
      have := m5.blk.cell 23
      rw [← HQ3.out]; exact this
     have hlt := m5.blk.lt
     rw [hl]
     clear m5 b5 o0 o1 o2 o3 o4 oz hbs hcA hl
     obtain ⟨-, o1, -, -, -, -, -, -, -, -, oz⟩ := HK5.out.c5
     go_wp2_with fail
     refine HW.out.mono ?_
     rintro e w6 ⟨rfl, m6, b6⟩
     have HM6 := hQ m6
     have HB6 := hQ b6
     clear m6 b6
     go_wp2
     go_end0
     rw [HE0.out, HE.out]
     exact ⟨rfl, HB4.out.trans ((HB5.out.mono HBs.out).trans HB6.out), _, _, _, _, _, HM6.out, HIX.out.after ((HB5.out.mono HBs.out).trans HB6.out)⟩
end
end Go.Proofs.YtcnndoefgjbmiaaGreat.pm
