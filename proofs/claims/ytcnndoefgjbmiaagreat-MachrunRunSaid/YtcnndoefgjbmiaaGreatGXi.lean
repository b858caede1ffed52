/- The reference's machine of chapter 12: a run. Printed by mkxj.py. -/
import Derived.Test.YtcnndoefgjbmiaaGreatGJn
import Derived.Test.YtcnndoefgjbmiaaGreatXh
import Derived.Test.YtcnndoefgjbmiaaGreatGKx
set_option linter.unusedVariables false
set_option maxRecDepth 10000
set_option maxHeartbeats 8000000
namespace Go.Proofs.YtcnndoefgjbmiaaGreat.pm
open Go.RowKit
def RunA (M : Mx) (err : Int) (w : World) (e : Ending) (w' : World) : Prop :=
 ∃ At ct, e = .returned (.tuple #[outV M At ct, .int .i64 M.deep, .int .i64 err]) ∧ Below w.heap.size w w' ∧ Rx w' w.heap.size w'.heap.size 2 At M.trace.length (M.trace.flatMap vcl) ∧ M.trace.length ≤ ct
section
variable {mb cp : Nat} {al : Int} {iv : Value} {L : Lq} {m : Mx} {p : List Fr} {ad : Addr}
def tstepsAt (w : World) (mb : Nat) : Nat :=
 match w.cell? ⟨mb, 31, none⟩ with
 | some (.int _ n) => n.toNat
 | _ => 0
theorem TAt.stepsAt {w : World} {pv : Value} (h : TAt w mb al pv iv L m) : tstepsAt w mb = m.steps := by
 have c : w.cell? ⟨mb, 31, none⟩ = some (.int .i64 m.steps) := h.blk.cell 31
 unfold tstepsAt
 rw [c]
 simp
theorem plain_regs {nf nc : Nat} {prm sz : Int} {x : Ins} (h : inE nf prm sz nc x = 0) (h0 : 0 ≤ x.op) (h14 : x.op ≤ 14) : rgOk x.a ∧ rgOk x.b ∧ rgOk x.c := by
 have hg := inE_gx h
 unfold inE at h
 split at h
 · omega
 split at h
 · omega
 rename_i h2
 have hz := Bool.eq_false_iff.2 h2
 obtain ⟨op, a, b, c, im⟩ := x
 dsimp only at h0 h14
 unfold unB at hz
 simp only [Bool.or_eq_false_iff, Bool.and_eq_false_iff, bne_eq_false_iff_eq, decide_eq_false_iff_not] at hz
 obtain ⟨⟨⟨-, h3⟩, h2⟩, -⟩ := hz
 refine ⟨hg.ra (.inl (by dsimp only; omega)), ?_, ?_⟩
 · by_cases hb : op = 1 ∨ (2 ≤ op ∧ op ≤ 12) ∨ op = 16
   · exact hg.rb hb
   · have ho : opN op = 1 := by unfold opN; rw [if_neg (by omega), if_pos (by omega)]
     have hb0 : b = 0 := h2.resolve_left (by omega)
     show rgOk b
     rw [hb0]
     exact ⟨by decide, by decide⟩
 · by_cases hb : 2 ≤ op ∧ op ≤ 11
   · exact hg.rc hb
   · have ho : opN op < 3 := by
      unfold opN
      rw [if_neg (by omega)]
      split
      · omega
      split <;> omega
     have hc0 : c = 0 := h3.resolve_left (by omega)
     show rgOk c
     rw [hc0]
     exact ⟨by decide, by decide⟩
theorem tstep_any (W1 : World) (h : PreR W1 mb al ad p cp iv L m) (hp : RT al p) (hw : Wf p m) :
 Calls Tryz.prog 35 #[.pointer (some ⟨mb, 0, none⟩)] W1 (TS mb al (.slice (some ad) p.length cp) (stepX p m) W1) := by
 by_cases h15 : 15 ≤ (m.ins p).op
 · exact tst_a W1 h h15
 · obtain ⟨prm, sz, gx⟩ := h.ok.gx
   have hf := (hw.live _ (top_mem hw.some_)).1
   exact tst_b W1 h (by omega) (plain_regs ((hp.fr _ hf).ins _ (ins_mem hw)) gx.op.1 (by omega))
theorem FitX.preR {W : World} (h : FitX p m) (hp : RT al p) (hgi : GI al p m) (hm : TAt W mb al (.slice (some ad) p.length cp) iv L m) (hg : Gx W 0 mb (some ad) p) (hst : m.steps ≤ 1000000) (hi : InX W mb iv m.inp) (he : m.ended = false) : PreR W mb al ad p cp iv L m :=
 ⟨hm, ⟨h.wf.regs, h.big, h.sp, h.tp, h.mem, h.dp, h.len, h.m256, h.rgw⟩, h.wf, hg, hi, h.ok, by have := hp.len; unfold maxLen; omega, hst, h.pc, h.tr, he, by have := hgi.room; have := h.tp; omega⟩
theorem tstart_at {w : World} {pv : Value} {inp : List Nat} {size tp c1 c2 : Nat} {A1 A2 : Option Addr} (hb : Blk w mb 94 (tcs al pv iv (.slice none 0 0) (.slice A1 size c1) (.slice A2 size c2) (.slice none 0 0) (Mx.start inp size tp)))
 (h1 : Rx w (mb + 1) w.heap.size 1 A1 size (nb (List.replicate size 0))) (h2 : Rx w (mb + 1) w.heap.size 1 A2 size ((List.replicate size false).map Value.bool)) (k1 : size ≤ c1) (k2 : size ≤ c2) :
 TAt w mb al pv iv ⟨none, 0, none, 0, A1, c1, A2, c2⟩ (Mx.start inp size tp) :=
 ⟨by show Blk w mb _ (tcs al pv iv (.slice none 0 0) (.slice A1 (List.replicate size 0).length c1) (.slice A2 (List.replicate size false).length c2) (.slice none 0 0) _); rw [List.length_replicate, List.length_replicate]; exact hb,
  ⟨Rx.nil _ _ _ _, Rx.nil _ _ _ _, by show Rx _ _ _ _ _ (List.replicate size 0).length _; rw [List.length_replicate]; exact h1, by show Rx _ _ _ _ _ (List.replicate size false).length _; rw [List.length_replicate]; exact h2, ⟨Nat.le_refl _, Nat.le_refl _, by show (List.replicate size 0).length ≤ c1; rw [List.length_replicate]; exact k1, by show (List.replicate size false).length ≤ c2; rw [List.length_replicate]; exact k2⟩⟩⟩
theorem trun_x (ad : Addr) (p : List Fr) (cp : Nat) (al : Int) (iv0 : Value) (inp : List Nat) (F size : Nat) (hF : F ≤ 100000) (hsize : size ≤ 1048576) (hp : RT al p) (hE : tgE al p = 0) (w : World) (hg : Gx w 0 w.heap.size (some ad) p) (hin : InX w w.heap.size iv0 inp) (hi : ∀ v ∈ inp, v < 18446744073709551616) :
 Calls Tryz.prog 20 #[.agg #[.int .i64 al, .slice (some ad) p.length cp], iv0, .int .i64 (F : Int), .int .i64 (size : Int)] w (RunA (runX p F (F + 2) (startX p inp size (tpOf al size) F)) 0 w) := by
 obtain ⟨Ai, ci, rfl, hi1, hi2, hi3⟩ := hin
 obtain ⟨ni, hni⟩ : ∃ ni, ni = inp.length := ⟨_, rfl⟩
 have HIN : Hid (InX w w.heap.size (.slice Ai ni ci) inp) := hQ (by rw [hni]; exact ⟨Ai, ci, rfl, hi1, hi2, hi3⟩)
 rw [← hni]
 clear hi1 hi2 hi3 hni
 obtain ⟨W1, hW1⟩ : ∃ W1, W1 = (w.alloc (.cells #[.int .i64 al, .slice (some ad) p.length cp] 26)).alloc (.cells #[.int .i64 0, .int .u64 0, .int .u64 0, .int .u64 0, .slice none 0 0, .int .i64 0] 41) := ⟨_, rfl⟩
 have hB1 : Below w.heap.size w W1 := by rw [hW1]; exact (bR.alloc nL _).alloc (by simp) _
 have HKP : Hid (Blk W1 w.heap.size 26 #[.int .i64 al, .slice (some ad) p.length cp]) := hQ (by rw [hW1]; exact (Blk.new _ _ _).alloc _)
 have HKO : Hid (Blk W1 (w.heap.size + 1) 41 #[.int .i64 0, .int .u64 0, .int .u64 0, .int .u64 0, .slice none 0 0, .int .i64 0]) := hQ (by rw [hW1]; exact Blk.newAt (by simp))
 have HG0 := hQ hg
 have HG1 := hQ (hg.keep (Kp.of_below hB1 nL))
 have HB1 := hQ hB1
 have HW1 := hQ hW1
 have HP := hQ hp
 have HI := hQ hi
 have hm : p.length ≤ maxLen := by have := hp.len; unfold maxLen; omega
 have hal1 : 16 ≤ al := hp.pw.2
 have hal2 : al ≤ 16777216 := (powB_range al hp.pw.1).2
 have HCH := hQ (refcheck10_any (some ad) cp hp.rng W1 0 w.heap.size HG1.out hB1.size hm)
 have hs1 := hB1.size
 have hF0 : (0 : Int) ≤ (F : Int) := by omega
 have hF1 : (F : Int) ≤ 100000 := by omega
 have hz0 : (0 : Int) ≤ (size : Int) := by omega
 have hz1 : (size : Int) ≤ 1048576 := by omega
 have hnw : newR (size : Int) al = (0, size, ((tpOf al size : Nat) : Int)) := by
  unfold newR
  rw [if_pos ⟨by omega, by omega, hp.pw.1⟩, tpOf_int al (by omega)]
  simp
 have HST := hQ (fun W : World => hnw ▸ refstknew_any (size : Int) al (by omega) (by omega) (by omega) (by omega) W)
 have HTP := hQ (tpOf_le al (by omega) size)
 clear hg hW1 hB1 hi hp hnw
 obtain ⟨tp, htp⟩ : ∃ tp, tp = tpOf al size := ⟨_, rfl⟩
 rw [← htp] at HST HTP ⊢
 clear htp
 obtain ⟨RR, hRR⟩ : ∃ R, R = runX p F (F + 2) (startX p inp size tp F) := ⟨_, rfl⟩
 rw [← hRR]
 have HRR := hQ hRR
 clear hRR
 obtain ⟨q0, q1, -, -, qz⟩ := HKP.out.c2
 have hgo : w.heap.size + 1 < W1.heap.size := HKO.out.lt
 go_enter Tryz.func20, Tryz.ntmps20
 go_upto_region 1 with (fail)
 rw [← HW1.out]
 go_wp2_with fail
 refine HCH.out.mono ?_
 rintro e w2 ⟨rfl, bel2⟩
 rw [hE]
 have HB2 : Hid (Below w.heap.size w w2) := hQ (HB1.out.trans (bel2.mono hs1))
 have HKP2 := hQ (HKP.out.after bel2)
 have HKO2 := hQ (HKO.out.after bel2)
 have hs2 : W1.heap.size ≤ w2.heap.size := bel2.size
 clear bel2 q0 q1 qz
 obtain ⟨q0, q1, -, -, qz⟩ := HKP2.out.c2
 go_upto_region 7 with (fail)
 obtain ⟨mb, hmb⟩ : ∃ mb, mb = w2.heap.size := ⟨_, rfl⟩
 obtain ⟨W3, hW3⟩ : ∃ W3, W3 = w2.alloc (.cells #[.int .i64 al, .slice (some ad) p.length cp, .int .u64 0, .int .u64 0, .int .u64 0, .int .u64 0, .int .u64 0, .int .u64 0, .int .u64 0, .int .u64 0, .int .u64 0, .int .u64 0, .int .u64 0, .int .u64 0, .int .u64 0, .int .u64 0, .int .u64 0, .int .u64 0, .slice none 0 0, .slice none 0 0, .slice none 0 0, .int .i64 0, .int .i64 0, .int .i64 0, .slice Ai ni ci, .bool false, .int .i64 0, .int .u64 0, .int .u64 0, .int .u64 0, .slice none 0 0, .int .i64 0] 94) := ⟨_, rfl⟩
 have HM3 : Hid (Blk W3 mb 94 (tcs al (.slice (some ad) p.length cp) (.slice Ai ni ci) (.slice none 0 0) (.slice none 0 0) (.slice none 0 0) (.slice none 0 0) (Mx.start inp 0 0))) := hQ (by rw [hW3]; exact Blk.newAt hmb)
 have HB3 : Hid (Below w.heap.size w W3) := hQ (by rw [hW3]; exact HB2.out.alloc HB2.out.size _)
 have HKO3 : Hid (Blk W3 (w.heap.size + 1) 41 #[.int .i64 0, .int .u64 0, .int .u64 0, .int .u64 0, .slice none 0 0, .int .i64 0]) := hQ (by rw [hW3]; exact HKO2.out.alloc _)
 have HKP3 : Hid (Blk W3 w.heap.size 26 #[.int .i64 al, .slice (some ad) p.length cp]) := hQ (by rw [hW3]; exact HKP2.out.alloc _)
 rw [← hW3, ← hmb]
 have hBm : w.heap.size ≤ mb := by omega
 have hgm : w.heap.size + 1 < mb := by omega
 clear q0 q1 qz hW3 hmb HKP HKP2 HKO HKO2
 obtain ⟨q0, q1, -, -, qz⟩ := HKP3.out.c2
 have hz3 : mb < W3.heap.size := HM3.out.lt
 go_wp2_with fail
 refine (HST.out _).mono ?_
 rintro e w4 ⟨A1, c1, A2, c2, rfl, ow1, ow2, bel4⟩
 have HM4 := hQ (HM3.out.after bel4)
 have HB4 : Hid (Below w.heap.size w w4) := hQ (HB3.out.trans (bel4.mono HB3.out.size))
 have HKO4 := hQ (HKO3.out.after bel4)
 have HO1 := hQ (And.intro ((Rx.of_own ow1).more (lo' := mb + 1) hz3 nL) (own_cap ow1).2)
 have HO2 := hQ (And.intro ((Rx.of_own ow2).more (lo' := mb + 1) hz3 nL) (own_cap ow2).2)
 dsimp only at HO1 HO2
 clear bel4 ow1 ow2 q0 q1 qz HKP3 hz3
 obtain ⟨-, -, m19, m20, m21, m22, -, -, -, -, -, mf, hlt4⟩ := tcells HM4.out
 have mf19 := mf 19
 have mf20 := mf 20
 have mf21 := mf 21
 have mf22 := mf 22
 go_upto_if 57 with (fail)
 obtain ⟨W5, hW5⟩ : ∃ W, W = (((w4.setCell ⟨mb, 19, none⟩ (.slice A1 size c1)).setCell ⟨mb, 20, none⟩ (.slice A2 size c2)).setCell ⟨mb, 21, none⟩ (.int .i64 (tp : Int))).setCell ⟨mb, 22, none⟩ (.int .i64 (tp : Int)) := ⟨_, rfl⟩
 rw [← hW5]
 have hg5 : w4.grownBy W5 (some mb) := by rw [hW5]; exact grownBy_trans (grown_mb _ _ _ _) (grownBy_trans (grown_mb _ _ _ _) (grownBy_trans (grown_mb _ _ _ _) (grown_mb _ _ _ _)))
 have HM5 : Hid (TAt W5 mb al (.slice (some ad) p.length cp) (.slice Ai ni ci) ⟨none, 0, none, 0, A1, c1, A2, c2⟩ (Mx.start inp size tp)) := hQ (tstart_at (by rw [hW5]; exact (((HM4.out.set_ 19 _).set_ 20 _).set_ 21 _).set_ 22 _) (HO1.out.1.growM hg5) (HO2.out.1.growM hg5) HO1.out.2 HO2.out.2)
 have HB5 : Hid (Below w.heap.size w W5) := hQ (HB4.out.trans (below_of_grownR hg5 (fun k hk => by injection hk; omega) HB4.out.size))
 have HKO5 : Hid (Blk W5 (w.heap.size + 1) 41 #[.int .i64 0, .int .u64 0, .int .u64 0, .int .u64 0, .slice none 0 0, .int .i64 0]) := hQ (HKO4.out.grown hg5 (fun e => by injection e; omega))
 clear hW5 hg5 m19 m20 m21 m22 mf mf19 mf20 mf21 mf22 HM3 HM4 HKO3 HKO4 HB3 HB4 HO1 HO2 HB2 hlt4
 have HGM : Hid (∀ W, Below w.heap.size w W → Gx W 0 mb (some ad) p) := hQ (fun W h => (HG0.out.keep (Kp.of_below h nL)).more nL hBm)
 go_cut [] (fun wx => ∃ L, Hid (TAt wx mb al (.slice (some ad) p.length cp) (.slice Ai ni ci) L (startX p inp size tp F)) ∧ Hid (Below w.heap.size w wx) ∧ Hid (Blk wx (w.heap.size + 1) 41 #[.int .i64 0, .int .u64 0, .int .u64 0, .int .u64 0, .slice none 0 0, .int .i64 0]))
 case first =>
  by_cases h0 : 0 < F
  · have h0i : (0 : Int) < (F : Int) := by omega
    have HS : Hid (startX p inp size tp F = (Mx.start inp size tp).call 0 (szF p 0)) := hQ (by unfold startX; rw [if_pos h0])
    have hp0 : 0 < p.length := HP.out.len.1
    have HCL := hQ (tenter_any W5 0 hp0 hm (szF_def HP.out hp0) (by have h1 := szF_def HP.out hp0; have h2 := (HP.out.fr 0 hp0).size.2; omega) HM5.out (HGM.out W5 HB5.out) (by simp [Mx.start]) (by simp [Mx.start]) (by simp [Mx.start]; exact HTP.out) (by simp [Mx.start]; exact hsize) (by simp [Mx.start]) (by simp [Mx.start]) (by simp [Mx.start]))
    clear h0 hp0
    go_wp2_with fail
    refine HCL.out.mono ?_
    rintro e w6 ⟨rfl, g6, L6, m6⟩
    have HM6 := hQ m6
    have HB6 := hQ (HB5.out.trans (below_of_grownR g6 (fun k hk => by injection hk; omega) HB5.out.size))
    have HKO6 := hQ (HKO5.out.grown g6 (fun e => by injection e; omega))
    clear m6 g6
    go_wp2
    go_meet
    exact ⟨L6, by rw [HS.out]; exact HM6, HB6, HKO6⟩
  · have h0i : (F : Int) ≤ 0 := by omega
    have HS : Hid (startX p inp size tp F = Mx.start inp size tp) := hQ (by unfold startX; rw [if_neg h0])
    clear h0
    go_wp2
    go_meet
    exact ⟨_, by rw [HS.out]; exact HM5, HB5, HKO5⟩
 case rest =>
  obtain ⟨L6, HM6, HB6, HKO6⟩ := hcut
  obtain ⟨S0, hS0⟩ : ∃ S0, S0 = startX p inp size tp F := ⟨_, rfl⟩
  have HS0s : Hid (S0.steps = 0) := hQ (by rw [hS0]; unfold startX; split; (rw [steps_call]; rfl); rfl)
  have HS0i : Hid (S0.inp = inp) := hQ (by rw [hS0]; unfold startX; split; (unfold Mx.call; split <;> rfl); rfl)
  have HGD : Hid (F ≤ S0.steps ∨ Good al p size S0) := hQ (by
   rw [hS0]
   unfold startX
   split
   · exact .inr (good_start HP.out HI.out HTP.out)
   · exact .inl (by omega))
  have HRS : Hid (RR = runX p F (F + 2) S0) := hQ (by rw [hS0]; exact HRR.out)
  rw [← hS0] at HM6
  clear hS0 HM5 HB5 HKO5 HRR
  generalize wc = W6 at *
  go_upto_block 0 with (fail)
  go_cut [] (fun wx => ∃ iv L, Hid (TAt wx mb al (.slice (some ad) p.length cp) iv L RR) ∧ Hid (Below w.heap.size w wx) ∧ Hid (Blk wx (w.heap.size + 1) 41 #[.int .i64 0, .int .u64 0, .int .u64 0, .int .u64 0, .slice none 0 0, .int .i64 0]))
  case first =>
   go_wp2
   go_loopw [] (fun wr => ∃ M iv L, (F ≤ M.steps ∨ Good al p size M) ∧ Hid (TAt wr mb al (.slice (some ad) p.length cp) iv L M) ∧ Hid (InX wr mb iv M.inp) ∧ Hid (Below w.heap.size w wr) ∧ Hid (Blk wr (w.heap.size + 1) 41 #[.int .i64 0, .int .u64 0, .int .u64 0, .int .u64 0, .slice none 0 0, .int .i64 0]) ∧ M.steps ≤ F ∧ Hid (runX p F (F + 2 - M.steps) M = RR)) (fun wr => F + 1 - tstepsAt wr mb)
   case atStart => exact ⟨_, _, _, HGD.out, HM6, hQ (by rw [HS0i.out]; exact (HIN.out.after HB6.out).more hBm), HB6, HKO6, by rw [HS0s.out]; omega, hQ (by rw [HS0s.out, HRS.out]; rfl)⟩
   case round =>
    obtain ⟨M, iv, L, hgM, HM, HI2, HB, HKO, hst, HQ⟩ := hrel
    obtain ⟨-, -, -, -, -, -, -, -, c25, -, c31, -, hlt⟩ := tcells HM.out.blk
    have hsti : (M.steps : Int) ≤ (F : Int) := by omega
    rcases hen : M.ended with _ | _
    · rw [hen] at c25
      by_cases hle : F ≤ M.steps
      · have hli : (F : Int) ≤ (M.steps : Int) := by omega
        have HE : Hid (RR = M.stop 4) := hQ (by
         rw [← HQ.out, show F + 2 - M.steps = 1 + 1 by omega]
         unfold runX
         rw [hen, if_neg (by decide), if_pos hle])
        go_wp2_with fail
        refine (tend_any wr 4 HM.out).mono ?_
        rintro e w7 ⟨rfl, m7, g7⟩
        have HM7 := hQ m7
        have HB7 := hQ (HB.out.trans (below_of_grownR g7 (fun k hk => by injection hk; omega) HB.out.size))
        have HK7 := hQ (HKO.out.grown g7 (fun e => by injection e; omega))
        clear m7 g7 c25 c31
        go_wp2
        go_meet
        exact ⟨iv, L, by rw [HE.out]; exact HM7, HB7, HK7⟩
      · have hli : ¬ (F : Int) ≤ (M.steps : Int) := by omega
        have hli2 : (M.steps : Int) < (F : Int) := by omega
        have hgg : Good al p size M := by rcases hgM with h | h; exact absurd h hle; exact h
        obtain ⟨hfit, h5⟩ := good_step HP.out hsize hgg hen (by omega)
        have hgi : GI al p M := by rcases hgg.1 with h | h; rw [hen] at h; cases h; exact h.1
        have HPRE : Hid (PreR wr mb al ad p cp iv L M) := hQ (hfit.preR HP.out hgi HM.out (HGM.out wr HB.out) (by omega) HI2.out hen)
        have HG5 := hQ h5
        have HWF := hQ hfit.wf
        have HE : Hid (runX p F (F + 2 - (M.steps + 1)) (stepX p M) = RR) := hQ (by
         rw [← HQ.out, show F + 2 - M.steps = (F + 2 - (M.steps + 1)) + 1 by omega]
         conv => rhs; unfold runX
         rw [hen, if_neg (by decide), if_neg hle])
        clear hfit h5 hgg hgM hgi
        go_wp2_with fail
        refine (tstep_any wr HPRE.out HP.out HWF.out).mono ?_
        rintro e w7 ⟨rfl, g7, iv7, L7, m7, i7⟩
        have HI7 := hQ i7
        have HM7 := hQ m7
        have HB7 := hQ (HB.out.trans (below_of_grownR g7 (fun k hk => by injection hk; omega) HB.out.size))
        have HK7 := hQ (HKO.out.grown g7 (fun e => by injection e; omega))
        have HS0 := hQ HM.out.stepsAt
        have HS5 := hQ HM7.out.stepsAt
        clear m7 g7 i7 c25 c31
        go_wp2
        go_roundw
        case rel => exact ⟨_, _, _, .inr HG5.out, HM7, HI7, HB7, HK7, by rw [steps_stepX]; omega, hQ (by rw [steps_stepX]; exact HE.out)⟩
        case measure => rw [HS0.out, HS5.out, steps_stepX]; omega
    · rw [hen] at c25
      have HE : Hid (RR = M) := hQ (by
       rw [← HQ.out, show F + 2 - M.steps = (F + 1 - M.steps) + 1 by omega]
       unfold runX
       rw [hen, if_pos rfl])
      go_wp2
      go_meet
      exact ⟨iv, L, by rw [HE.out]; exact HM, HB, HKO⟩
  case rest =>
   obtain ⟨iv, L, HMf, HBf, HKf⟩ := hcut
   clear HM6 HB6 HKO6 HRS HGD HS0i HS0s
   generalize wc = W7 at *
   generalize RR = MM at *
   obtain ⟨As, ca, At, ct, Ab, cb, Ub, cu⟩ := L
   have c26 : W7.cell? ⟨mb, 26, none⟩ = some (.int .i64 MM.kind) := HMf.out.blk.cell 26
   have c27 : W7.cell? ⟨mb, 27, none⟩ = some (.int .u64 MM.code) := HMf.out.blk.cell 27
   have c28 : W7.cell? ⟨mb, 28, none⟩ = some (.int .u64 MM.res.1) := HMf.out.blk.cell 28
   have c29 : W7.cell? ⟨mb, 29, none⟩ = some (.int .u64 MM.res.2) := HMf.out.blk.cell 29
   have c30 : W7.cell? ⟨mb, 30, none⟩ = some (.slice At MM.trace.length ct) := HMf.out.blk.cell 30
   have c31 : W7.cell? ⟨mb, 31, none⟩ = some (.int .i64 MM.steps) := HMf.out.blk.cell 31
   have c23 : W7.cell? ⟨mb, 23, none⟩ = some (.int .i64 MM.deep) := HMf.out.blk.cell 23
   have hltf := HMf.out.blk.lt
   obtain ⟨o0, o1, o2, o3, o4, o5, f0, f1, f2, f3, f4, f5, oz⟩ := HKf.out.c6
   have hmo : ¬ mb = w.heap.size + 1 := by omega
   have hom : ¬ w.heap.size + 1 = mb := by omega
   have hog : w.heap.size + 1 < mb + 1 := by omega
   go_upto_region 15 with (fail)
   go_region
   go_wp2
   obtain ⟨W9, hW9⟩ : ∃ W, W = (((((W7.setCell ⟨w.heap.size + 1, 0, none⟩ (.int .i64 MM.kind)).setCell ⟨w.heap.size + 1, 1, none⟩ (.int .u64 MM.code)).setCell ⟨w.heap.size + 1, 2, none⟩ (.int .u64 MM.res.1)).setCell ⟨w.heap.size + 1, 3, none⟩ (.int .u64 MM.res.2)).setCell ⟨w.heap.size + 1, 4, none⟩ (.slice At MM.trace.length ct)).setCell ⟨w.heap.size + 1, 5, none⟩ (.int .i64 MM.steps) := ⟨_, rfl⟩
   rw [← hW9]
   have hKo : Blk W9 (w.heap.size + 1) 41 #[.int .i64 MM.kind, .int .u64 MM.code, .int .u64 MM.res.1, .int .u64 MM.res.2, .slice At MM.trace.length ct, .int .i64 MM.steps] := by
    rw [hW9]
    exact (((((HKf.out.set_ 0 _).set_ 1 _).set_ 2 _).set_ 3 _).set_ 4 _).set_ 5 _
   have hB9 : Below w.heap.size w W9 := by
    rw [hW9]
    exact (((((HBf.out.setCell (Nat.le_succ _) _).setCell (Nat.le_succ _) _).setCell (Nat.le_succ _) _).setCell (Nat.le_succ _) _).setCell (Nat.le_succ _) _).setCell (Nat.le_succ _) _
   have hk9 : Kp (mb + 1) W7.heap.size W7 W9 := by
    rw [hW9]
    exact ((((((Kp.refl _ _ _).set (.inl hog) _).set (.inl hog) _).set (.inl hog) _).set (.inl hog) _).set (.inl hog) _).set (.inl hog) _
   have hz9 : W9.heap.size = W7.heap.size := by rw [hW9]; simp [World.setCell]
   have htr : Rx W9 w.heap.size W9.heap.size 2 At MM.trace.length (MM.trace.flatMap vcl) := by
    rw [hz9]
    exact (HMf.out.rows.tr.keep hk9).more (by omega) nL
   have hcp : MM.trace.length ≤ ct := HMf.out.rows.caps.2.1
   clear hW9 o0 o1 o2 o3 o4 o5 f0 f1 f2 f3 f4 f5
   obtain ⟨o0, o1, o2, o3, o4, o5, -⟩ := (show Blk W9.drew _ _ _ from hKo.drew).c6
   refine bodyPost_ret (v := .tuple #[outV MM At ct, .int .i64 MM.deep, .int .i64 0]) (by simp [outV, results, Tryz.results20, go_sem, o0, o1, o2, o3, o4, o5]) rfl ?_
   exact ⟨At, ct, rfl, hB9.drew, htr, hcp⟩
end
def errM (al : Int) (p : List Fr) (n sz : Int) : Int := if tgE al p ≠ 0 then tgE al p else if n < 0 ∨ 100000 < n ∨ sz < 0 ∨ 1048576 < sz then 4 else 0
def OutA (M : Mx) (err : Int) (w : World) (e : Ending) (w' : World) : Prop :=
 ∃ At ct, e = .returned (.tuple #[outV M At ct, .int .i64 err]) ∧ Below w.heap.size w w' ∧ Rx w' w.heap.size w'.heap.size 2 At M.trace.length (M.trace.flatMap vcl) ∧ M.trace.length ≤ ct
def DepA (M : Mx) (err : Int) (w : World) (e : Ending) (w' : World) : Prop := e = .returned (.tuple #[.int .i64 M.deep, .int .i64 err]) ∧ Below w.heap.size w w'
theorem mrun_bad (al : Int) (Ap : Option Addr) (p : List Fr) (cp : Nat) (Ai : Option Addr) (ni ci : Nat) (n sz : Int) (h0 : -9223372036854775808 ≤ n) (h1 : n ≤ 9223372036854775807) (s0 : -9223372036854775808 ≤ sz) (s1 : sz ≤ 9223372036854775807) (hne : errM al p n sz ≠ 0) (w : World) (hf : Gx w 0 w.heap.size Ap p) (hm : p.length ≤ maxLen) (hr : TgR al p) :
 Calls Tryz.prog 19 #[.agg #[.int .i64 al, .slice Ap p.length cp], .slice Ai ni ci, .int .i64 n, .int .i64 sz] w fun e w' => e = .returned (.tuple #[.pointer none, .int .i64 (errM al p n sz)]) ∧ Below w.heap.size w w' := by
 obtain ⟨W1, hW1⟩ : ∃ W1, W1 = w.alloc (.cells #[.int .i64 al, .slice Ap p.length cp] 26) := ⟨_, rfl⟩
 have hB1 : Below w.heap.size w W1 := by rw [hW1]; exact bR.alloc nL _
 have HKP : Hid (Blk W1 w.heap.size 26 #[.int .i64 al, .slice Ap p.length cp]) := hQ (by rw [hW1]; exact Blk.new _ _ _)
 have hs1 := hB1.size
 have HF1 := hQ (hf.keep (Kp.of_below hB1 nL))
 have HB1 := hQ hB1
 have HW1 := hQ hW1
 have HR := hQ hr
 have ha0 := hr.1.1
 have ha1 := hr.1.2
 clear hf hW1 hB1 hr
 obtain ⟨q0, q1, -, -, qz⟩ := HKP.out.c2
 obtain ⟨E, hE⟩ : ∃ E, E = tgE al p := ⟨_, rfl⟩
 obtain ⟨R, hR⟩ : ∃ R, R = errM al p n sz := ⟨_, rfl⟩
 rw [← hR] at hne ⊢
 unfold errM at hR
 rw [← hE] at hR
 have HCK : Hid (Calls Tryz.prog 26 #[.agg #[.int .i64 al, .slice Ap p.length cp]] W1 fun e w' => e = .returned (.int .i64 E) ∧ Below W1.heap.size W1 w') := hQ (by rw [hE]; exact mcheck_any Ap cp HR.out W1 0 w.heap.size HF1.out hs1 hm)
 have HRQ := hQ hR
 have HNE := hQ hne
 clear hE hR hne
 go_enter Tryz.func19, Tryz.ntmps19
 go_upto_region 1 with (fail)
 rw [← HW1.out]
 go_wp2_with fail
 refine HCK.out.mono ?_
 rintro e w2 ⟨rfl, bel2⟩
 have HB2 : Hid (Below w.heap.size w w2) := hQ (HB1.out.trans (bel2.mono hs1))
 have HKP2 := hQ (HKP.out.after bel2)
 clear bel2 q0 q1 qz HCK
 have hR := HRQ.out
 have hne := HNE.out
 by_cases he : E = 0
 · subst he
   rw [if_neg (by simp)] at hR
   by_cases hb : n < 0 ∨ 100000 < n ∨ sz < 0 ∨ 1048576 < sz
   · rw [if_pos hb] at hR
     subst hR
     by_cases hb0 : n < 0
     · go_wp2
       go_ret2
       exact ⟨rfl, HB2.out⟩
     by_cases hb1 : 100000 < n
     · go_wp2
       go_ret2
       exact ⟨rfl, HB2.out⟩
     have hns : newR sz al = (4, 0, 0) := by unfold newR; rw [if_neg (by omega)]
     have HST := hQ (fun W : World => hns ▸ stknew_any sz al s0 s1 ha0 ha1 W)
     obtain ⟨q0, q1, -, -, qz⟩ := HKP2.out.c2
     clear hb hns
     go_wp2_with fail
     refine (HST.out _).mono ?_
     rintro e w3 ⟨A1, c1, A2, c2, rfl, -, -, b3⟩
     have HB3 : Hid (Below w.heap.size w w3) := hQ (HB2.out.trans (b3.mono HB2.out.size))
     clear b3
     go_wp2
     go_ret2
     exact ⟨rfl, Below.al HB3.out _⟩
   · rw [if_neg hb] at hR
     exact absurd hR hne
 · rw [if_pos he] at hR
   subst hR
   go_wp2
   go_ret2
   exact ⟨rfl, HB2.out⟩
theorem mRun_bad (al : Int) (Ap : Option Addr) (p : List Fr) (cp : Nat) (Ai : Option Addr) (ni ci : Nat) (n sz : Int) (h0 : -9223372036854775808 ≤ n) (h1 : n ≤ 9223372036854775807) (s0 : -9223372036854775808 ≤ sz) (s1 : sz ≤ 9223372036854775807) (hne : errM al p n sz ≠ 0) (w : World) (hf : Gx w 0 w.heap.size Ap p) (hm : p.length ≤ maxLen) (hr : TgR al p) :
 Calls Tryz.prog 8 #[.agg #[.int .i64 al, .slice Ap p.length cp], .slice Ai ni ci, .int .i64 n, .int .i64 sz] w (OutA (Mx.start [] 0 0) (errM al p n sz) w) := by
 obtain ⟨W1, hW1⟩ : ∃ W1, W1 = (w.alloc (.cells #[.int .i64 al, .slice Ap p.length cp] 26)).alloc (.cells #[.int .i64 0, .int .u64 0, .int .u64 0, .int .u64 0, .slice none 0 0, .int .i64 0] 41) := ⟨_, rfl⟩
 have hB1 : Below w.heap.size w W1 := by rw [hW1]; exact (bR.alloc nL _).alloc (by simp) _
 have HKP : Hid (Blk W1 w.heap.size 26 #[.int .i64 al, .slice Ap p.length cp]) := hQ (by rw [hW1]; exact (Blk.new _ _ _).alloc _)
 have HKO : Hid (Blk W1 (w.heap.size + 1) 41 #[.int .i64 0, .int .u64 0, .int .u64 0, .int .u64 0, .slice none 0 0, .int .i64 0]) := hQ (by rw [hW1]; exact Blk.newAt (by simp))
 have hs1 := hB1.size
 have HRUN := hQ (mrun_bad al Ap p cp Ai ni ci n sz h0 h1 s0 s1 hne W1 ((hf.keep (Kp.of_below hB1 nL)).more nL hs1) hm hr)
 have HB1 := hQ hB1
 have HW1 := hQ hW1
 clear hf hW1 hB1 hr
 obtain ⟨q0, q1, -, -, qz⟩ := HKP.out.c2
 obtain ⟨R, hR⟩ : ∃ R, R = errM al p n sz := ⟨_, rfl⟩
 rw [← hR] at hne HRUN ⊢
 clear hR
 go_enter Tryz.func8, Tryz.ntmps8
 go_upto_region 1 with (fail)
 rw [← HW1.out]
 go_wp2_with fail
 refine HRUN.out.mono ?_
 rintro e w2 ⟨rfl, bel2⟩
 have HB2 : Hid (Below w.heap.size w w2) := hQ (HB1.out.trans (bel2.mono hs1))
 have HCK := HB2
 have HKO2 := hQ (HKO.out.after bel2)
 clear bel2 q0 q1 qz HCK
 obtain ⟨o0, o1, o2, o3, o4, o5, f0, f1, f2, f3, f4, f5, oz⟩ := HKO2.out.c6
 have hK := (((((HKO2.out.set_ 0 (.int .i64 0)).set_ 1 (.int .u64 0)).set_ 2 (.int .u64 0)).set_ 3 (.int .u64 0)).set_ 4 (.slice none 0 0)).set_ 5 (.int .i64 0)
 have hB3 : Below w.heap.size w ((((((w2.setCell ⟨w.heap.size + 1, 0, none⟩ (.int .i64 0)).setCell ⟨w.heap.size + 1, 1, none⟩ (.int .u64 0)).setCell ⟨w.heap.size + 1, 2, none⟩ (.int .u64 0)).setCell ⟨w.heap.size + 1, 3, none⟩ (.int .u64 0)).setCell ⟨w.heap.size + 1, 4, none⟩ (.slice none 0 0)).setCell ⟨w.heap.size + 1, 5, none⟩ (.int .i64 0)) :=
  (((((HB2.out.setCell (Nat.le_succ _) _).setCell (Nat.le_succ _) _).setCell (Nat.le_succ _) _).setCell (Nat.le_succ _) _).setCell (Nat.le_succ _) _).setCell (Nat.le_succ _) _
 have HZ := hQ (Blk.c6 (show Blk _ _ _ #[.int .i64 0, .int .u64 0, .int .u64 0, .int .u64 0, .slice none 0 0, .int .i64 0] from hK))
 have HB3 := hQ hB3
 clear hK hB3
 go_wp2
 refine bodyPost_ret (v := .tuple #[outV (Mx.start [] 0 0) none 0, .int .i64 R]) (by obtain ⟨z0, z1, z2, z3, z4, z5, -⟩ := HZ.out; simp [outV, Mx.start, results, Tryz.results8, go_sem, z0, z1, z2, z3, z4, z5]) rfl ?_
 exact ⟨none, 0, rfl, HB3.out, Rx.nil _ _ _ _, Nat.le_refl _⟩
theorem mDeep_bad (al : Int) (Ap : Option Addr) (p : List Fr) (cp : Nat) (Ai : Option Addr) (ni ci : Nat) (n sz : Int) (h0 : -9223372036854775808 ≤ n) (h1 : n ≤ 9223372036854775807) (s0 : -9223372036854775808 ≤ sz) (s1 : sz ≤ 9223372036854775807) (hne : errM al p n sz ≠ 0) (w : World) (hf : Gx w 0 w.heap.size Ap p) (hm : p.length ≤ maxLen) (hr : TgR al p) :
 Calls Tryz.prog 10 #[.agg #[.int .i64 al, .slice Ap p.length cp], .slice Ai ni ci, .int .i64 n, .int .i64 sz] w (DepA (Mx.start [] 0 0) (errM al p n sz) w) := by
 obtain ⟨W1, hW1⟩ : ∃ W1, W1 = w.alloc (.cells #[.int .i64 al, .slice Ap p.length cp] 26) := ⟨_, rfl⟩
 have hB1 : Below w.heap.size w W1 := by rw [hW1]; exact bR.alloc nL _
 have HKP : Hid (Blk W1 w.heap.size 26 #[.int .i64 al, .slice Ap p.length cp]) := hQ (by rw [hW1]; exact Blk.new _ _ _)
 have hs1 := hB1.size
 have HRUN := hQ (mrun_bad al Ap p cp Ai ni ci n sz h0 h1 s0 s1 hne W1 ((hf.keep (Kp.of_below hB1 nL)).more nL hs1) hm hr)
 have HB1 := hQ hB1
 have HW1 := hQ hW1
 clear hf hW1 hB1 hr
 obtain ⟨q0, q1, -, -, qz⟩ := HKP.out.c2
 obtain ⟨R, hR⟩ : ∃ R, R = errM al p n sz := ⟨_, rfl⟩
 rw [← hR] at hne HRUN ⊢
 clear hR
 go_enter Tryz.func10, Tryz.ntmps10
 go_upto_region 1 with (fail)
 rw [← HW1.out]
 go_wp2_with fail
 refine HRUN.out.mono ?_
 rintro e w2 ⟨rfl, b2⟩
 have HB2 : Hid (Below w.heap.size w w2) := hQ (HB1.out.trans (b2.mono hs1))
 clear b2 q0 q1 qz HRUN
 go_wp2
 go_ret2
 exact ⟨rfl, HB2.out⟩
theorem trun_bad (al : Int) (Ap : Option Addr) (p : List Fr) (cp : Nat) (Ai : Option Addr) (ni ci : Nat) (n sz : Int) (h0 : -9223372036854775808 ≤ n) (h1 : n ≤ 9223372036854775807) (s0 : -9223372036854775808 ≤ sz) (s1 : sz ≤ 9223372036854775807) (hne : errM al p n sz ≠ 0) (w : World) (hf : Gx w 0 w.heap.size Ap p) (hm : p.length ≤ maxLen) (hr : TgR al p) :
 Calls Tryz.prog 20 #[.agg #[.int .i64 al, .slice Ap p.length cp], .slice Ai ni ci, .int .i64 n, .int .i64 sz] w (RunA (Mx.start [] 0 0) (errM al p n sz) w) := by
 obtain ⟨W1, hW1⟩ : ∃ W1, W1 = (w.alloc (.cells #[.int .i64 al, .slice Ap p.length cp] 26)).alloc (.cells #[.int .i64 0, .int .u64 0, .int .u64 0, .int .u64 0, .slice none 0 0, .int .i64 0] 41) := ⟨_, rfl⟩
 have hB1 : Below w.heap.size w W1 := by rw [hW1]; exact (bR.alloc nL _).alloc (by simp) _
 have HKP : Hid (Blk W1 w.heap.size 26 #[.int .i64 al, .slice Ap p.length cp]) := hQ (by rw [hW1]; exact (Blk.new _ _ _).alloc _)
 have HKO : Hid (Blk W1 (w.heap.size + 1) 41 #[.int .i64 0, .int .u64 0, .int .u64 0, .int .u64 0, .slice none 0 0, .int .i64 0]) := hQ (by rw [hW1]; exact Blk.newAt (by simp))
 have hs1 := hB1.size
 have HF1 := hQ (hf.keep (Kp.of_below hB1 nL))
 have HB1 := hQ hB1
 have HW1 := hQ hW1
 have HR := hQ hr
 have ha0 := hr.1.1
 have ha1 := hr.1.2
 clear hf hW1 hB1 hr
 obtain ⟨q0, q1, -, -, qz⟩ := HKP.out.c2
 obtain ⟨E, hE⟩ : ∃ E, E = tgE al p := ⟨_, rfl⟩
 obtain ⟨R, hR⟩ : ∃ R, R = errM al p n sz := ⟨_, rfl⟩
 rw [← hR] at hne ⊢
 unfold errM at hR
 rw [← hE] at hR
 have HCK : Hid (Calls Tryz.prog 31 #[.agg #[.int .i64 al, .slice Ap p.length cp]] W1 fun e w' => e = .returned (.int .i64 E) ∧ Below W1.heap.size W1 w') := hQ (by rw [hE]; exact refcheck10_any Ap cp HR.out W1 0 w.heap.size HF1.out hs1 hm)
 have HRQ := hQ hR
 have HNE := hQ hne
 clear hE hR hne
 go_enter Tryz.func20, Tryz.ntmps20
 go_upto_region 1 with (fail)
 rw [← HW1.out]
 go_wp2_with fail
 refine HCK.out.mono ?_
 rintro e w2 ⟨rfl, bel2⟩
 have HB2 : Hid (Below w.heap.size w w2) := hQ (HB1.out.trans (bel2.mono hs1))
 have HKO2 := hQ (HKO.out.after bel2)
 clear bel2 q0 q1 qz HCK
 obtain ⟨o0, o1, o2, o3, o4, o5, f0, f1, f2, f3, f4, f5, oz⟩ := HKO2.out.c6
 have hK := (((((HKO2.out.set_ 0 (.int .i64 0)).set_ 1 (.int .u64 0)).set_ 2 (.int .u64 0)).set_ 3 (.int .u64 0)).set_ 4 (.slice none 0 0)).set_ 5 (.int .i64 0)
 have hB3 : Below w.heap.size w ((((((w2.setCell ⟨w.heap.size + 1, 0, none⟩ (.int .i64 0)).setCell ⟨w.heap.size + 1, 1, none⟩ (.int .u64 0)).setCell ⟨w.heap.size + 1, 2, none⟩ (.int .u64 0)).setCell ⟨w.heap.size + 1, 3, none⟩ (.int .u64 0)).setCell ⟨w.heap.size + 1, 4, none⟩ (.slice none 0 0)).setCell ⟨w.heap.size + 1, 5, none⟩ (.int .i64 0)) :=
  (((((HB2.out.setCell (Nat.le_succ _) _).setCell (Nat.le_succ _) _).setCell (Nat.le_succ _) _).setCell (Nat.le_succ _) _).setCell (Nat.le_succ _) _).setCell (Nat.le_succ _) _
 have HZ := hQ (Blk.c6 (show Blk _ _ _ #[.int .i64 0, .int .u64 0, .int .u64 0, .int .u64 0, .slice none 0 0, .int .i64 0] from hK))
 have HB3 := hQ hB3
 clear hK hB3
 have hR := HRQ.out
 have hne := HNE.out
 by_cases he : E = 0
 · subst he
   rw [if_neg (by simp)] at hR
   by_cases hb : n < 0 ∨ 100000 < n ∨ sz < 0 ∨ 1048576 < sz
   · rw [if_pos hb] at hR
     subst hR
     have hcs : n < 0 ∨ (¬ n < 0 ∧ 100000 < n) ∨ (¬ n < 0 ∧ ¬ 100000 < n ∧ sz < 0) ∨ (¬ n < 0 ∧ ¬ 100000 < n ∧ ¬ sz < 0 ∧ 1048576 < sz) := by omega
     clear hb
     rcases hcs with a1 | ⟨a1, a2⟩ | ⟨a1, a2, a3⟩ | ⟨a1, a2, a3, a4⟩
     all_goals
      go_wp2
      refine bodyPost_ret (v := .tuple #[outV (Mx.start [] 0 0) none 0, .int .i64 0, .int .i64 4]) (by obtain ⟨z0, z1, z2, z3, z4, z5, -⟩ := HZ.out; simp [outV, Mx.start, results, Tryz.results20, go_sem, z0, z1, z2, z3, z4, z5]) rfl ?_
      exact ⟨none, 0, rfl, HB3.out, Rx.nil _ _ _ _, Nat.le_refl _⟩
   · rw [if_neg hb] at hR
     exact absurd hR hne
 · rw [if_pos he] at hR
   subst hR
   have hEb : (R != 0) = true := by simpa using he
   have HHE := hQ he
   clear he hne HRQ HNE HF1 HR
   go_upto_region 3 with (fail)
   go_wp2
   refine bodyPost_ret (v := .tuple #[outV (Mx.start [] 0 0) none 0, .int .i64 0, .int .i64 R]) (by obtain ⟨z0, z1, z2, z3, z4, z5, -⟩ := HZ.out; simp [outV, Mx.start, results, Tryz.results20, go_sem, z0, z1, z2, z3, z4, z5]) rfl ?_
   exact ⟨none, 0, rfl, HB3.out, Rx.nil _ _ _ _, Nat.le_refl _⟩
theorem refRun_w (al : Int) (Ap : Option Addr) (p : List Fr) (cp : Nat) (Ai : Option Addr) (ni ci : Nat) (n sz : Int) (M : Mx) (R : Int) (w : World) (hrun : ∀ W, Below w.heap.size w W → Calls Tryz.prog 20 #[.agg #[.int .i64 al, .slice Ap p.length cp], .slice Ai ni ci, .int .i64 n, .int .i64 sz] W (RunA M R W)) :
 Calls Tryz.prog 9 #[.agg #[.int .i64 al, .slice Ap p.length cp], .slice Ai ni ci, .int .i64 n, .int .i64 sz] w (OutA M R w) := by
 obtain ⟨W1, hW1⟩ : ∃ W1, W1 = (w.alloc (.cells #[.int .i64 al, .slice Ap p.length cp] 26)).alloc (.cells #[.int .i64 0, .int .u64 0, .int .u64 0, .int .u64 0, .slice none 0 0, .int .i64 0] 41) := ⟨_, rfl⟩
 have hB1 : Below w.heap.size w W1 := by rw [hW1]; exact (bR.alloc nL _).alloc (by simp) _
 have HKP : Hid (Blk W1 w.heap.size 26 #[.int .i64 al, .slice Ap p.length cp]) := hQ (by rw [hW1]; exact (Blk.new _ _ _).alloc _)
 have HKO : Hid (Blk W1 (w.heap.size + 1) 41 #[.int .i64 0, .int .u64 0, .int .u64 0, .int .u64 0, .slice none 0 0, .int .i64 0]) := hQ (by rw [hW1]; exact Blk.newAt (by simp))
 have hs1 := hB1.size
 have HRUN := hQ (hrun W1 hB1)
 have HB1 := hQ hB1
 have HW1 := hQ hW1
 have hz1 : w.heap.size + 1 < W1.heap.size := HKO.out.lt
 clear hW1 hB1 hrun
 obtain ⟨q0, q1, -, -, qz⟩ := HKP.out.c2
 go_enter Tryz.func9, Tryz.ntmps9
 go_upto_region 1 with (fail)
 rw [← HW1.out]
 go_wp2_with fail
 refine HRUN.out.mono ?_
 rintro e w2 ⟨At, ct, rfl, b2, htr, hct⟩
 unfold outV
 obtain ⟨tl, htl⟩ : ∃ tl, tl = M.trace.length := ⟨_, rfl⟩
 rw [← htl]
 obtain ⟨W3, hW3⟩ : ∃ W, W = w2.alloc (.cells #[.int .i64 M.kind, .int .u64 M.code, .int .u64 M.res.1, .int .u64 M.res.2, .slice At tl ct, .int .i64 M.steps] 41) := ⟨_, rfl⟩
 obtain ⟨g8, hg8⟩ : ∃ g, g = w2.heap.size := ⟨_, rfl⟩
 have hb3 : Below w2.heap.size w2 W3 := by rw [hW3]; exact bR.alloc nL _
 have HK8 : Hid (Blk W3 g8 41 #[.int .i64 M.kind, .int .u64 M.code, .int .u64 M.res.1, .int .u64 M.res.2, .slice At tl ct, .int .i64 M.steps]) := hQ (by rw [hW3, hg8]; exact Blk.new _ _ _)
 have HKO3 := hQ ((HKO.out.after b2).after hb3)
 have HB3 : Hid (Below w.heap.size w W3) := hQ ((HB1.out.trans (b2.mono hs1)).trans (hb3.mono (Nat.le_trans hs1 b2.size)))
 have HTR : Hid (Rx W3 W1.heap.size w2.heap.size 2 At M.trace.length (M.trace.flatMap vcl)) := hQ (htr.keep (Kp.of_below hb3 nL))
 have HCT := hQ hct
 have HTL := hQ htl
 have hz2 : W1.heap.size ≤ w2.heap.size := b2.size
 have hg8z : w.heap.size + 1 < g8 := by omega
 have hz3 : w2.heap.size ≤ W3.heap.size := hb3.size
 have HW3 := hQ hW3
 have HG8 := hQ hg8
 clear hW3 hg8 hb3 htr hct htl b2 q0 q1 qz HRUN
 go_upto_region 2 with (fail)
 rw [← HW3.out, ← HG8.out]
 obtain ⟨o0, o1, o2, o3, o4, o5, f0, f1, f2, f3, f4, f5, oz⟩ := HKO3.out.c6
 obtain ⟨x0, x1, x2, x3, x4, x5, -, -, -, -, -, -, xz⟩ := HK8.out.c6
 have hne8 : ¬ g8 = w.heap.size + 1 := by omega
 have hne9 : ¬ w.heap.size + 1 = g8 := by omega
 clear HW3 HG8
 go_wp2
 have hK := (((((HKO3.out.set_ 0 (.int .i64 M.kind)).set_ 1 (.int .u64 M.code)).set_ 2 (.int .u64 M.res.1)).set_ 3 (.int .u64 M.res.2)).set_ 4 (.slice At tl ct)).set_ 5 (.int .i64 M.steps)
 have hBz := (((((HB3.out.setCell (p := ⟨w.heap.size + 1, 0, none⟩) (Nat.le_succ _) (.int .i64 M.kind)).setCell (p := ⟨w.heap.size + 1, 1, none⟩) (Nat.le_succ _) (.int .u64 M.code)).setCell (p := ⟨w.heap.size + 1, 2, none⟩) (Nat.le_succ _) (.int .u64 M.res.1)).setCell (p := ⟨w.heap.size + 1, 3, none⟩) (Nat.le_succ _) (.int .u64 M.res.2)).setCell (p := ⟨w.heap.size + 1, 4, none⟩) (Nat.le_succ _) (.slice At tl ct)).setCell (p := ⟨w.heap.size + 1, 5, none⟩) (Nat.le_succ _) (.int .i64 M.steps)
 have hk9 := ((((((Kp.refl W1.heap.size w2.heap.size W3).set (p := ⟨w.heap.size + 1, 0, none⟩) (.inl hz1) (.int .i64 M.kind)).set (p := ⟨w.heap.size + 1, 1, none⟩) (.inl hz1) (.int .u64 M.code)).set (p := ⟨w.heap.size + 1, 2, none⟩) (.inl hz1) (.int .u64 M.res.1)).set (p := ⟨w.heap.size + 1, 3, none⟩) (.inl hz1) (.int .u64 M.res.2)).set (p := ⟨w.heap.size + 1, 4, none⟩) (.inl hz1) (.slice At tl ct)).set (p := ⟨w.heap.size + 1, 5, none⟩) (.inl hz1) (.int .i64 M.steps)
 generalize hW9 : (((((W3.setCell ⟨w.heap.size + 1, 0, none⟩ (.int .i64 M.kind)).setCell ⟨w.heap.size + 1, 1, none⟩ (.int .u64 M.code)).setCell ⟨w.heap.size + 1, 2, none⟩ (.int .u64 M.res.1)).setCell ⟨w.heap.size + 1, 3, none⟩ (.int .u64 M.res.2)).setCell ⟨w.heap.size + 1, 4, none⟩ (.slice At tl ct)).setCell ⟨w.heap.size + 1, 5, none⟩ (.int .i64 M.steps) = W9 at hK hBz hk9 ⊢
 have hz9 : W9.heap.size = W3.heap.size := by rw [← hW9]; simp [World.setCell]
 clear o0 o1 o2 o3 o4 o5 f0 f1 f2 f3 f4 f5 x0 x1 x2 x3 x4 x5 hW9
 obtain ⟨o0, o1, o2, o3, o4, o5, -⟩ := Blk.c6 (show Blk W9 _ _ #[.int .i64 M.kind, .int .u64 M.code, .int .u64 M.res.1, .int .u64 M.res.2, .slice At tl ct, .int .i64 M.steps] from hK)
 refine bodyPost_ret (v := .tuple #[.agg #[.int .i64 M.kind, .int .u64 M.code, .int .u64 M.res.1, .int .u64 M.res.2, .slice At tl ct, .int .i64 M.steps], .int .i64 R]) (by simp [results, Tryz.results9, go_sem, o0, o1, o2, o3, o4, o5]) rfl ?_
 refine ⟨At, ct, by unfold outV; rw [HTL.out], hBz, ?_, HCT.out⟩
 exact (HTR.out.keep hk9).more hs1 (by omega)
theorem refDeep_w (al : Int) (Ap : Option Addr) (p : List Fr) (cp : Nat) (Ai : Option Addr) (ni ci : Nat) (n sz : Int) (M : Mx) (R : Int) (w : World) (hrun : ∀ W, Below w.heap.size w W → Calls Tryz.prog 20 #[.agg #[.int .i64 al, .slice Ap p.length cp], .slice Ai ni ci, .int .i64 n, .int .i64 sz] W (RunA M R W)) :
 Calls Tryz.prog 11 #[.agg #[.int .i64 al, .slice Ap p.length cp], .slice Ai ni ci, .int .i64 n, .int .i64 sz] w (DepA M R w) := by
 obtain ⟨W1, hW1⟩ : ∃ W1, W1 = w.alloc (.cells #[.int .i64 al, .slice Ap p.length cp] 26) := ⟨_, rfl⟩
 have hB1 : Below w.heap.size w W1 := by rw [hW1]; exact bR.alloc nL _
 have HKP : Hid (Blk W1 w.heap.size 26 #[.int .i64 al, .slice Ap p.length cp]) := hQ (by rw [hW1]; exact Blk.new _ _ _)
 have hs1 := hB1.size
 have HRUN := hQ (hrun W1 hB1)
 have HB1 := hQ hB1
 have HW1 := hQ hW1
 clear hW1 hB1 hrun
 obtain ⟨q0, q1, -, -, qz⟩ := HKP.out.c2
 go_enter Tryz.func11, Tryz.ntmps11
 go_upto_region 1 with (fail)
 rw [← HW1.out]
 go_wp2_with fail
 refine HRUN.out.mono ?_
 rintro e w2 ⟨At, ct, rfl, b2, htr, hct⟩
 unfold outV
 have HB2 : Hid (Below w.heap.size w w2) := hQ (HB1.out.trans (b2.mono hs1))
 have hs2 := b2.size
 clear htr hct b2 q0 q1 qz HRUN
 go_wp2
 go_ret2
 exact ⟨rfl, Below.al HB2.out _⟩
theorem errM_zero {al : Int} {p : List Fr} {n sz : Int} (h : ¬ errM al p n sz ≠ 0) : tgE al p = 0 ∧ 0 ≤ n ∧ n ≤ 100000 ∧ 0 ≤ sz ∧ sz ≤ 1048576 := by
 have h := Decidable.not_not.1 h
 unfold errM at h
 split at h
 · exact absurd h ‹_›
 · rename_i g
   split at h
   · cases h
   · rename_i g2
     exact ⟨Decidable.not_not.1 g, by omega, by omega, by omega, by omega⟩
def Four (al : Int) (Ap : Option Addr) (p : List Fr) (cp : Nat) (iv : Value) (n sz : Int) (M : Mx) (R : Int) (W : World) : Prop :=
 (Calls Tryz.prog 8 #[.agg #[.int .i64 al, .slice Ap p.length cp], iv, .int .i64 n, .int .i64 sz] W fun e w' => OutA M R W e w' ∧ M.trace.length ≤ maxLen) ∧
 Calls Tryz.prog 9 #[.agg #[.int .i64 al, .slice Ap p.length cp], iv, .int .i64 n, .int .i64 sz] W (OutA M R W) ∧
 Calls Tryz.prog 10 #[.agg #[.int .i64 al, .slice Ap p.length cp], iv, .int .i64 n, .int .i64 sz] W (DepA M R W) ∧
 Calls Tryz.prog 11 #[.agg #[.int .i64 al, .slice Ap p.length cp], iv, .int .i64 n, .int .i64 sz] W (DepA M R W)
theorem four_any (al : Int) (Ap : Option Addr) (p : List Fr) (cp : Nat) (iv : Value) (inp : List Nat) (n sz : Int) (h0 : -9223372036854775808 ≤ n) (h1 : n ≤ 9223372036854775807) (s0 : -9223372036854775808 ≤ sz) (s1 : sz ≤ 9223372036854775807) (hm : p.length ≤ maxLen) (hr : TgR al p) (him : ∀ i, i < p.length → ∀ x ∈ (p.getD i Fr.z).code, 0 ≤ x.imm ∧ x.imm < 18446744073709551616) (hi64 : ∀ v ∈ inp, v < 18446744073709551616) :
 ∃ M R, ∀ W, Gx W 0 W.heap.size Ap p → InX W W.heap.size iv inp → Four al Ap p cp iv n sz M R W := by
 by_cases hb : errM al p n sz ≠ 0
 · refine ⟨Mx.start [] 0 0, errM al p n sz, fun W hf hin => ?_⟩
   obtain ⟨Ai, ci, rfl, -⟩ := hin
   have hrun := fun (W' : World) (h : Below W.heap.size W W') => trun_bad al Ap p cp Ai inp.length ci n sz h0 h1 s0 s1 hb W' ((hf.keep (Kp.of_below h nL)).more nL h.size) hm hr
   exact ⟨(mRun_bad al Ap p cp Ai inp.length ci n sz h0 h1 s0 s1 hb W hf hm hr).mono fun e w' h => ⟨h, Nat.zero_le _⟩, refRun_w al Ap p cp Ai inp.length ci n sz _ _ W hrun, mDeep_bad al Ap p cp Ai inp.length ci n sz h0 h1 s0 s1 hb W hf hm hr, refDeep_w al Ap p cp Ai inp.length ci n sz _ _ W hrun⟩
 · obtain ⟨hE, n0, n1, z0, z1⟩ := errM_zero hb
   obtain ⟨F, rfl⟩ := Int.eq_ofNat_of_zero_le n0
   obtain ⟨S, rfl⟩ := Int.eq_ofNat_of_zero_le z0
   have hp := tgE_gt hE hr him
   have hF : F ≤ 100000 := by omega
   have hS : S ≤ 1048576 := by omega
   refine ⟨runX p F (F + 2) (startX p inp S (tpOf al S) F), 0, fun W hf hin => ?_⟩
   obtain ⟨ad, -, -, rfl, -⟩ := hf.whole hp.len.1
   have hin0 := hin
   obtain ⟨Ai, ci, rfl, -⟩ := hin0
   have hrun := fun (W' : World) (h : Below W.heap.size W W') => trun_x ad p cp al (.slice Ai inp.length ci) inp F S hF hS hp hE W' ((hf.keep (Kp.of_below h nL)).more nL h.size) ((hin.after h).more h.size) hi64
   refine ⟨(out_x ad p cp al (.slice Ai inp.length ci) inp F S hF hS hp hE W hf hin hi64).mono ?_, refRun_w al (some ad) p cp Ai inp.length ci F S _ _ W hrun, depth_x ad p cp al (.slice Ai inp.length ci) inp F S hF hS hp hE W hf hin hi64, refDeep_w al (some ad) p cp Ai inp.length ci F S _ _ W hrun⟩
   rintro e w' ⟨At, ct, rfl, hbl, own⟩
   exact ⟨⟨At, ct, rfl, hbl, Rx.of_own own, (own_cap own).2⟩, (own_cap own).1⟩
theorem InX.codes {w w' : World} {B cb n c p0 : Nat} {A : Option Addr} {l : List Nat} {iv : Value} {inp : List Nat} (h : InX w w.heap.size iv inp) (hc : CodesAt w B cb A n c l p0) (hg : w.grownBy w' (some cb)) : InX w' w'.heap.size iv inp := by
 obtain ⟨Ai, ci, rfl, h2, h3, h4, h5⟩ := h
 refine ⟨Ai, ci, rfl, h2, h3, ?_⟩
 by_cases h0 : inp.length = 0
 · obtain rfl : inp = [] := List.length_eq_zero_iff.1 h0
   exact ⟨⟨rfl, fun h => absurd h (by simp)⟩, fun _ _ _ => Nat.zero_le _⟩
 · obtain ⟨ad, e, hb, hcl⟩ := h4.2 (by omega)
   obtain ⟨v, r, rfl⟩ : ∃ v r, inp = v :: r := by
    cases inp with
    | nil => simp at h0
    | cons v r => exact ⟨v, r, rfl⟩
   have hne : ad.block ≠ cb := by
    intro heq
    have h6 := hcl 0 (.int .u64 (v : Int)) rfl
    have e0 : ad.add 0 = ad := by unfold Addr.add; simp
    rw [e0] at h6
    have h7 : w.heap[cb]? = some (.cells #[.slice A n c, .int .i64 p0] 60 (0, 0)) := hc.1
    obtain ⟨b, o, f⟩ := ad
    have hq : b = cb := heq
    subst hq
    unfold World.cell? at h6
    simp only [h7] at h6
    cases f with
    | some _ => simp at h6
    | none =>
     match o, h6 with
     | 0, h6 => simp at h6
     | 1, h6 => simp at h6
     | o + 2, h6 => simp at h6
   have hk : Kp ad.block (ad.block + 1) w w' := fun b h1 h2 => hg.block b (by omega) (fun q => hne (by injection q; omega))
   have hx : Rx w ad.block (ad.block + 1) 1 Ai (v :: r).length (inV8 (v :: r)) := ⟨⟨h4.1, fun _ => ⟨ad, e, Nat.lt_succ_self _, hcl⟩⟩, fun ad' e' _ => by rw [e] at e'; injection e' with e'; rw [e']; exact Nat.le_refl _⟩
   exact (hx.keep hk).more (Nat.zero_le _) (Nat.lt_of_lt_of_le hb hg.size)
end Go.Proofs.YtcnndoefgjbmiaaGreat.pm
