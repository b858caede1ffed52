/- One step at any operation. -/
import Derived.Test.YtcnndoefgjbmiaaGreatJka
import Derived.Test.YtcnndoefgjbmiaaGreatJkc
import Derived.Test.YtcnndoefgjbmiaaGreatJkd
set_option linter.unusedVariables false
set_option maxRecDepth 10000
set_option maxHeartbeats 8000000
namespace Go.Proofs.YtcnndoefgjbmiaaGreat.pm
open Go.RowKit
section
variable {B mb cs ct cp : Nat} {L : Pl} {ad : Addr} {iv : Value} {As At : Option Addr} {m : Mx} {p : List Fr} {al : Int}
theorem step_x (w : World) (h : Pre w B mb L ad p cp iv As cs At ct m) (hop : OkX p m (m.ins p)) :
 Calls Tryz.prog 30 #[.pointer (some ⟨mb, 0, none⟩)] w (StepI w B mb L ad (.slice (some ad) p.length cp) (stepX p m)) := by
 obtain ⟨prm, sz, gx⟩ := hop.gx
 obtain ⟨h0, h1, h2, h3⟩ := gx.op
 by_cases a : (m.ins p).op ≤ 15
 · exact step_ka w h hop (by omega)
 by_cases c : (m.ins p).op = 16 ∨ (m.ins p).op = 17
 · exact step_kc w h hop c
 exact step_kd w h hop (by omega)
end
def stepsAt (w : World) (mb : Nat) : Nat :=
 match w.cell? ⟨mb, 22, none⟩ with
 | some (.int _ n) => n.toNat
 | _ => 0
section
variable {B mb cs ct cp : Nat} {L : Pl} {ad : Addr} {iv : Value} {As At : Option Addr} {m : Mx} {p : List Fr} {al : Int}
theorem MAt.stepsAt {w : World} {pv : Value} (h : MAt w B mb L ad pv iv As cs At ct m) : stepsAt w mb = m.steps := by
 obtain ⟨-, -, c22, -⟩ := h.cells
 unfold pm.stepsAt
 rw [c22]
 simp
def RunX (p : List Fr) (al : Int) (inp : List Nat) (F size : Nat) (w : World) (e : Ending) (w' : World) : Prop :=
 ∃ mb, e = .returned (.tuple #[.pointer (some ⟨mb, 0, none⟩), .int .i64 0]) ∧ Below w.heap.size w w' ∧ ∃ L ad pv iv As cs At ct, MAt w' w.heap.size mb L ad pv iv As cs At ct (runX p F (F + 2) (startX p inp size (tpOf al size) F))
theorem start_at {w : World} {pv iv : Value} {inp : List Nat} {mb size tp : Nat} (hB : B ≤ mb) (hb : Blk w mb 72 (mcs L.al pv iv (.slice none 0 0) (.slice none 0 0) L.bv L.uv (Mx.start inp size tp)))
 (h1 : w.ownsRow B 5 1 L.bv size (nb (List.replicate size 0))) (h2 : w.ownsRow B 4 1 L.uv size ((List.replicate size false).map Value.bool)) :
 MAt w B mb L ad pv iv none 0 none 0 (Mx.start inp size tp) :=
 ⟨hb, hB, World.ownsRow_nil _ _ _ _, World.ownsRow_nil _ _ _ _, by show w.ownsRow B 5 1 L.bv (List.replicate size 0).length _; rw [List.length_replicate]; exact h1, by show w.ownsRow B 4 1 L.uv (List.replicate size false).length _; rw [List.length_replicate]; exact h2⟩
theorem FitX.pre {w : World} (h : FitX p m) (hm : MAt w B mb L ad (.slice (some ad) p.length cp) iv As cs At ct m) (hg : Gx w 0 B (some ad) p) (hB : B ≤ w.heap.size) (hp : p.length ≤ maxLen) (hst : m.steps ≤ 1000000) (hi : InX w B iv m.inp) (he : m.ended = false) : Pre w B mb L ad p cp iv As cs At ct m :=
 ⟨hm, h.wf, hg, hB, hp, h.big, hst, h.pc, h.len, h.mem, h.m256, h.rgw, h.tr, h.sp, h.tp, h.dp, hi, he⟩
theorem run_x (ad : Addr) (p : List Fr) (cp : Nat) (al : Int) (iv0 : Value) (inp : List Nat) (F size : Nat) (hF : F ≤ 100000) (hsize : size ≤ 1048576) (hp : RT al p) (hE : tgE al p = 0) (w : World) (hg : Gx w 0 w.heap.size (some ad) p) (hin : InX w w.heap.size iv0 inp) (hi : ∀ v ∈ inp, v < 18446744073709551616) :
 Calls Tryz.prog 19 #[.agg #[.int .i64 al, .slice (some ad) p.length cp], iv0, .int .i64 (F : Int), .int .i64 (size : Int)] w (RunX p al inp F size w) := by
 obtain ⟨Ai, ci, rfl, hi1, hi2, hi3⟩ := hin
 obtain ⟨ni, hni⟩ : ∃ ni, ni = inp.length := ⟨_, rfl⟩
 have HIN : Hid (InX w w.heap.size (.slice Ai ni ci) inp) := hQ (by rw [hni]; exact ⟨Ai, ci, rfl, hi1, hi2, hi3⟩)
 rw [← hni]
 clear hi1 hi2 hi3 hni
 obtain ⟨W1, hW1⟩ : ∃ W1, W1 = w.alloc (.cells #[.int .i64 al, .slice (some ad) p.length cp] 26) := ⟨_, rfl⟩
 have hB1 : Below w.heap.size w W1 := by rw [hW1]; exact bR.alloc nL _
 have HKP : Hid (Blk W1 w.heap.size 26 #[.int .i64 al, .slice (some ad) p.length cp]) := hQ (by rw [hW1]; exact Blk.new _ _ _)
 have HG0 := hQ hg
 have HG1 := hQ (hg.keep (Kp.of_below hB1 nL))
 have HB1 := hQ hB1
 have HW1 := hQ hW1
 have HP := hQ hp
 have HI := hQ hi
 have hm : p.length ≤ maxLen := by have := hp.len; unfold maxLen; omega
 have hal1 : 16 ≤ al := hp.pw.2
 have hal2 : al ≤ 16777216 := (powB_range al hp.pw.1).2
 have HCH := hQ (mcheck_any (some ad) cp hp.rng W1 0 w.heap.size HG1.out hB1.size hm)
 have hs1 := hB1.size
 have hF0 : (0 : Int) ≤ (F : Int) := by omega
 have hF1 : (F : Int) ≤ 100000 := by omega
 have hnw : newR (size : Int) al = (0, size, ((tpOf al size : Nat) : Int)) := by
  unfold newR
  rw [if_pos ⟨by omega, by omega, hp.pw.1⟩, tpOf_int al (by omega)]
  simp
 have HST := hQ (fun W : World => hnw ▸ stknew_any (size : Int) al (by omega) (by omega) (by omega) (by omega) W)
 have HTP := hQ (tpOf_le al (by omega) size)
 clear hg hW1 hB1 hi hp hnw
 obtain ⟨tp, htp⟩ : ∃ tp, tp = tpOf al size := ⟨_, rfl⟩
 rw [← htp] at HST HTP
 have HTQ : Hid (tpOf al size = tp) := hQ htp.symm
 clear htp
 obtain ⟨q0, q1, -, -, qz⟩ := HKP.out.c2
 go_enter Tryz.func19, Tryz.ntmps19
 go_upto_region 1 with (fail)
 rw [← HW1.out]
 go_wp2_with fail
 refine HCH.out.mono ?_
 rintro e w2 ⟨rfl, bel2⟩
 rw [hE]
 have HB2 : Hid (Below w.heap.size w w2) := hQ (HB1.out.trans (bel2.mono hs1))
 have HKP2 := hQ (HKP.out.after bel2)
 have hs2 : W1.heap.size ≤ w2.heap.size := bel2.size
 clear bel2 q0 q1 qz
 obtain ⟨q0, q1, -, -, qz⟩ := HKP2.out.c2
 go_wp2_with fail
 refine (HST.out _).mono ?_
 rintro e w3 ⟨A1, c1, A2, c2, rfl, ow1, ow2, bel3⟩
 have HB3 : Hid (Below w.heap.size w w3) := hQ (HB2.out.trans (bel3.mono HB2.out.size))
 have HKP3 := hQ (HKP2.out.after bel3)
 have HO1 := hQ (own_base ow1 HB2.out.size)
 have HO2 := hQ (own_base ow2 HB2.out.size)
 have hs3 : w2.heap.size ≤ w3.heap.size := bel3.size
 clear bel3 ow1 ow2 q0 q1 qz
 obtain ⟨q0, q1, -, -, qz⟩ := HKP3.out.c2
 go_upto_region 10 with (fail)
 obtain ⟨L, hL⟩ : ∃ L, L = (⟨al, .slice A1 size c1, .slice A2 size c2⟩ : Pl) := ⟨_, rfl⟩
 obtain ⟨mb, hmb⟩ : ∃ mb, mb = w3.heap.size + 1 := ⟨_, rfl⟩
 obtain ⟨W4, hW4⟩ : ∃ W4, W4 = (w3.alloc (.cells #[.slice A1 size c1, .slice A2 size c2, .int .i64 (tp : Int)] 69)).alloc (.cells (mcs L.al (.slice (some ad) p.length cp) (.slice Ai ni ci) (.slice none 0 0) (.slice none 0 0) L.bv L.uv (Mx.start inp size tp)) 72) := ⟨_, rfl⟩
 have hW4' : W4 = (w3.alloc (.cells #[.slice A1 size c1, .slice A2 size c2, .int .i64 (tp : Int)] 69)).alloc (.cells #[.int .u64 0, .int .u64 0, .int .u64 0, .int .u64 0, .int .u64 0, .int .u64 0, .int .u64 0, .int .u64 0, .int .u64 0, .int .u64 0, .int .u64 0, .int .u64 0, .int .u64 0, .int .u64 0, .int .u64 0, .int .u64 0, .slice Ai ni ci, .int .i64 0, .int .u64 0, .int .u64 0, .int .u64 0, .slice none 0 0, .int .i64 0, .bool false, .int .i64 al, .slice (some ad) p.length cp, .slice A1 size c1, .slice A2 size c2, .int .i64 (tp : Int), .int .i64 (tp : Int), .slice none 0 0, .int .i64 0] 72) := by rw [hW4, hL]; rfl
 have hb4 : Below w3.heap.size w3 W4 := by rw [hW4]; exact (bR.alloc nL _).alloc (by simp) _
 have HM4 : Hid (MAt W4 w.heap.size mb L ad (.slice (some ad) p.length cp) (.slice Ai ni ci) none 0 none 0 (Mx.start inp size tp)) := hQ (by
  refine start_at (by omega) (by rw [hW4]; exact Blk.newAt (by rw [hmb]; simp)) ?_ ?_
  · rw [hL, hW4]; exact (HO1.out.alloc _).alloc _
  · rw [hL, hW4]; exact (HO2.out.alloc _).alloc _)
 have HB4 : Hid (Below w.heap.size w W4) := hQ (HB3.out.trans (hb4.mono HB3.out.size))
 rw [← hW4', ← hmb]
 have hBm : w.heap.size ≤ mb := by omega
 clear hW4 hW4' hmb hb4 q0 q1 qz HKP HKP2 HKP3 HO1 HO2 hL HB3 HB2
 go_upto_if 44 with (fail)
 go_cut [] (fun wx => ∃ As4 cs4, Hid (MAt wx w.heap.size mb L ad (.slice (some ad) p.length cp) (.slice Ai ni ci) As4 cs4 none 0 (startX p inp size tp F)) ∧ Hid (Below w.heap.size w wx))
 case first =>
  by_cases h0 : 0 < F
  · have h0i : (0 : Int) < (F : Int) := by omega
    have HS : Hid (startX p inp size tp F = (Mx.start inp size tp).call 0 (szF p 0)) := hQ (by unfold startX; rw [if_pos h0])
    have hp0 : 0 < p.length := HP.out.len.1
    have HCL := hQ (call_any W4 p cp 0 (szF p 0) hp0 (szF_def HP.out hp0).symm (by have h1 := szF_def HP.out hp0; have h2 := (HP.out.fr 0 hp0).size.2; omega) hm (by simp [Mx.start]) (by simp [Mx.start]) (by simp [Mx.start]; exact HTP.out) (by simp [Mx.start]; exact hsize) (by simp [Mx.start]) (by simp [Mx.start]) HM4.out HB4.out.size (HG0.out.keep fun b _ hn => HB4.out.block b hn))
    clear h0 hp0
    go_wp2_with fail
    refine HCL.out.mono ?_
    rintro e w5 ⟨rfl, b5, As5, cs5, m5⟩
    have HM5 := hQ m5
    have HB5 := hQ (HB4.out.trans b5)
    clear m5 b5
    go_wp2
    go_meet
    exact ⟨As5, cs5, by rw [HS.out]; exact HM5, HB5⟩
  · have h0i : (F : Int) ≤ 0 := by omega
    have HS : Hid (startX p inp size tp F = Mx.start inp size tp) := hQ (by unfold startX; rw [if_neg h0])
    clear h0
    go_wp2
    go_meet
    exact ⟨none, 0, by rw [HS.out]; exact HM4, HB4⟩
 case rest =>
  obtain ⟨As4, cs4, HM5, HB5⟩ := hcut
  obtain ⟨S0, hS0⟩ : ∃ S0, S0 = startX p inp size tp F := ⟨_, rfl⟩
  have HS0s : Hid (S0.steps = 0) := hQ (by rw [hS0]; unfold startX; split; (rw [steps_call]; rfl); rfl)
  have HS0i : Hid (S0.inp = inp) := hQ (by rw [hS0]; unfold startX; split; (unfold Mx.call; split <;> rfl); rfl)
  have HGD : Hid (F ≤ S0.steps ∨ Good al p size S0) := hQ (by
   rw [hS0]
   unfold startX
   split
   · exact .inr (good_start HP.out HI.out HTP.out)
   · exact .inl (by omega))
  have HRX : Hid (RunX p al inp F size w = fun e w' => ∃ mb, e = .returned (.tuple #[.pointer (some ⟨mb, 0, none⟩), .int .i64 0]) ∧ Below w.heap.size w w' ∧ ∃ L ad pv iv As cs At ct, MAt w' w.heap.size mb L ad pv iv As cs At ct (runX p F (F + 2) S0)) := hQ (by
   funext e w'
   unfold RunX
   rw [HTQ.out, hS0])
  rw [← hS0] at HM5
  clear hS0 HM4 HB4
  generalize wc = W5 at *
  go_wp2
  go_loopw [] (fun wr => ∃ M iv As cs At ct, (F ≤ M.steps ∨ Good al p size M) ∧ Hid (MAt wr w.heap.size mb L ad (.slice (some ad) p.length cp) iv As cs At ct M) ∧ Hid (InX wr w.heap.size iv M.inp) ∧ Hid (Below w.heap.size w wr) ∧ M.steps ≤ F ∧ Hid (runX p F (F + 2 - M.steps) M = runX p F (F + 2) S0)) (fun wr => F + 1 - stepsAt wr mb)
  case atStart => exact ⟨_, _, _, _, _, _, HGD.out, HM5, hQ (by rw [HS0i.out]; exact HIN.out.after HB5.out), HB5, by rw [HS0s.out]; omega, hQ (by rw [HS0s.out]; rfl)⟩
  case round =>
   obtain ⟨M, iv, As, cs, At, ct, hgM, HM, HI2, HB, hst, HQ⟩ := hrel
   obtain ⟨-, -, c22, c23, -, -, -, -, -, -, -, hlt⟩ := HM.out.cells
   have hsti : (M.steps : Int) ≤ (F : Int) := by omega
   have hsz := HB.out.size
   rcases hen : M.ended with _ | _
   · rw [hen] at c23
     by_cases hle : F ≤ M.steps
     · have hli : (F : Int) ≤ (M.steps : Int) := by omega
       have HE : Hid (runX p F (F + 2) S0 = M.stop 4) := hQ (by
        rw [← HQ.out, show F + 2 - M.steps = 1 + 1 by omega]
        unfold runX
        rw [hen, if_neg (by decide), if_pos hle])
       go_wp2_with fail
       refine (stop_any _ 4 HM.out).mono ?_
       rintro e w5 ⟨rfl, m5, b5⟩
       have HM6 := hQ m5
       have HB6 := hQ (HB.out.trans b5)
       clear m5 b5 c22 c23
       go_wp2
       go_ret2
       rw [HRX.out]
       exact ⟨mb, rfl, HB6.out, _, _, _, _, _, _, _, _, by rw [HE.out]; exact HM6.out⟩
     · have hli : ¬ (F : Int) ≤ (M.steps : Int) := by omega
       have hli2 : (M.steps : Int) < (F : Int) := by omega
       have hgg : Good al p size M := by rcases hgM with h | h; exact absurd h hle; exact h
       obtain ⟨hfit, h5⟩ := good_step HP.out hsize hgg hen (by omega)
       have HPRE : Hid (Pre wr w.heap.size mb L ad p cp iv As cs At ct M) := hQ (hfit.pre HM.out (HG0.out.keep fun b _ hn => HB.out.block b hn) hsz hm (by omega) HI2.out hen)
       have HG5 := hQ h5
       have HOK := hQ hfit.ok
       have HE : Hid (runX p F (F + 2 - (M.steps + 1)) (stepX p M) = runX p F (F + 2) S0) := hQ (by
        rw [← HQ.out, show F + 2 - M.steps = (F + 2 - (M.steps + 1)) + 1 by omega]
        conv => rhs; unfold runX
        rw [hen, if_neg (by decide), if_neg hle])
       clear hfit h5 hgg hgM
       go_wp2_with fail
       refine (step_x wr HPRE.out HOK.out).mono ?_
       rintro e w5 ⟨rfl, b5, iv5, As5, cs5, At5, ct5, m5, i5⟩
       have HI5 := hQ i5
       have HM6 := hQ m5
       have HB6 := hQ (HB.out.trans b5)
       have HS0 := hQ HM.out.stepsAt
       have HS5 := hQ HM6.out.stepsAt
       clear m5 b5 i5 c22 c23
       go_wp2
       go_roundw
       case rel => exact ⟨_, _, _, _, _, _, .inr HG5.out, HM6, HI5, HB6, by rw [steps_stepX]; omega, hQ (by rw [steps_stepX]; exact HE.out)⟩
       case measure => rw [HS0.out, HS5.out, steps_stepX]; omega
   · rw [hen] at c23
     have HE : Hid (runX p F (F + 2) S0 = M) := hQ (by
      rw [← HQ.out, show F + 2 - M.steps = (F + 1 - M.steps) + 1 by omega]
      unfold runX
      rw [hen, if_pos rfl])
     go_wp2
     go_ret2
     rw [HRX.out]
     exact ⟨mb, rfl, HB.out, _, _, _, _, _, _, _, _, by rw [HE.out]; exact HM.out⟩
end
def outV (m : Mx) (At : Option Addr) (ct : Nat) : Value := .agg #[.int .i64 m.kind, .int .u64 m.code, .int .u64 m.res.1, .int .u64 m.res.2, .slice At m.trace.length ct, .int .i64 m.steps]
def OutD (m : Mx) (w : World) (e : Ending) (w' : World) : Prop :=
 ∃ At ct, e = .returned (.tuple #[outV m At ct, .int .i64 0]) ∧ Below w.heap.size w w' ∧ w'.ownsRow w.heap.size 38 2 (.slice At m.trace.length ct) m.trace.length (m.trace.flatMap vcl)
theorem out_x (ad : Addr) (p : List Fr) (cp : Nat) (al : Int) (iv0 : Value) (inp : List Nat) (F size : Nat) (hF : F ≤ 100000) (hsize : size ≤ 1048576) (hp : RT al p) (hE : tgE al p = 0) (w : World) (hg : Gx w 0 w.heap.size (some ad) p) (hin : InX w w.heap.size iv0 inp) (hi : ∀ v ∈ inp, v < 18446744073709551616) :
 Calls Tryz.prog 8 #[.agg #[.int .i64 al, .slice (some ad) p.length cp], iv0, .int .i64 (F : Int), .int .i64 (size : Int)] w (OutD (runX p F (F + 2) (startX p inp size (tpOf al size) F)) w) := by
 obtain ⟨W1, hW1⟩ : ∃ W1, W1 = (w.alloc (.cells #[.int .i64 al, .slice (some ad) p.length cp] 26)).alloc (.cells #[.int .i64 0, .int .u64 0, .int .u64 0, .int .u64 0, .slice none 0 0, .int .i64 0] 41) := ⟨_, rfl⟩
 have hB1 : Below w.heap.size w W1 := by rw [hW1]; exact (bR.alloc nL _).alloc (by simp) _
 have HKP : Hid (Blk W1 w.heap.size 26 #[.int .i64 al, .slice (some ad) p.length cp]) := hQ (by rw [hW1]; exact (Blk.new _ _ _).alloc _)
 have HKO : Hid (Blk W1 (w.heap.size + 1) 41 #[.int .i64 0, .int .u64 0, .int .u64 0, .int .u64 0, .slice none 0 0, .int .i64 0]) := hQ (by rw [hW1]; exact Blk.newAt (by simp))
 have hs1 := hB1.size
 have HRUN := hQ (run_x ad p cp al iv0 inp F size hF hsize hp hE W1 ((hg.keep (Kp.of_below hB1 nL)).more nL hs1) (hin.after hB1 |>.more hs1) hi)
 have HB1 := hQ hB1
 have HW1 := hQ hW1
 clear hW1 hB1 hg hin hi hp
 obtain ⟨q0, q1, -, -, qz⟩ := HKP.out.c2
 obtain ⟨M, hM⟩ : ∃ M, M = runX p F (F + 2) (startX p inp size (tpOf al size) F) := ⟨_, rfl⟩
 rw [← hM]
 go_enter Tryz.func8, Tryz.ntmps8
 go_upto_region 1 with (fail)
 rw [← HW1.out]
 go_wp2_with fail
 refine HRUN.out.mono ?_
 rintro e w2 ⟨mb, rfl, b2, L, ad', pv, iv2, As, cs, At, ct, hm2⟩
 rw [← hM] at hm2
 have HM2 := hQ hm2
 have HB2 : Hid (Below w.heap.size w w2) := hQ (HB1.out.trans (b2.mono hs1))
 have HKO2 := hQ (HKO.out.after b2)
 clear b2 hm2 q0 q1 qz hM HRUN
 have d17 : w2.cell? ⟨mb, 17, none⟩ = some (.int .i64 M.kind) := HM2.out.blk.cell 17
 have d18 : w2.cell? ⟨mb, 18, none⟩ = some (.int .u64 M.code) := HM2.out.blk.cell 18
 have d19 : w2.cell? ⟨mb, 19, none⟩ = some (.int .u64 M.res.1) := HM2.out.blk.cell 19
 have d20 : w2.cell? ⟨mb, 20, none⟩ = some (.int .u64 M.res.2) := HM2.out.blk.cell 20
 have d21 : w2.cell? ⟨mb, 21, none⟩ = some (.slice At M.trace.length ct) := HM2.out.blk.cell 21
 have d22 : w2.cell? ⟨mb, 22, none⟩ = some (.int .i64 M.steps) := HM2.out.blk.cell 22
 have hlt := HM2.out.blk.lt
 obtain ⟨o0, o1, o2, o3, o4, o5, f0, f1, f2, f3, f4, f5, oz⟩ := HKO2.out.c6
 go_wp2
 obtain ⟨W3, hW3⟩ : ∃ W3, W3 = (((((w2.setCell ⟨w.heap.size + 1, 0, none⟩ (.int .i64 M.kind)).setCell ⟨w.heap.size + 1, 1, none⟩ (.int .u64 M.code)).setCell ⟨w.heap.size + 1, 2, none⟩ (.int .u64 M.res.1)).setCell ⟨w.heap.size + 1, 3, none⟩ (.int .u64 M.res.2)).setCell ⟨w.heap.size + 1, 4, none⟩ (.slice At M.trace.length ct)).setCell ⟨w.heap.size + 1, 5, none⟩ (.int .i64 M.steps) := ⟨_, rfl⟩
 rw [← hW3]
 have hK : Blk W3 (w.heap.size + 1) 41 #[.int .i64 M.kind, .int .u64 M.code, .int .u64 M.res.1, .int .u64 M.res.2, .slice At M.trace.length ct, .int .i64 M.steps] := by
  rw [hW3]
  exact (((((HKO2.out.set_ 0 _).set_ 1 _).set_ 2 _).set_ 3 _).set_ 4 _).set_ 5 _
 have htr : W3.ownsRow w.heap.size 38 2 (.slice At M.trace.length ct) M.trace.length (M.trace.flatMap vcl) := by
  have hne : ∀ j, (Value.slice At M.trace.length ct).ownBlock = some j → j ≠ w.heap.size + 1 := fun j e e' => blk_own_ne (gb := 0) HKO2.out HM2.out.tr (by decide) (by rw [e, e'])
  rw [hW3]
  exact own_base (own_miss8 (own_miss8 (own_miss8 (own_miss8 (own_miss8 (own_miss8 HM2.out.tr _ hne _) _ hne _) _ hne _) _ hne _) _ hne _) _ hne _) hs1
 have hB3 : Below w.heap.size w W3 := by
  rw [hW3]
  exact (((((HB2.out.setCell (Nat.le_succ _) _).setCell (Nat.le_succ _) _).setCell (Nat.le_succ _) _).setCell (Nat.le_succ _) _).setCell (Nat.le_succ _) _).setCell (Nat.le_succ _) _
 clear hW3 o0 o1 o2 o3 o4 o5 f0 f1 f2 f3 f4 f5
 obtain ⟨o0, o1, o2, o3, o4, o5, -⟩ := hK.c6
 refine bodyPost_ret (v := .tuple #[outV M At ct, .int .i64 0]) (by simp [outV, results, Tryz.results8, go_sem, o0, o1, o2, o3, o4, o5]) rfl ?_
 exact ⟨At, ct, rfl, hB3, htr⟩
def DepD (m : Mx) (w : World) (e : Ending) (w' : World) : Prop := e = .returned (.tuple #[.int .i64 m.deep, .int .i64 0]) ∧ Below w.heap.size w w'
theorem depth_x (ad : Addr) (p : List Fr) (cp : Nat) (al : Int) (iv0 : Value) (inp : List Nat) (F size : Nat) (hF : F ≤ 100000) (hsize : size ≤ 1048576) (hp : RT al p) (hE : tgE al p = 0) (w : World) (hg : Gx w 0 w.heap.size (some ad) p) (hin : InX w w.heap.size iv0 inp) (hi : ∀ v ∈ inp, v < 18446744073709551616) :
 Calls Tryz.prog 10 #[.agg #[.int .i64 al, .slice (some ad) p.length cp], iv0, .int .i64 (F : Int), .int .i64 (size : Int)] w (DepD (runX p F (F + 2) (startX p inp size (tpOf al size) F)) w) := by
 obtain ⟨W1, hW1⟩ : ∃ W1, W1 = w.alloc (.cells #[.int .i64 al, .slice (some ad) p.length cp] 26) := ⟨_, rfl⟩
 have hB1 : Below w.heap.size w W1 := by rw [hW1]; exact bR.alloc nL _
 have HKP : Hid (Blk W1 w.heap.size 26 #[.int .i64 al, .slice (some ad) p.length cp]) := hQ (by rw [hW1]; exact Blk.new _ _ _)
 have hs1 := hB1.size
 have HRUN := hQ (run_x ad p cp al iv0 inp F size hF hsize hp hE W1 ((hg.keep (Kp.of_below hB1 nL)).more nL hs1) (hin.after hB1 |>.more hs1) hi)
 have HB1 := hQ hB1
 have HW1 := hQ hW1
 clear hW1 hB1 hg hin hi hp
 obtain ⟨q0, q1, -, -, qz⟩ := HKP.out.c2
 obtain ⟨M, hM⟩ : ∃ M, M = runX p F (F + 2) (startX p inp size (tpOf al size) F) := ⟨_, rfl⟩
 rw [← hM]
 go_enter Tryz.func10, Tryz.ntmps10
 go_upto_region 1 with (fail)
 rw [← HW1.out]
 go_wp2_with fail
 refine HRUN.out.mono ?_
 rintro e w2 ⟨mb, rfl, b2, L, ad', pv, iv2, As, cs, At, ct, hm2⟩
 rw [← hM] at hm2
 have HM2 := hQ hm2
 have HB2 : Hid (Below w.heap.size w w2) := hQ (HB1.out.trans (b2.mono hs1))
 clear b2 hm2 q0 q1 qz hM HRUN
 obtain ⟨-, -, -, -, -, -, -, -, -, -, c31, hlt⟩ := HM2.out.cells
 go_wp2
 go_ret2
 exact ⟨rfl, HB2.out⟩
end Go.Proofs.YtcnndoefgjbmiaaGreat.pm
