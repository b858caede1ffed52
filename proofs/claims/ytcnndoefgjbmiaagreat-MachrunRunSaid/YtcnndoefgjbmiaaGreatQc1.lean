/- The reference's Plain: some operations. -/
import Derived.Test.YtcnndoefgjbmiaaGreatQc0
set_option linter.unusedVariables false
set_option maxRecDepth 10000
set_option maxHeartbeats 8000000
namespace Go.Proofs.YtcnndoefgjbmiaaGreat.pm
open Go.RowKit
section
variable {w : World} {B lo g ct : Nat} {iv : Value} {At : Option Addr} {k : Mx} {l : List (Nat × Nat)}
theorem pl_a (w : World) (op : Int) (a b c : Nat) (imm : Int) (hop0 : 0 ≤ op) (hop1 : op ≤ 14) (hsub : op = 0 ∨ op = 1 ∨ op = 12 ∨ op = 13) (him : 0 ≤ imm) (ha : a < 8) (hb : b < 8) (hc : c < 8) (hr8 : k.regs.length = 8) (hrg : ∀ r, W64x (rg k r)) (hin : InX w B iv k.inp) (htr : Rx w lo w.heap.size 2 At k.trace.length (k.trace.flatMap vcl)) (hct : k.trace.length ≤ ct) (ht : k.trace.length ≤ 1000000) (hB : B ≤ w.heap.size) (hlo : lo ≤ w.heap.size) (he : k.ended = false) (k' : Mx) (hk' : k' = k.pl0 ⟨op, a, b, c, imm⟩) :
 Calls Tryz.prog 56 #[.agg #[.int .i64 op, .int .i64 a, .int .i64 b, .int .i64 c, .int .u64 imm], rgv k.regs, iv, .slice At k.trace.length ct] w (PlD B lo k' w) := by
 obtain ⟨im, rfl⟩ := Int.eq_ofNat_of_zero_le him
 obtain ⟨W1, hW1⟩ : ∃ W1, W1 = ((w.alloc (.cells #[.int .i64 op, .int .i64 a, .int .i64 b, .int .i64 c, .int .u64 im] 50)).alloc (.cells (rga k.regs) 64)).alloc (.cells #[.int .u64 0, .int .u64 0, .int .u64 0, .int .u64 0, .int .u64 0, .int .u64 0, .int .u64 0, .int .u64 0, .int .u64 0, .int .u64 0, .int .u64 0, .int .u64 0, .int .u64 0, .int .u64 0, .int .u64 0, .int .u64 0] 64) := ⟨_, rfl⟩
 have hB1 : Below w.heap.size w W1 := by rw [hW1]; exact ((bR.alloc nL _).alloc (by simp) _).alloc (by simp; omega) _
 obtain ⟨g4, hg4⟩ : ∃ g, g = w.heap.size := ⟨_, rfl⟩
 have HKX : Hid (Blk W1 w.heap.size 50 #[.int .i64 op, .int .i64 a, .int .i64 b, .int .i64 c, .int .u64 im]) := hQ (by rw [hW1]; exact ((Blk.new _ _ _).alloc _).alloc _)
 have HK5 : Hid (Blk W1 (w.heap.size + 1) 64 (rga k.regs)) := hQ (by rw [hW1]; exact (Blk.newAt (by simp)).alloc _)
 have HK8 : Hid (Blk W1 (w.heap.size + 1 + 1) 64 (rga (List.replicate 8 (0, 0)))) := hQ (by rw [hW1]; exact Blk.newAt (by simp))
 have HIN := hQ (hin.after (hB1.mono hB))
 have HTR : Hid (Rx W1 lo w.heap.size 2 At k.trace.length (k.trace.flatMap vcl)) := hQ (Rx.keep htr (Kp.of_below hB1 nL))
 obtain ⟨Ai, ci, rfl, hi1, hi2, hi3⟩ := hin
 have HB1 := hQ hB1
 have HW1 := hQ hW1
 have hai : (a : Int) < 8 := by omega
 have ha0 : (0 : Int) ≤ (a : Int) := by omega
 have hbi : (b : Int) < 8 := by omega
 have hb0 : (0 : Int) ≤ (b : Int) := by omega
 have hci : (c : Int) < 8 := by omega
 have hc0 : (0 : Int) ≤ (c : Int) := by omega
 have hsz : w.heap.size + 1 + 1 < W1.heap.size := HK8.out.lt
 have HR8 := hQ hr8
 have HE := hQ he
 have HRG := hQ hrg
 have HKE := hQ hk'
 have HCT := hQ hct
 clear hW1 hB1 htr hi1 hi2 hi3 hr8 he hrg hk' hct hg4
 obtain ⟨x0, x1, x2, x3, x4, -⟩ := HKX.out.c5
 obtain ⟨a0, a1⟩ := rga_cell HK5.out ha
 obtain ⟨b0, b1⟩ := rga_cell HK5.out hb
 obtain ⟨d0, d1⟩ := rga_cell HK5.out hc
 have f0 := HK5.out.frozen (a * 2)
 have f1 := HK5.out.frozen (a * 2 + 1)
 have fin : ∀ (W : World), Below W1.heap.size W1 W → ∀ (v : Nat × Nat), Blk ((W.setCell ⟨w.heap.size + 1, a * 2, none⟩ (.int .u64 v.1)).setCell ⟨w.heap.size + 1, a * 2 + 1, none⟩ (.int .u64 v.2)) (w.heap.size + 1) 64 (rga (k.regs.set a v)) ∧ Blk ((W.setCell ⟨w.heap.size + 1, a * 2, none⟩ (.int .u64 v.1)).setCell ⟨w.heap.size + 1, a * 2 + 1, none⟩ (.int .u64 v.2)) (w.heap.size + 1 + 1) 64 (rga (List.replicate 8 (0, 0))) ∧ Below w.heap.size W1 ((W.setCell ⟨w.heap.size + 1, a * 2, none⟩ (.int .u64 v.1)).setCell ⟨w.heap.size + 1, a * 2 + 1, none⟩ (.int .u64 v.2)) := fun W hW v =>
  ⟨rga_set (HK5.out.after hW) HR8.out ha v, ((HK8.out.after hW).far (p := ⟨w.heap.size + 1, a * 2, none⟩) (by show ¬ w.heap.size + 1 + 1 = w.heap.size + 1; omega) _).far (p := ⟨w.heap.size + 1, a * 2 + 1, none⟩) (by show ¬ w.heap.size + 1 + 1 = w.heap.size + 1; omega) _, ((hW.mono (by omega)).setCell (by show w.heap.size ≤ w.heap.size + 1; omega) _).setCell (by show w.heap.size ≤ w.heap.size + 1; omega) _⟩
 have HFIN := hQ fin
 clear fin
 unfold rgv
 go_enter Tryz.func56, Tryz.ntmps56
 go_upto_region 1 with (fail)
 rw [← HW1.out]
 go_upto_block 0 with (fail)
 go_cut [2, 3] (fun s2 s3 wx => ∃ (iv' : Value) (At' : Option Addr) (ct' : Nat), s2 = iv' ∧ s3 = .slice At' k'.trace.length ct' ∧ Hid (Blk wx (w.heap.size + 1) 64 (rga k'.regs)) ∧ Hid (Blk wx (w.heap.size + 1 + 1) 64 (rga (List.replicate 8 (0, 0)))) ∧ Hid (Below w.heap.size w wx) ∧ Hid (InX wx B iv' k'.inp) ∧ Hid (Rx wx lo w.heap.size 2 At' k'.trace.length (k'.trace.flatMap vcl) ∨ Rx wx W1.heap.size wx.heap.size 2 At' k'.trace.length (k'.trace.flatMap vcl)) ∧ k'.trace.length ≤ ct' ∧ Hid (k'.ended = false))
 case first =>
  have hcase : op = 0 ∨ op = 1 ∨ op = 12 ∨ op = 13 := hsub
  clear hop0 hop1 hsub
  rcases hcase with rfl | rfl | rfl | rfl
  ·
    have hke : k' = { k with regs := k.regs.set a (im, 0) } := by rw [HKE.out]; rfl
    go_upto_region 7 with (fail)
    go_wp2_with fail
    go_meet
    exact ⟨_, At, ct, rfl, by rw [hke], hQ (by rw [hke]; exact (HFIN.out _ bR (im, 0)).1), hQ ((HFIN.out _ bR (im, 0)).2.1), hQ (HB1.out.trans ((HFIN.out _ bR (im, 0)).2.2)), hQ (by rw [hke]; exact HIN.out.after (((HFIN.out _ bR (im, 0)).2.2).mono hB)), hQ (.inl (by rw [hke]; exact Rx.keep HTR.out (fun q _ hq => ((HFIN.out _ bR (im, 0)).2.2).block q hq))), by rw [hke]; exact HCT.out, hQ (by rw [hke]; exact HE.out)⟩
  ·
    have hke : k' = { k with regs := k.regs.set a (rl k.regs b) } := by rw [HKE.out]; rfl
    go_upto_region 9 with (fail)
    go_region_with (fail)
    all_goals go_wp2_with fail
    all_goals go_meet
    all_goals exact ⟨_, At, ct, rfl, by rw [hke], hQ (by rw [hke]; exact (HFIN.out _ bR (rl k.regs b)).1.drew), hQ ((HFIN.out _ bR (rl k.regs b)).2.1.drew), hQ (HB1.out.trans ((HFIN.out _ bR (rl k.regs b)).2.2.drew)), hQ (by rw [hke]; exact HIN.out.after (((HFIN.out _ bR (rl k.regs b)).2.2.drew).mono hB)), hQ (.inl (by rw [hke]; exact Rx.keep HTR.out (fun q _ hq => ((HFIN.out _ bR (rl k.regs b)).2.2.drew).block q hq))), by rw [hke]; exact HCT.out, hQ (by rw [hke]; exact HE.out)⟩
  ·
    have hke : k' = { k with regs := k.regs.set a ((rl k.regs b).2, 0) } := by rw [HKE.out]; rfl
    have HC : Hid (∀ W, Calls Tryz.prog 84 #[.agg #[.int .u64 (rl k.regs b).1, .int .u64 (rl k.regs b).2]] W fun e w' => e = .returned (.agg #[.int .u64 (rl k.regs b).2, .int .u64 0]) ∧ Below W.heap.size W w') := hQ (fun W => (refhigh_any _ _ W).mono fun e w' ⟨p, q⟩ => ⟨p, q⟩)
    go_upto_region 13 with (fail)
    go_region_law (first
     | (go_simp; refine (HC.out _).mono ?_; rintro e w2 ⟨rfl, b2⟩; have hb2 := (show Below W1.heap.size W1 w2 from (Below.refl W1.heap.size W1).drew.trans b2); have HB2 : Hid (Below W1.heap.size W1 w2) := hQ hb2; obtain ⟨y0, y1, y2, y3, y4, -⟩ := (HKX.out.after hb2).c5; obtain ⟨a0', a1'⟩ := rga_cell (HK5.out.after hb2) ha; have f0' := (HK5.out.after hb2).frozen (a * 2); have f1' := (HK5.out.after hb2).frozen (a * 2 + 1); have hz2 := (HK8.out.after hb2).lt; clear b2 hb2))
    all_goals go_wp2_with fail
    all_goals go_meet
    all_goals exact ⟨_, At, ct, rfl, by rw [hke], hQ (by rw [hke]; exact (HFIN.out _ HB2.out ((rl k.regs b).2, 0)).1), hQ ((HFIN.out _ HB2.out ((rl k.regs b).2, 0)).2.1), hQ (HB1.out.trans ((HFIN.out _ HB2.out ((rl k.regs b).2, 0)).2.2)), hQ (by rw [hke]; exact HIN.out.after (((HFIN.out _ HB2.out ((rl k.regs b).2, 0)).2.2).mono hB)), hQ (.inl (by rw [hke]; exact Rx.keep HTR.out (fun q _ hq => ((HFIN.out _ HB2.out ((rl k.regs b).2, 0)).2.2).block q hq))), by rw [hke]; exact HCT.out, hQ (by rw [hke]; exact HE.out)⟩
  ·
    have hs1 : W1.heap.size ≤ W1.heap.size := Nat.le_refl _
    have HZ := HFIN.out _ bR (0, 0)
    obtain ⟨WZ, hWZ⟩ : ∃ WZ, WZ = (W1.setCell ⟨w.heap.size + 1, a * 2, none⟩ (.int .u64 ((0 : Nat) : Int))).setCell ⟨w.heap.size + 1, a * 2 + 1, none⟩ (.int .u64 ((0 : Nat) : Int)) := ⟨_, rfl⟩
    have hWZ' : WZ = (W1.setCell ⟨w.heap.size + 1, a * 2, none⟩ (.int .u64 0)).setCell ⟨w.heap.size + 1, a * 2 + 1, none⟩ (.int .u64 0) := hWZ
    have HZ1 : Hid (Blk WZ (w.heap.size + 1) 64 (rga (k.regs.set a (0, 0)))) := hQ (by rw [hWZ]; exact HZ.1)
    have HZ2 : Hid (Blk WZ (w.heap.size + 1 + 1) 64 (rga (List.replicate 8 (0, 0)))) := hQ (by rw [hWZ]; exact HZ.2.1)
    have HZB : Hid (Below w.heap.size W1 WZ) := hQ (by rw [hWZ]; exact HZ.2.2)
    have HZX : Hid (Blk WZ w.heap.size 50 #[.int .i64 13, .int .i64 a, .int .i64 b, .int .i64 c, .int .u64 im]) := hQ (by rw [hWZ]; exact (HKX.out.far (p := ⟨w.heap.size + 1, a * 2, none⟩) (by show ¬ w.heap.size = w.heap.size + 1; omega) _).far (p := ⟨w.heap.size + 1, a * 2 + 1, none⟩) (by show ¬ w.heap.size = w.heap.size + 1; omega) _)
    clear HZ hWZ
    have HWZ := hQ hWZ'
    clear hWZ'
    go_upto_region 16 with (fail)
    rw [← HWZ.out]
    clear x0 x1 x2 x3 x4 a0 a1 b0 b1 d0 d1 f0 f1
    obtain ⟨x0, x1, -, -, -, -⟩ := HZX.out.c5
    obtain ⟨a0, a1⟩ := rga_cell HZ1.out ha
    have f0 := HZ1.out.frozen (a * 2)
    have f1 := HZ1.out.frozen (a * 2 + 1)
    have hz5 := HZ1.out.lt
    obtain ⟨Ai', ci', e0, hq1, hq2, hrx⟩ := HIN.out.after (HZB.out.mono hB)
    obtain ⟨rfl, rfl⟩ : Ai = Ai' ∧ ci = ci' := by injection e0; exact ⟨by assumption, by assumption⟩
    have HTZ : Hid (Rx WZ lo w.heap.size 2 At k.trace.length (k.trace.flatMap vcl)) := hQ (Rx.keep HTR.out (fun q _ hq => HZB.out.block q hq))
    rcases hinp : k.inp with _ | ⟨v, r⟩
    · have hke : k' = { k with regs := k.regs.set a (0, 0), inp := [] } := by rw [HKE.out]; unfold Mx.pl0 Mx.plain; simp [hinp]
      have HIE : Hid (InX WZ B (.slice Ai 0 ci) []) := hQ ⟨Ai, ci, rfl, by simp, by simp, by rw [hinp] at hrx; exact hrx⟩
      clear hrx e0
      go_wp2_with fail
      go_meet
      exact ⟨_, At, ct, rfl, by rw [hke], hQ (by rw [hke]; exact HZ1.out), HZ2, hQ (HB1.out.trans HZB.out), hQ (by rw [hke]; exact HIE.out), hQ (.inl (by rw [hke]; exact HTZ.out)), by rw [hke]; exact HCT.out, hQ (by rw [hke]; exact HE.out)⟩
    · have hke : k' = { k with regs := k.regs.set a (v, 0), inp := r } := by rw [HKE.out]; unfold Mx.pl0 Mx.plain; simp [hinp]
      obtain ⟨ai, e1, hb1, hcl⟩ := hrx.1.2 (by rw [hinp]; simp)
      subst e1
      have y0 : WZ.cell? ai = some (.int .u64 v) := by
       have := hcl 0 (.int .u64 v) (by rw [hinp]; rfl)
       simpa [Addr.add] using this
      obtain ⟨A', hA'⟩ : ∃ A', A' = (if ci = 1 then some ai else some (⟨ai.block, ai.off + 1, none⟩ : Addr)) := ⟨_, rfl⟩
      have HIE : Hid (InX WZ B (.slice A' r.length (ci - 1)) r) := hQ (by
       rw [hinp] at hq1 hq2 hrx
       rw [hA']
       exact InX.tail hq1 hq2 hrx)
      have hcl1 : r.length + 1 ≤ ci := by rw [hinp] at hq1; simpa using hq1
      have hl1 : (1 : Int) ≤ (r.length : Int) + 1 := by omega
      have hl0 : (0 : Int) < (r.length : Int) + 1 := by omega
      have hlc : (r.length : Int) + 1 ≤ (ci : Int) := by omega
      have HI := hQ hinp
      have HKN := hQ hke
      have hSS : ∀ W, Below WZ.heap.size WZ W → Blk ((W.setCell ⟨w.heap.size + 1, a * 2, none⟩ (.int .u64 (v : Int))).setCell ⟨w.heap.size + 1, a * 2 + 1, none⟩ (.int .u64 ((0 : Nat) : Int))) (w.heap.size + 1) 64 (rga (k.regs.set a (v, 0))) := fun W hW => by
       have h := rga_set (HZ1.out.after hW) (by rw [List.length_set]; exact HR8.out) ha (v, 0)
       rw [List.set_set] at h
       exact h
      have HSS := hQ hSS
      clear hSS hb1 hrx hcl hq1 hq2 e0 hke
      have hrl : k.inp.length = r.length + 1 := by rw [HI.out]; rfl
      by_cases hc1 : ci = 1
      all_goals first | rw [if_pos hc1] at hA' | rw [if_neg hc1] at hA'
      all_goals subst hA'
      all_goals try subst hc1
      all_goals try (have hr0 : r.length = 0 := (by omega); have hr1 := List.eq_nil_of_length_eq_zero hr0; subst hr1)
      all_goals go_upto_region 17 with (fail)
      all_goals go_region_with (fail)
      all_goals go_wp2_with fail
      all_goals go_meet
      all_goals
       exact ⟨_, At, ct, rfl, by rw [HKN.out], hQ (by rw [HKN.out]; exact (HSS.out _ bR).drew), hQ (((HZ2.out.far (p := ⟨w.heap.size + 1, a * 2, none⟩) (by show ¬ w.heap.size + 1 + 1 = w.heap.size + 1; omega) _).far (p := ⟨w.heap.size + 1, a * 2 + 1, none⟩) (by show ¬ w.heap.size + 1 + 1 = w.heap.size + 1; omega) _).drew), hQ (((HB1.out.trans HZB.out).trans ((bR.setCell (p := ⟨w.heap.size + 1, a * 2, none⟩) (by show w.heap.size ≤ w.heap.size + 1; omega) _).setCell (p := ⟨w.heap.size + 1, a * 2 + 1, none⟩) (by show w.heap.size ≤ w.heap.size + 1; omega) _)).drew), hQ (by rw [HKN.out]; exact HIE.out.after (((bR.setCell (p := ⟨w.heap.size + 1, a * 2, none⟩) (by show B ≤ w.heap.size + 1; omega) _).setCell (p := ⟨w.heap.size + 1, a * 2 + 1, none⟩) (by show B ≤ w.heap.size + 1; omega) _).drew)), hQ (.inl (by rw [HKN.out]; exact Rx.keep HTZ.out (((Kp.refl _ _ _).set (p := ⟨w.heap.size + 1, a * 2, none⟩) (.inr (by show w.heap.size ≤ w.heap.size + 1; omega)) _).set (p := ⟨w.heap.size + 1, a * 2 + 1, none⟩) (.inr (by show w.heap.size ≤ w.heap.size + 1; omega)) _))), by rw [HKN.out]; exact HCT.out, hQ (by rw [HKN.out]; exact HE.out)⟩
 case rest =>
  obtain ⟨iv', At', ct', rfl, rfl, HK5', HK8', HB2, HIN2, HTR2, hct2, HE2⟩ := hcut
  obtain ⟨W2, hW2⟩ : ∃ W2, W2 = wc := ⟨_, rfl⟩
  subst hW2
  clear x0 x1 x2 x3 x4 a0 a1 b0 b1 d0 d1 f0 f1
  obtain ⟨Ai', ci', rfl, -⟩ := HIN2.out
  obtain ⟨RG, hRG⟩ : ∃ RG, RG = k'.regs := ⟨_, rfl⟩
  obtain ⟨NI, hNI⟩ : ∃ NI, NI = k'.inp.length := ⟨_, rfl⟩
  rw [← hRG] at HK5'
  have HRGE := hQ hRG
  have HNI := hQ hNI
  clear hRG hNI
  obtain ⟨c0, c1, c2, c3, c4, c5, c6, c7, c8, c9, c10, c11, c12, c13, c14, c15, ff, hl5⟩ := rga_16 HK5'.out
  obtain ⟨z0, z1, z2, z3, z4, z5, z6, z7, z8, z9, z10, z11, z12, z13, z14, z15, fz, hl8⟩ := rga_16 HK8'.out
  have fz0 := fz 0
  have fz1 := fz 1
  have fz2 := fz 2
  have fz3 := fz 3
  have fz4 := fz 4
  have fz5 := fz 5
  have fz6 := fz 6
  have fz7 := fz 7
  have fz8 := fz 8
  have fz9 := fz 9
  have fz10 := fz 10
  have fz11 := fz 11
  have fz12 := fz 12
  have fz13 := fz 13
  have fz14 := fz 14
  have fz15 := fz 15
  clear ff fz
  go_wp2
  obtain ⟨W9, hW9⟩ : ∃ W9, W9 = ((((((((((((((((W2.setCell ⟨w.heap.size + 1 + 1, 0, none⟩ (.int .u64 (rl RG 0).1)).setCell ⟨w.heap.size + 1 + 1, 1, none⟩ (.int .u64 (rl RG 0).2)).setCell ⟨w.heap.size + 1 + 1, 2, none⟩ (.int .u64 (rl RG 1).1)).setCell ⟨w.heap.size + 1 + 1, 3, none⟩ (.int .u64 (rl RG 1).2)).setCell ⟨w.heap.size + 1 + 1, 4, none⟩ (.int .u64 (rl RG 2).1)).setCell ⟨w.heap.size + 1 + 1, 5, none⟩ (.int .u64 (rl RG 2).2)).setCell ⟨w.heap.size + 1 + 1, 6, none⟩ (.int .u64 (rl RG 3).1)).setCell ⟨w.heap.size + 1 + 1, 7, none⟩ (.int .u64 (rl RG 3).2)).setCell ⟨w.heap.size + 1 + 1, 8, none⟩ (.int .u64 (rl RG 4).1)).setCell ⟨w.heap.size + 1 + 1, 9, none⟩ (.int .u64 (rl RG 4).2)).setCell ⟨w.heap.size + 1 + 1, 10, none⟩ (.int .u64 (rl RG 5).1)).setCell ⟨w.heap.size + 1 + 1, 11, none⟩ (.int .u64 (rl RG 5).2)).setCell ⟨w.heap.size + 1 + 1, 12, none⟩ (.int .u64 (rl RG 6).1)).setCell ⟨w.heap.size + 1 + 1, 13, none⟩ (.int .u64 (rl RG 6).2)).setCell ⟨w.heap.size + 1 + 1, 14, none⟩ (.int .u64 (rl RG 7).1)).setCell ⟨w.heap.size + 1 + 1, 15, none⟩ (.int .u64 (rl RG 7).2)) := ⟨_, rfl⟩
  rw [← hW9]
  have hK9 : Blk W9 (w.heap.size + 1 + 1) 64 (rga RG) := by rw [hW9]; exact rga_put HK8'.out _
  have hB9 : Below w.heap.size W2 W9 := by rw [hW9]; exact rga_below (by omega) _
  clear c0 c1 c2 c3 c4 c5 c6 c7 c8 c9 c10 c11 c12 c13 c14 c15 z0 z1 z2 z3 z4 z5 z6 z7 z8 z9 z10 z11 z12 z13 z14 z15 fz0 fz1 fz2 fz3 fz4 fz5 fz6 fz7 fz8 fz9 fz10 fz11 fz12 fz13 fz14 fz15
  obtain ⟨c0, c1, c2, c3, c4, c5, c6, c7, c8, c9, c10, c11, c12, c13, c14, c15, -, -⟩ := rga_16 hK9
  refine bodyPost_ret (v := .tuple #[rgv RG, .slice Ai' k'.inp.length ci', .slice At' k'.trace.length ct', .bool false]) (by simp [rgv, rga, results, Tryz.results56, go_sem, c0, c1, c2, c3, c4, c5, c6, c7, c8, c9, c10, c11, c12, c13, c14, c15]) rfl ?_
  have hs29 : W2.heap.size ≤ W9.heap.size := hB9.size
  have hk1 : Kp lo w.heap.size W2 W9 := fun q _ hq => hB9.block q hq
  have hk2 : Kp W1.heap.size W2.heap.size W2 W9 := by
   rw [hW9]
   exact rga_kp (by omega) _
  refine ⟨_, At', ct', by rw [HRGE.out, HE2.out], HIN2.out.after (hB9.mono hB), ?_, hct2, HB2.out.trans hB9⟩
  rcases HTR2.out with hx | hx
  · exact (Rx.keep hx hk1).more nL (by have := HB2.out.size; omega)
  · exact (Rx.keep hx hk2).more (by omega) hs29
end
end Go.Proofs.YtcnndoefgjbmiaaGreat.pm
