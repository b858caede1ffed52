/- The reference's Plain: some operations. -/
import Derived.Test.YtcnndoefgjbmiaaGreatQc0
set_option linter.unusedVariables false
set_option maxRecDepth 10000
set_option maxHeartbeats 8000000
namespace Go.Proofs.YtcnndoefgjbmiaaGreat.pm
open Go.RowKit
section
variable {w : World} {B lo g ct : Nat} {iv : Value} {At : Option Addr} {k : Mx} {l : List (Nat × Nat)}
theorem pl_b (w : World) (op : Int) (a b c : Nat) (imm : Int) (hop0 : 0 ≤ op) (hop1 : op ≤ 14) (hsub : op = 11 ∨ op = 14) (him : 0 ≤ imm) (ha : a < 8) (hb : b < 8) (hc : c < 8) (hr8 : k.regs.length = 8) (hrg : ∀ r, W64x (rg k r)) (hin : InX w B iv k.inp) (htr : Rx w lo w.heap.size 2 At k.trace.length (k.trace.flatMap vcl)) (hct : k.trace.length ≤ ct) (ht : k.trace.length ≤ 1000000) (hB : B ≤ w.heap.size) (hlo : lo ≤ w.heap.size) (he : k.ended = false) (k' : Mx) (hk' : k' = k.pl0 ⟨op, a, b, c, imm⟩) :
 Calls Tryz.prog 56 #[.agg #[.int .i64 op, .int .i64 a, .int .i64 b, .int .i64 c, .int .u64 imm], rgv k.regs, iv, .slice At k.trace.length ct] w (PlD B lo k' w) := by
 obtain ⟨im, rfl⟩ := Int.eq_ofNat_of_zero_le him
 obtain ⟨W1, hW1⟩ : ∃ W1, W1 = ((w.alloc (.cells #[.int .i64 op, .int .i64 a, .int .i64 b, .int .i64 c, .int .u64 im] 50)).alloc (.cells (rga k.regs) 64)).alloc (.cells #[.int .u64 0, .int .u64 0, .int .u64 0, .int .u64 0, .int .u64 0, .int .u64 0, .int .u64 0, .int .u64 0, .int .u64 0, .int .u64 0, .int .u64 0, .int .u64 0, .int .u64 0, .int .u64 0, .int .u64 0, .int .u64 0] 64) := ⟨_, rfl⟩
 have hB1 : Below w.heap.size w W1 := by rw [hW1]; exact ((bR.alloc nL _).alloc (by simp) _).alloc (by simp; omega) _
 obtain ⟨g4, hg4⟩ : ∃ g, g = w.heap.size := ⟨_, rfl⟩
 have HKX : Hid (Blk W1 w.heap.size 50 #[.int .i64 op, .int .i64 a, .int .i64 b, .int .i64 c, .int .u64 im]) := hQ (by rw [hW1]; exact ((Blk.new _ _ _).alloc _).alloc _)
 have HK5 : Hid (Blk W1 (w.heap.size + 1) 64 (rga k.regs)) := hQ (by rw [hW1]; exact (Blk.newAt (by simp)).alloc _)
 have HK8 : Hid (Blk W1 (w.heap.size + 1 + 1) 64 (rga (List.replicate 8 (0, 0)))) := hQ (by rw [hW1]; exact Blk.newAt (by simp))
 have HIN := hQ (hin.after (hB1.mono hB))
 have HTR : Hid (Rx W1 lo w.heap.size 2 At k.trace.length (k.trace.flatMap vcl)) := hQ (Rx.keep htr (Kp.of_below hB1 nL))
 obtain ⟨Ai, ci, rfl, hi1, hi2, hi3⟩ := hin
 have HB1 := hQ hB1
 have HW1 := hQ hW1
 have hai : (a : Int) < 8 := by omega
 have ha0 : (0 : Int) ≤ (a : Int) := by omega
 have hbi : (b : Int) < 8 := by omega
 have hb0 : (0 : Int) ≤ (b : Int) := by omega
 have hci : (c : Int) < 8 := by omega
 have hc0 : (0 : Int) ≤ (c : Int) := by omega
 have hsz : w.heap.size + 1 + 1 < W1.heap.size := HK8.out.lt
 have HR8 := hQ hr8
 have HE := hQ he
 have HRG := hQ hrg
 have HKE := hQ hk'
 have HCT := hQ hct
 clear hW1 hB1 htr hi1 hi2 hi3 hr8 he hrg hk' hct hg4
 obtain ⟨x0, x1, x2, x3, x4, -⟩ := HKX.out.c5
 obtain ⟨a0, a1⟩ := rga_cell HK5.out ha
 obtain ⟨b0, b1⟩ := rga_cell HK5.out hb
 obtain ⟨d0, d1⟩ := rga_cell HK5.out hc
 have f0 := HK5.out.frozen (a * 2)
 have f1 := HK5.out.frozen (a * 2 + 1)
 have fin : ∀ (W : World), Below W1.heap.size W1 W → ∀ (v : Nat × Nat), Blk ((W.setCell ⟨w.heap.size + 1, a * 2, none⟩ (.int .u64 v.1)).setCell ⟨w.heap.size + 1, a * 2 + 1, none⟩ (.int .u64 v.2)) (w.heap.size + 1) 64 (rga (k.regs.set a v)) ∧ Blk ((W.setCell ⟨w.heap.size + 1, a * 2, none⟩ (.int .u64 v.1)).setCell ⟨w.heap.size + 1, a * 2 + 1, none⟩ (.int .u64 v.2)) (w.heap.size + 1 + 1) 64 (rga (List.replicate 8 (0, 0))) ∧ Below w.heap.size W1 ((W.setCell ⟨w.heap.size + 1, a * 2, none⟩ (.int .u64 v.1)).setCell ⟨w.heap.size + 1, a * 2 + 1, none⟩ (.int .u64 v.2)) := fun W hW v =>
  ⟨rga_set (HK5.out.after hW) HR8.out ha v, ((HK8.out.after hW).far (p := ⟨w.heap.size + 1, a * 2, none⟩) (by show ¬ w.heap.size + 1 + 1 = w.heap.size + 1; omega) _).far (p := ⟨w.heap.size + 1, a * 2 + 1, none⟩) (by show ¬ w.heap.size + 1 + 1 = w.heap.size + 1; omega) _, ((hW.mono (by omega)).setCell (by show w.heap.size ≤ w.heap.size + 1; omega) _).setCell (by show w.heap.size ≤ w.heap.size + 1; omega) _⟩
 have HFIN := hQ fin
 clear fin
 unfold rgv
 go_enter Tryz.func56, Tryz.ntmps56
 go_upto_region 1 with (fail)
 rw [← HW1.out]
 go_upto_block 0 with (fail)
 go_cut [2, 3] (fun s2 s3 wx => ∃ (iv' : Value) (At' : Option Addr) (ct' : Nat), s2 = iv' ∧ s3 = .slice At' k'.trace.length ct' ∧ Hid (Blk wx (w.heap.size + 1) 64 (rga k'.regs)) ∧ Hid (Blk wx (w.heap.size + 1 + 1) 64 (rga (List.replicate 8 (0, 0)))) ∧ Hid (Below w.heap.size w wx) ∧ Hid (InX wx B iv' k'.inp) ∧ Hid (Rx wx lo w.heap.size 2 At' k'.trace.length (k'.trace.flatMap vcl) ∨ Rx wx W1.heap.size wx.heap.size 2 At' k'.trace.length (k'.trace.flatMap vcl)) ∧ k'.trace.length ≤ ct' ∧ Hid (k'.ended = false))
 case first =>
  have hcase : op = 11 ∨ op = 14 := hsub
  clear hop0 hop1 hsub
  rcases hcase with rfl | rfl
  ·
    have hke : k' = { k with regs := k.regs.set a ((rl k.regs b).1, (rl k.regs c).1) } := by rw [HKE.out]; rfl
    have HC : Hid (∀ W, Calls Tryz.prog 83 #[.agg #[.int .u64 (rl k.regs b).1, .int .u64 (rl k.regs b).2], .agg #[.int .u64 (rl k.regs c).1, .int .u64 (rl k.regs c).2]] W fun e w' => e = .returned (.agg #[.int .u64 (rl k.regs b).1, .int .u64 (rl k.regs c).1]) ∧ Below W.heap.size W w') := hQ (fun W => (refpair_any _ _ _ _ W).mono fun e w' ⟨p, q⟩ => ⟨p, q⟩)
    go_upto_region 11 with (fail)
    go_region_law (first
     | (go_simp; refine (HC.out _).mono ?_; rintro e w2 ⟨rfl, b2⟩; have hb2 := (show Below W1.heap.size W1 w2 from (Below.refl W1.heap.size W1).drew.trans b2); have HB2 : Hid (Below W1.heap.size W1 w2) := hQ hb2; obtain ⟨y0, y1, y2, y3, y4, -⟩ := (HKX.out.after hb2).c5; obtain ⟨a0', a1'⟩ := rga_cell (HK5.out.after hb2) ha; have f0' := (HK5.out.after hb2).frozen (a * 2); have f1' := (HK5.out.after hb2).frozen (a * 2 + 1); have hz2 := (HK8.out.after hb2).lt; clear b2 hb2))
    all_goals go_wp2_with fail
    all_goals go_meet
    all_goals exact ⟨_, At, ct, rfl, by rw [hke], hQ (by rw [hke]; exact (HFIN.out _ HB2.out ((rl k.regs b).1, (rl k.regs c).1)).1), hQ ((HFIN.out _ HB2.out ((rl k.regs b).1, (rl k.regs c).1)).2.1), hQ (HB1.out.trans ((HFIN.out _ HB2.out ((rl k.regs b).1, (rl k.regs c).1)).2.2)), hQ (by rw [hke]; exact HIN.out.after (((HFIN.out _ HB2.out ((rl k.regs b).1, (rl k.regs c).1)).2.2).mono hB)), hQ (.inl (by rw [hke]; exact Rx.keep HTR.out (fun q _ hq => ((HFIN.out _ HB2.out ((rl k.regs b).1, (rl k.regs c).1)).2.2).block q hq))), by rw [hke]; exact HCT.out, hQ (by rw [hke]; exact HE.out)⟩
  ·
    have hke : k' = { k with trace := k.trace ++ [rl k.regs a] } := by rw [HKE.out]; rfl
    obtain ⟨i0, hi0, hz0, hz1, hz2⟩ := info_parts info_val8
    have HTRD : Hid (∀ W, Below W1.heap.size W1 W → Reads W w.heap.size 2 At k.trace.length (k.trace.flatMap vcl)) := hQ (fun W hW => (Rx.keep HTR.out (Kp.of_below hW (by omega))).1)
    have hcti : k.trace.length ≤ ct := HCT.out
    go_upto_region 20 with (fail)
    go_region_law (first
     | (refine step_append_any _ rfl (.const (.slice none 0 0)) (.tmp 100) 39 rfl W1.heap.size 38 i0 _ 2 16 Tryz.underlying39 hi0 hz0 hz1 hz2 rfl (by omega) (.slice none 0 0) 0 [] rfl (World.ownsRow_nil _ _ _ _) w.heap.size At k.trace.length ct (k.trace.flatMap vcl) (by first | (simp [Act.eval]; done) | (simp [Act.eval, Act.put]; done)) (HTRD.out _ (by first | exact bR.drew | exact (bR.alloc nL _).drew)) (vcl_one _) (by unfold maxLen; omega) (by omega) (by first | exact Nat.le_refl _ | (simp; done)) ?_; intro v6 w6 own6 gX atX; clear atX; simp only [Nat.zero_add, List.nil_append] at own6; have HO6 : Hid (w6.ownsRow W1.heap.size 38 2 v6 k.trace.length (k.trace.flatMap vcl)) := hQ own6; have HB6 : Hid (Below W1.heap.size W1 w6) := hQ (by first | exact ((Below.refl W1.heap.size W1).drew).trans (below_of_grownR gX (fun k hk => by cases hk) nL) | exact (((Below.refl W1.heap.size W1).alloc nL _).drew).trans (below_of_grownR gX (fun k hk => by cases hk) (by simp))); obtain ⟨A6, c6, rfl, -⟩ := own_form own6; obtain ⟨y0, y1, y2, y3, y4, -⟩ := (HKX.out.after HB6.out).c5; obtain ⟨a0', a1'⟩ := rga_cell (HK5.out.after HB6.out) ha; have hz6 := (HK5.out.after HB6.out).lt; have hs6 : W1.heap.size ≤ w6.heap.size := HB6.out.size; (try (have HL6 : Hid (Reads w6 (W1.heap.size + 1) 2 (some ⟨W1.heap.size, 0, none⟩) 1 [.int .u64 (rl k.regs a).1, .int .u64 (rl k.regs a).2]) := hQ (Reads.below (reads_new1 (w := W1) (size := 2) (n := 1) (t := 38) (cs := [.int .u64 (rl k.regs a).1, .int .u64 (rl k.regs a).2]) rfl) ((bR.drew).trans (below_of_grownR gX (fun k hk => by cases hk) (by show _ ≤ (World.alloc W1 _).heap.size; simp)))))); clear own6 gX)
     | (refine step_append_any _ rfl (.tmp 101) (.tmp 106) 39 rfl W1.heap.size 38 i0 _ 2 16 Tryz.underlying39 hi0 hz0 hz1 hz2 rfl (by omega) (.slice A6 k.trace.length c6) k.trace.length (k.trace.flatMap vcl) (by first | (simp [Act.eval]; done) | (simp [Act.eval, Act.put]; done)) (HO6.out.alloc _) (w6.heap.size + 1) (some ⟨w6.heap.size, 0, none⟩) 1 1 _ (by first | (simp [Act.eval]; done) | (simp [Act.eval, Act.put]; done)) (show Reads (World.alloc w6 _) _ _ _ _ _ from reads_new1 rfl) (by simp [Value.oneCell']) (by unfold maxLen; omega) (by omega) (by simp; omega) ?_; intro v7 w7 own7 gY atY; clear atY; have HO7 : Hid (w7.ownsRow W1.heap.size 38 2 v7 (k.trace.length + 1) (k.trace.flatMap vcl ++ [.int .u64 (rl k.regs a).1, .int .u64 (rl k.regs a).2])) := hQ own7; have HB7 : Hid (Below W1.heap.size W1 w7) := hQ ((HB6.out.alloc (by omega) _).trans (below_of_grownR gY (fun k hk => (HO6.out.lt k hk).1) (by simp; omega))); obtain ⟨A7, c7, rfl, -⟩ := own_form own7; clear own7 gY)
     | (refine step_append_any _ rfl (.tmp 101) (.tmp 106) 39 rfl W1.heap.size 38 i0 _ 2 16 Tryz.underlying39 hi0 hz0 hz1 hz2 rfl (by omega) (.slice A6 k.trace.length c6) k.trace.length (k.trace.flatMap vcl) (by first | (simp [Act.eval]; done) | (simp [Act.eval, Act.put]; done)) (HO6.out) (W1.heap.size + 1) (some ⟨W1.heap.size, 0, none⟩) 1 1 [.int .u64 (rl k.regs a).1, .int .u64 (rl k.regs a).2] (by first | (simp [Act.eval]; done) | (simp [Act.eval, Act.put]; done)) HL6.out (by simp [Value.oneCell']) (by unfold maxLen; omega) (by omega) (by omega) ?_; intro v7 w7 own7 gY atY; clear atY; have HO7 : Hid (w7.ownsRow W1.heap.size 38 2 v7 (k.trace.length + 1) (k.trace.flatMap vcl ++ [.int .u64 (rl k.regs a).1, .int .u64 (rl k.regs a).2])) := hQ own7; have HB7 : Hid (Below W1.heap.size W1 w7) := hQ (HB6.out.trans (below_of_grownR gY (fun k hk => (HO6.out.lt k hk).1) (by omega))); obtain ⟨A7, c7, rfl, -⟩ := own_form own7; clear own7 gY))
    all_goals go_wp2_with fail
    all_goals go_meet
    all_goals
     have hl : (k.trace ++ [rl k.regs a]).length = k.trace.length + 1 := by simp
     have hbw : Below w.heap.size W1 w7 := HB7.out.mono (by omega)
     exact ⟨_, A7, c7, rfl, by rw [hke]; show _ = Value.slice A7 (k.trace ++ [rl k.regs a]).length c7; rw [hl], hQ (by rw [hke]; exact HK5.out.after HB7.out), hQ (HK8.out.after HB7.out), hQ (HB1.out.trans hbw), hQ (by rw [hke]; exact HIN.out.after (hbw.mono hB)), hQ (.inr (by rw [hke]; show Rx _ _ _ 2 A7 (k.trace ++ [rl k.regs a]).length ((k.trace ++ [rl k.regs a]).flatMap vcl); rw [hl, List.flatMap_append]; exact Rx.of_own HO7.out)), by rw [hke]; show (k.trace ++ [rl k.regs a]).length ≤ c7; rw [hl]; exact (own_cap HO7.out).2, hQ (by rw [hke]; exact HE.out)⟩
 case rest =>
  obtain ⟨iv', At', ct', rfl, rfl, HK5', HK8', HB2, HIN2, HTR2, hct2, HE2⟩ := hcut
  obtain ⟨W2, hW2⟩ : ∃ W2, W2 = wc := ⟨_, rfl⟩
  subst hW2
  clear x0 x1 x2 x3 x4 a0 a1 b0 b1 d0 d1 f0 f1
  obtain ⟨Ai', ci', rfl, -⟩ := HIN2.out
  obtain ⟨RG, hRG⟩ : ∃ RG, RG = k'.regs := ⟨_, rfl⟩
  obtain ⟨NI, hNI⟩ : ∃ NI, NI = k'.inp.length := ⟨_, rfl⟩
  rw [← hRG] at HK5'
  have HRGE := hQ hRG
  have HNI := hQ hNI
  clear hRG hNI
  obtain ⟨c0, c1, c2, c3, c4, c5, c6, c7, c8, c9, c10, c11, c12, c13, c14, c15, ff, hl5⟩ := rga_16 HK5'.out
  obtain ⟨z0, z1, z2, z3, z4, z5, z6, z7, z8, z9, z10, z11, z12, z13, z14, z15, fz, hl8⟩ := rga_16 HK8'.out
  have fz0 := fz 0
  have fz1 := fz 1
  have fz2 := fz 2
  have fz3 := fz 3
  have fz4 := fz 4
  have fz5 := fz 5
  have fz6 := fz 6
  have fz7 := fz 7
  have fz8 := fz 8
  have fz9 := fz 9
  have fz10 := fz 10
  have fz11 := fz 11
  have fz12 := fz 12
  have fz13 := fz 13
  have fz14 := fz 14
  have fz15 := fz 15
  clear ff fz
  go_wp2
  obtain ⟨W9, hW9⟩ : ∃ W9, W9 = ((((((((((((((((W2.setCell ⟨w.heap.size + 1 + 1, 0, none⟩ (.int .u64 (rl RG 0).1)).setCell ⟨w.heap.size + 1 + 1, 1, none⟩ (.int .u64 (rl RG 0).2)).setCell ⟨w.heap.size + 1 + 1, 2, none⟩ (.int .u64 (rl RG 1).1)).setCell ⟨w.heap.size + 1 + 1, 3, none⟩ (.int .u64 (rl RG 1).2)).setCell ⟨w.heap.size + 1 + 1, 4, none⟩ (.int .u64 (rl RG 2).1)).setCell ⟨w.heap.size + 1 + 1, 5, none⟩ (.int .u64 (rl RG 2).2)).setCell ⟨w.heap.size + 1 + 1, 6, none⟩ (.int .u64 (rl RG 3).1)).setCell ⟨w.heap.size + 1 + 1, 7, none⟩ (.int .u64 (rl RG 3).2)).setCell ⟨w.heap.size + 1 + 1, 8, none⟩ (.int .u64 (rl RG 4).1)).setCell ⟨w.heap.size + 1 + 1, 9, none⟩ (.int .u64 (rl RG 4).2)).setCell ⟨w.heap.size + 1 + 1, 10, none⟩ (.int .u64 (rl RG 5).1)).setCell ⟨w.heap.size + 1 + 1, 11, none⟩ (.int .u64 (rl RG 5).2)).setCell ⟨w.heap.size + 1 + 1, 12, none⟩ (.int .u64 (rl RG 6).1)).setCell ⟨w.heap.size + 1 + 1, 13, none⟩ (.int .u64 (rl RG 6).2)).setCell ⟨w.heap.size + 1 + 1, 14, none⟩ (.int .u64 (rl RG 7).1)).setCell ⟨w.heap.size + 1 + 1, 15, none⟩ (.int .u64 (rl RG 7).2)) := ⟨_, rfl⟩
  rw [← hW9]
  have hK9 : Blk W9 (w.heap.size + 1 + 1) 64 (rga RG) := by rw [hW9]; exact rga_put HK8'.out _
  have hB9 : Below w.heap.size W2 W9 := by rw [hW9]; exact rga_below (by omega) _
  clear c0 c1 c2 c3 c4 c5 c6 c7 c8 c9 c10 c11 c12 c13 c14 c15 z0 z1 z2 z3 z4 z5 z6 z7 z8 z9 z10 z11 z12 z13 z14 z15 fz0 fz1 fz2 fz3 fz4 fz5 fz6 fz7 fz8 fz9 fz10 fz11 fz12 fz13 fz14 fz15
  obtain ⟨c0, c1, c2, c3, c4, c5, c6, c7, c8, c9, c10, c11, c12, c13, c14, c15, -, -⟩ := rga_16 hK9
  refine bodyPost_ret (v := .tuple #[rgv RG, .slice Ai' k'.inp.length ci', .slice At' k'.trace.length ct', .bool false]) (by simp [rgv, rga, results, Tryz.results56, go_sem, c0, c1, c2, c3, c4, c5, c6, c7, c8, c9, c10, c11, c12, c13, c14, c15]) rfl ?_
  have hs29 : W2.heap.size ≤ W9.heap.size := hB9.size
  have hk1 : Kp lo w.heap.size W2 W9 := fun q _ hq => hB9.block q hq
  have hk2 : Kp W1.heap.size W2.heap.size W2 W9 := by
   rw [hW9]
   exact rga_kp (by omega) _
  refine ⟨_, At', ct', by rw [HRGE.out, HE2.out], HIN2.out.after (hB9.mono hB), ?_, hct2, HB2.out.trans hB9⟩
  rcases HTR2.out with hx | hx
  · exact (Rx.keep hx hk1).more nL (by have := HB2.out.size; omega)
  · exact (Rx.keep hx hk2).more (by omega) hs29
end
end Go.Proofs.YtcnndoefgjbmiaaGreat.pm
