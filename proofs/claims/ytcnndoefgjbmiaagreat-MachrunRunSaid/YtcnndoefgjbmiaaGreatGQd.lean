/- The reference's Plain: some operations. -/
import Derived.Test.YtcnndoefgjbmiaaGreatQc0
set_option linter.unusedVariables false
set_option maxRecDepth 10000
set_option maxHeartbeats 8000000
namespace Go.Proofs.YtcnndoefgjbmiaaGreat.pm
open Go.RowKit
section
variable {w : World} {B lo g ct : Nat} {iv : Value} {At : Option Addr} {k : Mx} {l : List (Nat × Nat)}
theorem pl_c (w : World) (op : Int) (a b c : Nat) (imm : Int) (hop0 : 0 ≤ op) (hop1 : op ≤ 14) (p1 : 2 ≤ op) (p2 : op ≤ 10) (hz : (apV op (rg k b).1 (rg k b).2 (rg k c).1 (rg k c).2).2 = false) (him : 0 ≤ imm) (ha : a < 8) (hb : b < 8) (hc : c < 8) (hr8 : k.regs.length = 8) (hrg : ∀ r, W64x (rg k r)) (hin : InX w B iv k.inp) (htr : Rx w lo w.heap.size 2 At k.trace.length (k.trace.flatMap vcl)) (hct : k.trace.length ≤ ct) (ht : k.trace.length ≤ 1000000) (hB : B ≤ w.heap.size) (hlo : lo ≤ w.heap.size) (he : k.ended = false) (k' : Mx) (hk' : k' = k.pl0 ⟨op, a, b, c, imm⟩) :
 Calls Tryz.prog 56 #[.agg #[.int .i64 op, .int .i64 a, .int .i64 b, .int .i64 c, .int .u64 imm], rgv k.regs, iv, .slice At k.trace.length ct] w (PlD B lo k' w) := by
 obtain ⟨im, rfl⟩ := Int.eq_ofNat_of_zero_le him
 obtain ⟨W1, hW1⟩ : ∃ W1, W1 = ((w.alloc (.cells #[.int .i64 op, .int .i64 a, .int .i64 b, .int .i64 c, .int .u64 im] 50)).alloc (.cells (rga k.regs) 64)).alloc (.cells #[.int .u64 0, .int .u64 0, .int .u64 0, .int .u64 0, .int .u64 0, .int .u64 0, .int .u64 0, .int .u64 0, .int .u64 0, .int .u64 0, .int .u64 0, .int .u64 0, .int .u64 0, .int .u64 0, .int .u64 0, .int .u64 0] 64) := ⟨_, rfl⟩
 have hB1 : Below w.heap.size w W1 := by rw [hW1]; exact ((bR.alloc nL _).alloc (by simp) _).alloc (by simp; omega) _
 obtain ⟨g4, hg4⟩ : ∃ g, g = w.heap.size := ⟨_, rfl⟩
 have HKX : Hid (Blk W1 w.heap.size 50 #[.int .i64 op, .int .i64 a, .int .i64 b, .int .i64 c, .int .u64 im]) := hQ (by rw [hW1]; exact ((Blk.new _ _ _).alloc _).alloc _)
 have HK5 : Hid (Blk W1 (w.heap.size + 1) 64 (rga k.regs)) := hQ (by rw [hW1]; exact (Blk.newAt (by simp)).alloc _)
 have HK8 : Hid (Blk W1 (w.heap.size + 1 + 1) 64 (rga (List.replicate 8 (0, 0)))) := hQ (by rw [hW1]; exact Blk.newAt (by simp))
 have HIN := hQ (hin.after (hB1.mono hB))
 have HTR : Hid (Rx W1 lo w.heap.size 2 At k.trace.length (k.trace.flatMap vcl)) := hQ (Rx.keep htr (Kp.of_below hB1 nL))
 obtain ⟨Ai, ci, rfl, hi1, hi2, hi3⟩ := hin
 have HB1 := hQ hB1
 have HW1 := hQ hW1
 have hai : (a : Int) < 8 := by omega
 have ha0 : (0 : Int) ≤ (a : Int) := by omega
 have hbi : (b : Int) < 8 := by omega
 have hb0 : (0 : Int) ≤ (b : Int) := by omega
 have hci : (c : Int) < 8 := by omega
 have hc0 : (0 : Int) ≤ (c : Int) := by omega
 have hsz : w.heap.size + 1 + 1 < W1.heap.size := HK8.out.lt
 have HR8 := hQ hr8
 have HE := hQ he
 have HRG := hQ hrg
 have HKE := hQ hk'
 have HCT := hQ hct
 clear hW1 hB1 htr hi1 hi2 hi3 hr8 he hrg hk' hct hg4
 obtain ⟨x0, x1, x2, x3, x4, -⟩ := HKX.out.c5
 obtain ⟨a0, a1⟩ := rga_cell HK5.out ha
 obtain ⟨b0, b1⟩ := rga_cell HK5.out hb
 obtain ⟨d0, d1⟩ := rga_cell HK5.out hc
 have f0 := HK5.out.frozen (a * 2)
 have f1 := HK5.out.frozen (a * 2 + 1)
 have fin : ∀ (W : World), Below W1.heap.size W1 W → ∀ (v : Nat × Nat), Blk ((W.setCell ⟨w.heap.size + 1, a * 2, none⟩ (.int .u64 v.1)).setCell ⟨w.heap.size + 1, a * 2 + 1, none⟩ (.int .u64 v.2)) (w.heap.size + 1) 64 (rga (k.regs.set a v)) ∧ Blk ((W.setCell ⟨w.heap.size + 1, a * 2, none⟩ (.int .u64 v.1)).setCell ⟨w.heap.size + 1, a * 2 + 1, none⟩ (.int .u64 v.2)) (w.heap.size + 1 + 1) 64 (rga (List.replicate 8 (0, 0))) ∧ Below w.heap.size W1 ((W.setCell ⟨w.heap.size + 1, a * 2, none⟩ (.int .u64 v.1)).setCell ⟨w.heap.size + 1, a * 2 + 1, none⟩ (.int .u64 v.2)) := fun W hW v =>
  ⟨rga_set (HK5.out.after hW) HR8.out ha v, ((HK8.out.after hW).far (p := ⟨w.heap.size + 1, a * 2, none⟩) (by show ¬ w.heap.size + 1 + 1 = w.heap.size + 1; omega) _).far (p := ⟨w.heap.size + 1, a * 2 + 1, none⟩) (by show ¬ w.heap.size + 1 + 1 = w.heap.size + 1; omega) _, ((hW.mono (by omega)).setCell (by show w.heap.size ≤ w.heap.size + 1; omega) _).setCell (by show w.heap.size ≤ w.heap.size + 1; omega) _⟩
 have HFIN := hQ fin
 clear fin
 unfold rgv
 go_enter Tryz.func56, Tryz.ntmps56
 go_upto_region 1 with (fail)
 rw [← HW1.out]
 have n0 : (op == 0) = false := by rw [beq_eq_false_iff_ne]; omega
 have n1 : (op == 1) = false := by rw [beq_eq_false_iff_ne]; omega
 have n11 : (op == 11) = false := by rw [beq_eq_false_iff_ne]; omega
 have n12 : (op == 12) = false := by rw [beq_eq_false_iff_ne]; omega
 have n13 : (op == 13) = false := by rw [beq_eq_false_iff_ne]; omega
 have n14 : (op == 14) = false := by rw [beq_eq_false_iff_ne]; omega
 obtain ⟨r, hr⟩ : ∃ r, r = apV op (rl k.regs b).1 (rl k.regs b).2 (rl k.regs c).1 (rl k.regs c).2 := ⟨_, rfl⟩
 have hvb : W64x (rl k.regs b) := HRG.out b
 have hvc : W64x (rl k.regs c) := HRG.out c
 have HKB : Hid (k' = binM k a r) := hQ (by
  rw [HKE.out, hr]
  unfold Mx.pl0 Mx.plain binM
  rw [if_neg (by dsimp only; omega), if_neg (by dsimp only; omega), if_neg (by dsimp only; omega), if_neg (by dsimp only; omega), if_neg (by dsimp only; omega), if_neg (by dsimp only; omega)]
  rfl)
 have HC : Hid (∀ W, Below W1.heap.size W1 W → Calls Tryz.prog 85 #[.int .i64 op, .agg #[.int .u64 (rl k.regs b).1, .int .u64 (rl k.regs b).2], .agg #[.int .u64 (rl k.regs c).1, .int .u64 (rl k.regs c).2]] W fun e w' => e = .returned (.tuple #[.agg #[.int .u64 (r.1.1 : Int), .int .u64 (r.1.2 : Int)], .bool r.2]) ∧ Below W.heap.size W w') := hQ (fun W hW => (refapply_any op _ _ _ _ hvb.1 hvb.2 hvc.1 hvc.2 W).mono fun e w' ⟨p, q⟩ => ⟨by rw [hr]; exact p, q⟩)
 have HR2 : Hid (r.2 = false) := hQ (by rw [hr]; exact hz)
 clear hvb hvc hr hz
 go_upto_region 2 with (fail)
 have HKL : Hid (∀ W, Below W1.heap.size W1 W → (W.cell? ⟨w.heap.size, 0, none⟩ = some (.int .i64 op) ∧ W.cell? ⟨w.heap.size, 2, none⟩ = some (.int .i64 b) ∧ W.cell? ⟨w.heap.size, 3, none⟩ = some (.int .i64 c)) ∧ (W.cell? ⟨w.heap.size + 1, b * 2, none⟩ = some (.int .u64 (rl k.regs b).1) ∧ W.cell? ⟨w.heap.size + 1, b * 2 + 1, none⟩ = some (.int .u64 (rl k.regs b).2)) ∧ (W.cell? ⟨w.heap.size + 1, c * 2, none⟩ = some (.int .u64 (rl k.regs c).1) ∧ W.cell? ⟨w.heap.size + 1, c * 2 + 1, none⟩ = some (.int .u64 (rl k.regs c).2))) := hQ (fun W h => ⟨⟨(h.cell (cell_lt x0)).trans x0, (h.cell (cell_lt x2)).trans x2, (h.cell (cell_lt x3)).trans x3⟩, ⟨(h.cell (cell_lt b0)).trans b0, (h.cell (cell_lt b1)).trans b1⟩, ⟨(h.cell (cell_lt d0)).trans d0, (h.cell (cell_lt d1)).trans d1⟩⟩)
 have HD1 : Hid (Below W1.heap.size W1 W1.drew) := hQ (bR.drew)
 clear x0 x1 x2 x3 x4 a0 a1 b0 b1 d0 d1 f0 f1
 go_cut [12, 13] (fun s5 s6 wx => ∃ q, s5 = .pointer (some ⟨q, 0, none⟩) ∧ s6 = .bool r.2 ∧ W1.heap.size ≤ q ∧ Hid (Blk wx q 38 #[.int .u64 r.1.1, .int .u64 r.1.2]) ∧ Hid (Below W1.heap.size W1 wx))
 case first =>
  have HA : Hid (∀ W o, Below W1.heap.size W1 W → Below W1.heap.size W1 (W.alloc o)) := hQ (fun W o h => h.alloc h.size o)
  have HX : Hid (∀ (W : World) (g : Nat) (u v : Value), W1.heap.size ≤ g → Below W1.heap.size W1 W → Below W1.heap.size W1 ((W.setCell ⟨g, 0, none⟩ u).setCell ⟨g, 1, none⟩ v)) := hQ (fun W g u v hg h => (h.setCell (by simpa using hg) u).setCell (by simpa using hg) v)
  go_region_held3 (fun W => (W.cell? ⟨w.heap.size, 0, none⟩ = some (.int .i64 op) ∧ W.cell? ⟨w.heap.size, 2, none⟩ = some (.int .i64 b) ∧ W.cell? ⟨w.heap.size, 3, none⟩ = some (.int .i64 c)) ∧ (W.cell? ⟨w.heap.size + 1, b * 2, none⟩ = some (.int .u64 (rl k.regs b).1) ∧ W.cell? ⟨w.heap.size + 1, b * 2 + 1, none⟩ = some (.int .u64 (rl k.regs b).2)) ∧ (W.cell? ⟨w.heap.size + 1, c * 2, none⟩ = some (.int .u64 (rl k.regs c).1) ∧ W.cell? ⟨w.heap.size + 1, c * 2 + 1, none⟩ = some (.int .u64 (rl k.regs c).2)))
   (with_reducible first | assumption | exact HKL.out _ HD1.out | exact HKL.out _ (HA.out _ _ HD1.out) | exact HKL.out _ (Hid.out (by assumption)) | exact HKL.out _ (HA.out _ _ (Hid.out (by assumption))) | exact HKL.out _ (HA.out _ _ bR).drew | exact HKL.out _ (HX.out _ _ _ _ nL (Hid.out (by assumption))) | exact HKL.out _ (HX.out _ _ _ _ (Hid.out HB2).size (HA.out _ _ (Hid.out HB2))))
   (first
    | (go_at_call 85; refine (HC.out _ HD1.out).mono ?_; rintro e w2 ⟨rfl, b2⟩; have HB2 : Hid (Below W1.heap.size W1 w2) := hQ (HD1.out.trans (b2.mono HD1.out.size)); clear b2)
    | (go_at_call 85; refine (HC.out _ (HA.out _ _ HD1.out)).mono ?_; rintro e w2 ⟨rfl, b2⟩; have HB2 : Hid (Below W1.heap.size W1 w2) := hQ ((HA.out _ _ HD1.out).trans (b2.mono (HA.out _ _ HD1.out).size)); have HKB2 : Hid (Blk w2 W1.heap.size 38 #[.int .u64 0, .int .u64 0]) := hQ ((Blk.new W1.drew _ _).after b2); obtain ⟨y0, y1, g0, g1, yz⟩ := HKB2.out.c2; clear b2))
  all_goals go_wp2_with fail
  all_goals go_meet
  all_goals first
   | exact ⟨_, rfl, rfl, HB2.out.size, hQ ((Blk.new w2 _ _).drew), hQ (HA.out _ _ HB2.out).drew⟩
   | exact ⟨_, rfl, rfl, HB2.out.size, hQ (Blk.new w2 _ _), hQ (HA.out _ _ HB2.out)⟩
   | exact ⟨_, rfl, rfl, Nat.le_refl _, hQ ((HKB2.out.set_ 0 _).set_ 1 _), hQ (HX.out _ _ _ _ nL HB2.out)⟩
 case rest =>
  obtain ⟨q, rfl, rfl, hq, HQ, HB2⟩ := hcut
  obtain ⟨W2, hW2⟩ : ∃ W2, W2 = wc := ⟨_, rfl⟩
  subst hW2
  clear HKL HD1 HC
  obtain ⟨v0, v1, -, -, hqlt⟩ := HQ.out.c2
  have hs2 : W1.heap.size ≤ W2.heap.size := HB2.out.size
  have HB2' : Hid (Below w.heap.size W1 W2) := hQ (HB2.out.mono (by omega))
  obtain ⟨x0, x1, -, -, -, -⟩ := (HKX.out.after HB2.out).c5
  have HK52 := hQ (HK5.out.after HB2.out)
  have HK82 := hQ (HK8.out.after HB2.out)
  have hr2 := HR2.out
  have hke : k' = k.stop 2 := by rw [HKB.out]; unfold binM; rw [hr2, if_neg (by decide)]
  obtain ⟨RG, hRG⟩ : ∃ RG, RG = k.regs := ⟨_, rfl⟩
  obtain ⟨NI, hNI⟩ : ∃ NI, NI = k.inp.length := ⟨_, rfl⟩
  rw [← hRG] at HK52
  have HRGE := hQ hRG
  clear hRG hNI x0 x1 v0 v1
  obtain ⟨c0, c1, c2, c3, c4, c5, c6, c7, c8, c9, c10, c11, c12, c13, c14, c15, ff, hl5⟩ := rga_16 HK52.out
  obtain ⟨z0, z1, z2, z3, z4, z5, z6, z7, z8, z9, z10, z11, z12, z13, z14, z15, fz, hl8⟩ := rga_16 HK82.out
  have fz0 := fz 0
  have fz1 := fz 1
  have fz2 := fz 2
  have fz3 := fz 3
  have fz4 := fz 4
  have fz5 := fz 5
  have fz6 := fz 6
  have fz7 := fz 7
  have fz8 := fz 8
  have fz9 := fz 9
  have fz10 := fz 10
  have fz11 := fz 11
  have fz12 := fz 12
  have fz13 := fz 13
  have fz14 := fz 14
  have fz15 := fz 15
  clear ff fz
  go_wp2
  obtain ⟨W9, hW9⟩ : ∃ W9, W9 = ((((((((((((((((W2.setCell ⟨w.heap.size + 1 + 1, 0, none⟩ (.int .u64 (rl RG 0).1)).setCell ⟨w.heap.size + 1 + 1, 1, none⟩ (.int .u64 (rl RG 0).2)).setCell ⟨w.heap.size + 1 + 1, 2, none⟩ (.int .u64 (rl RG 1).1)).setCell ⟨w.heap.size + 1 + 1, 3, none⟩ (.int .u64 (rl RG 1).2)).setCell ⟨w.heap.size + 1 + 1, 4, none⟩ (.int .u64 (rl RG 2).1)).setCell ⟨w.heap.size + 1 + 1, 5, none⟩ (.int .u64 (rl RG 2).2)).setCell ⟨w.heap.size + 1 + 1, 6, none⟩ (.int .u64 (rl RG 3).1)).setCell ⟨w.heap.size + 1 + 1, 7, none⟩ (.int .u64 (rl RG 3).2)).setCell ⟨w.heap.size + 1 + 1, 8, none⟩ (.int .u64 (rl RG 4).1)).setCell ⟨w.heap.size + 1 + 1, 9, none⟩ (.int .u64 (rl RG 4).2)).setCell ⟨w.heap.size + 1 + 1, 10, none⟩ (.int .u64 (rl RG 5).1)).setCell ⟨w.heap.size + 1 + 1, 11, none⟩ (.int .u64 (rl RG 5).2)).setCell ⟨w.heap.size + 1 + 1, 12, none⟩ (.int .u64 (rl RG 6).1)).setCell ⟨w.heap.size + 1 + 1, 13, none⟩ (.int .u64 (rl RG 6).2)).setCell ⟨w.heap.size + 1 + 1, 14, none⟩ (.int .u64 (rl RG 7).1)).setCell ⟨w.heap.size + 1 + 1, 15, none⟩ (.int .u64 (rl RG 7).2)) := ⟨_, rfl⟩
  rw [← hW9]
  have hK9 : Blk W9 (w.heap.size + 1 + 1) 64 (rga RG) := by rw [hW9]; exact rga_put HK82.out _
  have hB9 : Below w.heap.size W2 W9 := by rw [hW9]; exact rga_below (by omega) _
  clear c0 c1 c2 c3 c4 c5 c6 c7 c8 c9 c10 c11 c12 c13 c14 c15 z0 z1 z2 z3 z4 z5 z6 z7 z8 z9 z10 z11 z12 z13 z14 z15 fz0 fz1 fz2 fz3 fz4 fz5 fz6 fz7 fz8 fz9 fz10 fz11 fz12 fz13 fz14 fz15
  obtain ⟨c0, c1, c2, c3, c4, c5, c6, c7, c8, c9, c10, c11, c12, c13, c14, c15, -, -⟩ := rga_16 hK9
  refine bodyPost_ret (v := .tuple #[rgv RG, .slice Ai k.inp.length ci, .slice At k.trace.length ct, .bool true]) (by simp [rgv, rga, results, Tryz.results56, go_sem, c0, c1, c2, c3, c4, c5, c6, c7, c8, c9, c10, c11, c12, c13, c14, c15]) rfl ?_
  have hs29 : W2.heap.size ≤ W9.heap.size := hB9.size
  have hb19 : Below w.heap.size W1 W9 := HB2'.out.trans hB9
  refine ⟨_, At, ct, by rw [hke, HRGE.out]; rfl, by rw [hke]; exact HIN.out.after (hb19.mono hB), ?_, by rw [hke]; exact HCT.out, HB1.out.trans hb19⟩
  rw [hke]
  exact (Rx.keep HTR.out (fun q _ hq => hb19.block q hq)).more nL (by have := HB1.out.size; omega)
end
section
variable {w : World} {B lo g ct : Nat} {iv : Value} {At : Option Addr} {k : Mx} {l : List (Nat × Nat)}
theorem pl_d (w : World) (op : Int) (a b c : Nat) (imm : Int) (hop0 : 0 ≤ op) (hop1 : op ≤ 14) (p1 : 2 ≤ op) (p2 : op ≤ 10) (hz : (apV op (rg k b).1 (rg k b).2 (rg k c).1 (rg k c).2).2 = true) (him : 0 ≤ imm) (ha : a < 8) (hb : b < 8) (hc : c < 8) (hr8 : k.regs.length = 8) (hrg : ∀ r, W64x (rg k r)) (hin : InX w B iv k.inp) (htr : Rx w lo w.heap.size 2 At k.trace.length (k.trace.flatMap vcl)) (hct : k.trace.length ≤ ct) (ht : k.trace.length ≤ 1000000) (hB : B ≤ w.heap.size) (hlo : lo ≤ w.heap.size) (he : k.ended = false) (k' : Mx) (hk' : k' = k.pl0 ⟨op, a, b, c, imm⟩) :
 Calls Tryz.prog 56 #[.agg #[.int .i64 op, .int .i64 a, .int .i64 b, .int .i64 c, .int .u64 imm], rgv k.regs, iv, .slice At k.trace.length ct] w (PlD B lo k' w) := by
 obtain ⟨im, rfl⟩ := Int.eq_ofNat_of_zero_le him
 obtain ⟨W1, hW1⟩ : ∃ W1, W1 = ((w.alloc (.cells #[.int .i64 op, .int .i64 a, .int .i64 b, .int .i64 c, .int .u64 im] 50)).alloc (.cells (rga k.regs) 64)).alloc (.cells #[.int .u64 0, .int .u64 0, .int .u64 0, .int .u64 0, .int .u64 0, .int .u64 0, .int .u64 0, .int .u64 0, .int .u64 0, .int .u64 0, .int .u64 0, .int .u64 0, .int .u64 0, .int .u64 0, .int .u64 0, .int .u64 0] 64) := ⟨_, rfl⟩
 have hB1 : Below w.heap.size w W1 := by rw [hW1]; exact ((bR.alloc nL _).alloc (by simp) _).alloc (by simp; omega) _
 obtain ⟨g4, hg4⟩ : ∃ g, g = w.heap.size := ⟨_, rfl⟩
 have HKX : Hid (Blk W1 w.heap.size 50 #[.int .i64 op, .int .i64 a, .int .i64 b, .int .i64 c, .int .u64 im]) := hQ (by rw [hW1]; exact ((Blk.new _ _ _).alloc _).alloc _)
 have HK5 : Hid (Blk W1 (w.heap.size + 1) 64 (rga k.regs)) := hQ (by rw [hW1]; exact (Blk.newAt (by simp)).alloc _)
 have HK8 : Hid (Blk W1 (w.heap.size + 1 + 1) 64 (rga (List.replicate 8 (0, 0)))) := hQ (by rw [hW1]; exact Blk.newAt (by simp))
 have HIN := hQ (hin.after (hB1.mono hB))
 have HTR : Hid (Rx W1 lo w.heap.size 2 At k.trace.length (k.trace.flatMap vcl)) := hQ (Rx.keep htr (Kp.of_below hB1 nL))
 obtain ⟨Ai, ci, rfl, hi1, hi2, hi3⟩ := hin
 have HB1 := hQ hB1
 have HW1 := hQ hW1
 have hai : (a : Int) < 8 := by omega
 have ha0 : (0 : Int) ≤ (a : Int) := by omega
 have hbi : (b : Int) < 8 := by omega
 have hb0 : (0 : Int) ≤ (b : Int) := by omega
 have hci : (c : Int) < 8 := by omega
 have hc0 : (0 : Int) ≤ (c : Int) := by omega
 have hsz : w.heap.size + 1 + 1 < W1.heap.size := HK8.out.lt
 have HR8 := hQ hr8
 have HE := hQ he
 have HRG := hQ hrg
 have HKE := hQ hk'
 have HCT := hQ hct
 clear hW1 hB1 htr hi1 hi2 hi3 hr8 he hrg hk' hct hg4
 obtain ⟨x0, x1, x2, x3, x4, -⟩ := HKX.out.c5
 obtain ⟨a0, a1⟩ := rga_cell HK5.out ha
 obtain ⟨b0, b1⟩ := rga_cell HK5.out hb
 obtain ⟨d0, d1⟩ := rga_cell HK5.out hc
 have f0 := HK5.out.frozen (a * 2)
 have f1 := HK5.out.frozen (a * 2 + 1)
 have fin : ∀ (W : World), Below W1.heap.size W1 W → ∀ (v : Nat × Nat), Blk ((W.setCell ⟨w.heap.size + 1, a * 2, none⟩ (.int .u64 v.1)).setCell ⟨w.heap.size + 1, a * 2 + 1, none⟩ (.int .u64 v.2)) (w.heap.size + 1) 64 (rga (k.regs.set a v)) ∧ Blk ((W.setCell ⟨w.heap.size + 1, a * 2, none⟩ (.int .u64 v.1)).setCell ⟨w.heap.size + 1, a * 2 + 1, none⟩ (.int .u64 v.2)) (w.heap.size + 1 + 1) 64 (rga (List.replicate 8 (0, 0))) ∧ Below w.heap.size W1 ((W.setCell ⟨w.heap.size + 1, a * 2, none⟩ (.int .u64 v.1)).setCell ⟨w.heap.size + 1, a * 2 + 1, none⟩ (.int .u64 v.2)) := fun W hW v =>
  ⟨rga_set (HK5.out.after hW) HR8.out ha v, ((HK8.out.after hW).far (p := ⟨w.heap.size + 1, a * 2, none⟩) (by show ¬ w.heap.size + 1 + 1 = w.heap.size + 1; omega) _).far (p := ⟨w.heap.size + 1, a * 2 + 1, none⟩) (by show ¬ w.heap.size + 1 + 1 = w.heap.size + 1; omega) _, ((hW.mono (by omega)).setCell (by show w.heap.size ≤ w.heap.size + 1; omega) _).setCell (by show w.heap.size ≤ w.heap.size + 1; omega) _⟩
 have HFIN := hQ fin
 clear fin
 unfold rgv
 go_enter Tryz.func56, Tryz.ntmps56
 go_upto_region 1 with (fail)
 rw [← HW1.out]
 go_upto_block 0 with (fail)
 go_cut [2, 3] (fun s2 s3 wx => ∃ (iv' : Value) (At' : Option Addr) (ct' : Nat), s2 = iv' ∧ s3 = .slice At' k'.trace.length ct' ∧ Hid (Blk wx (w.heap.size + 1) 64 (rga k'.regs)) ∧ Hid (Blk wx (w.heap.size + 1 + 1) 64 (rga (List.replicate 8 (0, 0)))) ∧ Hid (Below w.heap.size w wx) ∧ Hid (InX wx B iv' k'.inp) ∧ Hid (Rx wx lo w.heap.size 2 At' k'.trace.length (k'.trace.flatMap vcl) ∨ Rx wx W1.heap.size wx.heap.size 2 At' k'.trace.length (k'.trace.flatMap vcl)) ∧ k'.trace.length ≤ ct' ∧ Hid (k'.ended = false))
 case first =>
  clear hop0 hop1
  have n0 : (op == 0) = false := by rw [beq_eq_false_iff_ne]; omega
  have n1 : (op == 1) = false := by rw [beq_eq_false_iff_ne]; omega
  have n11 : (op == 11) = false := by rw [beq_eq_false_iff_ne]; omega
  have n12 : (op == 12) = false := by rw [beq_eq_false_iff_ne]; omega
  have n13 : (op == 13) = false := by rw [beq_eq_false_iff_ne]; omega
  have n14 : (op == 14) = false := by rw [beq_eq_false_iff_ne]; omega
  obtain ⟨r, hr⟩ : ∃ r, r = apV op (rl k.regs b).1 (rl k.regs b).2 (rl k.regs c).1 (rl k.regs c).2 := ⟨_, rfl⟩
  have hvb : W64x (rl k.regs b) := HRG.out b
  have hvc : W64x (rl k.regs c) := HRG.out c
  have HKB : Hid (k' = binM k a r) := hQ (by
   rw [HKE.out, hr]
   unfold Mx.pl0 Mx.plain binM
   rw [if_neg (by dsimp only; omega), if_neg (by dsimp only; omega), if_neg (by dsimp only; omega), if_neg (by dsimp only; omega), if_neg (by dsimp only; omega), if_neg (by dsimp only; omega)]
   rfl)
  have HC : Hid (∀ W, Below W1.heap.size W1 W → Calls Tryz.prog 85 #[.int .i64 op, .agg #[.int .u64 (rl k.regs b).1, .int .u64 (rl k.regs b).2], .agg #[.int .u64 (rl k.regs c).1, .int .u64 (rl k.regs c).2]] W fun e w' => e = .returned (.tuple #[.agg #[.int .u64 (r.1.1 : Int), .int .u64 (r.1.2 : Int)], .bool r.2]) ∧ Below W.heap.size W w') := hQ (fun W hW => (refapply_any op _ _ _ _ hvb.1 hvb.2 hvc.1 hvc.2 W).mono fun e w' ⟨p, q⟩ => ⟨by rw [hr]; exact p, q⟩)
  have HR2 : Hid (r.2 = true) := hQ (by rw [hr]; exact hz)
  clear hvb hvc hr hz
  go_upto_region 2 with (fail)
  have HKL : Hid (∀ W, Below W1.heap.size W1 W → (W.cell? ⟨w.heap.size, 0, none⟩ = some (.int .i64 op) ∧ W.cell? ⟨w.heap.size, 2, none⟩ = some (.int .i64 b) ∧ W.cell? ⟨w.heap.size, 3, none⟩ = some (.int .i64 c)) ∧ (W.cell? ⟨w.heap.size + 1, b * 2, none⟩ = some (.int .u64 (rl k.regs b).1) ∧ W.cell? ⟨w.heap.size + 1, b * 2 + 1, none⟩ = some (.int .u64 (rl k.regs b).2)) ∧ (W.cell? ⟨w.heap.size + 1, c * 2, none⟩ = some (.int .u64 (rl k.regs c).1) ∧ W.cell? ⟨w.heap.size + 1, c * 2 + 1, none⟩ = some (.int .u64 (rl k.regs c).2))) := hQ (fun W h => ⟨⟨(h.cell (cell_lt x0)).trans x0, (h.cell (cell_lt x2)).trans x2, (h.cell (cell_lt x3)).trans x3⟩, ⟨(h.cell (cell_lt b0)).trans b0, (h.cell (cell_lt b1)).trans b1⟩, ⟨(h.cell (cell_lt d0)).trans d0, (h.cell (cell_lt d1)).trans d1⟩⟩)
  have HD1 : Hid (Below W1.heap.size W1 W1.drew) := hQ (bR.drew)
  clear x0 x1 x2 x3 x4 a0 a1 b0 b1 d0 d1 f0 f1
  go_cut [12, 13] (fun s5 s6 wx => ∃ q, s5 = .pointer (some ⟨q, 0, none⟩) ∧ s6 = .bool r.2 ∧ W1.heap.size ≤ q ∧ Hid (Blk wx q 38 #[.int .u64 r.1.1, .int .u64 r.1.2]) ∧ Hid (Below W1.heap.size W1 wx))
  case first =>
   have HA : Hid (∀ W o, Below W1.heap.size W1 W → Below W1.heap.size W1 (W.alloc o)) := hQ (fun W o h => h.alloc h.size o)
   have HX : Hid (∀ (W : World) (g : Nat) (u v : Value), W1.heap.size ≤ g → Below W1.heap.size W1 W → Below W1.heap.size W1 ((W.setCell ⟨g, 0, none⟩ u).setCell ⟨g, 1, none⟩ v)) := hQ (fun W g u v hg h => (h.setCell (by simpa using hg) u).setCell (by simpa using hg) v)
   go_region_held3 (fun W => (W.cell? ⟨w.heap.size, 0, none⟩ = some (.int .i64 op) ∧ W.cell? ⟨w.heap.size, 2, none⟩ = some (.int .i64 b) ∧ W.cell? ⟨w.heap.size, 3, none⟩ = some (.int .i64 c)) ∧ (W.cell? ⟨w.heap.size + 1, b * 2, none⟩ = some (.int .u64 (rl k.regs b).1) ∧ W.cell? ⟨w.heap.size + 1, b * 2 + 1, none⟩ = some (.int .u64 (rl k.regs b).2)) ∧ (W.cell? ⟨w.heap.size + 1, c * 2, none⟩ = some (.int .u64 (rl k.regs c).1) ∧ W.cell? ⟨w.heap.size + 1, c * 2 + 1, none⟩ = some (.int .u64 (rl k.regs c).2)))
    (with_reducible first | assumption | exact HKL.out _ HD1.out | exact HKL.out _ (HA.out _ _ HD1.out) | exact HKL.out _ (Hid.out (by assumption)) | exact HKL.out _ (HA.out _ _ (Hid.out (by assumption))) | exact HKL.out _ (HA.out _ _ bR).drew | exact HKL.out _ (HX.out _ _ _ _ nL (Hid.out (by assumption))) | exact HKL.out _ (HX.out _ _ _ _ (Hid.out HB2).size (HA.out _ _ (Hid.out HB2))))
    (first
     | (go_at_call 85; refine (HC.out _ HD1.out).mono ?_; rintro e w2 ⟨rfl, b2⟩; have HB2 : Hid (Below W1.heap.size W1 w2) := hQ (HD1.out.trans (b2.mono HD1.out.size)); clear b2)
     | (go_at_call 85; refine (HC.out _ (HA.out _ _ HD1.out)).mono ?_; rintro e w2 ⟨rfl, b2⟩; have HB2 : Hid (Below W1.heap.size W1 w2) := hQ ((HA.out _ _ HD1.out).trans (b2.mono (HA.out _ _ HD1.out).size)); have HKB2 : Hid (Blk w2 W1.heap.size 38 #[.int .u64 0, .int .u64 0]) := hQ ((Blk.new W1.drew _ _).after b2); obtain ⟨y0, y1, g0, g1, yz⟩ := HKB2.out.c2; clear b2))
   all_goals go_wp2_with fail
   all_goals go_meet
   all_goals first
    | exact ⟨_, rfl, rfl, HB2.out.size, hQ ((Blk.new w2 _ _).drew), hQ (HA.out _ _ HB2.out).drew⟩
    | exact ⟨_, rfl, rfl, HB2.out.size, hQ (Blk.new w2 _ _), hQ (HA.out _ _ HB2.out)⟩
    | exact ⟨_, rfl, rfl, Nat.le_refl _, hQ ((HKB2.out.set_ 0 _).set_ 1 _), hQ (HX.out _ _ _ _ nL HB2.out)⟩
  case rest =>
   obtain ⟨q, rfl, rfl, hq, HQ, HB2⟩ := hcut
   obtain ⟨W2, hW2⟩ : ∃ W2, W2 = wc := ⟨_, rfl⟩
   subst hW2
   clear HKL HD1 HC
   obtain ⟨v0, v1, -, -, hqlt⟩ := HQ.out.c2
   have hs2 : W1.heap.size ≤ W2.heap.size := HB2.out.size
   have HB2' : Hid (Below w.heap.size W1 W2) := hQ (HB2.out.mono (by omega))
   obtain ⟨x0, x1, -, -, -, -⟩ := (HKX.out.after HB2.out).c5
   have HK52 := hQ (HK5.out.after HB2.out)
   have HK82 := hQ (HK8.out.after HB2.out)
   have hr2 := HR2.out
   have hke : k' = { k with regs := k.regs.set a r.1 } := by rw [HKB.out]; unfold binM; rw [hr2, if_pos rfl]
   have f0 := HK52.out.frozen (a * 2)
   have f1 := HK52.out.frozen (a * 2 + 1)
   obtain ⟨a0, a1⟩ := rga_cell HK52.out ha
   have hz5 := HK52.out.lt
   go_upto_region 5 with (fail)
   go_wp2_with fail
   go_meet
   exact ⟨_, At, ct, rfl, by rw [hke], hQ (by rw [hke]; exact (HFIN.out _ HB2.out (r.1)).1), hQ ((HFIN.out _ HB2.out (r.1)).2.1), hQ (HB1.out.trans ((HFIN.out _ HB2.out (r.1)).2.2)), hQ (by rw [hke]; exact HIN.out.after (((HFIN.out _ HB2.out (r.1)).2.2).mono hB)), hQ (.inl (by rw [hke]; exact Rx.keep HTR.out (fun q _ hq => ((HFIN.out _ HB2.out (r.1)).2.2).block q hq))), by rw [hke]; exact HCT.out, hQ (by rw [hke]; exact HE.out)⟩
 case rest =>
  obtain ⟨iv', At', ct', rfl, rfl, HK5', HK8', HB2, HIN2, HTR2, hct2, HE2⟩ := hcut
  obtain ⟨W2, hW2⟩ : ∃ W2, W2 = wc := ⟨_, rfl⟩
  subst hW2
  clear x0 x1 x2 x3 x4 a0 a1 b0 b1 d0 d1 f0 f1
  obtain ⟨Ai', ci', rfl, -⟩ := HIN2.out
  obtain ⟨RG, hRG⟩ : ∃ RG, RG = k'.regs := ⟨_, rfl⟩
  obtain ⟨NI, hNI⟩ : ∃ NI, NI = k'.inp.length := ⟨_, rfl⟩
  rw [← hRG] at HK5'
  have HRGE := hQ hRG
  have HNI := hQ hNI
  clear hRG hNI
  obtain ⟨c0, c1, c2, c3, c4, c5, c6, c7, c8, c9, c10, c11, c12, c13, c14, c15, ff, hl5⟩ := rga_16 HK5'.out
  obtain ⟨z0, z1, z2, z3, z4, z5, z6, z7, z8, z9, z10, z11, z12, z13, z14, z15, fz, hl8⟩ := rga_16 HK8'.out
  have fz0 := fz 0
  have fz1 := fz 1
  have fz2 := fz 2
  have fz3 := fz 3
  have fz4 := fz 4
  have fz5 := fz 5
  have fz6 := fz 6
  have fz7 := fz 7
  have fz8 := fz 8
  have fz9 := fz 9
  have fz10 := fz 10
  have fz11 := fz 11
  have fz12 := fz 12
  have fz13 := fz 13
  have fz14 := fz 14
  have fz15 := fz 15
  clear ff fz
  go_wp2
  obtain ⟨W9, hW9⟩ : ∃ W9, W9 = ((((((((((((((((W2.setCell ⟨w.heap.size + 1 + 1, 0, none⟩ (.int .u64 (rl RG 0).1)).setCell ⟨w.heap.size + 1 + 1, 1, none⟩ (.int .u64 (rl RG 0).2)).setCell ⟨w.heap.size + 1 + 1, 2, none⟩ (.int .u64 (rl RG 1).1)).setCell ⟨w.heap.size + 1 + 1, 3, none⟩ (.int .u64 (rl RG 1).2)).setCell ⟨w.heap.size + 1 + 1, 4, none⟩ (.int .u64 (rl RG 2).1)).setCell ⟨w.heap.size + 1 + 1, 5, none⟩ (.int .u64 (rl RG 2).2)).setCell ⟨w.heap.size + 1 + 1, 6, none⟩ (.int .u64 (rl RG 3).1)).setCell ⟨w.heap.size + 1 + 1, 7, none⟩ (.int .u64 (rl RG 3).2)).setCell ⟨w.heap.size + 1 + 1, 8, none⟩ (.int .u64 (rl RG 4).1)).setCell ⟨w.heap.size + 1 + 1, 9, none⟩ (.int .u64 (rl RG 4).2)).setCell ⟨w.heap.size + 1 + 1, 10, none⟩ (.int .u64 (rl RG 5).1)).setCell ⟨w.heap.size + 1 + 1, 11, none⟩ (.int .u64 (rl RG 5).2)).setCell ⟨w.heap.size + 1 + 1, 12, none⟩ (.int .u64 (rl RG 6).1)).setCell ⟨w.heap.size + 1 + 1, 13, none⟩ (.int .u64 (rl RG 6).2)).setCell ⟨w.heap.size + 1 + 1, 14, none⟩ (.int .u64 (rl RG 7).1)).setCell ⟨w.heap.size + 1 + 1, 15, none⟩ (.int .u64 (rl RG 7).2)) := ⟨_, rfl⟩
  rw [← hW9]
  have hK9 : Blk W9 (w.heap.size + 1 + 1) 64 (rga RG) := by rw [hW9]; exact rga_put HK8'.out _
  have hB9 : Below w.heap.size W2 W9 := by rw [hW9]; exact rga_below (by omega) _
  clear c0 c1 c2 c3 c4 c5 c6 c7 c8 c9 c10 c11 c12 c13 c14 c15 z0 z1 z2 z3 z4 z5 z6 z7 z8 z9 z10 z11 z12 z13 z14 z15 fz0 fz1 fz2 fz3 fz4 fz5 fz6 fz7 fz8 fz9 fz10 fz11 fz12 fz13 fz14 fz15
  obtain ⟨c0, c1, c2, c3, c4, c5, c6, c7, c8, c9, c10, c11, c12, c13, c14, c15, -, -⟩ := rga_16 hK9
  refine bodyPost_ret (v := .tuple #[rgv RG, .slice Ai' k'.inp.length ci', .slice At' k'.trace.length ct', .bool false]) (by simp [rgv, rga, results, Tryz.results56, go_sem, c0, c1, c2, c3, c4, c5, c6, c7, c8, c9, c10, c11, c12, c13, c14, c15]) rfl ?_
  have hs29 : W2.heap.size ≤ W9.heap.size := hB9.size
  have hk1 : Kp lo w.heap.size W2 W9 := fun q _ hq => hB9.block q hq
  have hk2 : Kp W1.heap.size W2.heap.size W2 W9 := by
   rw [hW9]
   exact rga_kp (by omega) _
  refine ⟨_, At', ct', by rw [HRGE.out, HE2.out], HIN2.out.after (hB9.mono hB), ?_, hct2, HB2.out.trans hB9⟩
  rcases HTR2.out with hx | hx
  · exact (Rx.keep hx hk1).more nL (by have := HB2.out.size; omega)
  · exact (Rx.keep hx hk2).more (by omega) hs29
end
end Go.Proofs.YtcnndoefgjbmiaaGreat.pm
