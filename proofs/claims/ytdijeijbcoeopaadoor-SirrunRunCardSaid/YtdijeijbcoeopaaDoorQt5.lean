/- The reference's machine: one step. Printed by mkqt.py. -/
import Derived.Test.YtdijeijbcoeopaaDoorQr0
import Derived.StillTailTactics
import Derived.Test.YtdijeijbcoeopaaDoorGQn
import Derived.Test.YtdijeijbcoeopaaDoorRg
import Derived.Test.YtdijeijbcoeopaaDoorQc
set_option linter.unusedVariables false
set_option maxRecDepth 10000
set_option maxHeartbeats 8000000
namespace Go.Proofs.YtdijeijbcoeopaaDoor.pm
open Go.RowKit
section
variable {mb ca ct cp : Nat} {iv : Value} {As At : Option Addr} {s : Sx8} {p : List Fn} {ad : Addr}
theorem sreg_16 {w : World} {x y : Value} {s : Sx8} {pv iv : Value} (h : Blk w mb 83 (rcs pv iv x y s)) : w.cell? ⟨mb, 1, none⟩ = some (.int .u64 ((rl s.regs 0).1 : Int)) ∧ w.cell? ⟨mb, 2, none⟩ = some (.int .u64 ((rl s.regs 0).2 : Int)) ∧ w.cell? ⟨mb, 3, none⟩ = some (.int .u64 ((rl s.regs 1).1 : Int)) ∧ w.cell? ⟨mb, 4, none⟩ = some (.int .u64 ((rl s.regs 1).2 : Int)) ∧ w.cell? ⟨mb, 5, none⟩ = some (.int .u64 ((rl s.regs 2).1 : Int)) ∧ w.cell? ⟨mb, 6, none⟩ = some (.int .u64 ((rl s.regs 2).2 : Int)) ∧ w.cell? ⟨mb, 7, none⟩ = some (.int .u64 ((rl s.regs 3).1 : Int)) ∧ w.cell? ⟨mb, 8, none⟩ = some (.int .u64 ((rl s.regs 3).2 : Int)) ∧ w.cell? ⟨mb, 9, none⟩ = some (.int .u64 ((rl s.regs 4).1 : Int)) ∧ w.cell? ⟨mb, 10, none⟩ = some (.int .u64 ((rl s.regs 4).2 : Int)) ∧ w.cell? ⟨mb, 11, none⟩ = some (.int .u64 ((rl s.regs 5).1 : Int)) ∧ w.cell? ⟨mb, 12, none⟩ = some (.int .u64 ((rl s.regs 5).2 : Int)) ∧ w.cell? ⟨mb, 13, none⟩ = some (.int .u64 ((rl s.regs 6).1 : Int)) ∧ w.cell? ⟨mb, 14, none⟩ = some (.int .u64 ((rl s.regs 6).2 : Int)) ∧ w.cell? ⟨mb, 15, none⟩ = some (.int .u64 ((rl s.regs 7).1 : Int)) ∧ w.cell? ⟨mb, 16, none⟩ = some (.int .u64 ((rl s.regs 7).2 : Int)) ∧ (∀ j, w.frozen? ⟨mb, j, none⟩ = false) ∧ mb < w.heap.size :=
 ⟨h.cell 1, h.cell 2, h.cell 3, h.cell 4, h.cell 5, h.cell 6, h.cell 7, h.cell 8, h.cell 9, h.cell 10, h.cell 11, h.cell 12, h.cell 13, h.cell 14, h.cell 15, h.cell 16, fun j => h.frozen j, h.lt⟩
theorem rcs_put {w : World} {x y : Value} {s : Sx8} {pv iv : Value} (h : Blk w mb 83 (rcs pv iv x y s)) (l : List (Nat × Nat)) : Blk ((((((((((((((((w.setCell ⟨mb, 1, none⟩ (.int .u64 ((rl l 0).1 : Int))).setCell ⟨mb, 2, none⟩ (.int .u64 ((rl l 0).2 : Int))).setCell ⟨mb, 3, none⟩ (.int .u64 ((rl l 1).1 : Int))).setCell ⟨mb, 4, none⟩ (.int .u64 ((rl l 1).2 : Int))).setCell ⟨mb, 5, none⟩ (.int .u64 ((rl l 2).1 : Int))).setCell ⟨mb, 6, none⟩ (.int .u64 ((rl l 2).2 : Int))).setCell ⟨mb, 7, none⟩ (.int .u64 ((rl l 3).1 : Int))).setCell ⟨mb, 8, none⟩ (.int .u64 ((rl l 3).2 : Int))).setCell ⟨mb, 9, none⟩ (.int .u64 ((rl l 4).1 : Int))).setCell ⟨mb, 10, none⟩ (.int .u64 ((rl l 4).2 : Int))).setCell ⟨mb, 11, none⟩ (.int .u64 ((rl l 5).1 : Int))).setCell ⟨mb, 12, none⟩ (.int .u64 ((rl l 5).2 : Int))).setCell ⟨mb, 13, none⟩ (.int .u64 ((rl l 6).1 : Int))).setCell ⟨mb, 14, none⟩ (.int .u64 ((rl l 6).2 : Int))).setCell ⟨mb, 15, none⟩ (.int .u64 ((rl l 7).1 : Int))).setCell ⟨mb, 16, none⟩ (.int .u64 ((rl l 7).2 : Int))) mb 83 (rcs pv iv x y { s with regs := l }) := by
 have h1 := ((((((((((((((((h.set_ 1 (.int .u64 ((rl l 0).1 : Int))).set_ 2 (.int .u64 ((rl l 0).2 : Int))).set_ 3 (.int .u64 ((rl l 1).1 : Int))).set_ 4 (.int .u64 ((rl l 1).2 : Int))).set_ 5 (.int .u64 ((rl l 2).1 : Int))).set_ 6 (.int .u64 ((rl l 2).2 : Int))).set_ 7 (.int .u64 ((rl l 3).1 : Int))).set_ 8 (.int .u64 ((rl l 3).2 : Int))).set_ 9 (.int .u64 ((rl l 4).1 : Int))).set_ 10 (.int .u64 ((rl l 4).2 : Int))).set_ 11 (.int .u64 ((rl l 5).1 : Int))).set_ 12 (.int .u64 ((rl l 5).2 : Int))).set_ 13 (.int .u64 ((rl l 6).1 : Int))).set_ 14 (.int .u64 ((rl l 6).2 : Int))).set_ 15 (.int .u64 ((rl l 7).1 : Int))).set_ 16 (.int .u64 ((rl l 7).2 : Int)))
 have e : ((((((((((((((((rcs pv iv x y s).setIfInBounds 1 (.int .u64 ((rl l 0).1 : Int))).setIfInBounds 2 (.int .u64 ((rl l 0).2 : Int))).setIfInBounds 3 (.int .u64 ((rl l 1).1 : Int))).setIfInBounds 4 (.int .u64 ((rl l 1).2 : Int))).setIfInBounds 5 (.int .u64 ((rl l 2).1 : Int))).setIfInBounds 6 (.int .u64 ((rl l 2).2 : Int))).setIfInBounds 7 (.int .u64 ((rl l 3).1 : Int))).setIfInBounds 8 (.int .u64 ((rl l 3).2 : Int))).setIfInBounds 9 (.int .u64 ((rl l 4).1 : Int))).setIfInBounds 10 (.int .u64 ((rl l 4).2 : Int))).setIfInBounds 11 (.int .u64 ((rl l 5).1 : Int))).setIfInBounds 12 (.int .u64 ((rl l 5).2 : Int))).setIfInBounds 13 (.int .u64 ((rl l 6).1 : Int))).setIfInBounds 14 (.int .u64 ((rl l 6).2 : Int))).setIfInBounds 15 (.int .u64 ((rl l 7).1 : Int))).setIfInBounds 16 (.int .u64 ((rl l 7).2 : Int)) = rcs pv iv x y { s with regs := l } := by kernel_rfl
 rw [e] at h1
 exact h1
theorem rcs_grown (w : World) (mb : Nat) (l : List (Nat × Nat)) : w.grownBy ((((((((((((((((w.setCell ⟨mb, 1, none⟩ (.int .u64 ((rl l 0).1 : Int))).setCell ⟨mb, 2, none⟩ (.int .u64 ((rl l 0).2 : Int))).setCell ⟨mb, 3, none⟩ (.int .u64 ((rl l 1).1 : Int))).setCell ⟨mb, 4, none⟩ (.int .u64 ((rl l 1).2 : Int))).setCell ⟨mb, 5, none⟩ (.int .u64 ((rl l 2).1 : Int))).setCell ⟨mb, 6, none⟩ (.int .u64 ((rl l 2).2 : Int))).setCell ⟨mb, 7, none⟩ (.int .u64 ((rl l 3).1 : Int))).setCell ⟨mb, 8, none⟩ (.int .u64 ((rl l 3).2 : Int))).setCell ⟨mb, 9, none⟩ (.int .u64 ((rl l 4).1 : Int))).setCell ⟨mb, 10, none⟩ (.int .u64 ((rl l 4).2 : Int))).setCell ⟨mb, 11, none⟩ (.int .u64 ((rl l 5).1 : Int))).setCell ⟨mb, 12, none⟩ (.int .u64 ((rl l 5).2 : Int))).setCell ⟨mb, 13, none⟩ (.int .u64 ((rl l 6).1 : Int))).setCell ⟨mb, 14, none⟩ (.int .u64 ((rl l 6).2 : Int))).setCell ⟨mb, 15, none⟩ (.int .u64 ((rl l 7).1 : Int))).setCell ⟨mb, 16, none⟩ (.int .u64 ((rl l 7).2 : Int))) (some mb) :=
 grownBy_trans (grown_mb _ _ _ _) (grownBy_trans (grown_mb _ _ _ _) (grownBy_trans (grown_mb _ _ _ _) (grownBy_trans (grown_mb _ _ _ _) (grownBy_trans (grown_mb _ _ _ _) (grownBy_trans (grown_mb _ _ _ _) (grownBy_trans (grown_mb _ _ _ _) (grownBy_trans (grown_mb _ _ _ _) (grownBy_trans (grown_mb _ _ _ _) (grownBy_trans (grown_mb _ _ _ _) (grownBy_trans (grown_mb _ _ _ _) (grownBy_trans (grown_mb _ _ _ _) (grownBy_trans (grown_mb _ _ _ _) (grownBy_trans (grown_mb _ _ _ _) (grownBy_trans (grown_mb _ _ _ _) (grown_mb _ _ _ _)))))))))))))))
theorem pl0_end (m : Mx) (x : Ins) (h : m.ended = false) : ((m.pl0 x).ended = false ∧ (m.pl0 x).kind = m.kind) ∨ ((m.pl0 x).ended = true ∧ (m.pl0 x).kind = 2) := by
 unfold Mx.pl0 Mx.plain
 repeat' split
 all_goals first | exact .inl ⟨h, rfl⟩ | exact .inr ⟨rfl, rfl⟩
theorem sst_plain (W1 : World) (a b c : Nat) (imm : Int) (oo : Int) (hr8 : s.regs.length = 8) (h : SAt W1 mb (.slice (some ad) p.length cp) iv As ca At ct s) (hfx : Fx W1 0 mb (some ad) p) (hin : InX W1 mb iv s.inp) {t : Nat} (ht : s.acts.length = t + 1) (ht6 : t ≤ 1000000) (hst : s.steps ≤ 1000000) (hpc6 : (s.acts.getD t As8.z).pc ≤ 1000000) (hf : (s.acts.getD t As8.z).f < p.length) (hp : p.length ≤ 1000) (hpc : (s.acts.getD t As8.z).pc < (p.getD (s.acts.getD t As8.z).f Fn.z).code.length) (hx : (p.getD (s.acts.getD t As8.z).f Fn.z).code.getD (s.acts.getD t As8.z).pc Ins.z = ⟨oo, a, b, c, imm⟩) (b15 : (oo == 15) = false) (b16 : (oo == 16) = false) (b17 : (oo == 17) = false) (b18 : (oo == 18) = false) (b19 : (oo == 19) = false) (b20 : (oo == 20) = false) (b21 : (oo == 21) = false) (b22 : (oo == 22) = false) (b23 : (oo == 23) = false) (b24 : (oo == 24) = false) (hop0 : 0 ≤ oo) (hop1 : oo ≤ 14) (him : 0 ≤ imm) (ha : a < 8) (hb : b < 8) (hc : c < 8) (hrg : ∀ r, W64x (sg s r)) (htr6 : s.trace.length ≤ 1000000) (hne : s.ended = false) :
 Calls Tryd.prog 36 #[.pointer (some ⟨mb, 0, none⟩)] W1 (StD mb (.slice (some ad) p.length cp) (((kS s t ((s.acts.getD t As8.z).pc + 1))).pl ⟨oo, a, b, c, imm⟩) W1) := by
 generalize hres : ((kS s t ((s.acts.getD t As8.z).pc + 1))).pl ⟨oo, a, b, c, imm⟩ = RES
 have HRES := hQ hres
 clear hres
 have HRG := hQ hrg
 have HNE := hQ hne
 clear hrg hne
 obtain ⟨i0, hi0, hz0, hz1, hz2⟩ := info_parts info_ract
 obtain ⟨vs, hrx, hvx⟩ := h.acts
 obtain ⟨adA, Sl, c1, Ar, c2, rfl, hA1, hA2, y0, y1, y2, y3, hcs, hca, hk1, hk2⟩ := h.act_at (i := t) (by omega)
 obtain ⟨ad', Fs, cf, Ai, ci, e', hbl, z0, z1, z2, -, -, hsx, hnx, hsl, hcl⟩ := hfx.whole hf
 obtain rfl : ad = ad' := by injection e'
 obtain ⟨a0, ha0⟩ : ∃ a0, a0 = (s.acts.getD t As8.z) := ⟨_, rfl⟩
 rw [← ha0] at y0 y1 y2 y3 hcs hca hk1 hk2 z0 z1 z2 hf hsx hsl hnx hcl hpc hpc6 hx
 obtain ⟨fn, hfn⟩ : ∃ fn, fn = p.getD a0.f Fn.z := ⟨_, rfl⟩
 rw [← hfn] at z0 z1 z2 hsx hsl hnx hcl hpc hx
 obtain ⟨adI, hAI, hIb, x0, x1, x2, x3, x4⟩ := hnx.whole hpc
 subst hAI
 rw [hx] at x0 x1 x2 x3 x4
 dsimp only at x0 x1 x2 x3 x4
 obtain ⟨pc, hpce⟩ : ∃ q, q = a0.pc := ⟨_, rfl⟩
 rw [← hpce] at y1 hpc hpc6 x0 x1 x2 x3 x4 hx
 obtain ⟨nf, hnf⟩ : ∃ q, q = fn.code.length := ⟨_, rfl⟩
 rw [← hnf] at z2 hpc hcl
 have HPCE := hQ hpce
 have HX := hQ hx
 have HA0 := hQ ha0
 have HFN := hQ hfn
 have HNF := hQ hnf
 have HRX := hQ hrx
 have HVX := hQ hvx
 have HO1 := hQ (SVx.one hvx hrx.1.1)
 have HM := hQ h
 have HT := hQ ht
 have HIN := hQ hin
 have HFX := hQ hfx
 obtain ⟨m0, m17, -, -, -, -, m26, hlt⟩ := h.cells
 have hRD : Hid (Reads W1 W1.heap.size 4 (some adA) (t + 1) vs) := hQ (by rw [← ht]; exact hrx.1)
 rw [ht] at m17
 have hA3 : (adA.add (t * 4)).block < W1.heap.size := by rw [block_of_add]; exact hA2
 have hF3 : (ad.add (a0.f * 3)).block < W1.heap.size := by rw [block_of_add]; omega
 have hI3 : (adI.add (pc * 5)).block < W1.heap.size := by rw [block_of_add]; omega
 have ht0 : (0 : Int) ≤ (t : Int) := by omega
 have hti : (t : Int) ≤ 1000000 := by omega
 have hfi : (a0.f : Int) < (p.length : Int) := by omega
 have hf0 : (0 : Int) ≤ (a0.f : Int) := by omega
 have hpi : (pc : Int) < (nf : Int) := by omega
 have hp0 : (0 : Int) ≤ (pc : Int) := by omega
 have hpi6 : (pc : Int) ≤ 1000000 := by omega
 have hnl : (nf : Int) ≤ 9223372036854775807 := by have := hcl.1; unfold maxLen at this; omega
 clear h hfx hin hrx hvx ha0 hfn hnf hpce hcs hca hsx hnx hx hcl hsl z0 z1 e' hk1 hk2 hA1 hA2 y0 y1 y2 y3
 go_enter Tryd.func36, Tryd.ntmps36
 go_upto_region 2 with (at_builtin; refine wpList_append_any _ rfl (.const (.slice none 0 0)) (.tmp 16) _ rfl W1.heap.size 100 i0 _ 4 64 Tryd.underlying81 hi0 hz0 hz1 hz2 rfl (by omega) (.slice none 0 0) 0 [] rfl (World.ownsRow_nil _ _ _ _) _ (some adA) (t + 1) ca vs rfl hRD.out HO1.out (by unfold maxLen; omega) (by omega) nL ?_; intro o1 w3 own3' hg3' hat3'; have own3 : w3.ownsRow W1.heap.size 100 4 o1 (t + 1) vs := (by simpa using own3'); obtain ⟨g, cap, rfl, hg, hglt⟩ := own3.form (by omega))
 have b3 : Below W1.heap.size W1 w3 := below_append bR (World.ownsRow_nil W1 W1.heap.size 100 4) hg3' nL (by simp)
 obtain ⟨Sl6, d3, Ar6, d4, r0, r1, r2, r3, -, -, -, -, w1, w2, w4, w5⟩ := row4 own3 HVX.out rfl HT.out HA0.out
 have HCS := hQ w1
 have HCA := hQ w2
 have HKK := hQ (And.intro w4 w5)
 rw [← HPCE.out] at r1
 clear w1 w2 w4 w5
 have HO3 := hQ own3
 have HB3 := hQ b3
 clear own3 own3' hg3' hat3' b3 m17
 go_upto_region 3 with (fail)
 obtain ⟨W4, hW4⟩ : ∃ W, W = w3.alloc (.cells #[.int .i64 (a0.f : Int), .int .i64 (pc : Int), .slice Sl6 a0.ss.length d3, .slice Ar6 a0.aa.length d4] 100) := ⟨_, rfl⟩
 obtain ⟨g4, hg4⟩ : ∃ g, g = w3.heap.size := ⟨_, rfl⟩
 rw [← hW4, ← hg4]
 have hb4 : Below w3.heap.size w3 W4 := by rw [hW4]; exact bR.alloc nL _
 have HK4 : Hid (Blk W4 g4 100 #[.int .i64 (a0.f : Int), .int .i64 (pc : Int), .slice Sl6 a0.ss.length d3, .slice Ar6 a0.aa.length d4]) := hQ (by rw [hW4, hg4]; exact Blk.new _ _ _)
 have HB4 : Hid (Below W1.heap.size W1 W4) := hQ (HB3.out.trans (hb4.mono HB3.out.size))
 have HO4 := hQ (own_keep HO3.out hb4 nL)
 have hgg4 : g < g4 := by omega
 clear hW4 hb4 hg4 HB3 HO3 r0 r1 r2 r3 hglt
 obtain ⟨q0, q1, -, -, -, -, -, -, qz⟩ := HK4.out.c4
 have hz14 : W1.heap.size ≤ W4.heap.size := HB4.out.size
 obtain ⟨f0, e0⟩ := cell2 HB4.out m0 hlt
 have f1 := q0
 have e1 := cell3 q0 qz
 have f2 := q1
 have e2 := cell3 q1 qz
 obtain ⟨f3, e3⟩ := cell2 HB4.out z2 hF3
 obtain ⟨f4, e4⟩ := cell2 HB4.out x0 hI3
 obtain ⟨f5, e5⟩ := cell2 HB4.out x1 hI3
 obtain ⟨f6, e6⟩ := cell2 HB4.out x2 hI3
 obtain ⟨f7, e7⟩ := cell2 HB4.out x3 hI3
 obtain ⟨f8, e8⟩ := cell2 HB4.out x4 hI3
 have hmz : mb < W4.heap.size := by omega
 have hFz : (ad.add (a0.f * 3)).block < W4.heap.size := by omega
 have hIz : (adI.add (pc * 5)).block < W4.heap.size := by omega
 clear x0 x1 x2 x3 x4 z2 m0 q0 q1
 go_region
 clear e0 e1 e2 e3 e4 e5 e6 e7 e8 f0 f1 f2 f3 f4 f5 f6 f7 f8
 obtain ⟨W5, hW5⟩ : ∃ W, W = (W4.alloc (.cells #[.int .i64 oo, .int .i64 (a : Int), .int .i64 (b : Int), .int .i64 (c : Int), .int .u64 imm] 50)).drew := ⟨_, rfl⟩
 obtain ⟨g5, hg5⟩ : ∃ g, g = W4.heap.size := ⟨_, rfl⟩
 rw [← hW5, ← hg5]
 have hb5 : Below W4.heap.size W4 W5 := by rw [hW5]; exact (bR.alloc nL _).drew
 have HK5 : Hid (Blk W5 g5 50 #[.int .i64 oo, .int .i64 (a : Int), .int .i64 (b : Int), .int .i64 (c : Int), .int .u64 imm]) := hQ (by rw [hW5, hg5]; exact (Blk.new _ _ _).drew)
 have HK4b := hQ (HK4.out.after hb5)
 have HO5 := hQ (own_keep HO4.out hb5 nL)
 have HB5 : Hid (Below W1.heap.size W1 W5) := hQ (HB4.out.trans (hb5.mono HB4.out.size))
 have hg45 : g4 < g5 := by rw [hg5]; exact qz
 clear hW5 hb5 hg5 HK4 HO4 HB4 qz hz14
 have m26' := (HB5.out.cell (p := ⟨mb, 26, none⟩) hlt).trans m26
 have mf26 := (HM.out.after HB5.out).blk.frozen 26
 obtain ⟨q0, q1, q2, q3, f0, f1, f2, f3, qz⟩ := HK4b.out.c4
 obtain ⟨x0, x1, x2, x3, x4, -, -, -, -, -, xz⟩ := HK5.out.c5
 have hg4m : ¬ g4 = mb := by omega
 have hmg4 : ¬ mb = g4 := by omega
 have hg54 : ¬ g5 = g4 := by omega
 have hg5m : ¬ g5 = mb := by omega
 have hlt5 : mb < W5.heap.size := by omega
 have hstI : (s.steps : Int) ≤ 1000000 := by omega
 have hst0 : (0 : Int) ≤ (s.steps : Int) := by omega
 clear hmz hFz hIz hF3 hI3 m26
 go_upto_region 6 with (fail)
 obtain ⟨W6, hW6⟩ : ∃ W, W = (W5.setCell ⟨mb, 26, none⟩ (.int .i64 ((s.steps : Int) + 1))).setCell ⟨g4, 1, none⟩ (.int .i64 ((pc : Int) + 1)) := ⟨_, rfl⟩
 rw [← hW6]
 have hg41 : W1.heap.size ≤ g4 := by omega
 obtain ⟨b1, b2, b3, b4, b5⟩ := mid6 HB5.out HM.out HK4b.out HK5.out HO5.out hg41 hgg4 hg45 hW6
 have HMB6 := hQ b1
 have HK46 := hQ b2
 have HK56 := hQ b3
 have HO6 := hQ b4
 have HG6 := hQ b5
 clear b1 b2 b3 b4 b5
 clear hW6 HK5 HK4b HO5 HB5 m26' mf26 q0 q1 q2 q3 f0 f1 f2 f3 qz x0 x1 x2 x3 x4 xz hlt5 hstI hst0
 obtain ⟨q0, q1, q2, q3, f0, f1, f2, f3, qz⟩ := HK46.out.c4
 obtain ⟨x0, x1, x2, x3, x4, -, -, -, -, -, xz⟩ := HK56.out.c5
 have hlt6 : mb < W6.heap.size := HMB6.out.lt
 go_upto_region 12 with (fail)
 have HMB7 := HMB6
 have HK47 := HK46
 have HK57 := HK56
 have HO7 := HO6
 have HG7 := HG6
 clear HMB6 HK46 HK56 HO6 HG6 q0 q1 q2 q3 f0 f1 f2 f3 qz x0 x1 x2 x3 x4 xz hlt6
 generalize W6 = W7 at *
 obtain ⟨np, hnp⟩ : ∃ q : Nat, q = pc + 1 := ⟨_, rfl⟩
 rw [← hnp] at HK47
 have HNP := hQ hnp
 clear hnp
 obtain ⟨Sl7, d5, Ar7, d6, r0, r1, r2, r3, rf0, rf1, rf2, rf3, -⟩ := row4 HO7.out HVX.out rfl HT.out HA0.out
 obtain ⟨q0, q1, q2, q3, -, -, -, -, qz⟩ := HK47.out.c4
 have m17 : W7.cell? ⟨mb, 17, none⟩ = some (.slice (some adA) s.acts.length ca) := HMB7.out.cell 17
 rw [HT.out] at m17
 have mf := HMB7.out.frozen 17
 have hlt7 : mb < W7.heap.size := HMB7.out.lt
 have hgz7 : g < W7.heap.size := by omega
 have hgm : ¬ g = mb := by omega
 have hmg : ¬ mb = g := by omega
 go_upto_region 14 with (fail)
 clear r0 r1 r2 r3 rf0 rf1 rf2 rf3 q0 q1 q2 q3 qz m17 mf hlt7
 obtain ⟨W8, hW8⟩ : ∃ W, W = ((((W7.setCell ⟨g, t * 4, none⟩ (.int .i64 (a0.f : Int))).setCell ⟨g, t * 4 + 1, none⟩ (.int .i64 (np : Int))).setCell ⟨g, t * 4 + 2, none⟩ (.slice Sl6 a0.ss.length d3)).setCell ⟨g, t * 4 + 3, none⟩ (.slice Ar6 a0.aa.length d4)).setCell ⟨mb, 17, none⟩ (.slice (some ⟨g, 0, none⟩) (t + 1) cap) := ⟨_, rfl⟩
 rw [← hW8]
 obtain ⟨KM, hK, b1, b2, b3, b4, b5, b6⟩ := fin8 HM.out HG7.out HMB7.out HRX.out HVX.out HO7.out HT.out HA0.out HCS.out HCA.out HKK.out HIN.out HK57.out hg5m (by omega) hW8
 have HM8 := hQ b1
 have HG8 := hQ b2
 have HIN8 := hQ b3
 have HK58 := hQ b4
 have HKT := hQ b5
 have HKR := hQ b6
 rw [HNP.out, HPCE.out, HA0.out] at hK
 have HK := hQ hK
 clear b1 b2 b3 b4 b5 b6 hW8 hK HMB7 HK47 HK57 HO7 HG7 HCS HCA HKK hg4m hmg4 hg54 hgg4 hg45 hg41 HRX HVX HO1 hRD hgz7
 have HKF : Hid ((KM.acts.getD t As8.z).f < p.length) := hQ (by
  rw [HK.out]
  unfold kS
  show ((s.acts.set t _).getD t As8.z).f < _
  rw [List.getD_eq_getElem?_getD, List.getElem?_set_self (Nat.lt_of_lt_of_eq (Nat.lt_succ_self t) HT.out.symm)]
  show (s.acts.getD t As8.z).f < _
  rw [← HA0.out]
  exact hf)
 have HMN := hQ (smem_no W8 oo a b c imm (by rw [HKR.out.1]; exact hr8) HM8.out (HFX.out.keep (Kp.of_grown HG8.out (Nat.le_of_lt hlt) (.inr nL))) HKT.out ht6 HKF.out hp b15 b16 b17 b18 b19)
 obtain ⟨x0, x1, x2, x3, x4, -, -, -, -, -, xz⟩ := HK58.out.c5
 go_wp2_with fail
 refine HMN.out.mono ?_
 rintro e W9 ⟨rfl, b9⟩
 have hlt8 : mb < W8.heap.size := HM8.out.blk.lt
 have HM9 := hQ (HM8.out.after b9)
 have HK59 := hQ (HK58.out.after b9)
 have HIN9 := hQ (HIN8.out.after (b9.mono (Nat.le_of_lt hlt8)))
 have HG9 := hQ (grownBy_trans HG8.out (grownBy_of_below b9 _))
 have HMB9 := hQ HM9.out.blk
 have hlt9 : mb < W9.heap.size := HM9.out.blk.lt
 have hKe : KM.ended = false := HKR.out.2.2.2.1.trans HNE.out
 obtain ⟨k', hk'⟩ : ∃ k', k' = KM.core.pl0 ⟨oo, a, b, c, imm⟩ := ⟨_, rfl⟩
 have HPL : Hid (∀ W, Below W9.heap.size W9 W → Calls Tryd.prog 47 #[.agg #[.int .i64 oo, .int .i64 (a : Int), .int .i64 (b : Int), .int .i64 (c : Int), .int .u64 imm], rgv KM.regs, iv, .slice At KM.trace.length ct] W (PlD mb (mb + 1) k' W)) := hQ (fun W hW =>
  pl_any (k := KM.core) W oo a b c imm hop0 hop1 him ha hb hc (by show KM.regs.length = 8; rw [HKR.out.1]; exact hr8) (fun r => by have := HRG.out r; show W64x (KM.regs.getD r (0, 0)); rw [HKR.out.1]; exact this)
   (by show InX W mb iv KM.inp; rw [HKR.out.2.1]; exact HIN9.out.after (hW.mono (Nat.le_of_lt hlt9))) (HM9.out.after hW).tr HM9.out.caps.2 (by show KM.trace.length ≤ 1000000; rw [HKR.out.2.2.1]; exact htr6) (Nat.le_trans (Nat.le_of_lt hlt9) hW.size) (Nat.le_trans hlt9 hW.size) hKe k' hk')
 have HKP := hQ hk'
 have HKE := hQ hKe
 clear x0 x1 x2 x3 x4 xz b9 hk' hKe HMN
 obtain ⟨x0, x1, x2, x3, x4, -, -, -, -, -, xz⟩ := HK59.out.c5
 go_upto_region 17 with (fail)
 refine wp_region_rg (fun (X : Nat → Prop) (j : Nat) (u : Nat → Value) (w : World) => match j with
  | 0 => u 0 = .pointer (some ⟨mb, 0, none⟩)
  | 1 => u 1 = .pointer (some ⟨mb, 0, none⟩)
  | 2 => u 2 = .pointer (some ⟨mb, 0, none⟩)
  | 3 => u 3 = .agg #[.int .i64 oo, .int .i64 (a : Int), .int .i64 (b : Int), .int .i64 (c : Int), .int .u64 imm]
  | 4 => u 4 = .pointer (some ⟨mb, 0, none⟩)
  | 5 => u 5 = .pointer (some ⟨mb, 0, none⟩)
  | 6 => u 6 = .pointer (some ⟨mb, 1, none⟩)
  | 7 => u 7 = rgv KM.regs
  | 8 => u 8 = .pointer (some ⟨mb, 0, none⟩)
  | 9 => u 9 = .pointer (some ⟨mb, 0, none⟩)
  | 10 => u 10 = .pointer (some ⟨mb, 18, none⟩)
  | 11 => u 11 = iv
  | 12 => u 12 = .pointer (some ⟨mb, 0, none⟩)
  | 13 => u 13 = .pointer (some ⟨mb, 0, none⟩)
  | 14 => u 14 = .pointer (some ⟨mb, 21, none⟩)
  | 15 => u 15 = .pointer (some ⟨mb, 25, none⟩)
  | 16 => u 16 = .slice At KM.trace.length ct
  | 17 => (∃ iv' At' ct', u 17 = .tuple #[rgv k'.regs, iv', .slice At' k'.trace.length ct', .bool k'.ended] ∧ InX w mb iv' k'.inp ∧ Rx w (mb + 1) w.heap.size 2 At' k'.trace.length (k'.trace.flatMap vcl) ∧ k'.trace.length ≤ ct') ∧ mb < w.heap.size
  | 18 => u 18 = u 17
  | 19 => u 19 = rgv k'.regs
  | 20 => ∃ x y z, u 17 = .tuple #[x, u 20, y, z]
  | 21 => ∃ x y z, u 17 = .tuple #[x, y, u 21, z]
  | 22 => u 22 = .bool k'.ended
  | 23 => u 23 = .pointer (some ⟨mb, 0, none⟩)
  | 24 => u 24 = .pointer (some ⟨mb, 1, none⟩)
  | 25 => ¬ X 28 → Blk w mb 83 (rcs (.slice (some ad) p.length cp) iv (.slice (some ⟨g, 0, none⟩) KM.acts.length cap) (.slice At KM.trace.length ct) { KM with regs := k'.regs })
  | 26 => u 26 = .pointer (some ⟨mb, 0, none⟩)
  | 27 => u 27 = .pointer (some ⟨mb, 18, none⟩)
  | 28 => ¬ X 32 → Blk w mb 83 (rcs (.slice (some ad) p.length cp) (u 20) (.slice (some ⟨g, 0, none⟩) KM.acts.length cap) (.slice At KM.trace.length ct) { KM with regs := k'.regs })
  | 29 => u 29 = .pointer (some ⟨mb, 0, none⟩)
  | 30 => u 30 = .pointer (some ⟨mb, 21, none⟩)
  | 31 => u 31 = .pointer (some ⟨mb, 25, none⟩)
  | 32 => Blk w mb 83 (rcs (.slice (some ad) p.length cp) (u 20) (.slice (some ⟨g, 0, none⟩) KM.acts.length cap) (u 21) { KM with regs := k'.regs })
  | 33 => u 33 = .bool k'.ended
  | _ => True)
  (fun X w' => W9.grownBy w' (some mb) ∧ (¬ X 25 → Below W9.heap.size W9 w')) (fun w w' => w' = w) [17, 25, 28, 32] [0, 0, 0, 0, 0, 16, 48, 112, 0, 256, 768, 1792, 0, 4096, 12288, 28672, 61440, 131064, 262136, 524280, 524280, 524280, 524280, 1048569, 9437177, 26214393, 60817403, 127926267, 262143995, 532676607, 1069547519, 2143289343, 4290772991, 8589934591]
  [[], [], [], [], [], [(4, 88)], [(5, 89)], [(6, 90)], [], [(8, 92)], [(9, 93)], [(10, 94)], [], [(12, 96)], [(13, 97)], [(14, 98)], [(15, 99)], [(3, 87), (7, 91), (11, 95), (16, 100)], [(17, 101)], [(18, 83)], [(18, 83)], [(18, 83)], [(18, 83)], [(0, 84)], [(23, 106)], [(19, 102), (24, 107)], [(1, 85)], [(26, 108)], [(20, 103), (27, 109)], [(2, 86)], [(29, 110)], [(30, 111)], [(21, 104), (31, 112)], [(22, 105)]]
  [(0, 84), (1, 85), (2, 86), (3, 87), (4, 88), (5, 89), (6, 90), (7, 91), (8, 92), (9, 93), (10, 94), (11, 95), (12, 96), (13, 97), (14, 98), (15, 99), (16, 100), (17, 101), (18, 83), (19, 102), (20, 103), (21, 104), (22, 105), (23, 106), (24, 107), (26, 108), (27, 109), (29, 110), (30, 111), (31, 112), (33, 6)] (by kernel_rfl) (by kernel_rfl) ?hsG ?hsT ?h0 ?hs ?he
 case hsG =>
  intro i X w w' hsp hR hG
  rw [hR]; exact ⟨hG.1, fun h => hG.2 (fun q => h (.inr q))⟩
 case hsT =>
  intro i X j u u' w w' hsp hij hni hXj hR hu h
  match j, hij, hni, hXj, hu, h with
  | 0, hij, hni, hXj, hu, h => exact (hu 0 (.inl rfl)).trans h
  | 1, hij, hni, hXj, hu, h => exact (hu 1 (.inl rfl)).trans h
  | 2, hij, hni, hXj, hu, h => exact (hu 2 (.inl rfl)).trans h
  | 3, hij, hni, hXj, hu, h => exact (hu 3 (.inl rfl)).trans h
  | 4, hij, hni, hXj, hu, h => exact (hu 4 (.inl rfl)).trans h
  | 5, hij, hni, hXj, hu, h => exact (hu 5 (.inl rfl)).trans h
  | 6, hij, hni, hXj, hu, h => exact (hu 6 (.inl rfl)).trans h
  | 7, hij, hni, hXj, hu, h => exact (hu 7 (.inl rfl)).trans h
  | 8, hij, hni, hXj, hu, h => exact (hu 8 (.inl rfl)).trans h
  | 9, hij, hni, hXj, hu, h => exact (hu 9 (.inl rfl)).trans h
  | 10, hij, hni, hXj, hu, h => exact (hu 10 (.inl rfl)).trans h
  | 11, hij, hni, hXj, hu, h => exact (hu 11 (.inl rfl)).trans h
  | 12, hij, hni, hXj, hu, h => exact (hu 12 (.inl rfl)).trans h
  | 13, hij, hni, hXj, hu, h => exact (hu 13 (.inl rfl)).trans h
  | 14, hij, hni, hXj, hu, h => exact (hu 14 (.inl rfl)).trans h
  | 15, hij, hni, hXj, hu, h => exact (hu 15 (.inl rfl)).trans h
  | 16, hij, hni, hXj, hu, h => exact (hu 16 (.inl rfl)).trans h
  | 17, hij, hni, hXj, hu, h => exact (by obtain ⟨⟨iv', At', ct', e, h1, h2, h3⟩, h4⟩ := h; rw [hR]; exact ⟨⟨iv', At', ct', (hu 17 (.inl rfl)).trans e, h1, h2, h3⟩, h4⟩)
  | 18, hij, hni, hXj, hu, h => exact (by have h1 := h; simp only [← hu 17 (.inr rfl), ← hu 18 (.inl rfl)] at h1; exact h1)
  | 19, hij, hni, hXj, hu, h => exact (hu 19 (.inl rfl)).trans h
  | 20, hij, hni, hXj, hu, h => exact (by obtain ⟨x, y, z, e⟩ := h; exact ⟨x, y, z, by rw [hu 17 (.inr rfl), hu 20 (.inl rfl)]; exact e⟩)
  | 21, hij, hni, hXj, hu, h => exact (by obtain ⟨x, y, z, e⟩ := h; exact ⟨x, y, z, by rw [hu 17 (.inr rfl), hu 21 (.inl rfl)]; exact e⟩)
  | 22, hij, hni, hXj, hu, h => exact (hu 22 (.inl rfl)).trans h
  | 23, hij, hni, hXj, hu, h => exact (hu 23 (.inl rfl)).trans h
  | 24, hij, hni, hXj, hu, h => exact (hu 24 (.inl rfl)).trans h
  | 25, hij, hni, hXj, hu, h => exact (fun hx => by rw [hR]; exact h (fun q => hx (.inr q)))
  | 26, hij, hni, hXj, hu, h => exact (hu 26 (.inl rfl)).trans h
  | 27, hij, hni, hXj, hu, h => exact (hu 27 (.inl rfl)).trans h
  | 28, hij, hni, hXj, hu, h => exact (fun hx => by rw [hR, hu 20 (.inr rfl)]; exact h (fun q => hx (.inr q)))
  | 29, hij, hni, hXj, hu, h => exact (hu 29 (.inl rfl)).trans h
  | 30, hij, hni, hXj, hu, h => exact (hu 30 (.inl rfl)).trans h
  | 31, hij, hni, hXj, hu, h => exact (hu 31 (.inl rfl)).trans h
  | 32, hij, hni, hXj, hu, h => exact (by rw [hR, hu 20 (.inr rfl), hu 21 (.inr rfl)]; exact h)
  | 33, hij, hni, hXj, hu, h => exact (hu 33 (.inl rfl)).trans h
  | _ + 34, _, _, _, _, h => exact trivial
 case h0 => exact ⟨grownBy_of_below ((Below.refl W9.heap.size W9).drew) _, fun _ => bR.drew⟩
 case hs =>
  refine RgAll.cons [] rfl (by decide) ?_ ?_
  · intro u w X hi hA hF hG hT K hK
    simp only [lay, Act.put, sA, sZ, sS] at hK ⊢
    clear hi hA hF hG hT
    go_simp
    exact hK _ _ (rfl) (updV_self _ _ _)
  refine RgAll.cons [] rfl (by decide) ?_ ?_
  · intro u w X hi hA hF hG hT K hK
    simp only [lay, Act.put, sA, sZ, sS] at hK ⊢
    clear hi hA hF hG hT
    go_simp
    exact hK _ _ (rfl) (updV_self _ _ _)
  refine RgAll.cons [] rfl (by decide) ?_ ?_
  · intro u w X hi hA hF hG hT K hK
    simp only [lay, Act.put, sA, sZ, sS] at hK ⊢
    clear hi hA hF hG hT
    go_simp
    exact hK _ _ (rfl) (updV_self _ _ _)
  refine RgAll.cons [] rfl (by decide) ?_ ?_
  · intro u w X hi hA hF hG hT K hK
    simp only [lay, Act.put, sA, sZ, sS] at hK ⊢
    have HBw : Below W9.heap.size W9 w := hG.2 (hF 25 rfl)
    have x0w := (HBw.cell (p := ⟨g5, 0, none⟩) xz).trans x0
    have x1w := (HBw.cell (p := ⟨g5, 1, none⟩) xz).trans x1
    have x2w := (HBw.cell (p := ⟨g5, 2, none⟩) xz).trans x2
    have x3w := (HBw.cell (p := ⟨g5, 3, none⟩) xz).trans x3
    have x4w := (HBw.cell (p := ⟨g5, 4, none⟩) xz).trans x4
    have hbm := HMB9.out.after HBw
    clear hi hA hF hG hT
    go_simp
    exact hK _ _ (rfl) (updV_self _ _ _)
  refine RgAll.cons [] rfl (by decide) ?_ ?_
  · intro u w X hi hA hF hG hT K hK
    simp only [lay, Act.put, sA, sZ, sS] at hK ⊢
    clear hi hA hF hG hT
    go_simp
    exact hK _ _ (rfl) (updV_self _ _ _)
  refine RgAll.cons [(4, 88)] rfl (by decide) ?_ ?_
  · intro u w X hi hA hF hG hT K hK
    have t4 : u 4 = .pointer (some ⟨mb, 0, none⟩) := hT 4 (hA 4 rfl)
    simp only [lay, Act.put, sA, sZ, sS, t4] at hK ⊢
    clear hi hA hF hG hT
    go_simp
    exact hK _ _ (rfl) (updV_self _ _ _)
  refine RgAll.cons [(5, 89)] rfl (by decide) ?_ ?_
  · intro u w X hi hA hF hG hT K hK
    have t5 : u 5 = .pointer (some ⟨mb, 0, none⟩) := hT 5 (hA 5 rfl)
    simp only [lay, Act.put, sA, sZ, sS, t5] at hK ⊢
    clear hi hA hF hG hT
    go_simp
    exact hK _ _ (rfl) (updV_self _ _ _)
  refine RgAll.cons [(6, 90)] rfl (by decide) ?_ ?_
  · intro u w X hi hA hF hG hT K hK
    have t6 : u 6 = .pointer (some ⟨mb, 1, none⟩) := hT 6 (hA 6 rfl)
    simp only [lay, Act.put, sA, sZ, sS, t6] at hK ⊢
    have HBw : Below W9.heap.size W9 w := hG.2 (hF 25 rfl)
    have x0w := (HBw.cell (p := ⟨g5, 0, none⟩) xz).trans x0
    have x1w := (HBw.cell (p := ⟨g5, 1, none⟩) xz).trans x1
    have x2w := (HBw.cell (p := ⟨g5, 2, none⟩) xz).trans x2
    have x3w := (HBw.cell (p := ⟨g5, 3, none⟩) xz).trans x3
    have x4w := (HBw.cell (p := ⟨g5, 4, none⟩) xz).trans x4
    have hbm := HMB9.out.after HBw
    obtain ⟨r1, r2, r3, r4, r5, r6, r7, r8, r9, r10, r11, r12, r13, r14, r15, r16, rf, rz⟩ := sreg_16 hbm
    clear hi hA hF hG hT
    go_simp
    exact hK _ _ rfl (updV_self _ _ _)
  refine RgAll.cons [] rfl (by decide) ?_ ?_
  · intro u w X hi hA hF hG hT K hK
    simp only [lay, Act.put, sA, sZ, sS] at hK ⊢
    clear hi hA hF hG hT
    go_simp
    exact hK _ _ (rfl) (updV_self _ _ _)
  refine RgAll.cons [(8, 92)] rfl (by decide) ?_ ?_
  · intro u w X hi hA hF hG hT K hK
    have t8 : u 8 = .pointer (some ⟨mb, 0, none⟩) := hT 8 (hA 8 rfl)
    simp only [lay, Act.put, sA, sZ, sS, t8] at hK ⊢
    clear hi hA hF hG hT
    go_simp
    exact hK _ _ (rfl) (updV_self _ _ _)
  refine RgAll.cons [(9, 93)] rfl (by decide) ?_ ?_
  · intro u w X hi hA hF hG hT K hK
    have t9 : u 9 = .pointer (some ⟨mb, 0, none⟩) := hT 9 (hA 9 rfl)
    simp only [lay, Act.put, sA, sZ, sS, t9] at hK ⊢
    clear hi hA hF hG hT
    go_simp
    exact hK _ _ (rfl) (updV_self _ _ _)
  refine RgAll.cons [(10, 94)] rfl (by decide) ?_ ?_
  · intro u w X hi hA hF hG hT K hK
    have t10 : u 10 = .pointer (some ⟨mb, 18, none⟩) := hT 10 (hA 10 rfl)
    simp only [lay, Act.put, sA, sZ, sS, t10] at hK ⊢
    have HBw : Below W9.heap.size W9 w := hG.2 (hF 25 rfl)
    have x0w := (HBw.cell (p := ⟨g5, 0, none⟩) xz).trans x0
    have x1w := (HBw.cell (p := ⟨g5, 1, none⟩) xz).trans x1
    have x2w := (HBw.cell (p := ⟨g5, 2, none⟩) xz).trans x2
    have x3w := (HBw.cell (p := ⟨g5, 3, none⟩) xz).trans x3
    have x4w := (HBw.cell (p := ⟨g5, 4, none⟩) xz).trans x4
    have hbm := HMB9.out.after HBw
    have m18 : w.cell? ⟨mb, 18, none⟩ = some iv := hbm.cell 18
    clear hi hA hF hG hT
    go_simp
    exact hK _ _ rfl (updV_self _ _ _)
  refine RgAll.cons [] rfl (by decide) ?_ ?_
  · intro u w X hi hA hF hG hT K hK
    simp only [lay, Act.put, sA, sZ, sS] at hK ⊢
    clear hi hA hF hG hT
    go_simp
    exact hK _ _ (rfl) (updV_self _ _ _)
  refine RgAll.cons [(12, 96)] rfl (by decide) ?_ ?_
  · intro u w X hi hA hF hG hT K hK
    have t12 : u 12 = .pointer (some ⟨mb, 0, none⟩) := hT 12 (hA 12 rfl)
    simp only [lay, Act.put, sA, sZ, sS, t12] at hK ⊢
    clear hi hA hF hG hT
    go_simp
    exact hK _ _ (rfl) (updV_self _ _ _)
  refine RgAll.cons [(13, 97)] rfl (by decide) ?_ ?_
  · intro u w X hi hA hF hG hT K hK
    have t13 : u 13 = .pointer (some ⟨mb, 0, none⟩) := hT 13 (hA 13 rfl)
    simp only [lay, Act.put, sA, sZ, sS, t13] at hK ⊢
    clear hi hA hF hG hT
    go_simp
    exact hK _ _ (rfl) (updV_self _ _ _)
  refine RgAll.cons [(14, 98)] rfl (by decide) ?_ ?_
  · intro u w X hi hA hF hG hT K hK
    have t14 : u 14 = .pointer (some ⟨mb, 21, none⟩) := hT 14 (hA 14 rfl)
    simp only [lay, Act.put, sA, sZ, sS, t14] at hK ⊢
    clear hi hA hF hG hT
    go_simp
    exact hK _ _ (rfl) (updV_self _ _ _)
  refine RgAll.cons [(15, 99)] rfl (by decide) ?_ ?_
  · intro u w X hi hA hF hG hT K hK
    have t15 : u 15 = .pointer (some ⟨mb, 25, none⟩) := hT 15 (hA 15 rfl)
    simp only [lay, Act.put, sA, sZ, sS, t15] at hK ⊢
    have HBw : Below W9.heap.size W9 w := hG.2 (hF 25 rfl)
    have x0w := (HBw.cell (p := ⟨g5, 0, none⟩) xz).trans x0
    have x1w := (HBw.cell (p := ⟨g5, 1, none⟩) xz).trans x1
    have x2w := (HBw.cell (p := ⟨g5, 2, none⟩) xz).trans x2
    have x3w := (HBw.cell (p := ⟨g5, 3, none⟩) xz).trans x3
    have x4w := (HBw.cell (p := ⟨g5, 4, none⟩) xz).trans x4
    have hbm := HMB9.out.after HBw
    have m25 : w.cell? ⟨mb, 25, none⟩ = some (.slice At KM.trace.length ct) := hbm.cell 25
    clear hi hA hF hG hT
    go_simp
    exact hK _ _ rfl (updV_self _ _ _)
  refine RgAll.consS [(3, 87), (7, 91), (11, 95), (16, 100)] rfl ?_ ?_
  · intro u w X hi hA hF hG hT K hK
    have t3 : u 3 = .agg #[.int .i64 oo, .int .i64 (a : Int), .int .i64 (b : Int), .int .i64 (c : Int), .int .u64 imm] := hT 3 (hA 3 rfl)
    have t7 : u 7 = rgv KM.regs := hT 7 (hA 7 rfl)
    have t11 : u 11 = iv := hT 11 (hA 11 rfl)
    have t16 : u 16 = .slice At KM.trace.length ct := hT 16 (hA 16 rfl)
    simp only [lay, Act.put, sA, sZ, sS, t3, t7, t11, t16] at hK ⊢
    have HBw : Below W9.heap.size W9 w := hG.2 (hF 25 rfl)
    go_simp
    refine (HPL.out w HBw).mono ?_
    rintro e w10 ⟨iv', At', ct', rfl, hi', hr', hc', hb'⟩
    refine hK _ w10 ⟨grownBy_trans hG.1 (grownBy_of_below hb' _), fun _ => HBw.trans (hb'.mono HBw.size)⟩ ?_
    intro j hj
    match j, hj with
     | 0, hj => exact (updV_ne _ _ (by decide)).trans (hT 0 (hj.resolve_left (by decide)))
     | 1, hj => exact (updV_ne _ _ (by decide)).trans (hT 1 (hj.resolve_left (by decide)))
     | 2, hj => exact (updV_ne _ _ (by decide)).trans (hT 2 (hj.resolve_left (by decide)))
     | 3, hj => exact (updV_ne _ _ (by decide)).trans (hT 3 (hj.resolve_left (by decide)))
     | 4, hj => exact (updV_ne _ _ (by decide)).trans (hT 4 (hj.resolve_left (by decide)))
     | 5, hj => exact (updV_ne _ _ (by decide)).trans (hT 5 (hj.resolve_left (by decide)))
     | 6, hj => exact (updV_ne _ _ (by decide)).trans (hT 6 (hj.resolve_left (by decide)))
     | 7, hj => exact (updV_ne _ _ (by decide)).trans (hT 7 (hj.resolve_left (by decide)))
     | 8, hj => exact (updV_ne _ _ (by decide)).trans (hT 8 (hj.resolve_left (by decide)))
     | 9, hj => exact (updV_ne _ _ (by decide)).trans (hT 9 (hj.resolve_left (by decide)))
     | 10, hj => exact (updV_ne _ _ (by decide)).trans (hT 10 (hj.resolve_left (by decide)))
     | 11, hj => exact (updV_ne _ _ (by decide)).trans (hT 11 (hj.resolve_left (by decide)))
     | 12, hj => exact (updV_ne _ _ (by decide)).trans (hT 12 (hj.resolve_left (by decide)))
     | 13, hj => exact (updV_ne _ _ (by decide)).trans (hT 13 (hj.resolve_left (by decide)))
     | 14, hj => exact (updV_ne _ _ (by decide)).trans (hT 14 (hj.resolve_left (by decide)))
     | 15, hj => exact (updV_ne _ _ (by decide)).trans (hT 15 (hj.resolve_left (by decide)))
     | 16, hj => exact (updV_ne _ _ (by decide)).trans (hT 16 (hj.resolve_left (by decide)))
     | 17, hj => exact (by simp only [updV_self]; exact ⟨⟨iv', At', ct', rfl, hi', hr', hc'⟩, Nat.lt_of_lt_of_le (HMB9.out.after HBw).lt hb'.size⟩)
     | 18, hj => exact (by first | exact absurd (hj.resolve_left (by decide)) (hF 18 rfl) | exact (updV_ne _ _ (by decide)).trans ((hT 18 (hj.resolve_left (by decide))).trans (updV_ne _ _ (by decide)).symm))
     | 19, hj => exact (updV_ne _ _ (by decide)).trans (hT 19 (hj.resolve_left (by decide)))
     | 20, hj => exact (by first | exact absurd (hj.resolve_left (by decide)) (hF 20 rfl) | (obtain ⟨x, y, z, e⟩ := hT 20 (hj.resolve_left (by decide)); exact ⟨x, y, z, by simpa [updV] using e⟩))
     | 21, hj => exact (by first | exact absurd (hj.resolve_left (by decide)) (hF 21 rfl) | (obtain ⟨x, y, z, e⟩ := hT 21 (hj.resolve_left (by decide)); exact ⟨x, y, z, by simpa [updV] using e⟩))
     | 22, hj => exact (updV_ne _ _ (by decide)).trans (hT 22 (hj.resolve_left (by decide)))
     | 23, hj => exact (updV_ne _ _ (by decide)).trans (hT 23 (hj.resolve_left (by decide)))
     | 24, hj => exact (updV_ne _ _ (by decide)).trans (hT 24 (hj.resolve_left (by decide)))
     | 25, hj => exact (by first | exact absurd (hj.resolve_left (by decide)) (hF 25 rfl) | exact fun h => absurd (.inr (hA 28 rfl)) h | exact fun h => absurd (by simp) h)
     | 26, hj => exact (updV_ne _ _ (by decide)).trans (hT 26 (hj.resolve_left (by decide)))
     | 27, hj => exact (updV_ne _ _ (by decide)).trans (hT 27 (hj.resolve_left (by decide)))
     | 28, hj => exact (by first | exact absurd (hj.resolve_left (by decide)) (hF 28 rfl) | exact fun h => absurd (by simp) h)
     | 29, hj => exact (updV_ne _ _ (by decide)).trans (hT 29 (hj.resolve_left (by decide)))
     | 30, hj => exact (updV_ne _ _ (by decide)).trans (hT 30 (hj.resolve_left (by decide)))
     | 31, hj => exact (updV_ne _ _ (by decide)).trans (hT 31 (hj.resolve_left (by decide)))
     | 32, hj => exact (by exact absurd (hj.resolve_left (by decide)) (hF 32 rfl))
     | 33, hj => exact (updV_ne _ _ (by decide)).trans (hT 33 (hj.resolve_left (by decide)))
     | _ + 34, hj => exact trivial
  refine RgAll.cons [(17, 101)] rfl (by decide) ?_ ?_
  · intro u w X hi hA hF hG hT K hK
    have t17 : (∃ iv' At' ct', u 17 = .tuple #[rgv k'.regs, iv', .slice At' k'.trace.length ct', .bool k'.ended] ∧ InX w mb iv' k'.inp ∧ Rx w (mb + 1) w.heap.size 2 At' k'.trace.length (k'.trace.flatMap vcl) ∧ k'.trace.length ≤ ct') ∧ mb < w.heap.size := hT 17 (hA 17 rfl)
    simp only [lay, Act.put, sA, sZ, sS] at hK ⊢
    obtain ⟨⟨iv', At', ct', e17, h1, h2, h3⟩, h4⟩ := t17
    simp only [e17] at hK ⊢
    clear hi hA hF hG hT
    go_simp
    refine hK _ _ rfl ?_
    simp [updV, e17]
  refine RgAll.cons [(18, 83)] rfl (by decide) ?_ ?_
  · intro u w X hi hA hF hG hT K hK
    have t17 : (∃ iv' At' ct', u 17 = .tuple #[rgv k'.regs, iv', .slice At' k'.trace.length ct', .bool k'.ended] ∧ InX w mb iv' k'.inp ∧ Rx w (mb + 1) w.heap.size 2 At' k'.trace.length (k'.trace.flatMap vcl) ∧ k'.trace.length ≤ ct') ∧ mb < w.heap.size := hT 17 (hA 17 rfl)
    have t18 : u 18 = u 17 := hT 18 (hA 18 rfl)
    simp only [lay, Act.put, sA, sZ, sS, t18] at hK ⊢
    obtain ⟨⟨iv', At', ct', e17, h1, h2, h3⟩, h4⟩ := t17
    simp only [e17] at hK ⊢
    clear hi hA hF hG hT
    go_simp
    exact hK _ _ rfl (updV_self _ _ _)
  refine RgAll.cons [(18, 83)] rfl (by decide) ?_ ?_
  · intro u w X hi hA hF hG hT K hK
    have t17 : (∃ iv' At' ct', u 17 = .tuple #[rgv k'.regs, iv', .slice At' k'.trace.length ct', .bool k'.ended] ∧ InX w mb iv' k'.inp ∧ Rx w (mb + 1) w.heap.size 2 At' k'.trace.length (k'.trace.flatMap vcl) ∧ k'.trace.length ≤ ct') ∧ mb < w.heap.size := hT 17 (hA 17 rfl)
    have t18 : u 18 = u 17 := hT 18 (hA 18 rfl)
    simp only [lay, Act.put, sA, sZ, sS, t18] at hK ⊢
    obtain ⟨⟨iv', At', ct', e17, h1, h2, h3⟩, h4⟩ := t17
    simp only [e17] at hK ⊢
    clear hi hA hF hG hT
    go_simp
    refine hK _ _ rfl ⟨rgv k'.regs, .slice At' k'.trace.length ct', .bool k'.ended, ?_⟩
    simp [updV, e17]
  refine RgAll.cons [(18, 83)] rfl (by decide) ?_ ?_
  · intro u w X hi hA hF hG hT K hK
    have t17 : (∃ iv' At' ct', u 17 = .tuple #[rgv k'.regs, iv', .slice At' k'.trace.length ct', .bool k'.ended] ∧ InX w mb iv' k'.inp ∧ Rx w (mb + 1) w.heap.size 2 At' k'.trace.length (k'.trace.flatMap vcl) ∧ k'.trace.length ≤ ct') ∧ mb < w.heap.size := hT 17 (hA 17 rfl)
    have t18 : u 18 = u 17 := hT 18 (hA 18 rfl)
    simp only [lay, Act.put, sA, sZ, sS, t18] at hK ⊢
    obtain ⟨⟨iv', At', ct', e17, h1, h2, h3⟩, h4⟩ := t17
    simp only [e17] at hK ⊢
    clear hi hA hF hG hT
    go_simp
    refine hK _ _ rfl ⟨rgv k'.regs, iv', .bool k'.ended, ?_⟩
    simp [updV, e17]
  refine RgAll.cons [(18, 83)] rfl (by decide) ?_ ?_
  · intro u w X hi hA hF hG hT K hK
    have t17 : (∃ iv' At' ct', u 17 = .tuple #[rgv k'.regs, iv', .slice At' k'.trace.length ct', .bool k'.ended] ∧ InX w mb iv' k'.inp ∧ Rx w (mb + 1) w.heap.size 2 At' k'.trace.length (k'.trace.flatMap vcl) ∧ k'.trace.length ≤ ct') ∧ mb < w.heap.size := hT 17 (hA 17 rfl)
    have t18 : u 18 = u 17 := hT 18 (hA 18 rfl)
    simp only [lay, Act.put, sA, sZ, sS, t18] at hK ⊢
    obtain ⟨⟨iv', At', ct', e17, h1, h2, h3⟩, h4⟩ := t17
    simp only [e17] at hK ⊢
    clear hi hA hF hG hT
    go_simp
    exact hK _ _ rfl (updV_self _ _ _)
  refine RgAll.cons [(0, 84)] rfl (by decide) ?_ ?_
  · intro u w X hi hA hF hG hT K hK
    have t0 : u 0 = .pointer (some ⟨mb, 0, none⟩) := hT 0 (hA 0 rfl)
    simp only [lay, Act.put, sA, sZ, sS, t0] at hK ⊢
    clear hi hA hF hG hT
    go_simp
    exact hK _ _ (rfl) (updV_self _ _ _)
  refine RgAll.cons [(23, 106)] rfl (by decide) ?_ ?_
  · intro u w X hi hA hF hG hT K hK
    have t23 : u 23 = .pointer (some ⟨mb, 0, none⟩) := hT 23 (hA 23 rfl)
    simp only [lay, Act.put, sA, sZ, sS, t23] at hK ⊢
    clear hi hA hF hG hT
    go_simp
    exact hK _ _ (rfl) (updV_self _ _ _)
  refine RgAll.consS [(19, 102), (24, 107)] rfl ?_ ?_
  · intro u w X hi hA hF hG hT K hK
    have t19 : u 19 = rgv k'.regs := hT 19 (hA 19 rfl)
    have t24 : u 24 = .pointer (some ⟨mb, 1, none⟩) := hT 24 (hA 24 rfl)
    simp only [lay, Act.put, sA, sZ, sS, t19, t24] at hK ⊢
    have HBw : Below W9.heap.size W9 w := hG.2 hi
    have hbm := HMB9.out.after HBw
    obtain ⟨r1, r2, r3, r4, r5, r6, r7, r8, r9, r10, r11, r12, r13, r14, r15, r16, rf, rz⟩ := sreg_16 hbm
    have hbp := rcs_put hbm k'.regs
    have hgr := rcs_grown w mb k'.regs
    simp only [rgv, rga] at hK ⊢
    go_simp
    refine hK undef _ ⟨grownBy_trans hG.1 hgr, fun h => absurd (by simp) h⟩ ?_
    intro j hj
    match j, hj with
     | 0, hj => exact (updV_ne _ _ (by decide)).trans (hT 0 (hj.resolve_left (by decide)))
     | 1, hj => exact (updV_ne _ _ (by decide)).trans (hT 1 (hj.resolve_left (by decide)))
     | 2, hj => exact (updV_ne _ _ (by decide)).trans (hT 2 (hj.resolve_left (by decide)))
     | 3, hj => exact (updV_ne _ _ (by decide)).trans (hT 3 (hj.resolve_left (by decide)))
     | 4, hj => exact (updV_ne _ _ (by decide)).trans (hT 4 (hj.resolve_left (by decide)))
     | 5, hj => exact (updV_ne _ _ (by decide)).trans (hT 5 (hj.resolve_left (by decide)))
     | 6, hj => exact (updV_ne _ _ (by decide)).trans (hT 6 (hj.resolve_left (by decide)))
     | 7, hj => exact (updV_ne _ _ (by decide)).trans (hT 7 (hj.resolve_left (by decide)))
     | 8, hj => exact (updV_ne _ _ (by decide)).trans (hT 8 (hj.resolve_left (by decide)))
     | 9, hj => exact (updV_ne _ _ (by decide)).trans (hT 9 (hj.resolve_left (by decide)))
     | 10, hj => exact (updV_ne _ _ (by decide)).trans (hT 10 (hj.resolve_left (by decide)))
     | 11, hj => exact (updV_ne _ _ (by decide)).trans (hT 11 (hj.resolve_left (by decide)))
     | 12, hj => exact (updV_ne _ _ (by decide)).trans (hT 12 (hj.resolve_left (by decide)))
     | 13, hj => exact (updV_ne _ _ (by decide)).trans (hT 13 (hj.resolve_left (by decide)))
     | 14, hj => exact (updV_ne _ _ (by decide)).trans (hT 14 (hj.resolve_left (by decide)))
     | 15, hj => exact (updV_ne _ _ (by decide)).trans (hT 15 (hj.resolve_left (by decide)))
     | 16, hj => exact (updV_ne _ _ (by decide)).trans (hT 16 (hj.resolve_left (by decide)))
     | 17, hj => exact (by obtain ⟨⟨iv', At', ct', e, h1, h2, h3⟩, h4⟩ := hT 17 (hj.resolve_left (by decide)); exact ⟨⟨iv', At', ct', (updV_ne _ _ (by decide)).trans e, h1.grown hgr h4, (h2.keep (Kp.of_grown hgr nL (.inl (by omega)))).more nL hgr.size, h3⟩, Nat.lt_of_lt_of_le h4 hgr.size⟩)
     | 18, hj => exact (by first | exact absurd (hj.resolve_left (by decide)) (hF 18 rfl) | exact (updV_ne _ _ (by decide)).trans ((hT 18 (hj.resolve_left (by decide))).trans (updV_ne _ _ (by decide)).symm))
     | 19, hj => exact (updV_ne _ _ (by decide)).trans (hT 19 (hj.resolve_left (by decide)))
     | 20, hj => exact (by first | exact absurd (hj.resolve_left (by decide)) (hF 20 rfl) | (obtain ⟨x, y, z, e⟩ := hT 20 (hj.resolve_left (by decide)); exact ⟨x, y, z, by simpa [updV] using e⟩))
     | 21, hj => exact (by first | exact absurd (hj.resolve_left (by decide)) (hF 21 rfl) | (obtain ⟨x, y, z, e⟩ := hT 21 (hj.resolve_left (by decide)); exact ⟨x, y, z, by simpa [updV] using e⟩))
     | 22, hj => exact (updV_ne _ _ (by decide)).trans (hT 22 (hj.resolve_left (by decide)))
     | 23, hj => exact (updV_ne _ _ (by decide)).trans (hT 23 (hj.resolve_left (by decide)))
     | 24, hj => exact (updV_ne _ _ (by decide)).trans (hT 24 (hj.resolve_left (by decide)))
     | 25, hj => exact (fun _ => hbp)
     | 26, hj => exact (updV_ne _ _ (by decide)).trans (hT 26 (hj.resolve_left (by decide)))
     | 27, hj => exact (updV_ne _ _ (by decide)).trans (hT 27 (hj.resolve_left (by decide)))
     | 28, hj => exact (by first | exact absurd (hj.resolve_left (by decide)) (hF 28 rfl) | exact fun h => absurd (by simp) h)
     | 29, hj => exact (updV_ne _ _ (by decide)).trans (hT 29 (hj.resolve_left (by decide)))
     | 30, hj => exact (updV_ne _ _ (by decide)).trans (hT 30 (hj.resolve_left (by decide)))
     | 31, hj => exact (updV_ne _ _ (by decide)).trans (hT 31 (hj.resolve_left (by decide)))
     | 32, hj => exact (by exact absurd (hj.resolve_left (by decide)) (hF 32 rfl))
     | 33, hj => exact (updV_ne _ _ (by decide)).trans (hT 33 (hj.resolve_left (by decide)))
     | _ + 34, hj => exact trivial
  refine RgAll.cons [(1, 85)] rfl (by decide) ?_ ?_
  · intro u w X hi hA hF hG hT K hK
    have t1 : u 1 = .pointer (some ⟨mb, 0, none⟩) := hT 1 (hA 1 rfl)
    simp only [lay, Act.put, sA, sZ, sS, t1] at hK ⊢
    clear hi hA hF hG hT
    go_simp
    exact hK _ _ (rfl) (updV_self _ _ _)
  refine RgAll.cons [(26, 108)] rfl (by decide) ?_ ?_
  · intro u w X hi hA hF hG hT K hK
    have t26 : u 26 = .pointer (some ⟨mb, 0, none⟩) := hT 26 (hA 26 rfl)
    simp only [lay, Act.put, sA, sZ, sS, t26] at hK ⊢
    clear hi hA hF hG hT
    go_simp
    exact hK _ _ (rfl) (updV_self _ _ _)
  refine RgAll.consS [(20, 103), (27, 109)] rfl ?_ ?_
  · intro u w X hi hA hF hG hT K hK
    have t17 : (∃ iv' At' ct', u 17 = .tuple #[rgv k'.regs, iv', .slice At' k'.trace.length ct', .bool k'.ended] ∧ InX w mb iv' k'.inp ∧ Rx w (mb + 1) w.heap.size 2 At' k'.trace.length (k'.trace.flatMap vcl) ∧ k'.trace.length ≤ ct') ∧ mb < w.heap.size := hT 17 (hA 17 rfl)
    have t20 : ∃ x y z, u 17 = .tuple #[x, u 20, y, z] := hT 20 (hA 20 rfl)
    have t25 : ¬ X 28 → Blk w mb 83 (rcs (.slice (some ad) p.length cp) iv (.slice (some ⟨g, 0, none⟩) KM.acts.length cap) (.slice At KM.trace.length ct) { KM with regs := k'.regs }) := hT 25 (hA 25 rfl)
    have t27 : u 27 = .pointer (some ⟨mb, 18, none⟩) := hT 27 (hA 27 rfl)
    simp only [lay, Act.put, sA, sZ, sS, t27] at hK ⊢
    obtain ⟨⟨iv', At', ct', e17, h1, h2, h3⟩, h4⟩ := t17
    obtain ⟨x, y, z, e20'⟩ := t20
    rw [e17] at e20'
    have e20 : u 20 = iv' := by injection e20' with e; injection e with e; injection e with _ e; injection e with e _; exact e.symm
    obtain ⟨Ai, ci, rfl, -⟩ := h1
    have hbm := t25 hi
    have m18 : w.cell? ⟨mb, 18, none⟩ = some iv := hbm.cell 18
    have mf := hbm.frozen 18
    have hlt9 := hbm.lt
    have hgr := grown_mb w mb 18 (.slice Ai k'.inp.length ci)
    simp only [e20] at hK ⊢
    go_simp
    refine hK undef _ ⟨grownBy_trans hG.1 hgr, fun h => absurd (.inr (hA 25 rfl)) h⟩ ?_
    intro j hj
    match j, hj with
     | 0, hj => exact (updV_ne _ _ (by decide)).trans (hT 0 (hj.resolve_left (by decide)))
     | 1, hj => exact (updV_ne _ _ (by decide)).trans (hT 1 (hj.resolve_left (by decide)))
     | 2, hj => exact (updV_ne _ _ (by decide)).trans (hT 2 (hj.resolve_left (by decide)))
     | 3, hj => exact (updV_ne _ _ (by decide)).trans (hT 3 (hj.resolve_left (by decide)))
     | 4, hj => exact (updV_ne _ _ (by decide)).trans (hT 4 (hj.resolve_left (by decide)))
     | 5, hj => exact (updV_ne _ _ (by decide)).trans (hT 5 (hj.resolve_left (by decide)))
     | 6, hj => exact (updV_ne _ _ (by decide)).trans (hT 6 (hj.resolve_left (by decide)))
     | 7, hj => exact (updV_ne _ _ (by decide)).trans (hT 7 (hj.resolve_left (by decide)))
     | 8, hj => exact (updV_ne _ _ (by decide)).trans (hT 8 (hj.resolve_left (by decide)))
     | 9, hj => exact (updV_ne _ _ (by decide)).trans (hT 9 (hj.resolve_left (by decide)))
     | 10, hj => exact (updV_ne _ _ (by decide)).trans (hT 10 (hj.resolve_left (by decide)))
     | 11, hj => exact (updV_ne _ _ (by decide)).trans (hT 11 (hj.resolve_left (by decide)))
     | 12, hj => exact (updV_ne _ _ (by decide)).trans (hT 12 (hj.resolve_left (by decide)))
     | 13, hj => exact (updV_ne _ _ (by decide)).trans (hT 13 (hj.resolve_left (by decide)))
     | 14, hj => exact (updV_ne _ _ (by decide)).trans (hT 14 (hj.resolve_left (by decide)))
     | 15, hj => exact (updV_ne _ _ (by decide)).trans (hT 15 (hj.resolve_left (by decide)))
     | 16, hj => exact (updV_ne _ _ (by decide)).trans (hT 16 (hj.resolve_left (by decide)))
     | 17, hj => exact (by obtain ⟨⟨iv', At', ct', e, h1, h2, h3⟩, h4⟩ := hT 17 (hj.resolve_left (by decide)); exact ⟨⟨iv', At', ct', (updV_ne _ _ (by decide)).trans e, h1.grown hgr h4, (h2.keep (Kp.of_grown hgr nL (.inl (by omega)))).more nL hgr.size, h3⟩, Nat.lt_of_lt_of_le h4 hgr.size⟩)
     | 18, hj => exact (by first | exact absurd (hj.resolve_left (by decide)) (hF 18 rfl) | exact (updV_ne _ _ (by decide)).trans ((hT 18 (hj.resolve_left (by decide))).trans (updV_ne _ _ (by decide)).symm))
     | 19, hj => exact (updV_ne _ _ (by decide)).trans (hT 19 (hj.resolve_left (by decide)))
     | 20, hj => exact (by first | exact absurd (hj.resolve_left (by decide)) (hF 20 rfl) | (obtain ⟨x, y, z, e⟩ := hT 20 (hj.resolve_left (by decide)); exact ⟨x, y, z, by simpa [updV] using e⟩))
     | 21, hj => exact (by first | exact absurd (hj.resolve_left (by decide)) (hF 21 rfl) | (obtain ⟨x, y, z, e⟩ := hT 21 (hj.resolve_left (by decide)); exact ⟨x, y, z, by simpa [updV] using e⟩))
     | 22, hj => exact (updV_ne _ _ (by decide)).trans (hT 22 (hj.resolve_left (by decide)))
     | 23, hj => exact (updV_ne _ _ (by decide)).trans (hT 23 (hj.resolve_left (by decide)))
     | 24, hj => exact (updV_ne _ _ (by decide)).trans (hT 24 (hj.resolve_left (by decide)))
     | 25, hj => exact (by first | exact absurd (hj.resolve_left (by decide)) (hF 25 rfl) | exact fun h => absurd (.inr (hA 28 rfl)) h | exact fun h => absurd (by simp) h)
     | 26, hj => exact (updV_ne _ _ (by decide)).trans (hT 26 (hj.resolve_left (by decide)))
     | 27, hj => exact (updV_ne _ _ (by decide)).trans (hT 27 (hj.resolve_left (by decide)))
     | 28, hj => exact (fun _ => by simp only [updV_ne _ _ (show 20 ≠ 28 by decide), e20]; exact hbm.set_ 18 _)
     | 29, hj => exact (updV_ne _ _ (by decide)).trans (hT 29 (hj.resolve_left (by decide)))
     | 30, hj => exact (updV_ne _ _ (by decide)).trans (hT 30 (hj.resolve_left (by decide)))
     | 31, hj => exact (updV_ne _ _ (by decide)).trans (hT 31 (hj.resolve_left (by decide)))
     | 32, hj => exact (by exact absurd (hj.resolve_left (by decide)) (hF 32 rfl))
     | 33, hj => exact (updV_ne _ _ (by decide)).trans (hT 33 (hj.resolve_left (by decide)))
     | _ + 34, hj => exact trivial
  refine RgAll.cons [(2, 86)] rfl (by decide) ?_ ?_
  · intro u w X hi hA hF hG hT K hK
    have t2 : u 2 = .pointer (some ⟨mb, 0, none⟩) := hT 2 (hA 2 rfl)
    simp only [lay, Act.put, sA, sZ, sS, t2] at hK ⊢
    clear hi hA hF hG hT
    go_simp
    exact hK _ _ (rfl) (updV_self _ _ _)
  refine RgAll.cons [(29, 110)] rfl (by decide) ?_ ?_
  · intro u w X hi hA hF hG hT K hK
    have t29 : u 29 = .pointer (some ⟨mb, 0, none⟩) := hT 29 (hA 29 rfl)
    simp only [lay, Act.put, sA, sZ, sS, t29] at hK ⊢
    clear hi hA hF hG hT
    go_simp
    exact hK _ _ (rfl) (updV_self _ _ _)
  refine RgAll.cons [(30, 111)] rfl (by decide) ?_ ?_
  · intro u w X hi hA hF hG hT K hK
    have t30 : u 30 = .pointer (some ⟨mb, 21, none⟩) := hT 30 (hA 30 rfl)
    simp only [lay, Act.put, sA, sZ, sS, t30] at hK ⊢
    clear hi hA hF hG hT
    go_simp
    exact hK _ _ (rfl) (updV_self _ _ _)
  refine RgAll.consS [(21, 104), (31, 112)] rfl ?_ ?_
  · intro u w X hi hA hF hG hT K hK
    have t17 : (∃ iv' At' ct', u 17 = .tuple #[rgv k'.regs, iv', .slice At' k'.trace.length ct', .bool k'.ended] ∧ InX w mb iv' k'.inp ∧ Rx w (mb + 1) w.heap.size 2 At' k'.trace.length (k'.trace.flatMap vcl) ∧ k'.trace.length ≤ ct') ∧ mb < w.heap.size := hT 17 (hA 17 rfl)
    have t21 : ∃ x y z, u 17 = .tuple #[x, y, u 21, z] := hT 21 (hA 21 rfl)
    have t28 : ¬ X 32 → Blk w mb 83 (rcs (.slice (some ad) p.length cp) (u 20) (.slice (some ⟨g, 0, none⟩) KM.acts.length cap) (.slice At KM.trace.length ct) { KM with regs := k'.regs }) := hT 28 (hA 28 rfl)
    have t31 : u 31 = .pointer (some ⟨mb, 25, none⟩) := hT 31 (hA 31 rfl)
    simp only [lay, Act.put, sA, sZ, sS, t31] at hK ⊢
    obtain ⟨⟨iv', At', ct', e17, h1, h2, h3⟩, h4⟩ := t17
    obtain ⟨x, y, z, e21'⟩ := t21
    rw [e17] at e21'
    have e21 : u 21 = .slice At' k'.trace.length ct' := by injection e21' with e; injection e with e; injection e with _ e; injection e with _ e; injection e with e _; exact e.symm
    have hbm := t28 hi
    have m25 : w.cell? ⟨mb, 25, none⟩ = some (.slice At KM.trace.length ct) := hbm.cell 25
    have mf := hbm.frozen 25
    have hlt9 := hbm.lt
    have hgr := grown_mb w mb 25 (.slice At' k'.trace.length ct')
    simp only [e21] at hK ⊢
    go_simp
    refine hK undef _ ⟨grownBy_trans hG.1 hgr, fun h => absurd (.inr (hA 25 rfl)) h⟩ ?_
    intro j hj
    match j, hj with
     | 0, hj => exact (updV_ne _ _ (by decide)).trans (hT 0 (hj.resolve_left (by decide)))
     | 1, hj => exact (updV_ne _ _ (by decide)).trans (hT 1 (hj.resolve_left (by decide)))
     | 2, hj => exact (updV_ne _ _ (by decide)).trans (hT 2 (hj.resolve_left (by decide)))
     | 3, hj => exact (updV_ne _ _ (by decide)).trans (hT 3 (hj.resolve_left (by decide)))
     | 4, hj => exact (updV_ne _ _ (by decide)).trans (hT 4 (hj.resolve_left (by decide)))
     | 5, hj => exact (updV_ne _ _ (by decide)).trans (hT 5 (hj.resolve_left (by decide)))
     | 6, hj => exact (updV_ne _ _ (by decide)).trans (hT 6 (hj.resolve_left (by decide)))
     | 7, hj => exact (updV_ne _ _ (by decide)).trans (hT 7 (hj.resolve_left (by decide)))
     | 8, hj => exact (updV_ne _ _ (by decide)).trans (hT 8 (hj.resolve_left (by decide)))
     | 9, hj => exact (updV_ne _ _ (by decide)).trans (hT 9 (hj.resolve_left (by decide)))
     | 10, hj => exact (updV_ne _ _ (by decide)).trans (hT 10 (hj.resolve_left (by decide)))
     | 11, hj => exact (updV_ne _ _ (by decide)).trans (hT 11 (hj.resolve_left (by decide)))
     | 12, hj => exact (updV_ne _ _ (by decide)).trans (hT 12 (hj.resolve_left (by decide)))
     | 13, hj => exact (updV_ne _ _ (by decide)).trans (hT 13 (hj.resolve_left (by decide)))
     | 14, hj => exact (updV_ne _ _ (by decide)).trans (hT 14 (hj.resolve_left (by decide)))
     | 15, hj => exact (updV_ne _ _ (by decide)).trans (hT 15 (hj.resolve_left (by decide)))
     | 16, hj => exact (updV_ne _ _ (by decide)).trans (hT 16 (hj.resolve_left (by decide)))
     | 17, hj => exact (by obtain ⟨⟨iv', At', ct', e, h1, h2, h3⟩, h4⟩ := hT 17 (hj.resolve_left (by decide)); exact ⟨⟨iv', At', ct', (updV_ne _ _ (by decide)).trans e, h1.grown hgr h4, (h2.keep (Kp.of_grown hgr nL (.inl (by omega)))).more nL hgr.size, h3⟩, Nat.lt_of_lt_of_le h4 hgr.size⟩)
     | 18, hj => exact (by first | exact absurd (hj.resolve_left (by decide)) (hF 18 rfl) | exact (updV_ne _ _ (by decide)).trans ((hT 18 (hj.resolve_left (by decide))).trans (updV_ne _ _ (by decide)).symm))
     | 19, hj => exact (updV_ne _ _ (by decide)).trans (hT 19 (hj.resolve_left (by decide)))
     | 20, hj => exact (by first | exact absurd (hj.resolve_left (by decide)) (hF 20 rfl) | (obtain ⟨x, y, z, e⟩ := hT 20 (hj.resolve_left (by decide)); exact ⟨x, y, z, by simpa [updV] using e⟩))
     | 21, hj => exact (by first | exact absurd (hj.resolve_left (by decide)) (hF 21 rfl) | (obtain ⟨x, y, z, e⟩ := hT 21 (hj.resolve_left (by decide)); exact ⟨x, y, z, by simpa [updV] using e⟩))
     | 22, hj => exact (updV_ne _ _ (by decide)).trans (hT 22 (hj.resolve_left (by decide)))
     | 23, hj => exact (updV_ne _ _ (by decide)).trans (hT 23 (hj.resolve_left (by decide)))
     | 24, hj => exact (updV_ne _ _ (by decide)).trans (hT 24 (hj.resolve_left (by decide)))
     | 25, hj => exact (by first | exact absurd (hj.resolve_left (by decide)) (hF 25 rfl) | exact fun h => absurd (.inr (hA 28 rfl)) h | exact fun h => absurd (by simp) h)
     | 26, hj => exact (updV_ne _ _ (by decide)).trans (hT 26 (hj.resolve_left (by decide)))
     | 27, hj => exact (updV_ne _ _ (by decide)).trans (hT 27 (hj.resolve_left (by decide)))
     | 28, hj => exact (by first | exact absurd (hj.resolve_left (by decide)) (hF 28 rfl) | exact fun h => absurd (by simp) h)
     | 29, hj => exact (updV_ne _ _ (by decide)).trans (hT 29 (hj.resolve_left (by decide)))
     | 30, hj => exact (updV_ne _ _ (by decide)).trans (hT 30 (hj.resolve_left (by decide)))
     | 31, hj => exact (updV_ne _ _ (by decide)).trans (hT 31 (hj.resolve_left (by decide)))
     | 32, hj => exact (by simp only [updV_ne _ _ (show 20 ≠ 32 by decide), updV_ne _ _ (show 21 ≠ 32 by decide), e21]; exact hbm.set_ 25 _)
     | 33, hj => exact (updV_ne _ _ (by decide)).trans (hT 33 (hj.resolve_left (by decide)))
     | _ + 34, hj => exact trivial
  refine RgAll.cons [(22, 105)] rfl (by decide) ?_ ?_
  · intro u w X hi hA hF hG hT K hK
    have t22 : u 22 = .bool k'.ended := hT 22 (hA 22 rfl)
    simp only [lay, Act.put, sA, sZ, sS, t22] at hK ⊢
    clear hi hA hF hG hT
    go_simp
    exact hK _ _ (rfl) (updV_self _ _ _)
  exact RgAll.nil
 intro u w X hX hG hT
 have t0 : u 0 = .pointer (some ⟨mb, 0, none⟩) := hT 0 (by simp)
 have t1 : u 1 = .pointer (some ⟨mb, 0, none⟩) := hT 1 (by simp)
 have t2 : u 2 = .pointer (some ⟨mb, 0, none⟩) := hT 2 (by simp)
 have t3 : u 3 = .agg #[.int .i64 oo, .int .i64 (a : Int), .int .i64 (b : Int), .int .i64 (c : Int), .int .u64 imm] := hT 3 (by simp)
 have t4 : u 4 = .pointer (some ⟨mb, 0, none⟩) := hT 4 (by simp)
 have t5 : u 5 = .pointer (some ⟨mb, 0, none⟩) := hT 5 (by simp)
 have t6 : u 6 = .pointer (some ⟨mb, 1, none⟩) := hT 6 (by simp)
 have t7 : u 7 = rgv KM.regs := hT 7 (by simp)
 have t8 : u 8 = .pointer (some ⟨mb, 0, none⟩) := hT 8 (by simp)
 have t9 : u 9 = .pointer (some ⟨mb, 0, none⟩) := hT 9 (by simp)
 have t10 : u 10 = .pointer (some ⟨mb, 18, none⟩) := hT 10 (by simp)
 have t11 : u 11 = iv := hT 11 (by simp)
 have t12 : u 12 = .pointer (some ⟨mb, 0, none⟩) := hT 12 (by simp)
 have t13 : u 13 = .pointer (some ⟨mb, 0, none⟩) := hT 13 (by simp)
 have t14 : u 14 = .pointer (some ⟨mb, 21, none⟩) := hT 14 (by simp)
 have t15 : u 15 = .pointer (some ⟨mb, 25, none⟩) := hT 15 (by simp)
 have t16 : u 16 = .slice At KM.trace.length ct := hT 16 (by simp)
 have t17 : (∃ iv' At' ct', u 17 = .tuple #[rgv k'.regs, iv', .slice At' k'.trace.length ct', .bool k'.ended] ∧ InX w mb iv' k'.inp ∧ Rx w (mb + 1) w.heap.size 2 At' k'.trace.length (k'.trace.flatMap vcl) ∧ k'.trace.length ≤ ct') ∧ mb < w.heap.size := hT 17 (by simp)
 have t18 : u 18 = u 17 := hT 18 (by simp)
 have t19 : u 19 = rgv k'.regs := hT 19 (by simp)
 have t20 : ∃ x y z, u 17 = .tuple #[x, u 20, y, z] := hT 20 (by simp)
 have t21 : ∃ x y z, u 17 = .tuple #[x, y, u 21, z] := hT 21 (by simp)
 have t22 : u 22 = .bool k'.ended := hT 22 (by simp)
 have t23 : u 23 = .pointer (some ⟨mb, 0, none⟩) := hT 23 (by simp)
 have t24 : u 24 = .pointer (some ⟨mb, 1, none⟩) := hT 24 (by simp)
 have t25 : ¬ X 28 → Blk w mb 83 (rcs (.slice (some ad) p.length cp) iv (.slice (some ⟨g, 0, none⟩) KM.acts.length cap) (.slice At KM.trace.length ct) { KM with regs := k'.regs }) := hT 25 (by simp)
 have t26 : u 26 = .pointer (some ⟨mb, 0, none⟩) := hT 26 (by simp)
 have t27 : u 27 = .pointer (some ⟨mb, 18, none⟩) := hT 27 (by simp)
 have t28 : ¬ X 32 → Blk w mb 83 (rcs (.slice (some ad) p.length cp) (u 20) (.slice (some ⟨g, 0, none⟩) KM.acts.length cap) (.slice At KM.trace.length ct) { KM with regs := k'.regs }) := hT 28 (by simp)
 have t29 : u 29 = .pointer (some ⟨mb, 0, none⟩) := hT 29 (by simp)
 have t30 : u 30 = .pointer (some ⟨mb, 21, none⟩) := hT 30 (by simp)
 have t31 : u 31 = .pointer (some ⟨mb, 25, none⟩) := hT 31 (by simp)
 have t32 : Blk w mb 83 (rcs (.slice (some ad) p.length cp) (u 20) (.slice (some ⟨g, 0, none⟩) KM.acts.length cap) (u 21) { KM with regs := k'.regs }) := hT 32 (by simp)
 have t33 : u 33 = .bool k'.ended := hT 33 (by simp)
 simp only [lay, Act.put, sA, sZ, sS, t0, t1, t2, t3, t4, t5, t6, t7, t8, t9, t10, t11, t12, t13, t14, t15, t16, t18, t19, t22, t23, t24, t26, t27, t29, t30, t31, t33]
 clear hT t0 t1 t2 t3 t4 t5 t6 t7 t8 t9 t10 t11 t12 t13 t14 t15 t16 t18 t19 t22 t23 t24 t26 t27 t29 t30 t31 t33
 obtain ⟨⟨iv', At', ct', e17, h1, h2, h3⟩, h4⟩ := t17
 obtain ⟨y1, y2, y3, e20'⟩ := t20
 obtain ⟨z1, z2, z3, e21'⟩ := t21
 rw [e17] at e20' e21'
 have e20 : u 20 = iv' := by injection e20' with e; injection e with e; injection e with _ e; injection e with e _; exact e.symm
 have e21 : u 21 = .slice At' k'.trace.length ct' := by injection e21' with e; injection e with e; injection e with _ e; injection e with _ e; injection e with e _; exact e.symm
 rw [e20, e21] at t32
 have hgw := hG.1
 obtain ⟨vs9, p1, p2⟩ := HM9.out.acts
 have hk9 := Kp.of_grown (lo := mb + 1) hgw nL (.inl (by omega))
 have HMw : Hid (SAt w mb (.slice (some ad) p.length cp) iv' (some ⟨g, 0, none⟩) cap At' ct' { KM with regs := k'.regs, inp := k'.inp, trace := k'.trace }) := hQ ⟨t32, ⟨vs9, (p1.keep hk9).more nL hgw.size, (p2.keep hk9).more nL hgw.size⟩, h2, ⟨HM9.out.caps.1, h3⟩⟩
 have HGw := hQ (grownBy_trans HG9.out hgw)
 have HIw := hQ h1
 clear hX hG t25 t28 t32 e17 e20 e21 e20' e21' hgw p1 p2 hk9 h1 h2 h3 h4 x0 x1 x2 x3 x4 xz HPL HMB9
 rcases pl0_end KM.core ⟨oo, a, b, c, imm⟩ HKE.out with ⟨e1, e2⟩ | ⟨e1, e2⟩
 · rw [← HKP.out] at e1 e2
   rw [e1]
   go_wp2
   go_end0
   have hr : ({ KM with regs := k'.regs, inp := k'.inp, trace := k'.trace } : Sx8) = RES := by
    rw [← HRES.out, ← HK.out]
    unfold Sx8.pl
    rw [← HKP.out, e1, e2, ← HKE.out]
    rfl
   have hm := HMw.out
   rw [hr] at hm
   exact ⟨rfl, HGw.out, iv', _, _, _, _, hm, by rw [← hr]; exact HIw.out⟩
 · rw [← HKP.out] at e1 e2
   rw [e1]
   have HE := hQ (send_any w 2 HMw.out)
   go_wp2_with fail
   refine HE.out.mono ?_
   rintro e w11 ⟨rfl, hm11, hg11⟩
   go_wp2
   go_end0
   have hr : (({ KM with regs := k'.regs, inp := k'.inp, trace := k'.trace } : Sx8).stop 2) = RES := by
    rw [← HRES.out, ← HK.out]
    unfold Sx8.pl
    rw [← HKP.out, e1, e2]
    rfl
   rw [hr] at hm11
   exact ⟨rfl, grownBy_trans HGw.out hg11, iv', _, _, _, _, hm11, by rw [← hr]; exact HIw.out.grown hg11 HMw.out.blk.lt⟩
end
end Go.Proofs.YtdijeijbcoeopaaDoor.pm
