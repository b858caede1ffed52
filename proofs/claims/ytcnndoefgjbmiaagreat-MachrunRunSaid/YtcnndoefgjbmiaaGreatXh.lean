/- The reference's machine of chapter 12: one step, an operation on registers. Printed by mkxs.py. -/
import Derived.Test.YtcnndoefgjbmiaaGreatXg
import Derived.Test.YtcnndoefgjbmiaaGreatQc
set_option linter.unusedVariables false
set_option maxRecDepth 10000
set_option maxHeartbeats 8000000
namespace Go.Proofs.YtcnndoefgjbmiaaGreat.pm
open Go.RowKit
section
variable {mb cp : Nat} {al : Int} {iv : Value} {L : Lq} {m : Mx} {p : List Fr} {ad : Addr}
theorem treg_16 {w : World} {sv bv uv tv pv iv : Value} {m : Mx} (h : Blk w mb 94 (tcs al pv iv sv bv uv tv m)) : w.cell? ⟨mb, 2, none⟩ = some (.int .u64 ((rl m.regs 0).1 : Int)) ∧ w.cell? ⟨mb, 3, none⟩ = some (.int .u64 ((rl m.regs 0).2 : Int)) ∧ w.cell? ⟨mb, 4, none⟩ = some (.int .u64 ((rl m.regs 1).1 : Int)) ∧ w.cell? ⟨mb, 5, none⟩ = some (.int .u64 ((rl m.regs 1).2 : Int)) ∧ w.cell? ⟨mb, 6, none⟩ = some (.int .u64 ((rl m.regs 2).1 : Int)) ∧ w.cell? ⟨mb, 7, none⟩ = some (.int .u64 ((rl m.regs 2).2 : Int)) ∧ w.cell? ⟨mb, 8, none⟩ = some (.int .u64 ((rl m.regs 3).1 : Int)) ∧ w.cell? ⟨mb, 9, none⟩ = some (.int .u64 ((rl m.regs 3).2 : Int)) ∧ w.cell? ⟨mb, 10, none⟩ = some (.int .u64 ((rl m.regs 4).1 : Int)) ∧ w.cell? ⟨mb, 11, none⟩ = some (.int .u64 ((rl m.regs 4).2 : Int)) ∧ w.cell? ⟨mb, 12, none⟩ = some (.int .u64 ((rl m.regs 5).1 : Int)) ∧ w.cell? ⟨mb, 13, none⟩ = some (.int .u64 ((rl m.regs 5).2 : Int)) ∧ w.cell? ⟨mb, 14, none⟩ = some (.int .u64 ((rl m.regs 6).1 : Int)) ∧ w.cell? ⟨mb, 15, none⟩ = some (.int .u64 ((rl m.regs 6).2 : Int)) ∧ w.cell? ⟨mb, 16, none⟩ = some (.int .u64 ((rl m.regs 7).1 : Int)) ∧ w.cell? ⟨mb, 17, none⟩ = some (.int .u64 ((rl m.regs 7).2 : Int)) ∧ (∀ j, w.frozen? ⟨mb, j, none⟩ = false) ∧ mb < w.heap.size :=
 ⟨h.cell 2, h.cell 3, h.cell 4, h.cell 5, h.cell 6, h.cell 7, h.cell 8, h.cell 9, h.cell 10, h.cell 11, h.cell 12, h.cell 13, h.cell 14, h.cell 15, h.cell 16, h.cell 17, fun j => h.frozen j, h.lt⟩
theorem tcs_put {w : World} {sv bv uv tv pv iv : Value} {m : Mx} (h : Blk w mb 94 (tcs al pv iv sv bv uv tv m)) (l : List (Nat × Nat)) : Blk ((((((((((((((((w.setCell ⟨mb, 2, none⟩ (.int .u64 ((rl l 0).1 : Int))).setCell ⟨mb, 3, none⟩ (.int .u64 ((rl l 0).2 : Int))).setCell ⟨mb, 4, none⟩ (.int .u64 ((rl l 1).1 : Int))).setCell ⟨mb, 5, none⟩ (.int .u64 ((rl l 1).2 : Int))).setCell ⟨mb, 6, none⟩ (.int .u64 ((rl l 2).1 : Int))).setCell ⟨mb, 7, none⟩ (.int .u64 ((rl l 2).2 : Int))).setCell ⟨mb, 8, none⟩ (.int .u64 ((rl l 3).1 : Int))).setCell ⟨mb, 9, none⟩ (.int .u64 ((rl l 3).2 : Int))).setCell ⟨mb, 10, none⟩ (.int .u64 ((rl l 4).1 : Int))).setCell ⟨mb, 11, none⟩ (.int .u64 ((rl l 4).2 : Int))).setCell ⟨mb, 12, none⟩ (.int .u64 ((rl l 5).1 : Int))).setCell ⟨mb, 13, none⟩ (.int .u64 ((rl l 5).2 : Int))).setCell ⟨mb, 14, none⟩ (.int .u64 ((rl l 6).1 : Int))).setCell ⟨mb, 15, none⟩ (.int .u64 ((rl l 6).2 : Int))).setCell ⟨mb, 16, none⟩ (.int .u64 ((rl l 7).1 : Int))).setCell ⟨mb, 17, none⟩ (.int .u64 ((rl l 7).2 : Int))) mb 94 (tcs al pv iv sv bv uv tv { m with regs := l }) := by
 have h1 := ((((((((((((((((h.set_ 2 (.int .u64 ((rl l 0).1 : Int))).set_ 3 (.int .u64 ((rl l 0).2 : Int))).set_ 4 (.int .u64 ((rl l 1).1 : Int))).set_ 5 (.int .u64 ((rl l 1).2 : Int))).set_ 6 (.int .u64 ((rl l 2).1 : Int))).set_ 7 (.int .u64 ((rl l 2).2 : Int))).set_ 8 (.int .u64 ((rl l 3).1 : Int))).set_ 9 (.int .u64 ((rl l 3).2 : Int))).set_ 10 (.int .u64 ((rl l 4).1 : Int))).set_ 11 (.int .u64 ((rl l 4).2 : Int))).set_ 12 (.int .u64 ((rl l 5).1 : Int))).set_ 13 (.int .u64 ((rl l 5).2 : Int))).set_ 14 (.int .u64 ((rl l 6).1 : Int))).set_ 15 (.int .u64 ((rl l 6).2 : Int))).set_ 16 (.int .u64 ((rl l 7).1 : Int))).set_ 17 (.int .u64 ((rl l 7).2 : Int)))
 have e : ((((((((((((((((tcs al pv iv sv bv uv tv m).setIfInBounds 2 (.int .u64 ((rl l 0).1 : Int))).setIfInBounds 3 (.int .u64 ((rl l 0).2 : Int))).setIfInBounds 4 (.int .u64 ((rl l 1).1 : Int))).setIfInBounds 5 (.int .u64 ((rl l 1).2 : Int))).setIfInBounds 6 (.int .u64 ((rl l 2).1 : Int))).setIfInBounds 7 (.int .u64 ((rl l 2).2 : Int))).setIfInBounds 8 (.int .u64 ((rl l 3).1 : Int))).setIfInBounds 9 (.int .u64 ((rl l 3).2 : Int))).setIfInBounds 10 (.int .u64 ((rl l 4).1 : Int))).setIfInBounds 11 (.int .u64 ((rl l 4).2 : Int))).setIfInBounds 12 (.int .u64 ((rl l 5).1 : Int))).setIfInBounds 13 (.int .u64 ((rl l 5).2 : Int))).setIfInBounds 14 (.int .u64 ((rl l 6).1 : Int))).setIfInBounds 15 (.int .u64 ((rl l 6).2 : Int))).setIfInBounds 16 (.int .u64 ((rl l 7).1 : Int))).setIfInBounds 17 (.int .u64 ((rl l 7).2 : Int)) = tcs al pv iv sv bv uv tv { m with regs := l } := by kernel_rfl
 rw [e] at h1
 exact h1
theorem tcs_grown (w : World) (mb : Nat) (l : List (Nat × Nat)) : w.grownBy ((((((((((((((((w.setCell ⟨mb, 2, none⟩ (.int .u64 ((rl l 0).1 : Int))).setCell ⟨mb, 3, none⟩ (.int .u64 ((rl l 0).2 : Int))).setCell ⟨mb, 4, none⟩ (.int .u64 ((rl l 1).1 : Int))).setCell ⟨mb, 5, none⟩ (.int .u64 ((rl l 1).2 : Int))).setCell ⟨mb, 6, none⟩ (.int .u64 ((rl l 2).1 : Int))).setCell ⟨mb, 7, none⟩ (.int .u64 ((rl l 2).2 : Int))).setCell ⟨mb, 8, none⟩ (.int .u64 ((rl l 3).1 : Int))).setCell ⟨mb, 9, none⟩ (.int .u64 ((rl l 3).2 : Int))).setCell ⟨mb, 10, none⟩ (.int .u64 ((rl l 4).1 : Int))).setCell ⟨mb, 11, none⟩ (.int .u64 ((rl l 4).2 : Int))).setCell ⟨mb, 12, none⟩ (.int .u64 ((rl l 5).1 : Int))).setCell ⟨mb, 13, none⟩ (.int .u64 ((rl l 5).2 : Int))).setCell ⟨mb, 14, none⟩ (.int .u64 ((rl l 6).1 : Int))).setCell ⟨mb, 15, none⟩ (.int .u64 ((rl l 6).2 : Int))).setCell ⟨mb, 16, none⟩ (.int .u64 ((rl l 7).1 : Int))).setCell ⟨mb, 17, none⟩ (.int .u64 ((rl l 7).2 : Int))) (some mb) :=
 grownBy_trans (grown_mb _ _ _ _) (grownBy_trans (grown_mb _ _ _ _) (grownBy_trans (grown_mb _ _ _ _) (grownBy_trans (grown_mb _ _ _ _) (grownBy_trans (grown_mb _ _ _ _) (grownBy_trans (grown_mb _ _ _ _) (grownBy_trans (grown_mb _ _ _ _) (grownBy_trans (grown_mb _ _ _ _) (grownBy_trans (grown_mb _ _ _ _) (grownBy_trans (grown_mb _ _ _ _) (grownBy_trans (grown_mb _ _ _ _) (grownBy_trans (grown_mb _ _ _ _) (grownBy_trans (grown_mb _ _ _ _) (grownBy_trans (grown_mb _ _ _ _) (grownBy_trans (grown_mb _ _ _ _) (grown_mb _ _ _ _)))))))))))))))
theorem pl0_end (m : Mx) (x : Ins) (h : m.ended = false) : ((m.pl0 x).ended = false ∧ ({ m with regs := (m.pl0 x).regs, inp := (m.pl0 x).inp, trace := (m.pl0 x).trace } : Mx) = m.pl0 x) ∨ ((m.pl0 x).ended = true ∧ ({ m with regs := (m.pl0 x).regs, inp := (m.pl0 x).inp, trace := (m.pl0 x).trace } : Mx).stop 2 = m.pl0 x) := by
 unfold Mx.pl0 Mx.plain
 repeat' split
 all_goals first | exact .inl ⟨h, rfl⟩ | exact .inr ⟨rfl, rfl⟩
theorem tst_b (W1 : World) (h : PreR W1 mb al ad p cp iv L m) (hop : (m.ins p).op ≤ 14) (hrs : rgOk (m.ins p).a ∧ rgOk (m.ins p).b ∧ rgOk (m.ins p).c) :
 Calls Tryz.prog 35 #[.pointer (some ⟨mb, 0, none⟩)] W1 (TS mb al (.slice (some ad) p.length cp) (stepX p m) W1) := by
 obtain ⟨i0, hi0, hz0, hz2, hz3⟩ := info_parts info_tact
 obtain ⟨t, ht⟩ : ∃ t, m.acts.length = t + 1 := ⟨m.acts.length - 1, by have := h.wf.some_; omega⟩
 have htop : m.top = m.acts.getD t Ac.z := by unfold Mx.top; rw [ht]; rfl
 have hmem : m.acts.getD t Ac.z ∈ m.acts := getD_mem' (by omega)
 obtain ⟨hf, hpc⟩ := h.wf.live _ hmem
 have hpc6 := h.pc _ hmem
 have ht6 : t ≤ 1000000 := by have := h.tf.acts; omega
 obtain ⟨vs, hvs⟩ : ∃ vs, vs = m.acts.flatMap acR := ⟨_, rfl⟩
 obtain ⟨f, hff⟩ : ∃ f, f = (m.acts.getD t Ac.z).f := ⟨_, rfl⟩
 obtain ⟨pc, hpce⟩ : ∃ q, q = (m.acts.getD t Ac.z).pc := ⟨_, rfl⟩
 have hfx : m.ins p = (p.getD f Fr.z).code.getD pc Ins.z := by unfold Mx.ins; rw [htop, ← hff, ← hpce]
 rw [← hff] at hf hpc
 rw [← hpce] at hpc hpc6
 obtain ⟨ad', Ai, ci, e', hbl, -, -, z2, -, -, hnx, hcl, -⟩ := h.gx.whole hf
 obtain rfl : ad = ad' := by injection e'
 obtain ⟨adI, hAI, hIb, x0, x1, x2, x3, x4⟩ := hnx.whole hpc
 subst hAI
 rw [← hfx] at x0 x1 x2 x3 x4
 obtain ⟨oo, oa, ob, oc, oi, hx⟩ : ∃ oo oa ob oc oi, m.ins p = ⟨oo, oa, ob, oc, oi⟩ := ⟨_, _, _, _, _, rfl⟩
 rw [hx] at x0 x1 x2 x3 x4
 dsimp only at x0 x1 x2 x3 x4
 obtain ⟨nf, hnf⟩ : ∃ q, q = (p.getD f Fr.z).code.length := ⟨_, rfl⟩
 rw [← hnf] at z2 hpc hcl
 obtain ⟨m1, m18, -, -, -, -, -, -, -, -, m31, -, hlt⟩ := tcells h.at_.blk
 have hRD : Hid (Reads W1 W1.heap.size 2 L.As (t + 1) (m.acts.flatMap acR)) := hQ (by rw [← ht]; exact h.at_.rows.acts.1)
 rw [ht] at m18
 have HX := hQ hx
 have HFF := hQ hff
 have HPCE := hQ hpce
 have HNF := hQ hnf
 have HT := hQ ht
 have HTOP := hQ htop
 have HH := hQ h
 have hF3 : (ad.add (f * 3)).block < W1.heap.size := by rw [block_of_add]; omega
 have hI3 : (adI.add (pc * 5)).block < W1.heap.size := by rw [block_of_add]; omega
 have ht0 : (0 : Int) ≤ (t : Int) := by omega
 have hti : (t : Int) ≤ 1000000 := by omega
 have hfi : (f : Int) < (p.length : Int) := by omega
 have hf0 : (0 : Int) ≤ (f : Int) := by omega
 have hpi : (pc : Int) < (nf : Int) := by omega
 have hp0 : (0 : Int) ≤ (pc : Int) := by omega
 have hpi6 : (pc : Int) ≤ 1000000 := by omega
 have hnl : (nf : Int) ≤ 9223372036854775807 := by have := hcl; unfold maxLen at this; omega
 have hst6 := h.st
 obtain ⟨sn, hsn⟩ : ∃ q, q = m.steps := ⟨_, rfl⟩
 rw [← hsn] at m31 hst6
 have HSN := hQ hsn
 have hO1 : Hid (∀ u ∈ m.acts.flatMap acR, u.oneCell' = true) := hQ (acR_one _)
 rw [← hvs] at hRD hO1
 have HVS := hQ hvs
 clear h hvs hff hpce hnf hx hfx hmem htop ht e' hcl hnx hsn
 go_enter Tryz.func35, Tryz.ntmps35
 go_upto_region 2 with (at_builtin; refine wpList_append_any _ rfl (.const (.slice none 0 0)) (.tmp 15) _ rfl W1.heap.size 126 i0 _ 2 16 Tryz.underlying92 hi0 hz0 hz2 hz3 rfl (by omega) (.slice none 0 0) 0 [] rfl (World.ownsRow_nil _ _ _ _) _ L.As (t + 1) L.ca vs rfl hRD.out hO1.out (by unfold maxLen; omega) (by omega) nL ?_; intro o1 w3 own3' hg3' hat3'; have own3 : w3.ownsRow W1.heap.size 126 2 o1 (t + 1) vs := (by simpa using own3'); obtain ⟨g, cap, rfl, hg, hglt⟩ := own3.form (by omega))
 have b3 : Below W1.heap.size W1 w3 := below_append bR (World.ownsRow_nil W1 W1.heap.size 126 2) hg3' nL (by simp)
 rw [HVS.out] at own3
 have gc : ∀ j, j < 2 → w3.cell? ⟨g, t * 2 + j, none⟩ = (acR (m.acts.getD t Ac.z))[j]? := fun j hj => (own3.cellAt (t * 2 + j) (by omega)).trans (flat_get acR_len Ac.z m.acts t j (by rw [HT.out]; omega) hj)
 have r0 : w3.cell? ⟨g, t * 2, none⟩ = some (.int .i64 (f : Int)) := by rw [HFF.out]; simpa [acR] using gc 0 (by omega)
 have r1 : w3.cell? ⟨g, t * 2 + 1, none⟩ = some (.int .i64 (pc : Int)) := by rw [HPCE.out]; simpa [acR] using gc 1 (by omega)
 have HO3 := hQ own3
 have HB3 := hQ b3
 clear own3 own3' hg3' hat3' b3 m18 gc
 obtain ⟨f0, e0⟩ := cell2 HB3.out m1 hlt
 have e1 := cell3 r0 hglt
 have e2 := cell3 r1 hglt
 obtain ⟨f3, e3⟩ := cell2 HB3.out z2 hF3
 obtain ⟨f4, e4⟩ := cell2 HB3.out x0 hI3
 obtain ⟨f5, e5⟩ := cell2 HB3.out x1 hI3
 obtain ⟨f6, e6⟩ := cell2 HB3.out x2 hI3
 obtain ⟨f7, e7⟩ := cell2 HB3.out x3 hI3
 obtain ⟨f8, e8⟩ := cell2 HB3.out x4 hI3
 have hz14 : W1.heap.size ≤ w3.heap.size := HB3.out.size
 have hmz : mb < w3.heap.size := by omega
 have hFz : (ad.add (f * 3)).block < w3.heap.size := by omega
 have hIz : (adI.add (pc * 5)).block < w3.heap.size := by omega
 have m31' := (HB3.out.cell (p := ⟨mb, 31, none⟩) hlt).trans m31
 clear x0 x1 x2 x3 x4 z2 m1
 go_region
 clear e0 e1 e2 e3 e4 e5 e6 e7 e8 f0 f3 f4 f5 f6 f7 f8
 obtain ⟨W5, hW5⟩ : ∃ W, W = (w3.alloc (.cells #[.int .i64 oo, .int .i64 oa, .int .i64 ob, .int .i64 oc, .int .u64 oi] 50)).drew := ⟨_, rfl⟩
 obtain ⟨g5, hg5⟩ : ∃ g, g = w3.heap.size := ⟨_, rfl⟩
 rw [← hW5, ← hg5]
 have hb5 : Below w3.heap.size w3 W5 := by rw [hW5]; exact (bR.alloc nL _).drew
 have HK5 : Hid (Blk W5 g5 50 #[.int .i64 oo, .int .i64 oa, .int .i64 ob, .int .i64 oc, .int .u64 oi]) := hQ (by rw [hW5, hg5]; exact (Blk.new _ _ _).drew)
 have HO5 := hQ (own_keep HO3.out hb5 nL)
 have HB5 : Hid (Below W1.heap.size W1 W5) := hQ (HB3.out.trans (hb5.mono HB3.out.size))
 have hgg5 : g < g5 := by omega
 have hg5m : mb < g5 := by omega
 have m31w := (hb5.cell (p := ⟨mb, 31, none⟩) hmz).trans m31'
 have r1w := (hb5.cell (p := ⟨g, t * 2 + 1, none⟩) hglt).trans r1
 have mf31 := (HH.out.at_.after HB5.out).blk.frozen 31
 have rf1 := HO5.out.frozenAt (t * 2 + 1)
 have hlt5 : mb < W5.heap.size := (HH.out.at_.after HB5.out).blk.lt
 have hglt5 : g < W5.heap.size := (HO5.out.lt g rfl).2
 have hgm : ¬ g = mb := by omega
 have hg5g : ¬ g5 = g := by omega
 have hg5n : ¬ g5 = mb := by omega
 have hmg : ¬ mb = g := by omega
 have hstI : (sn : Int) ≤ 1000000 := by omega
 have hst0 : (0 : Int) ≤ (sn : Int) := by omega
 have HS5 := hQ (StW.start HB5.out HH.out.at_ HO5.out HK5.out (by omega) hg (by rw [HT.out]; omega))
 rw [← HSN.out, ← HFF.out, ← HPCE.out] at HS5
 have h56 := fun (np : Nat) => HS5.out.pc HT.out hg hgg5 hlt np
 obtain ⟨x0, x1, x2, x3, x4, -, -, -, -, -, xz⟩ := HK5.out.c5
 clear hW5 hb5 hg5 hmz hFz hIz hF3 hI3 m31 m31' r0 r1 HO3 HB3 hz14 hglt
 have HS6 := hQ (h56 (pc + 1))
 clear h56 HS5
 go_upto_region 5 with (fail)
 obtain ⟨W6, hW6⟩ : ∃ W, W = (W5.setCell ⟨mb, 31, none⟩ (.int .i64 ((sn : Int) + 1))).setCell ⟨g, t * 2 + 1, none⟩ (.int .i64 ((pc : Int) + 1)) := ⟨_, rfl⟩
 rw [show (((pc + 1 : Nat) : Int)) = (pc : Int) + 1 by omega, ← hW6] at HS6
 rw [← hW6]
 clear hW6 HK5 HO5 HB5 m31w r1w mf31 rf1 hlt5 hglt5 hstI hst0 x0 x1 x2 x3 x4 xz
 obtain ⟨q0, q1, qf, qz, m18, mf, hlt6, -⟩ := HS6.out.cells HT.out
 obtain ⟨x0, x1, x2, x3, x4, -, -, -, -, -, xz⟩ := HS6.out.box.c5
 rw [HT.out] at m18
 have qf0 := qf (t * 2)
 have qf1 := qf (t * 2 + 1)
 have h20 : ¬ oo = 20 := by have := hop; rw [HX.out] at this; dsimp only at this; omega
 have h21 : ¬ oo = 21 := by have := hop; rw [HX.out] at this; dsimp only at this; omega
 have h22 : ¬ oo = 22 := by have := hop; rw [HX.out] at this; dsimp only at this; omega
 have h23 : ¬ oo = 23 := by have := hop; rw [HX.out] at this; dsimp only at this; omega
 have h24 : ¬ oo = 24 := by have := hop; rw [HX.out] at this; dsimp only at this; omega
 have h15 : ¬ oo = 15 := by have := hop; rw [HX.out] at this; dsimp only at this; omega
 have h16 : ¬ oo = 16 := by have := hop; rw [HX.out] at this; dsimp only at this; omega
 have h17 : ¬ oo = 17 := by have := hop; rw [HX.out] at this; dsimp only at this; omega
 have hop0 : 0 ≤ oo := by obtain ⟨prm, sz, gx⟩ := HH.out.ok.gx; have := gx.op.1; rw [HX.out] at this; exact this
 have hop1 : oo ≤ 14 := by have := hop; rw [HX.out] at this; exact this
 have him : 0 ≤ oi := by have := HH.out.ok.im.1; rw [HX.out] at this; exact this
 have hr3 := hrs
 rw [HX.out] at hr3
 dsimp only at hr3
 obtain ⟨⟨ra0, ra1⟩, ⟨rb0, rb1⟩, rc0, rc1⟩ := hr3
 obtain ⟨a, rfl⟩ := Int.eq_ofNat_of_zero_le ra0
 obtain ⟨b, rfl⟩ := Int.eq_ofNat_of_zero_le rb0
 obtain ⟨c, rfl⟩ := Int.eq_ofNat_of_zero_le rc0
 have ha : a < 8 := by omega
 have hb : b < 8 := by omega
 have hc : c < 8 := by omega
 clear hop hrs ra0 ra1 rb0 rb1 rc0 rc1
 have b15 : (oo == 15) = false := by simpa using h15
 have b16 : (oo == 16) = false := by simpa using h16
 have b17 : (oo == 17) = false := by simpa using h17
 have b22 : (oo == 22) = false := by simpa using h22
 have b23 : (oo == 23) = false := by simpa using h23
 have b24 : (oo == 24) = false := by simpa using h24
 have b20 : (oo == 20) = false := by simpa using h20
 have b21 : (oo == 21) = false := by simpa using h21
 go_upto_region 7 with (fail)
 go_region
 go_upto_region 9 with (fail)
 have HS7 := hQ HS6.out.drew
 clear HS6 q0 q1 qf qz m18 mf hlt6 x0 x1 x2 x3 x4 xz qf0 qf1
 generalize W6.drew = W7 at *
 obtain ⟨q0, q1, -, qz, m18, mf, hlt7, -⟩ := HS7.out.cells HT.out
 obtain ⟨x0, x1, x2, x3, x4, -, -, -, -, -, xz⟩ := HS7.out.box.c5
 rw [HT.out] at m18
 have mf18 := mf 18
 go_upto_region 10 with (fail)
 obtain ⟨W8, hW8⟩ : ∃ W, W = W7.setCell ⟨mb, 18, none⟩ (.slice (some ⟨g, 0, none⟩) (t + 1) cap) := ⟨_, rfl⟩
 rw [← hW8]
 have h8 := HS7.out.fin HH.out.at_ HT.out hg5m HH.out.inx
 rw [← hW8] at h8
 obtain ⟨b1, b2, b3, b4⟩ := h8
 have HM8 := hQ b1
 have HG8 := hQ b2
 have HIN8 := hQ b3
 have HK58 := hQ b4
 clear b1 b2 b3 b4 hW8 HS7 q0 q1 qz m18 mf mf18 hlt7 x0 x1 x2 x3 x4 xz
 obtain ⟨x0, x1, x2, x3, x4, -, -, -, -, -, xz⟩ := HK58.out.c5
 rw [HFF.out, HPCE.out, kX_next HT.out] at HM8
 have HNT : Hid (m.next.top.f = f) := hQ (by rw [HFF.out, ← HTOP.out, next_top' (by rw [HT.out]; omega)])
 have hlt8 : mb < W8.heap.size := HM8.out.blk.lt
 have HG0 : Hid (Gx W8 0 mb (some ad) p) := hQ (HH.out.gx.keep (Kp.of_grown HG8.out (Nat.le_of_lt hlt) (.inr nL)))
 have HTF : Hid (TF m.next) := hQ (by have a := HH.out.tf; exact ⟨a.regs, by show (m.acts.set _ _).length ≤ _; rw [List.length_set]; exact a.acts, a.sp, a.tp, a.mem, a.dp, a.len, a.m256, a.rgw⟩)
 have HNA : Hid (m.next.acts.length = t + 1) := hQ (by show (m.acts.set _ _).length = _; rw [List.length_set]; exact HT.out)
 obtain ⟨L8, hL8⟩ : ∃ L8, L8 = ({ L with As := some ⟨g, 0, none⟩, ca := cap } : Lq) := ⟨_, rfl⟩
 rw [← hL8] at HM8
 clear hL8
 obtain ⟨KM, hKM⟩ : ∃ K, K = m.next := ⟨_, rfl⟩
 rw [← hKM] at HM8
 have HKM := hQ hKM
 clear hKM
 have HMN := hQ (tmem_no W8 oo a b c oi HM8.out b15 b16 b17)
 go_wp2_with fail
 refine HMN.out.mono ?_
 rintro e W9 ⟨rfl, b9⟩
 have HM9 := hQ (HM8.out.after b9)
 have HK59 := hQ (HK58.out.after b9)
 have HIN9 := hQ (HIN8.out.after (b9.mono (Nat.le_of_lt hlt8)))
 have HG9 := hQ (grownBy_trans HG8.out (grownBy_of_below b9 _))
 have HMB9 := hQ HM9.out.blk
 have hlt9 : mb < W9.heap.size := HM9.out.blk.lt
 have hKe : KM.ended = false := by rw [HKM.out]; exact HH.out.en
 obtain ⟨k', hk'⟩ : ∃ k', k' = KM.pl0 ⟨oo, a, b, c, oi⟩ := ⟨_, rfl⟩
 have HPL : Hid (∀ W, Below W9.heap.size W9 W → Calls Tryz.prog 56 #[.agg #[.int .i64 oo, .int .i64 (a : Int), .int .i64 (b : Int), .int .i64 (c : Int), .int .u64 oi], rgv KM.regs, iv, .slice L8.At KM.trace.length L8.ct] W (PlD mb (mb + 1) k' W)) := hQ (fun W hW =>
  pl_any (k := KM) W oo a b c oi hop0 hop1 him ha hb hc (by rw [HKM.out]; exact HH.out.tf.regs) (by rw [HKM.out]; exact HTF.out.rgw)
   (by rw [HKM.out]; exact HIN9.out.after (hW.mono (Nat.le_of_lt hlt9))) (HM9.out.after hW).rows.tr HM9.out.rows.caps.2.1 (by rw [HKM.out]; exact HH.out.tr) (Nat.le_trans (Nat.le_of_lt hlt9) hW.size) (Nat.le_trans hlt9 hW.size) hKe k' hk')
 have HKP := hQ hk'
 have HKE := hQ hKe
 have HEQ : Hid (stepX p m = k') := hQ (by
  unfold stepX doX
  rw [HX.out]
  dsimp only
  rw [if_neg h15, if_neg h16, if_neg h17, if_neg h20, if_neg h21, if_neg h22, if_neg h23, if_neg h24, ← HKM.out, hk', Mx.pl0_eq])
 clear x0 x1 x2 x3 x4 xz b9 hk' hKe HMN
 obtain ⟨x0, x1, x2, x3, x4, -, -, -, -, -, xz⟩ := HK59.out.c5
 go_upto_region 13 with (fail)
 refine wp_region_rv (fun j => match j with
  | 0 | 1 | 2 | 4 | 5 | 8 | 9 | 12 | 13 | 23 | 26 | 29 => some (.pointer (some ⟨mb, 0, none⟩))
  | 3 => some (.agg #[.int .i64 oo, .int .i64 (a : Int), .int .i64 (b : Int), .int .i64 (c : Int), .int .u64 oi])
  | 6 | 24 => some (.pointer (some ⟨mb, 2, none⟩))
  | 7 => some (rgv KM.regs)
  | 10 | 27 => some (.pointer (some ⟨mb, 24, none⟩))
  | 11 => some (iv)
  | 14 | 30 => some (.pointer (some ⟨mb, 26, none⟩))
  | 15 | 31 => some (.pointer (some ⟨mb, 30, none⟩))
  | 16 => some (.slice L8.At KM.trace.length L8.ct)
  | 19 => some (rgv k'.regs)
  | 22 | 33 => some (.bool k'.ended)
  | _ => none) [17, 18, 20, 21, 25, 28, 32] (fun X j u w => match j with
  | 17 => (∃ iv' At' ct', u 17 = .tuple #[rgv k'.regs, iv', .slice At' k'.trace.length ct', .bool k'.ended] ∧ InX w mb iv' k'.inp ∧ Rx w (mb + 1) w.heap.size 2 At' k'.trace.length (k'.trace.flatMap vcl) ∧ k'.trace.length ≤ ct') ∧ mb < w.heap.size
  | 18 => u 18 = u 17
  | 20 => ∃ x y z, u 17 = .tuple #[x, u 20, y, z]
  | 21 => ∃ x y z, u 17 = .tuple #[x, y, u 21, z]
  | 25 => ¬ X 28 → Blk w mb 94 (tcs al (.slice (some ad) p.length cp) iv (.slice L8.As KM.acts.length L8.ca) (.slice L8.Ab KM.mem.length L8.cb) (.slice L8.Ub KM.use.length L8.cu) (.slice L8.At KM.trace.length L8.ct) { KM with regs := k'.regs })
  | 28 => ¬ X 32 → Blk w mb 94 (tcs al (.slice (some ad) p.length cp) (u 20) (.slice L8.As KM.acts.length L8.ca) (.slice L8.Ab KM.mem.length L8.cb) (.slice L8.Ub KM.use.length L8.cu) (.slice L8.At KM.trace.length L8.ct) { KM with regs := k'.regs })
  | 32 => Blk w mb 94 (tcs al (.slice (some ad) p.length cp) (u 20) (.slice L8.As KM.acts.length L8.ca) (.slice L8.Ab KM.mem.length L8.cb) (.slice L8.Ub KM.use.length L8.cu) (u 21) { KM with regs := k'.regs })
  | _ => True)
  (fun X w' => W9.grownBy w' (some mb) ∧ (¬ X 25 → Below W9.heap.size W9 w')) (fun w w' => w' = w) [17, 25, 28, 32] [0, 0, 0, 0, 0, 16, 48, 112, 0, 256, 768, 1792, 0, 4096, 12288, 28672, 61440, 131064, 262136, 524280, 524280, 524280, 524280, 1048569, 9437177, 26214393, 60817403, 127926267, 262143995, 532676607, 1069547519, 2143289343, 4290772991, 8589934591]
  [[], [], [], [], [], [(4, 97)], [(5, 98)], [(6, 99)], [], [(8, 101)], [(9, 102)], [(10, 103)], [], [(12, 105)], [(13, 106)], [(14, 107)], [(15, 108)], [(3, 96), (7, 100), (11, 104), (16, 109)], [(17, 110)], [(18, 92)], [(18, 92)], [(18, 92)], [(18, 92)], [(0, 93)], [(23, 115)], [(19, 111), (24, 116)], [(1, 94)], [(26, 117)], [(20, 112), (27, 118)], [(2, 95)], [(29, 119)], [(30, 120)], [(21, 113), (31, 121)], [(22, 114)]]
  [(0, 93), (1, 94), (2, 95), (3, 96), (4, 97), (5, 98), (6, 99), (7, 100), (8, 101), (9, 102), (10, 103), (11, 104), (12, 105), (13, 106), (14, 107), (15, 108), (16, 109), (17, 110), (18, 92), (19, 111), (20, 112), (21, 113), (22, 114), (23, 115), (24, 116), (26, 117), (27, 118), (29, 119), (30, 120), (31, 121), (33, 5)] (by kernel_rfl) (by kernel_rfl) ?hsG ?hsS ?h0 ?hs ?he
 case hsG =>
  intro i X w w' hsp hR hG
  rw [hR]; exact ⟨hG.1, fun h => hG.2 (fun q => h (.inr q))⟩
 case hsS =>
  refine And.intro ?_ (And.intro ?_ (And.intro ?_ (And.intro ?_ (And.intro ?_ (And.intro ?_ (And.intro ?_ (trivial)))))))
  · exact fun i X u u' w w' hsp hij hni hXj hR hu h => (by obtain ⟨⟨iv', At', ct', e, h1, h2, h3⟩, h4⟩ := h; rw [hR]; exact ⟨⟨iv', At', ct', (hu 17 (.inl rfl)).trans e, h1, h2, h3⟩, h4⟩)
  · exact fun i X u u' w w' hsp hij hni hXj hR hu h => (by have h1 := h; (try dsimp only at h1); simp only [← hu 17 (.inr rfl), ← hu 18 (.inl rfl)] at h1; exact h1)
  · exact fun i X u u' w w' hsp hij hni hXj hR hu h => (by obtain ⟨x, y, z, e⟩ := h; exact ⟨x, y, z, by rw [hu 17 (.inr rfl), hu 20 (.inl rfl)]; exact e⟩)
  · exact fun i X u u' w w' hsp hij hni hXj hR hu h => (by obtain ⟨x, y, z, e⟩ := h; exact ⟨x, y, z, by rw [hu 17 (.inr rfl), hu 21 (.inl rfl)]; exact e⟩)
  · exact fun i X u u' w w' hsp hij hni hXj hR hu h => (fun hx => by rw [hR]; exact h (fun q => hx (.inr q)))
  · exact fun i X u u' w w' hsp hij hni hXj hR hu h => (fun hx => by rw [hR, hu 20 (.inr rfl)]; exact h (fun q => hx (.inr q)))
  · exact fun i X u u' w w' hsp hij hni hXj hR hu h => (by rw [hR, hu 20 (.inr rfl), hu 21 (.inr rfl)]; exact h)
 case h0 => exact ⟨grownBy_of_below ((Below.refl W9.heap.size W9).drew) _, fun _ => bR.drew⟩
 case hs =>
  refine rvc ?_ (rvc ?_ (rvc ?_ (rvc ?_ (rvc ?_ (rvc ?_ (rvc ?_ (rvc ?a7 (rvc ?_ (rvc ?_ (rvc ?_ (rvc ?a11 (rvc ?_ (rvc ?_ (rvc ?_ (rvc ?_ (rvc ?a16 (rvs ?a17 (rvc ?a18 (rvc ?a19 (rvc ?a20 (rvc ?a21 (rvc ?a22 (rvc ?_ (rvc ?_ (rvs ?a25 (rvc ?_ (rvc ?_ (rvs ?a28 (rvc ?_ (rvc ?_ (rvc ?_ (rvs ?a32 (rvc ?_ (rvn))))))))))))))))))))))))))))))))))
  case a7 =>
   intro u w X hi hA hF hG hT K hK
   simp only [lay, sel, Act.put, sA, sZ, sS] at hK ⊢
   have HBw : Below W9.heap.size W9 w := hG.2 (hF 25 rfl)
   have x0w := (HBw.cell (p := ⟨g5, 0, none⟩) xz).trans x0
   have x1w := (HBw.cell (p := ⟨g5, 1, none⟩) xz).trans x1
   have x2w := (HBw.cell (p := ⟨g5, 2, none⟩) xz).trans x2
   have x3w := (HBw.cell (p := ⟨g5, 3, none⟩) xz).trans x3
   have x4w := (HBw.cell (p := ⟨g5, 4, none⟩) xz).trans x4
   have hbm := HMB9.out.after HBw
   obtain ⟨r1, r2, r3, r4, r5, r6, r7, r8, r9, r10, r11, r12, r13, r14, r15, r16, rf, rz⟩ := treg_16 hbm
   clear hi hA hF hG hT
   go_simp
   exact hK _ _ rfl (updV_self _ _ _)
  case a11 =>
   intro u w X hi hA hF hG hT K hK
   simp only [lay, sel, Act.put, sA, sZ, sS] at hK ⊢
   have HBw : Below W9.heap.size W9 w := hG.2 (hF 25 rfl)
   have x0w := (HBw.cell (p := ⟨g5, 0, none⟩) xz).trans x0
   have x1w := (HBw.cell (p := ⟨g5, 1, none⟩) xz).trans x1
   have x2w := (HBw.cell (p := ⟨g5, 2, none⟩) xz).trans x2
   have x3w := (HBw.cell (p := ⟨g5, 3, none⟩) xz).trans x3
   have x4w := (HBw.cell (p := ⟨g5, 4, none⟩) xz).trans x4
   have hbm := HMB9.out.after HBw
   have m24 : w.cell? ⟨mb, 24, none⟩ = some iv := hbm.cell 24
   clear hi hA hF hG hT
   go_simp
   exact hK _ _ rfl (updV_self _ _ _)
  case a16 =>
   intro u w X hi hA hF hG hT K hK
   simp only [lay, sel, Act.put, sA, sZ, sS] at hK ⊢
   have HBw : Below W9.heap.size W9 w := hG.2 (hF 25 rfl)
   have x0w := (HBw.cell (p := ⟨g5, 0, none⟩) xz).trans x0
   have x1w := (HBw.cell (p := ⟨g5, 1, none⟩) xz).trans x1
   have x2w := (HBw.cell (p := ⟨g5, 2, none⟩) xz).trans x2
   have x3w := (HBw.cell (p := ⟨g5, 3, none⟩) xz).trans x3
   have x4w := (HBw.cell (p := ⟨g5, 4, none⟩) xz).trans x4
   have hbm := HMB9.out.after HBw
   have m30 : w.cell? ⟨mb, 30, none⟩ = some (.slice L8.At KM.trace.length L8.ct) := hbm.cell 30
   clear hi hA hF hG hT
   go_simp
   exact hK _ _ rfl (updV_self _ _ _)
  case a17 =>
   intro u w X hi hA hF hG hT K hK
   simp only [lay, sel, Act.put, sA, sZ, sS] at hK ⊢
   have HBw : Below W9.heap.size W9 w := hG.2 (hF 25 rfl)
   go_simp
   refine (HPL.out w HBw).mono ?_
   rintro e w10 ⟨iv', At', ct', rfl, hi', hr', hc', hb'⟩
   refine hK _ w10 ⟨grownBy_trans hG.1 (grownBy_of_below hb' _), fun _ => HBw.trans (hb'.mono HBw.size)⟩ (And.intro ?_ (And.intro ?_ (And.intro ?_ (And.intro ?_ (And.intro ?_ (And.intro ?_ (And.intro ?_ (trivial)))))))) (noV rfl)
   · exact fun hj => (by simp only [updV_self]; exact ⟨⟨iv', At', ct', rfl, hi', hr', hc'⟩, Nat.lt_of_lt_of_le (HMB9.out.after HBw).lt hb'.size⟩)
   · exact fun hj => (by first | exact absurd (hj.resolve_left (by decide)) (hF 18 rfl) | exact (updV_ne _ _ (by decide)).trans ((hT 18 (hj.resolve_left (by decide)) rfl).trans (updV_ne _ _ (by decide)).symm))
   · exact fun hj => (by first | exact absurd (hj.resolve_left (by decide)) (hF 20 rfl) | (obtain ⟨x, y, z, e⟩ := hT 20 (hj.resolve_left (by decide)) rfl; exact ⟨x, y, z, by simpa [updV] using e⟩))
   · exact fun hj => (by first | exact absurd (hj.resolve_left (by decide)) (hF 21 rfl) | (obtain ⟨x, y, z, e⟩ := hT 21 (hj.resolve_left (by decide)) rfl; exact ⟨x, y, z, by simpa [updV] using e⟩))
   · exact fun hj => (by first | exact absurd (hj.resolve_left (by decide)) (hF 25 rfl) | exact fun h => absurd (.inr (hA 28 rfl)) h | exact fun h => absurd (by simp) h)
   · exact fun hj => (by first | exact absurd (hj.resolve_left (by decide)) (hF 28 rfl) | exact fun h => absurd (by simp) h)
   · exact fun hj => (by exact absurd (hj.resolve_left (by decide)) (hF 32 rfl))
  case a18 =>
   intro u w X hi hA hF hG hT K hK
   have t17 : (∃ iv' At' ct', u 17 = .tuple #[rgv k'.regs, iv', .slice At' k'.trace.length ct', .bool k'.ended] ∧ InX w mb iv' k'.inp ∧ Rx w (mb + 1) w.heap.size 2 At' k'.trace.length (k'.trace.flatMap vcl) ∧ k'.trace.length ≤ ct') ∧ mb < w.heap.size := hT 17 (hA 17 rfl) rfl
   simp only [lay, sel, Act.put, sA, sZ, sS] at hK ⊢
   obtain ⟨⟨iv', At', ct', e17, h1, h2, h3⟩, h4⟩ := t17
   simp only [e17] at hK ⊢
   clear hi hA hF hG hT
   go_simp
   refine hK _ _ rfl <| fun _ => ?_
   simp [updV, e17]
  case a19 =>
   intro u w X hi hA hF hG hT K hK
   have t17 : (∃ iv' At' ct', u 17 = .tuple #[rgv k'.regs, iv', .slice At' k'.trace.length ct', .bool k'.ended] ∧ InX w mb iv' k'.inp ∧ Rx w (mb + 1) w.heap.size 2 At' k'.trace.length (k'.trace.flatMap vcl) ∧ k'.trace.length ≤ ct') ∧ mb < w.heap.size := hT 17 (hA 17 rfl) rfl
   have t18 : u 18 = u 17 := hT 18 (hA 18 rfl) rfl
   simp only [lay, sel, Act.put, sA, sZ, sS, t18] at hK ⊢
   obtain ⟨⟨iv', At', ct', e17, h1, h2, h3⟩, h4⟩ := t17
   simp only [e17] at hK ⊢
   clear hi hA hF hG hT
   go_simp
   exact hK _ _ rfl (updV_self _ _ _)
  case a20 =>
   intro u w X hi hA hF hG hT K hK
   have t17 : (∃ iv' At' ct', u 17 = .tuple #[rgv k'.regs, iv', .slice At' k'.trace.length ct', .bool k'.ended] ∧ InX w mb iv' k'.inp ∧ Rx w (mb + 1) w.heap.size 2 At' k'.trace.length (k'.trace.flatMap vcl) ∧ k'.trace.length ≤ ct') ∧ mb < w.heap.size := hT 17 (hA 17 rfl) rfl
   have t18 : u 18 = u 17 := hT 18 (hA 18 rfl) rfl
   simp only [lay, sel, Act.put, sA, sZ, sS, t18] at hK ⊢
   obtain ⟨⟨iv', At', ct', e17, h1, h2, h3⟩, h4⟩ := t17
   simp only [e17] at hK ⊢
   clear hi hA hF hG hT
   go_simp
   refine hK _ _ rfl <| fun _ => ⟨rgv k'.regs, .slice At' k'.trace.length ct', .bool k'.ended, ?_⟩
   simp [updV, e17]
  case a21 =>
   intro u w X hi hA hF hG hT K hK
   have t17 : (∃ iv' At' ct', u 17 = .tuple #[rgv k'.regs, iv', .slice At' k'.trace.length ct', .bool k'.ended] ∧ InX w mb iv' k'.inp ∧ Rx w (mb + 1) w.heap.size 2 At' k'.trace.length (k'.trace.flatMap vcl) ∧ k'.trace.length ≤ ct') ∧ mb < w.heap.size := hT 17 (hA 17 rfl) rfl
   have t18 : u 18 = u 17 := hT 18 (hA 18 rfl) rfl
   simp only [lay, sel, Act.put, sA, sZ, sS, t18] at hK ⊢
   obtain ⟨⟨iv', At', ct', e17, h1, h2, h3⟩, h4⟩ := t17
   simp only [e17] at hK ⊢
   clear hi hA hF hG hT
   go_simp
   refine hK _ _ rfl <| fun _ => ⟨rgv k'.regs, iv', .bool k'.ended, ?_⟩
   simp [updV, e17]
  case a22 =>
   intro u w X hi hA hF hG hT K hK
   have t17 : (∃ iv' At' ct', u 17 = .tuple #[rgv k'.regs, iv', .slice At' k'.trace.length ct', .bool k'.ended] ∧ InX w mb iv' k'.inp ∧ Rx w (mb + 1) w.heap.size 2 At' k'.trace.length (k'.trace.flatMap vcl) ∧ k'.trace.length ≤ ct') ∧ mb < w.heap.size := hT 17 (hA 17 rfl) rfl
   have t18 : u 18 = u 17 := hT 18 (hA 18 rfl) rfl
   simp only [lay, sel, Act.put, sA, sZ, sS, t18] at hK ⊢
   obtain ⟨⟨iv', At', ct', e17, h1, h2, h3⟩, h4⟩ := t17
   simp only [e17] at hK ⊢
   clear hi hA hF hG hT
   go_simp
   exact hK _ _ rfl (updV_self _ _ _)
  case a25 =>
   intro u w X hi hA hF hG hT K hK
   simp only [lay, sel, Act.put, sA, sZ, sS] at hK ⊢
   have HBw : Below W9.heap.size W9 w := hG.2 hi
   have hbm := HMB9.out.after HBw
   obtain ⟨r1, r2, r3, r4, r5, r6, r7, r8, r9, r10, r11, r12, r13, r14, r15, r16, rf, rz⟩ := treg_16 hbm
   have hbp := tcs_put hbm k'.regs
   have hgr := tcs_grown w mb k'.regs
   simp only [rgv, rga] at hK ⊢
   go_simp
   refine hK undef _ ⟨grownBy_trans hG.1 hgr, fun h => absurd (by simp) h⟩ (And.intro ?_ (And.intro ?_ (And.intro ?_ (And.intro ?_ (And.intro ?_ (And.intro ?_ (And.intro ?_ (trivial)))))))) (noV rfl)
   · exact fun hj => (by obtain ⟨⟨iv', At', ct', e, h1, h2, h3⟩, h4⟩ := hT 17 (hj.resolve_left (by decide)) rfl; exact ⟨⟨iv', At', ct', (updV_ne _ _ (by decide)).trans e, h1.grown hgr h4, (h2.keep (Kp.of_grown hgr nL (.inl (by omega)))).more nL hgr.size, h3⟩, Nat.lt_of_lt_of_le h4 hgr.size⟩)
   · exact fun hj => (by first | exact absurd (hj.resolve_left (by decide)) (hF 18 rfl) | exact (updV_ne _ _ (by decide)).trans ((hT 18 (hj.resolve_left (by decide)) rfl).trans (updV_ne _ _ (by decide)).symm))
   · exact fun hj => (by first | exact absurd (hj.resolve_left (by decide)) (hF 20 rfl) | (obtain ⟨x, y, z, e⟩ := hT 20 (hj.resolve_left (by decide)) rfl; exact ⟨x, y, z, by simpa [updV] using e⟩))
   · exact fun hj => (by first | exact absurd (hj.resolve_left (by decide)) (hF 21 rfl) | (obtain ⟨x, y, z, e⟩ := hT 21 (hj.resolve_left (by decide)) rfl; exact ⟨x, y, z, by simpa [updV] using e⟩))
   · exact fun hj => (fun _ => hbp)
   · exact fun hj => (by first | exact absurd (hj.resolve_left (by decide)) (hF 28 rfl) | exact fun h => absurd (by simp) h)
   · exact fun hj => (by exact absurd (hj.resolve_left (by decide)) (hF 32 rfl))
  case a28 =>
   intro u w X hi hA hF hG hT K hK
   have t17 : (∃ iv' At' ct', u 17 = .tuple #[rgv k'.regs, iv', .slice At' k'.trace.length ct', .bool k'.ended] ∧ InX w mb iv' k'.inp ∧ Rx w (mb + 1) w.heap.size 2 At' k'.trace.length (k'.trace.flatMap vcl) ∧ k'.trace.length ≤ ct') ∧ mb < w.heap.size := hT 17 (hA 17 rfl) rfl
   have t20 : ∃ x y z, u 17 = .tuple #[x, u 20, y, z] := hT 20 (hA 20 rfl) rfl
   have t25 : ¬ X 28 → Blk w mb 94 (tcs al (.slice (some ad) p.length cp) iv (.slice L8.As KM.acts.length L8.ca) (.slice L8.Ab KM.mem.length L8.cb) (.slice L8.Ub KM.use.length L8.cu) (.slice L8.At KM.trace.length L8.ct) { KM with regs := k'.regs }) := hT 25 (hA 25 rfl) rfl
   simp only [lay, sel, Act.put, sA, sZ, sS] at hK ⊢
   obtain ⟨⟨iv', At', ct', e17, h1, h2, h3⟩, h4⟩ := t17
   obtain ⟨x, y, z, e20'⟩ := t20
   rw [e17] at e20'
   have e20 : u 20 = iv' := by injection e20' with e; injection e with e; injection e with _ e; injection e with e _; exact e.symm
   obtain ⟨Ai, ci, rfl, -⟩ := h1
   have hbm := t25 hi
   have m24 : w.cell? ⟨mb, 24, none⟩ = some iv := hbm.cell 24
   have mf := hbm.frozen 24
   have hlt9 := hbm.lt
   have hgr := grown_mb w mb 24 (.slice Ai k'.inp.length ci)
   simp only [e20] at hK ⊢
   go_simp
   refine hK undef _ ⟨grownBy_trans hG.1 hgr, fun h => absurd (.inr (hA 25 rfl)) h⟩ (And.intro ?_ (And.intro ?_ (And.intro ?_ (And.intro ?_ (And.intro ?_ (And.intro ?_ (And.intro ?_ (trivial)))))))) (noV rfl)
   · exact fun hj => (by obtain ⟨⟨iv', At', ct', e, h1, h2, h3⟩, h4⟩ := hT 17 (hj.resolve_left (by decide)) rfl; exact ⟨⟨iv', At', ct', (updV_ne _ _ (by decide)).trans e, h1.grown hgr h4, (h2.keep (Kp.of_grown hgr nL (.inl (by omega)))).more nL hgr.size, h3⟩, Nat.lt_of_lt_of_le h4 hgr.size⟩)
   · exact fun hj => (by first | exact absurd (hj.resolve_left (by decide)) (hF 18 rfl) | exact (updV_ne _ _ (by decide)).trans ((hT 18 (hj.resolve_left (by decide)) rfl).trans (updV_ne _ _ (by decide)).symm))
   · exact fun hj => (by first | exact absurd (hj.resolve_left (by decide)) (hF 20 rfl) | (obtain ⟨x, y, z, e⟩ := hT 20 (hj.resolve_left (by decide)) rfl; exact ⟨x, y, z, by simpa [updV] using e⟩))
   · exact fun hj => (by first | exact absurd (hj.resolve_left (by decide)) (hF 21 rfl) | (obtain ⟨x, y, z, e⟩ := hT 21 (hj.resolve_left (by decide)) rfl; exact ⟨x, y, z, by simpa [updV] using e⟩))
   · exact fun hj => (by first | exact absurd (hj.resolve_left (by decide)) (hF 25 rfl) | exact fun h => absurd (.inr (hA 28 rfl)) h | exact fun h => absurd (by simp) h)
   · exact fun hj => (fun _ => by simp only [updV_ne _ _ (show 20 ≠ 28 by decide), e20]; exact hbm.set_ 24 _)
   · exact fun hj => (by exact absurd (hj.resolve_left (by decide)) (hF 32 rfl))
  case a32 =>
   intro u w X hi hA hF hG hT K hK
   have t17 : (∃ iv' At' ct', u 17 = .tuple #[rgv k'.regs, iv', .slice At' k'.trace.length ct', .bool k'.ended] ∧ InX w mb iv' k'.inp ∧ Rx w (mb + 1) w.heap.size 2 At' k'.trace.length (k'.trace.flatMap vcl) ∧ k'.trace.length ≤ ct') ∧ mb < w.heap.size := hT 17 (hA 17 rfl) rfl
   have t21 : ∃ x y z, u 17 = .tuple #[x, y, u 21, z] := hT 21 (hA 21 rfl) rfl
   have t28 : ¬ X 32 → Blk w mb 94 (tcs al (.slice (some ad) p.length cp) (u 20) (.slice L8.As KM.acts.length L8.ca) (.slice L8.Ab KM.mem.length L8.cb) (.slice L8.Ub KM.use.length L8.cu) (.slice L8.At KM.trace.length L8.ct) { KM with regs := k'.regs }) := hT 28 (hA 28 rfl) rfl
   simp only [lay, sel, Act.put, sA, sZ, sS] at hK ⊢
   obtain ⟨⟨iv', At', ct', e17, h1, h2, h3⟩, h4⟩ := t17
   obtain ⟨x, y, z, e21'⟩ := t21
   rw [e17] at e21'
   have e21 : u 21 = .slice At' k'.trace.length ct' := by injection e21' with e; injection e with e; injection e with _ e; injection e with _ e; injection e with e _; exact e.symm
   have hbm := t28 hi
   have m30 : w.cell? ⟨mb, 30, none⟩ = some (.slice L8.At KM.trace.length L8.ct) := hbm.cell 30
   have mf := hbm.frozen 30
   have hlt9 := hbm.lt
   have hgr := grown_mb w mb 30 (.slice At' k'.trace.length ct')
   simp only [e21] at hK ⊢
   go_simp
   refine hK undef _ ⟨grownBy_trans hG.1 hgr, fun h => absurd (.inr (hA 25 rfl)) h⟩ (And.intro ?_ (And.intro ?_ (And.intro ?_ (And.intro ?_ (And.intro ?_ (And.intro ?_ (And.intro ?_ (trivial)))))))) (noV rfl)
   · exact fun hj => (by obtain ⟨⟨iv', At', ct', e, h1, h2, h3⟩, h4⟩ := hT 17 (hj.resolve_left (by decide)) rfl; exact ⟨⟨iv', At', ct', (updV_ne _ _ (by decide)).trans e, h1.grown hgr h4, (h2.keep (Kp.of_grown hgr nL (.inl (by omega)))).more nL hgr.size, h3⟩, Nat.lt_of_lt_of_le h4 hgr.size⟩)
   · exact fun hj => (by first | exact absurd (hj.resolve_left (by decide)) (hF 18 rfl) | exact (updV_ne _ _ (by decide)).trans ((hT 18 (hj.resolve_left (by decide)) rfl).trans (updV_ne _ _ (by decide)).symm))
   · exact fun hj => (by first | exact absurd (hj.resolve_left (by decide)) (hF 20 rfl) | (obtain ⟨x, y, z, e⟩ := hT 20 (hj.resolve_left (by decide)) rfl; exact ⟨x, y, z, by simpa [updV] using e⟩))
   · exact fun hj => (by first | exact absurd (hj.resolve_left (by decide)) (hF 21 rfl) | (obtain ⟨x, y, z, e⟩ := hT 21 (hj.resolve_left (by decide)) rfl; exact ⟨x, y, z, by simpa [updV] using e⟩))
   · exact fun hj => (by first | exact absurd (hj.resolve_left (by decide)) (hF 25 rfl) | exact fun h => absurd (.inr (hA 28 rfl)) h | exact fun h => absurd (by simp) h)
   · exact fun hj => (by first | exact absurd (hj.resolve_left (by decide)) (hF 28 rfl) | exact fun h => absurd (by simp) h)
   · exact fun hj => (by simp only [updV_ne _ _ (show 20 ≠ 32 by decide), updV_ne _ _ (show 21 ≠ 32 by decide), e21]; exact hbm.set_ 30 _)
  all_goals
   intro u w X hi hA hF hG hT K hK
   simp only [lay, sel, Act.put, sA, sZ, sS] at hK ⊢
   try
    have HBw : Below W9.heap.size W9 w := hG.2 (hF 25 rfl)
    have x0w := (HBw.cell (p := ⟨g5, 0, none⟩) xz).trans x0
    have x1w := (HBw.cell (p := ⟨g5, 1, none⟩) xz).trans x1
    have x2w := (HBw.cell (p := ⟨g5, 2, none⟩) xz).trans x2
    have x3w := (HBw.cell (p := ⟨g5, 3, none⟩) xz).trans x3
    have x4w := (HBw.cell (p := ⟨g5, 4, none⟩) xz).trans x4
    have hbm := HMB9.out.after HBw
   clear hi hA hF hG hT
   go_simp
   exact hK _ _ (rfl) (updV_self _ _ _)
 intro u w X hX hG hT
 obtain ⟨t17, t18, t20, t21, t25, t28, t32, -⟩ := hT
 try dsimp only at t17 t18 t20 t21 t25 t28 t32
 simp only [lay, sel, Act.put, sA, sZ, sS]
 obtain ⟨⟨iv', At', ct', e17, h1, h2, h3⟩, h4⟩ := t17
 obtain ⟨y1, y2, y3, e20'⟩ := t20
 obtain ⟨z1, z2, z3, e21'⟩ := t21
 rw [e17] at e20' e21'
 have e20 : u 20 = iv' := by injection e20' with e; injection e with e; injection e with _ e; injection e with e _; exact e.symm
 have e21 : u 21 = .slice At' k'.trace.length ct' := by injection e21' with e; injection e with e; injection e with _ e; injection e with _ e; injection e with e _; exact e.symm
 rw [e20, e21] at t32
 have hr9 := HM9.out.rows.grow hG.1
 have HMw : Hid (TAt w mb al (.slice (some ad) p.length cp) iv' { L8 with At := At', ct := ct' } { KM with regs := k'.regs, inp := k'.inp, trace := k'.trace }) := hQ ⟨t32, ⟨hr9.acts, h2, hr9.by_, hr9.us_, ⟨hr9.caps.1, h3, hr9.caps.2.2⟩⟩⟩
 have HGw := hQ (grownBy_trans HG9.out hG.1)
 have HIw := hQ h1
 clear hX hG t25 t28 t32 e17 e20 e21 e20' e21' hr9 h1 h2 h3 h4 x0 x1 x2 x3 x4 xz HPL HMB9
 rcases pl0_end KM ⟨oo, a, b, c, oi⟩ HKE.out with ⟨e1, e2⟩ | ⟨e1, e2⟩
 · rw [← HKP.out] at e1 e2
   rw [e1]
   rw [e2] at HMw
   go_wp2
   go_end0
   exact ⟨rfl, HGw.out, iv', _, by rw [HEQ.out]; exact HMw.out, by rw [HEQ.out]; exact HIw.out⟩
 · rw [← HKP.out] at e1 e2
   rw [e1]
   have HE := hQ (tend_any w 2 HMw.out)
   rw [e2] at HE
   go_wp2_with fail
   refine HE.out.mono ?_
   rintro e w11 ⟨rfl, hm11, hg11⟩
   have hi11 := HIw.out.grown hg11 HMw.out.blk.lt
   go_wp2
   go_end0
   exact ⟨rfl, grownBy_trans HGw.out hg11, iv', _, by rw [HEQ.out]; exact hm11, by rw [HEQ.out]; exact hi11⟩
end
end Go.Proofs.YtcnndoefgjbmiaaGreat.pm
