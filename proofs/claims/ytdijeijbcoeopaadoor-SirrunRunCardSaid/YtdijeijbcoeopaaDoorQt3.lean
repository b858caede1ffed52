/- The reference's machine: one step. Printed by mkqt.py. -/
import Derived.Test.YtdijeijbcoeopaaDoorQr0
import Derived.StillTailTactics
set_option linter.unusedVariables false
set_option maxRecDepth 10000
set_option maxHeartbeats 8000000
namespace Go.Proofs.YtdijeijbcoeopaaDoor.pm
open Go.RowKit
section
variable {mb ca ct cp : Nat} {iv : Value} {As At : Option Addr} {s : Sx8} {p : List Fn} {ad : Addr}
theorem Reads.take_ {w : World} {B size n k : Nat} {A : Option Addr} {xs : List Value} (h : Reads w B size A n xs) (hk : k ≤ n) : Reads w B size A k (xs.take (k * size)) := by
 have hle : k * size ≤ n * size := Nat.mul_le_mul_right size hk
 refine ⟨by rw [List.length_take, h.1]; omega, fun h0 => ?_⟩
 obtain ⟨ad, e, hb, hc⟩ := h.2 (by omega)
 exact ⟨ad, e, hb, fun j u hu => hc j u (by
  rw [List.getElem?_take] at hu
  split at hu
  · exact hu
  · cases hu)⟩
theorem SVx.take_ {w : World} {lo hi : Nat} {vs : List Value} {l : List As8} (h : SVx w lo hi vs l) (k : Nat) : SVx w lo hi (vs.take (k * 4)) (l.take k) := by
 intro i hi
 rw [List.length_take] at hi
 obtain ⟨Sl, c1, Ar, c2, e1, e2, e3, e4, q⟩ := h i (by omega)
 have hg : (l.take k).getD i As8.z = l.getD i As8.z := by rw [List.getD_eq_getElem?_getD, List.getElem?_take_of_lt (by omega), ← List.getD_eq_getElem?_getD]
 rw [hg]
 exact ⟨Sl, c1, Ar, c2, (List.getElem?_take_of_lt (by omega)).trans e1, (List.getElem?_take_of_lt (by omega)).trans e2, (List.getElem?_take_of_lt (by omega)).trans e3, (List.getElem?_take_of_lt (by omega)).trans e4, q⟩
theorem sst_ret1 (W1 : World) (a b c : Nat) (imm : Int) (hr8 : s.regs.length = 8) (h : SAt W1 mb (.slice (some ad) p.length cp) iv As ca At ct s) (hfx : Fx W1 0 mb (some ad) p) (hin : InX W1 mb iv s.inp) {t : Nat} (ht : s.acts.length = t + 1) (ht6 : t ≤ 1000000) (hst : s.steps ≤ 1000000) (hpc6 : (s.acts.getD t As8.z).pc ≤ 1000000) (hf : (s.acts.getD t As8.z).f < p.length) (hp : p.length ≤ 1000) (hpc : (s.acts.getD t As8.z).pc < (p.getD (s.acts.getD t As8.z).f Fn.z).code.length) (hx : (p.getD (s.acts.getD t As8.z).f Fn.z).code.getD (s.acts.getD t As8.z).pc Ins.z = ⟨23, a, b, c, imm⟩) (htn : t ≠ 0) :
 Calls Tryd.prog 36 #[.pointer (some ⟨mb, 0, none⟩)] W1 (StD mb (.slice (some ad) p.length cp) ({ (kS s t ((s.acts.getD t As8.z).pc + 1)) with acts := ((kS s t ((s.acts.getD t As8.z).pc + 1))).acts.take t }) W1) := by
 generalize hres : { (kS s t ((s.acts.getD t As8.z).pc + 1)) with acts := ((kS s t ((s.acts.getD t As8.z).pc + 1))).acts.take t } = RES
 have HRES := hQ hres
 clear hres
 obtain ⟨i0, hi0, hz0, hz1, hz2⟩ := info_parts info_ract
 obtain ⟨vs, hrx, hvx⟩ := h.acts
 obtain ⟨adA, Sl, c1, Ar, c2, rfl, hA1, hA2, y0, y1, y2, y3, hcs, hca, hk1, hk2⟩ := h.act_at (i := t) (by omega)
 obtain ⟨ad', Fs, cf, Ai, ci, e', hbl, z0, z1, z2, -, -, hsx, hnx, hsl, hcl⟩ := hfx.whole hf
 obtain rfl : ad = ad' := by injection e'
 obtain ⟨a0, ha0⟩ : ∃ a0, a0 = (s.acts.getD t As8.z) := ⟨_, rfl⟩
 rw [← ha0] at y0 y1 y2 y3 hcs hca hk1 hk2 z0 z1 z2 hf hsx hsl hnx hcl hpc hpc6 hx
 obtain ⟨fn, hfn⟩ : ∃ fn, fn = p.getD a0.f Fn.z := ⟨_, rfl⟩
 rw [← hfn] at z0 z1 z2 hsx hsl hnx hcl hpc hx
 obtain ⟨adI, hAI, hIb, x0, x1, x2, x3, x4⟩ := hnx.whole hpc
 subst hAI
 rw [hx] at x0 x1 x2 x3 x4
 dsimp only at x0 x1 x2 x3 x4
 obtain ⟨pc, hpce⟩ : ∃ q, q = a0.pc := ⟨_, rfl⟩
 rw [← hpce] at y1 hpc hpc6 x0 x1 x2 x3 x4 hx
 obtain ⟨nf, hnf⟩ : ∃ q, q = fn.code.length := ⟨_, rfl⟩
 rw [← hnf] at z2 hpc hcl
 have HPCE := hQ hpce
 have HX := hQ hx
 have HA0 := hQ ha0
 have HFN := hQ hfn
 have HNF := hQ hnf
 have HRX := hQ hrx
 have HVX := hQ hvx
 have HO1 := hQ (SVx.one hvx hrx.1.1)
 have HM := hQ h
 have HT := hQ ht
 have HIN := hQ hin
 have HFX := hQ hfx
 obtain ⟨m0, m17, -, -, -, -, m26, hlt⟩ := h.cells
 have hRD : Hid (Reads W1 W1.heap.size 4 (some adA) (t + 1) vs) := hQ (by rw [← ht]; exact hrx.1)
 rw [ht] at m17
 have hA3 : (adA.add (t * 4)).block < W1.heap.size := by rw [block_of_add]; exact hA2
 have hF3 : (ad.add (a0.f * 3)).block < W1.heap.size := by rw [block_of_add]; omega
 have hI3 : (adI.add (pc * 5)).block < W1.heap.size := by rw [block_of_add]; omega
 have ht0 : (0 : Int) ≤ (t : Int) := by omega
 have hti : (t : Int) ≤ 1000000 := by omega
 have hfi : (a0.f : Int) < (p.length : Int) := by omega
 have hf0 : (0 : Int) ≤ (a0.f : Int) := by omega
 have hpi : (pc : Int) < (nf : Int) := by omega
 have hp0 : (0 : Int) ≤ (pc : Int) := by omega
 have hpi6 : (pc : Int) ≤ 1000000 := by omega
 have hnl : (nf : Int) ≤ 9223372036854775807 := by have := hcl.1; unfold maxLen at this; omega
 clear h hfx hin hrx hvx ha0 hfn hnf hpce hcs hca hsx hnx hx hcl hsl z0 z1 e' hk1 hk2 hA1 hA2 y0 y1 y2 y3
 go_enter Tryd.func36, Tryd.ntmps36
 go_upto_region 2 with (at_builtin; refine wpList_append_any _ rfl (.const (.slice none 0 0)) (.tmp 16) _ rfl W1.heap.size 100 i0 _ 4 64 Tryd.underlying81 hi0 hz0 hz1 hz2 rfl (by omega) (.slice none 0 0) 0 [] rfl (World.ownsRow_nil _ _ _ _) _ (some adA) (t + 1) ca vs rfl hRD.out HO1.out (by unfold maxLen; omega) (by omega) nL ?_; intro o1 w3 own3' hg3' hat3'; have own3 : w3.ownsRow W1.heap.size 100 4 o1 (t + 1) vs := (by simpa using own3'); obtain ⟨g, cap, rfl, hg, hglt⟩ := own3.form (by omega))
 have b3 : Below W1.heap.size W1 w3 := below_append bR (World.ownsRow_nil W1 W1.heap.size 100 4) hg3' nL (by simp)
 obtain ⟨Sl6, d3, Ar6, d4, r0, r1, r2, r3, -, -, -, -, w1, w2, w4, w5⟩ := row4 own3 HVX.out rfl HT.out HA0.out
 have HCS := hQ w1
 have HCA := hQ w2
 have HKK := hQ (And.intro w4 w5)
 rw [← HPCE.out] at r1
 clear w1 w2 w4 w5
 have HO3 := hQ own3
 have HB3 := hQ b3
 clear own3 own3' hg3' hat3' b3 m17
 go_upto_region 3 with (fail)
 obtain ⟨W4, hW4⟩ : ∃ W, W = w3.alloc (.cells #[.int .i64 (a0.f : Int), .int .i64 (pc : Int), .slice Sl6 a0.ss.length d3, .slice Ar6 a0.aa.length d4] 100) := ⟨_, rfl⟩
 obtain ⟨g4, hg4⟩ : ∃ g, g = w3.heap.size := ⟨_, rfl⟩
 rw [← hW4, ← hg4]
 have hb4 : Below w3.heap.size w3 W4 := by rw [hW4]; exact bR.alloc nL _
 have HK4 : Hid (Blk W4 g4 100 #[.int .i64 (a0.f : Int), .int .i64 (pc : Int), .slice Sl6 a0.ss.length d3, .slice Ar6 a0.aa.length d4]) := hQ (by rw [hW4, hg4]; exact Blk.new _ _ _)
 have HB4 : Hid (Below W1.heap.size W1 W4) := hQ (HB3.out.trans (hb4.mono HB3.out.size))
 have HO4 := hQ (own_keep HO3.out hb4 nL)
 have hgg4 : g < g4 := by omega
 clear hW4 hb4 hg4 HB3 HO3 r0 r1 r2 r3 hglt
 obtain ⟨q0, q1, -, -, -, -, -, -, qz⟩ := HK4.out.c4
 have hz14 : W1.heap.size ≤ W4.heap.size := HB4.out.size
 obtain ⟨f0, e0⟩ := cell2 HB4.out m0 hlt
 have f1 := q0
 have e1 := cell3 q0 qz
 have f2 := q1
 have e2 := cell3 q1 qz
 obtain ⟨f3, e3⟩ := cell2 HB4.out z2 hF3
 obtain ⟨f4, e4⟩ := cell2 HB4.out x0 hI3
 obtain ⟨f5, e5⟩ := cell2 HB4.out x1 hI3
 obtain ⟨f6, e6⟩ := cell2 HB4.out x2 hI3
 obtain ⟨f7, e7⟩ := cell2 HB4.out x3 hI3
 obtain ⟨f8, e8⟩ := cell2 HB4.out x4 hI3
 have hmz : mb < W4.heap.size := by omega
 have hFz : (ad.add (a0.f * 3)).block < W4.heap.size := by omega
 have hIz : (adI.add (pc * 5)).block < W4.heap.size := by omega
 clear x0 x1 x2 x3 x4 z2 m0 q0 q1
 go_region
 clear e0 e1 e2 e3 e4 e5 e6 e7 e8 f0 f1 f2 f3 f4 f5 f6 f7 f8
 obtain ⟨W5, hW5⟩ : ∃ W, W = (W4.alloc (.cells #[.int .i64 23, .int .i64 (a : Int), .int .i64 (b : Int), .int .i64 (c : Int), .int .u64 imm] 50)).drew := ⟨_, rfl⟩
 obtain ⟨g5, hg5⟩ : ∃ g, g = W4.heap.size := ⟨_, rfl⟩
 rw [← hW5, ← hg5]
 have hb5 : Below W4.heap.size W4 W5 := by rw [hW5]; exact (bR.alloc nL _).drew
 have HK5 : Hid (Blk W5 g5 50 #[.int .i64 23, .int .i64 (a : Int), .int .i64 (b : Int), .int .i64 (c : Int), .int .u64 imm]) := hQ (by rw [hW5, hg5]; exact (Blk.new _ _ _).drew)
 have HK4b := hQ (HK4.out.after hb5)
 have HO5 := hQ (own_keep HO4.out hb5 nL)
 have HB5 : Hid (Below W1.heap.size W1 W5) := hQ (HB4.out.trans (hb5.mono HB4.out.size))
 have hg45 : g4 < g5 := by rw [hg5]; exact qz
 clear hW5 hb5 hg5 HK4 HO4 HB4 qz hz14
 have m26' := (HB5.out.cell (p := ⟨mb, 26, none⟩) hlt).trans m26
 have mf26 := (HM.out.after HB5.out).blk.frozen 26
 obtain ⟨q0, q1, q2, q3, f0, f1, f2, f3, qz⟩ := HK4b.out.c4
 obtain ⟨x0, x1, x2, x3, x4, -, -, -, -, -, xz⟩ := HK5.out.c5
 have hg4m : ¬ g4 = mb := by omega
 have hmg4 : ¬ mb = g4 := by omega
 have hg54 : ¬ g5 = g4 := by omega
 have hg5m : ¬ g5 = mb := by omega
 have hlt5 : mb < W5.heap.size := by omega
 have hstI : (s.steps : Int) ≤ 1000000 := by omega
 have hst0 : (0 : Int) ≤ (s.steps : Int) := by omega
 clear hmz hFz hIz hF3 hI3 m26
 go_upto_region 6 with (fail)
 obtain ⟨W6, hW6⟩ : ∃ W, W = (W5.setCell ⟨mb, 26, none⟩ (.int .i64 ((s.steps : Int) + 1))).setCell ⟨g4, 1, none⟩ (.int .i64 ((pc : Int) + 1)) := ⟨_, rfl⟩
 rw [← hW6]
 have hg41 : W1.heap.size ≤ g4 := by omega
 obtain ⟨b1, b2, b3, b4, b5⟩ := mid6 HB5.out HM.out HK4b.out HK5.out HO5.out hg41 hgg4 hg45 hW6
 have HMB6 := hQ b1
 have HK46 := hQ b2
 have HK56 := hQ b3
 have HO6 := hQ b4
 have HG6 := hQ b5
 clear b1 b2 b3 b4 b5
 clear hW6 HK5 HK4b HO5 HB5 m26' mf26 q0 q1 q2 q3 f0 f1 f2 f3 qz x0 x1 x2 x3 x4 xz hlt5 hstI hst0
 obtain ⟨q0, q1, q2, q3, f0, f1, f2, f3, qz⟩ := HK46.out.c4
 obtain ⟨x0, x1, x2, x3, x4, -, -, -, -, -, xz⟩ := HK56.out.c5
 have hlt6 : mb < W6.heap.size := HMB6.out.lt
 go_upto_region 12 with (fail)
 have HMB7 := HMB6
 have HK47 := HK46
 have HK57 := HK56
 have HO7 := HO6
 have HG7 := HG6
 clear HMB6 HK46 HK56 HO6 HG6 q0 q1 q2 q3 f0 f1 f2 f3 qz x0 x1 x2 x3 x4 xz hlt6
 generalize W6 = W7 at *
 obtain ⟨np, hnp⟩ : ∃ q : Nat, q = pc + 1 := ⟨_, rfl⟩
 rw [← hnp] at HK47
 have HNP := hQ hnp
 clear hnp
 obtain ⟨Sl7, d5, Ar7, d6, r0, r1, r2, r3, rf0, rf1, rf2, rf3, -⟩ := row4 HO7.out HVX.out rfl HT.out HA0.out
 obtain ⟨q0, q1, q2, q3, -, -, -, -, qz⟩ := HK47.out.c4
 have m17 : W7.cell? ⟨mb, 17, none⟩ = some (.slice (some adA) s.acts.length ca) := HMB7.out.cell 17
 rw [HT.out] at m17
 have mf := HMB7.out.frozen 17
 have hlt7 : mb < W7.heap.size := HMB7.out.lt
 have hgz7 : g < W7.heap.size := by omega
 have hgm : ¬ g = mb := by omega
 have hmg : ¬ mb = g := by omega
 go_upto_region 14 with (fail)
 clear r0 r1 r2 r3 rf0 rf1 rf2 rf3 q0 q1 q2 q3 qz m17 mf hlt7
 obtain ⟨W8, hW8⟩ : ∃ W, W = ((((W7.setCell ⟨g, t * 4, none⟩ (.int .i64 (a0.f : Int))).setCell ⟨g, t * 4 + 1, none⟩ (.int .i64 (np : Int))).setCell ⟨g, t * 4 + 2, none⟩ (.slice Sl6 a0.ss.length d3)).setCell ⟨g, t * 4 + 3, none⟩ (.slice Ar6 a0.aa.length d4)).setCell ⟨mb, 17, none⟩ (.slice (some ⟨g, 0, none⟩) (t + 1) cap) := ⟨_, rfl⟩
 rw [← hW8]
 obtain ⟨KM, hK, b1, b2, b3, b4, b5, b6⟩ := fin8 HM.out HG7.out HMB7.out HRX.out HVX.out HO7.out HT.out HA0.out HCS.out HCA.out HKK.out HIN.out HK57.out hg5m (by omega) hW8
 have HM8 := hQ b1
 have HG8 := hQ b2
 have HIN8 := hQ b3
 have HK58 := hQ b4
 have HKT := hQ b5
 have HKR := hQ b6
 rw [HNP.out, HPCE.out, HA0.out] at hK
 have HK := hQ hK
 clear b1 b2 b3 b4 b5 b6 hW8 hK HMB7 HK47 HK57 HO7 HG7 HCS HCA HKK hg4m hmg4 hg54 hgg4 hg45 hg41 HRX HVX HO1 hRD hgz7
 obtain ⟨x0, x1, x2, x3, x4, -, -, -, -, -, xz⟩ := HK58.out.c5
 obtain ⟨vs8, hrw, hv8⟩ := HM8.out.acts
 rw [HKT.out] at hrw
 have hcap8 : t + 1 ≤ cap := by have := HM8.out.caps.1; rw [HKT.out] at this; exact this
 have HRT : Hid (Reads W8 W8.heap.size 4 (some ⟨g, 0, none⟩) t (vs8.take (t * 4))) := hQ (Reads.take_ hrw.1 (Nat.le_succ t))
 have HO8 : Hid (∀ u ∈ vs8.take (t * 4), u.oneCell' = true) := hQ (fun u hu => SVx.one hv8 (by rw [HKT.out]; exact hrw.1.1) u (List.mem_of_mem_take hu))
 have HV8 := hQ (hv8.take_ t)
 have m17 := HM8.out.cells.2.1
 rw [HKT.out] at m17
 have hlt8 : mb < W8.heap.size := HM8.out.blk.lt
 have hcapi : (t : Int) ≤ (cap : Int) := by omega
 have htl : (t : Int) ≤ (t : Int) + 1 := by omega
 clear hrw hv8
 go_upto_region 26 with (at_builtin; refine wpList_append_any _ rfl (.const (.slice none 0 0)) (.tmp 133) _ rfl W8.heap.size 100 i0 _ 4 64 Tryd.underlying81 hi0 hz0 hz1 hz2 rfl (by omega) (.slice none 0 0) 0 [] rfl (World.ownsRow_nil _ _ _ _) _ (some ⟨g, 0, none⟩) t cap (vs8.take (t * 4)) rfl HRT.out HO8.out (by unfold maxLen; omega) (by omega) nL ?_; intro o1 w9 own9' hg9' hat9'; have own9 : w9.ownsRow W8.heap.size 100 4 o1 t (vs8.take (t * 4)) := (by simpa using own9'); obtain ⟨A9, c9, rfl, -⟩ := own_form own9; have b9 : Below W8.heap.size W8 w9 := below_append bR (World.ownsRow_nil W8 W8.heap.size 100 4) hg9' nL (by simp); have m17w := (HM8.out.after b9).cells.2.1; have mf := (HM8.out.after b9).blk.frozen 17; have hlt9 := (HM8.out.after b9).blk.lt; rw [HKT.out] at m17w)
 have hl9 : (KM.acts.take t).length = t := by rw [List.length_take, HKT.out]; omega
 have hm9 := HM8.out.restack b9 (As' := A9) (ca' := c9) (acts' := KM.acts.take t) ⟨vs8.take (t * 4), by rw [hl9]; exact (Rx.of_own own9).more hlt8 nL, (HV8.out.keep (Kp.of_below b9 nL)).more nL b9.size⟩ (by rw [hl9]; exact (own_cap own9).2)
 rw [hl9] at hm9
 obtain ⟨W9, hW9⟩ : ∃ W, W = w9.setCell ⟨mb, 17, none⟩ (.slice A9 t c9) := ⟨_, rfl⟩
 rw [← hW9] at hm9 ⊢
 have HG9 : Hid (W1.grownBy W9 (some mb)) := hQ (by rw [hW9]; exact grownBy_trans HG8.out (grownBy_trans (grownBy_of_below b9 _) (grown_mb _ _ _ _)))
 have HM9 := hQ hm9
 have HIN9 := hQ (HIN.out.grown HG9.out hlt)
 clear hm9 hW9 own9 own9' hg9' hat9' b9 m17w mf hlt9 m17 x0 x1 x2 x3 x4 xz
 have htz : ¬ (t : Int) = 0 := by omega
 go_wp2
 go_end0
 have hr : ({ KM with acts := KM.acts.take t } : Sx8) = RES := by rw [HK.out]; exact HRES.out
 have hm := HM9.out
 rw [hr] at hm
 exact ⟨rfl, HG9.out, iv, _, _, _, _, hm, by rw [← hr]; show InX _ _ _ KM.inp; rw [HKR.out.2.1]; exact HIN9.out⟩
theorem sst_ret0 (W1 : World) (a b c : Nat) (imm : Int) (hr8 : s.regs.length = 8) (h : SAt W1 mb (.slice (some ad) p.length cp) iv As ca At ct s) (hfx : Fx W1 0 mb (some ad) p) (hin : InX W1 mb iv s.inp) {t : Nat} (ht : s.acts.length = t + 1) (ht6 : t ≤ 1000000) (hst : s.steps ≤ 1000000) (hpc6 : (s.acts.getD t As8.z).pc ≤ 1000000) (hf : (s.acts.getD t As8.z).f < p.length) (hp : p.length ≤ 1000) (hpc : (s.acts.getD t As8.z).pc < (p.getD (s.acts.getD t As8.z).f Fn.z).code.length) (hx : (p.getD (s.acts.getD t As8.z).f Fn.z).code.getD (s.acts.getD t As8.z).pc Ins.z = ⟨23, a, b, c, imm⟩) (ht00 : t = 0) :
 Calls Tryd.prog 36 #[.pointer (some ⟨mb, 0, none⟩)] W1 (StD mb (.slice (some ad) p.length cp) (({ (kS s t ((s.acts.getD t As8.z).pc + 1)) with acts := [], res := sg (kS s t ((s.acts.getD t As8.z).pc + 1)) 0 } : Sx8).stop 0) W1) := by
 generalize hres : ({ (kS s t ((s.acts.getD t As8.z).pc + 1)) with acts := [], res := sg (kS s t ((s.acts.getD t As8.z).pc + 1)) 0 } : Sx8).stop 0 = RES
 have HRES := hQ hres
 clear hres
 have HT0 := hQ ht00
 clear ht00
 obtain ⟨i0, hi0, hz0, hz1, hz2⟩ := info_parts info_ract
 obtain ⟨vs, hrx, hvx⟩ := h.acts
 obtain ⟨adA, Sl, c1, Ar, c2, rfl, hA1, hA2, y0, y1, y2, y3, hcs, hca, hk1, hk2⟩ := h.act_at (i := t) (by omega)
 obtain ⟨ad', Fs, cf, Ai, ci, e', hbl, z0, z1, z2, -, -, hsx, hnx, hsl, hcl⟩ := hfx.whole hf
 obtain rfl : ad = ad' := by injection e'
 obtain ⟨a0, ha0⟩ : ∃ a0, a0 = (s.acts.getD t As8.z) := ⟨_, rfl⟩
 rw [← ha0] at y0 y1 y2 y3 hcs hca hk1 hk2 z0 z1 z2 hf hsx hsl hnx hcl hpc hpc6 hx
 obtain ⟨fn, hfn⟩ : ∃ fn, fn = p.getD a0.f Fn.z := ⟨_, rfl⟩
 rw [← hfn] at z0 z1 z2 hsx hsl hnx hcl hpc hx
 obtain ⟨adI, hAI, hIb, x0, x1, x2, x3, x4⟩ := hnx.whole hpc
 subst hAI
 rw [hx] at x0 x1 x2 x3 x4
 dsimp only at x0 x1 x2 x3 x4
 obtain ⟨pc, hpce⟩ : ∃ q, q = a0.pc := ⟨_, rfl⟩
 rw [← hpce] at y1 hpc hpc6 x0 x1 x2 x3 x4 hx
 obtain ⟨nf, hnf⟩ : ∃ q, q = fn.code.length := ⟨_, rfl⟩
 rw [← hnf] at z2 hpc hcl
 have HPCE := hQ hpce
 have HX := hQ hx
 have HA0 := hQ ha0
 have HFN := hQ hfn
 have HNF := hQ hnf
 have HRX := hQ hrx
 have HVX := hQ hvx
 have HO1 := hQ (SVx.one hvx hrx.1.1)
 have HM := hQ h
 have HT := hQ ht
 have HIN := hQ hin
 have HFX := hQ hfx
 obtain ⟨m0, m17, -, -, -, -, m26, hlt⟩ := h.cells
 have hRD : Hid (Reads W1 W1.heap.size 4 (some adA) (t + 1) vs) := hQ (by rw [← ht]; exact hrx.1)
 rw [ht] at m17
 have hA3 : (adA.add (t * 4)).block < W1.heap.size := by rw [block_of_add]; exact hA2
 have hF3 : (ad.add (a0.f * 3)).block < W1.heap.size := by rw [block_of_add]; omega
 have hI3 : (adI.add (pc * 5)).block < W1.heap.size := by rw [block_of_add]; omega
 have ht0 : (0 : Int) ≤ (t : Int) := by omega
 have hti : (t : Int) ≤ 1000000 := by omega
 have hfi : (a0.f : Int) < (p.length : Int) := by omega
 have hf0 : (0 : Int) ≤ (a0.f : Int) := by omega
 have hpi : (pc : Int) < (nf : Int) := by omega
 have hp0 : (0 : Int) ≤ (pc : Int) := by omega
 have hpi6 : (pc : Int) ≤ 1000000 := by omega
 have hnl : (nf : Int) ≤ 9223372036854775807 := by have := hcl.1; unfold maxLen at this; omega
 clear h hfx hin hrx hvx ha0 hfn hnf hpce hcs hca hsx hnx hx hcl hsl z0 z1 e' hk1 hk2 hA1 hA2 y0 y1 y2 y3
 go_enter Tryd.func36, Tryd.ntmps36
 go_upto_region 2 with (at_builtin; refine wpList_append_any _ rfl (.const (.slice none 0 0)) (.tmp 16) _ rfl W1.heap.size 100 i0 _ 4 64 Tryd.underlying81 hi0 hz0 hz1 hz2 rfl (by omega) (.slice none 0 0) 0 [] rfl (World.ownsRow_nil _ _ _ _) _ (some adA) (t + 1) ca vs rfl hRD.out HO1.out (by unfold maxLen; omega) (by omega) nL ?_; intro o1 w3 own3' hg3' hat3'; have own3 : w3.ownsRow W1.heap.size 100 4 o1 (t + 1) vs := (by simpa using own3'); obtain ⟨g, cap, rfl, hg, hglt⟩ := own3.form (by omega))
 have b3 : Below W1.heap.size W1 w3 := below_append bR (World.ownsRow_nil W1 W1.heap.size 100 4) hg3' nL (by simp)
 obtain ⟨Sl6, d3, Ar6, d4, r0, r1, r2, r3, -, -, -, -, w1, w2, w4, w5⟩ := row4 own3 HVX.out rfl HT.out HA0.out
 have HCS := hQ w1
 have HCA := hQ w2
 have HKK := hQ (And.intro w4 w5)
 rw [← HPCE.out] at r1
 clear w1 w2 w4 w5
 have HO3 := hQ own3
 have HB3 := hQ b3
 clear own3 own3' hg3' hat3' b3 m17
 go_upto_region 3 with (fail)
 obtain ⟨W4, hW4⟩ : ∃ W, W = w3.alloc (.cells #[.int .i64 (a0.f : Int), .int .i64 (pc : Int), .slice Sl6 a0.ss.length d3, .slice Ar6 a0.aa.length d4] 100) := ⟨_, rfl⟩
 obtain ⟨g4, hg4⟩ : ∃ g, g = w3.heap.size := ⟨_, rfl⟩
 rw [← hW4, ← hg4]
 have hb4 : Below w3.heap.size w3 W4 := by rw [hW4]; exact bR.alloc nL _
 have HK4 : Hid (Blk W4 g4 100 #[.int .i64 (a0.f : Int), .int .i64 (pc : Int), .slice Sl6 a0.ss.length d3, .slice Ar6 a0.aa.length d4]) := hQ (by rw [hW4, hg4]; exact Blk.new _ _ _)
 have HB4 : Hid (Below W1.heap.size W1 W4) := hQ (HB3.out.trans (hb4.mono HB3.out.size))
 have HO4 := hQ (own_keep HO3.out hb4 nL)
 have hgg4 : g < g4 := by omega
 clear hW4 hb4 hg4 HB3 HO3 r0 r1 r2 r3 hglt
 obtain ⟨q0, q1, -, -, -, -, -, -, qz⟩ := HK4.out.c4
 have hz14 : W1.heap.size ≤ W4.heap.size := HB4.out.size
 obtain ⟨f0, e0⟩ := cell2 HB4.out m0 hlt
 have f1 := q0
 have e1 := cell3 q0 qz
 have f2 := q1
 have e2 := cell3 q1 qz
 obtain ⟨f3, e3⟩ := cell2 HB4.out z2 hF3
 obtain ⟨f4, e4⟩ := cell2 HB4.out x0 hI3
 obtain ⟨f5, e5⟩ := cell2 HB4.out x1 hI3
 obtain ⟨f6, e6⟩ := cell2 HB4.out x2 hI3
 obtain ⟨f7, e7⟩ := cell2 HB4.out x3 hI3
 obtain ⟨f8, e8⟩ := cell2 HB4.out x4 hI3
 have hmz : mb < W4.heap.size := by omega
 have hFz : (ad.add (a0.f * 3)).block < W4.heap.size := by omega
 have hIz : (adI.add (pc * 5)).block < W4.heap.size := by omega
 clear x0 x1 x2 x3 x4 z2 m0 q0 q1
 go_region
 clear e0 e1 e2 e3 e4 e5 e6 e7 e8 f0 f1 f2 f3 f4 f5 f6 f7 f8
 obtain ⟨W5, hW5⟩ : ∃ W, W = (W4.alloc (.cells #[.int .i64 23, .int .i64 (a : Int), .int .i64 (b : Int), .int .i64 (c : Int), .int .u64 imm] 50)).drew := ⟨_, rfl⟩
 obtain ⟨g5, hg5⟩ : ∃ g, g = W4.heap.size := ⟨_, rfl⟩
 rw [← hW5, ← hg5]
 have hb5 : Below W4.heap.size W4 W5 := by rw [hW5]; exact (bR.alloc nL _).drew
 have HK5 : Hid (Blk W5 g5 50 #[.int .i64 23, .int .i64 (a : Int), .int .i64 (b : Int), .int .i64 (c : Int), .int .u64 imm]) := hQ (by rw [hW5, hg5]; exact (Blk.new _ _ _).drew)
 have HK4b := hQ (HK4.out.after hb5)
 have HO5 := hQ (own_keep HO4.out hb5 nL)
 have HB5 : Hid (Below W1.heap.size W1 W5) := hQ (HB4.out.trans (hb5.mono HB4.out.size))
 have hg45 : g4 < g5 := by rw [hg5]; exact qz
 clear hW5 hb5 hg5 HK4 HO4 HB4 qz hz14
 have m26' := (HB5.out.cell (p := ⟨mb, 26, none⟩) hlt).trans m26
 have mf26 := (HM.out.after HB5.out).blk.frozen 26
 obtain ⟨q0, q1, q2, q3, f0, f1, f2, f3, qz⟩ := HK4b.out.c4
 obtain ⟨x0, x1, x2, x3, x4, -, -, -, -, -, xz⟩ := HK5.out.c5
 have hg4m : ¬ g4 = mb := by omega
 have hmg4 : ¬ mb = g4 := by omega
 have hg54 : ¬ g5 = g4 := by omega
 have hg5m : ¬ g5 = mb := by omega
 have hlt5 : mb < W5.heap.size := by omega
 have hstI : (s.steps : Int) ≤ 1000000 := by omega
 have hst0 : (0 : Int) ≤ (s.steps : Int) := by omega
 clear hmz hFz hIz hF3 hI3 m26
 go_upto_region 6 with (fail)
 obtain ⟨W6, hW6⟩ : ∃ W, W = (W5.setCell ⟨mb, 26, none⟩ (.int .i64 ((s.steps : Int) + 1))).setCell ⟨g4, 1, none⟩ (.int .i64 ((pc : Int) + 1)) := ⟨_, rfl⟩
 rw [← hW6]
 have hg41 : W1.heap.size ≤ g4 := by omega
 obtain ⟨b1, b2, b3, b4, b5⟩ := mid6 HB5.out HM.out HK4b.out HK5.out HO5.out hg41 hgg4 hg45 hW6
 have HMB6 := hQ b1
 have HK46 := hQ b2
 have HK56 := hQ b3
 have HO6 := hQ b4
 have HG6 := hQ b5
 clear b1 b2 b3 b4 b5
 clear hW6 HK5 HK4b HO5 HB5 m26' mf26 q0 q1 q2 q3 f0 f1 f2 f3 qz x0 x1 x2 x3 x4 xz hlt5 hstI hst0
 obtain ⟨q0, q1, q2, q3, f0, f1, f2, f3, qz⟩ := HK46.out.c4
 obtain ⟨x0, x1, x2, x3, x4, -, -, -, -, -, xz⟩ := HK56.out.c5
 have hlt6 : mb < W6.heap.size := HMB6.out.lt
 go_upto_region 12 with (fail)
 have HMB7 := HMB6
 have HK47 := HK46
 have HK57 := HK56
 have HO7 := HO6
 have HG7 := HG6
 clear HMB6 HK46 HK56 HO6 HG6 q0 q1 q2 q3 f0 f1 f2 f3 qz x0 x1 x2 x3 x4 xz hlt6
 generalize W6 = W7 at *
 obtain ⟨np, hnp⟩ : ∃ q : Nat, q = pc + 1 := ⟨_, rfl⟩
 rw [← hnp] at HK47
 have HNP := hQ hnp
 clear hnp
 obtain ⟨Sl7, d5, Ar7, d6, r0, r1, r2, r3, rf0, rf1, rf2, rf3, -⟩ := row4 HO7.out HVX.out rfl HT.out HA0.out
 obtain ⟨q0, q1, q2, q3, -, -, -, -, qz⟩ := HK47.out.c4
 have m17 : W7.cell? ⟨mb, 17, none⟩ = some (.slice (some adA) s.acts.length ca) := HMB7.out.cell 17
 rw [HT.out] at m17
 have mf := HMB7.out.frozen 17
 have hlt7 : mb < W7.heap.size := HMB7.out.lt
 have hgz7 : g < W7.heap.size := by omega
 have hgm : ¬ g = mb := by omega
 have hmg : ¬ mb = g := by omega
 go_upto_region 14 with (fail)
 clear r0 r1 r2 r3 rf0 rf1 rf2 rf3 q0 q1 q2 q3 qz m17 mf hlt7
 obtain ⟨W8, hW8⟩ : ∃ W, W = ((((W7.setCell ⟨g, t * 4, none⟩ (.int .i64 (a0.f : Int))).setCell ⟨g, t * 4 + 1, none⟩ (.int .i64 (np : Int))).setCell ⟨g, t * 4 + 2, none⟩ (.slice Sl6 a0.ss.length d3)).setCell ⟨g, t * 4 + 3, none⟩ (.slice Ar6 a0.aa.length d4)).setCell ⟨mb, 17, none⟩ (.slice (some ⟨g, 0, none⟩) (t + 1) cap) := ⟨_, rfl⟩
 rw [← hW8]
 obtain ⟨KM, hK, b1, b2, b3, b4, b5, b6⟩ := fin8 HM.out HG7.out HMB7.out HRX.out HVX.out HO7.out HT.out HA0.out HCS.out HCA.out HKK.out HIN.out HK57.out hg5m (by omega) hW8
 have HM8 := hQ b1
 have HG8 := hQ b2
 have HIN8 := hQ b3
 have HK58 := hQ b4
 have HKT := hQ b5
 have HKR := hQ b6
 rw [HNP.out, HPCE.out, HA0.out] at hK
 have HK := hQ hK
 clear b1 b2 b3 b4 b5 b6 hW8 hK HMB7 HK47 HK57 HO7 HG7 HCS HCA HKK hg4m hmg4 hg54 hgg4 hg45 hg41 HRX HVX HO1 hRD hgz7
 obtain ⟨x0, x1, x2, x3, x4, -, -, -, -, -, xz⟩ := HK58.out.c5
 obtain ⟨vs8, hrw, hv8⟩ := HM8.out.acts
 rw [HKT.out] at hrw
 have hcap8 : t + 1 ≤ cap := by have := HM8.out.caps.1; rw [HKT.out] at this; exact this
 have HRT : Hid (Reads W8 W8.heap.size 4 (some ⟨g, 0, none⟩) t (vs8.take (t * 4))) := hQ (Reads.take_ hrw.1 (Nat.le_succ t))
 have HO8 : Hid (∀ u ∈ vs8.take (t * 4), u.oneCell' = true) := hQ (fun u hu => SVx.one hv8 (by rw [HKT.out]; exact hrw.1.1) u (List.mem_of_mem_take hu))
 have HV8 := hQ (hv8.take_ t)
 have m17 := HM8.out.cells.2.1
 rw [HKT.out] at m17
 have hlt8 : mb < W8.heap.size := HM8.out.blk.lt
 have hcapi : (t : Int) ≤ (cap : Int) := by omega
 have htl : (t : Int) ≤ (t : Int) + 1 := by omega
 clear hrw hv8
 go_upto_region 26 with (at_builtin; refine wpList_append_any _ rfl (.const (.slice none 0 0)) (.tmp 133) _ rfl W8.heap.size 100 i0 _ 4 64 Tryd.underlying81 hi0 hz0 hz1 hz2 rfl (by omega) (.slice none 0 0) 0 [] rfl (World.ownsRow_nil _ _ _ _) _ (some ⟨g, 0, none⟩) t cap (vs8.take (t * 4)) rfl HRT.out HO8.out (by unfold maxLen; omega) (by omega) nL ?_; intro o1 w9 own9' hg9' hat9'; have own9 : w9.ownsRow W8.heap.size 100 4 o1 t (vs8.take (t * 4)) := (by simpa using own9'); obtain ⟨A9, c9, rfl, -⟩ := own_form own9; have b9 : Below W8.heap.size W8 w9 := below_append bR (World.ownsRow_nil W8 W8.heap.size 100 4) hg9' nL (by simp); have m17w := (HM8.out.after b9).cells.2.1; have mf := (HM8.out.after b9).blk.frozen 17; have hlt9 := (HM8.out.after b9).blk.lt; rw [HKT.out] at m17w)
 have hl9 : (KM.acts.take t).length = t := by rw [List.length_take, HKT.out]; omega
 have hm9 := HM8.out.restack b9 (As' := A9) (ca' := c9) (acts' := KM.acts.take t) ⟨vs8.take (t * 4), by rw [hl9]; exact (Rx.of_own own9).more hlt8 nL, (HV8.out.keep (Kp.of_below b9 nL)).more nL b9.size⟩ (by rw [hl9]; exact (own_cap own9).2)
 rw [hl9] at hm9
 obtain ⟨W9, hW9⟩ : ∃ W, W = w9.setCell ⟨mb, 17, none⟩ (.slice A9 t c9) := ⟨_, rfl⟩
 rw [← hW9] at hm9 ⊢
 have HG9 : Hid (W1.grownBy W9 (some mb)) := hQ (by rw [hW9]; exact grownBy_trans HG8.out (grownBy_trans (grownBy_of_below b9 _) (grown_mb _ _ _ _)))
 have HM9 := hQ hm9
 have HIN9 := hQ (HIN.out.grown HG9.out hlt)
 clear hm9 hW9 own9 own9' hg9' hat9' b9 m17w mf hlt9 m17 x0 x1 x2 x3 x4 xz
 have htz : (t : Int) = 0 := by have := HT0.out; omega
 have HE := hQ (send_any W9 0 HM9.out)
 go_wp2_with fail
 refine HE.out.mono ?_
 rintro e w10 ⟨rfl, hm10, hg10⟩
 obtain ⟨y0, hy0⟩ : ∃ y, y = ({ KM with acts := KM.acts.take t } : Sx8).res.1 := ⟨_, rfl⟩
 have m23 : w10.cell? ⟨mb, 23, none⟩ = some (.int .u64 (({ KM with acts := KM.acts.take t } : Sx8).res.1 : Int)) := hm10.blk.cell 23
 have m24 : w10.cell? ⟨mb, 24, none⟩ = some (.int .u64 (({ KM with acts := KM.acts.take t } : Sx8).res.2 : Int)) := hm10.blk.cell 24
 have mf23 := hm10.blk.frozen 23
 have mf24 := hm10.blk.frozen 24
 have hlt10 := hm10.blk.lt
 obtain ⟨v1, hv1⟩ : ∃ v, v = (sg KM 0).1 := ⟨_, rfl⟩
 obtain ⟨v2, hv2⟩ : ∃ v, v = (sg KM 0).2 := ⟨_, rfl⟩
 have r0 : w10.cell? ⟨mb, 1, none⟩ = some (.int .u64 (v1 : Int)) := by rw [hv1]; exact (sreg_cell hm10.blk (r := 0) (by omega)).1
 have r1 : w10.cell? ⟨mb, 2, none⟩ = some (.int .u64 (v2 : Int)) := by rw [hv2]; exact (sreg_cell hm10.blk (r := 0) (by omega)).2
 have HM10 := hQ hm10
 have HG10 := hQ (grownBy_trans HG9.out hg10)
 have HV1 := hQ hv1
 have HV2 := hQ hv2
 clear hm10 hg10 hy0 hv1 hv2
 go_wp2
 go_end0
 have hm := (HM10.out.mset 23 (.int .u64 (v1 : Int)) { ({ KM with acts := KM.acts.take t } : Sx8).stop 0 with res := (v1, KM.res.2) } rfl rfl rfl).mset 24 (.int .u64 (v2 : Int)) { ({ KM with acts := KM.acts.take t } : Sx8).stop 0 with res := (v1, v2) } rfl rfl rfl
 have hr : ({ ({ KM with acts := KM.acts.take t } : Sx8).stop 0 with res := (v1, v2) } : Sx8) = RES := by
  rw [← HRES.out, ← HK.out, HV1.out, HV2.out, HT0.out]
  rfl
 rw [hr] at hm
 have hgr : w10.grownBy ((w10.setCell ⟨mb, 23, none⟩ (.int .u64 (v1 : Int))).setCell ⟨mb, 24, none⟩ (.int .u64 (v2 : Int))) (some mb) := grownBy_trans (grown_mb _ _ _ _) (grown_mb _ _ _ _)
 exact ⟨rfl, grownBy_trans HG10.out hgr, iv, _, _, _, _, hm, by rw [← hr]; show InX _ _ _ KM.inp; rw [HKR.out.2.1]; exact HIN.out.grown (grownBy_trans HG10.out hgr) hlt⟩
end
end Go.Proofs.YtdijeijbcoeopaaDoor.pm
