/- The reference's machine: memory. Printed by mkqm.py. -/
import Derived.Test.YtdijeijbcoeopaaDoorGQm
import Derived.Test.YtdijeijbcoeopaaDoorGVa
import Derived.Test.YtdijeijbcoeopaaDoorRg
import Derived.StillTailTactics
set_option linter.unusedVariables false
set_option maxRecDepth 10000
set_option maxHeartbeats 8000000
namespace Go.Proofs.YtdijeijbcoeopaaDoor.pm
open Go.RowKit
section
variable {mb ca ct cp : Nat} {iv : Value} {As At : Option Addr} {s : Sx8} {p : List Fn} {ad : Addr}
theorem smem_st (W1 : World) (a b : Nat) (c imm : Int) (hr8 : s.regs.length = 8) (h : SAt W1 mb (.slice (some ad) p.length cp) iv As ca At ct s) (hfx : Fx W1 0 mb (some ad) p) {t : Nat} (ht : s.acts.length = t + 1) (ht6 : t ≤ 1000000) (hf : (s.acts.getD t As8.z).f < p.length) (hp : p.length ≤ 1000) (ha : a < (s.acts.getD t As8.z).ss.length) (hb : b < 8) (hsl0 : (s.acts.getD t As8.z).ss.length ≤ 1000) (hz9 : a < (p.getD (s.acts.getD t As8.z).f Fn.z).slots.length ∧ -9223372036854775808 ≤ ((p.getD (s.acts.getD t As8.z).f Fn.z).slots.getD a (0, 0)).1 ∧ ((p.getD (s.acts.getD t As8.z).f Fn.z).slots.getD a (0, 0)).1 ≤ 9223372036854775807 ∧ (sg s b).1 < 18446744073709551616 ∧ (sg s b).2 < 18446744073709551616) :
 Calls Tryd.prog 46 #[.pointer (some ⟨mb, 0, none⟩), .agg #[.int .i64 16, .int .i64 (a : Int), .int .i64 (b : Int), .int .i64 c, .int .u64 imm]] W1 (MemD mb (.slice (some ad) p.length cp) iv At ct (s.putS a (vcut (sg s b) ((p.getD (s.acts.getD t As8.z).f Fn.z).slots.getD a (0, 0)).1)) W1) := by
 obtain ⟨i0, hi0, hz0, hz1, hz2⟩ := info_parts info_ract
 generalize hres : s.putS a (vcut (sg s b) ((p.getD (s.acts.getD t As8.z).f Fn.z).slots.getD a (0, 0)).1) = RES
 have HRES := hQ hres
 clear hres
 have HZ := hQ hz9
 clear hz9
 obtain ⟨adA, Sl, c1, Ar, c2, rfl, hA1, hA2, y0, y1, y2, y3, hcs, hca, hk1, hk2⟩ := h.act_at (i := t) (by omega)
 obtain ⟨ad', Fs, cf, Ai, ci, e', hbl, z0, z1, z2, -, -, hsx, -, hsl, -⟩ := hfx.whole hf
 obtain rfl : ad = ad' := by injection e'
 obtain ⟨a0, ha0⟩ : ∃ a0, a0 = (s.acts.getD t As8.z) := ⟨_, rfl⟩
 rw [← ha0] at y0 y1 y2 y3 hcs hca hk1 hk2 z0 z1 z2 hf hsx hsl ha hsl0
 obtain ⟨fn, hfn⟩ : ∃ fn, fn = p.getD a0.f Fn.z := ⟨_, rfl⟩
 rw [← hfn] at z0 z1 z2 hsx hsl
 have HA0 := hQ ha0
 have HFN := hQ hfn
 have HCS := hQ hcs
 have HCA := hQ hca
 have HSX := hQ hsx
 have HM := hQ h
 have HT := hQ ht
 obtain ⟨m0, m17, -, -, m20, -, -, hlt⟩ := h.cells
 rw [ht] at m17
 obtain ⟨W2, hW2⟩ : ∃ W, W = W1.alloc (.cells #[.int .i64 16, .int .i64 (a : Int), .int .i64 (b : Int), .int .i64 c, .int .u64 imm] 50) := ⟨_, rfl⟩
 obtain ⟨g3, hg3⟩ : ∃ g, g = W1.heap.size := ⟨_, rfl⟩
 have hb2 : Below W1.heap.size W1 W2 := by rw [hW2]; exact bR.alloc nL _
 have HK3 : Hid (Blk W2 g3 50 #[.int .i64 16, .int .i64 (a : Int), .int .i64 (b : Int), .int .i64 c, .int .u64 imm]) := hQ (by rw [hW2, hg3]; exact Blk.new _ _ _)
 have HW2 := hQ hW2
 have HG3 := hQ hg3
 have HB2 := hQ hb2
 obtain ⟨x0, x1, x2, x3, x4, -, -, -, -, -, xz⟩ := HK3.out.c5
 have m0' := (hb2.cell (p := ⟨mb, 0, none⟩) hlt).trans m0
 have m17' := (hb2.cell (p := ⟨mb, 17, none⟩) hlt).trans m17
 have hA3 : (adA.add (t * 4)).block < W1.heap.size := by rw [block_of_add]; exact hA2
 have hF3 : (ad.add (a0.f * 3)).block < W1.heap.size := by rw [block_of_add]; omega
 have y0' := (hb2.cell (p := adA.add (t * 4)) hA3).trans y0
 have y1' := (hb2.cell (p := ⟨(adA.add (t * 4)).block, (adA.add (t * 4)).off + 1, none⟩) hA3).trans y1
 have y2' := (hb2.cell (p := ⟨(adA.add (t * 4)).block, (adA.add (t * 4)).off + 2, none⟩) hA3).trans y2
 have y3' := (hb2.cell (p := ⟨(adA.add (t * 4)).block, (adA.add (t * 4)).off + 3, none⟩) hA3).trans y3
 have hs2 : W2.heap.size = W1.heap.size + 1 := by rw [hW2]; simp
 have hlt2 : mb < W2.heap.size := by omega
 have hA4 : (adA.add (t * 4)).block < W2.heap.size := by omega
 have ht0 : (0 : Int) ≤ (t : Int) := by omega
 have hti : (t : Int) ≤ 1000000 := by omega
 have hfi : (a0.f : Int) < (p.length : Int) := by omega
 have hf0 : (0 : Int) ≤ (a0.f : Int) := by omega
 clear h hfx ha0 hfn hcs hca hsx hW2 hg3 hb2 m0 m17 y0 y1 y2 y3 m20
 go_enter Tryd.func46, Tryd.ntmps46
 go_upto_region 1 with (fail)
 rw [← HW2.out, ← HG3.out]
 go_upto_region 3 with (fail)
 obtain ⟨W3, hW3⟩ : ∃ W, W = W2.alloc (.cells #[.int .i64 (a0.f : Int), .int .i64 (a0.pc : Int), .slice Sl a0.ss.length c1, .slice Ar a0.aa.length c2] 100) := ⟨_, rfl⟩
 rw [← hW3, ← hs2]
 obtain ⟨g6, hg6⟩ : ∃ g, g = W2.heap.size := ⟨_, rfl⟩
 rw [← hg6]
 have hb3 : Below W2.heap.size W2 W3 := by rw [hW3]; exact bR.alloc nL _
 have HK6 : Hid (Blk W3 g6 100 #[.int .i64 (a0.f : Int), .int .i64 (a0.pc : Int), .slice Sl a0.ss.length c1, .slice Ar a0.aa.length c2]) := hQ (by rw [hW3, hg6]; exact Blk.new _ _ _)
 have HK3b := hQ (HK3.out.after hb3)
 have HB3 : Hid (Below W1.heap.size W1 W3) := hQ (HB2.out.trans (hb3.mono HB2.out.size))
 have hs3 : W3.heap.size = g6 + 1 := by rw [hW3, hg6]; simp
 have hg63 : g3 < g6 := by rw [hg6]; exact xz
 clear x0 x1 x2 x3 x4 xz m0' m17' y0' y1' y2' y3' hW3 hb3 HK3 HB2 hg6 hs2
 have m0 := (HM.out.after HB3.out).cells.1
 obtain ⟨x0, -, -, -, -, -, -, -, xz⟩ := HK6.out.c4
 have z0' := (HB3.out.cell (p := ad.add (a0.f * 3)) hF3).trans z0
 have z1' := (HB3.out.cell (p := ⟨(ad.add (a0.f * 3)).block, (ad.add (a0.f * 3)).off + 1, none⟩) hF3).trans z1
 have z2' := (HB3.out.cell (p := ⟨(ad.add (a0.f * 3)).block, (ad.add (a0.f * 3)).off + 2, none⟩) hF3).trans z2
 have hF4 : (ad.add (a0.f * 3)).block < W3.heap.size := by have := HB3.out.size; omega
 have hmb3 : mb < W3.heap.size := by have := HB3.out.size; omega
 have g6z : g6 < W3.heap.size := by omega
 have e0 : ∀ o, (W3.alloc o).drew.cell? ⟨mb, 0, none⟩ = some (.slice (some ad) p.length cp) := fun o => (World.cell?_alloc_lt W3 o ⟨mb, 0, none⟩ hmb3).trans m0
 have e1 : ∀ o, (W3.alloc o).drew.cell? ⟨g6, 0, none⟩ = some (.int .i64 (a0.f : Int)) := fun o => (World.cell?_alloc_lt W3 o ⟨g6, 0, none⟩ g6z).trans x0
 have e2 : ∀ o, (W3.alloc o).drew.cell? (ad.add (a0.f * 3)) = some (.int .i64 fn.params) := fun o => (World.cell?_alloc_lt W3 o (ad.add (a0.f * 3)) hF4).trans z0'
 have e3 : ∀ o, (W3.alloc o).drew.cell? ⟨(ad.add (a0.f * 3)).block, (ad.add (a0.f * 3)).off + 1, none⟩ = some (.slice Fs fn.slots.length cf) := fun o => (World.cell?_alloc_lt W3 o ⟨(ad.add (a0.f * 3)).block, (ad.add (a0.f * 3)).off + 1, none⟩ hF4).trans z1'
 have e4 : ∀ o, (W3.alloc o).drew.cell? ⟨(ad.add (a0.f * 3)).block, (ad.add (a0.f * 3)).off + 2, none⟩ = some (.slice Ai fn.code.length ci) := fun o => (World.cell?_alloc_lt W3 o ⟨(ad.add (a0.f * 3)).block, (ad.add (a0.f * 3)).off + 2, none⟩ hF4).trans z2'
 go_region
 obtain ⟨W4, hW4⟩ : ∃ W, W = (W3.alloc (.cells #[.int .i64 fn.params, .slice Fs fn.slots.length cf, .slice Ai fn.code.length ci] 54)).drew := ⟨_, rfl⟩
 rw [← hW4]
 have hb4 : Below W3.heap.size W3 W4 := by rw [hW4]; exact (bR.alloc nL _).drew
 have HK7 : Hid (Blk W4 (g6 + 1) 54 #[.int .i64 fn.params, .slice Fs fn.slots.length cf, .slice Ai fn.code.length ci]) := hQ (by rw [hW4, ← hs3]; exact (Blk.new _ _ _).drew)
 have HK3 := hQ (HK3b.out.after hb4)
 have HK6b := hQ (HK6.out.after hb4)
 have hB4 := HB3.out.trans (hb4.mono HB3.out.size)
 have HB4 := hQ hB4
 have HM4 := hQ (HM.out.after hB4)
 have HCS4 := hQ ((HCS.out.keep (Kp.of_below hB4 nL)).more nL hB4.size)
 have HCA4 := hQ ((HCA.out.keep (Kp.of_below hB4 nL)).more nL hB4.size)
 have HSX4 := hQ (HSX.out.keep (Kp.of_below hB4 (by omega)))
 have hs4 : W3.heap.size < W4.heap.size := by have := HK7.out.lt; omega
 have hg3m : mb < g3 := by rw [HG3.out]; exact hlt
 generalize hg7 : g6 + 1 = g7 at *
 have hg67 : g6 < g7 := by omega
 have hg61 : W1.heap.size ≤ g6 := by have := HG3.out; omega
 clear hW4 hb4 hB4 HK6 HK3b HB3 HW2 HG3 m0 x0 xz z0 z1 z2 z0' z1' z2' hF4 hmb3 g6z e0 e1 e2 e3 e4 hs3 hs4 hF3 hlt2 hg7
 have HGw : Hid (W1.grownBy W4 (some mb)) := hQ (grownBy_of_below HB4.out _)
 have HK3w := HK3
 have HK6w := HK6b
 have HMBw := hQ HM4.out.blk
 have ha0 : (0 : Int) ≤ (a : Int) := by omega
 have hb0 : (0 : Int) ≤ (b : Int) := by omega
 obtain ⟨k0, k1, k2, -, -, -, -, -, -, -, kz⟩ := HK3w.out.c5
 have HCw := HCS4
 obtain ⟨j0, hj0, hj1, hj2, hj3⟩ := info_parts info_cell
 obtain ⟨q0, q1, q2, q3, f0, f1, f2, f3, qz⟩ := HK6w.out.c4
 have hq6 : g6 < W4.heap.size := qz
 have hmw : mb < W4.heap.size := HMBw.out.lt
 go_upto_region 12 with (at_builtin; refine wpList_append_any _ rfl (.const (.slice none 0 0)) (.tmp 61) _ rfl W4.heap.size 118 j0 _ 3 24 Tryd.underlying98 hj0 hj1 hj2 hj3 rfl (by omega) (.slice none 0 0) 0 [] rfl (World.ownsRow_nil _ _ _ _) _ Sl a0.ss.length c1 (a0.ss.flatMap cellV) rfl HCw.out.1 (cellV_one _) (by unfold maxLen; omega) (by omega) nL ?_; intro o1 w7 own7' hg7' hat7'; have own7 : w7.ownsRow W4.heap.size 118 3 o1 a0.ss.length (a0.ss.flatMap cellV) := (by simpa using own7'); obtain ⟨g, cap, rfl, hg, hglt⟩ := own7.form (by omega); have b7 : Below W4.heap.size W4 w7 := below_append bR (World.ownsRow_nil W4 W4.heap.size 118 3) hg7' nL (by simp); clear q0 q1 q2 q3 f0 f1 f2 f3 qz; obtain ⟨q0, q1, q2, q3, f0, f1, f2, f3, qz⟩ := (HK6w.out.after b7).c4)
 obtain ⟨W5, hW5⟩ : ∃ W, W = w7.setCell ⟨g6, 2, none⟩ (.slice (some ⟨g, 0, none⟩) a0.ss.length cap) := ⟨_, rfl⟩
 rw [← hW5]
 have HK6e : Hid (Blk W5 g6 100 #[.int .i64 (a0.f : Int), .int .i64 (a0.pc : Int), .slice (some ⟨g, 0, none⟩) a0.ss.length cap, .slice Ar a0.aa.length c2]) := hQ (by rw [hW5]; exact (HK6w.out.after b7).set_ 2 _)
 have HO5 : Hid (W5.ownsRow W4.heap.size 118 3 (.slice (some ⟨g, 0, none⟩) a0.ss.length cap) a0.ss.length (a0.ss.flatMap cellV)) := hQ (by rw [hW5]; exact own_far own7 ⟨g6, 2, none⟩ hq6 _)
 have HG5 : Hid (W1.grownBy W5 (some mb)) := hQ (by rw [hW5]; exact grownBy_set (grownBy_trans HGw.out (grownBy_of_below b7 _)) hg61 _)
 have HK3e : Hid (Blk W5 g3 50 #[.int .i64 16, .int .i64 (a : Int), .int .i64 (b : Int), .int .i64 c, .int .u64 imm]) := hQ (by rw [hW5]; exact (HK3w.out.after b7).far (p := ⟨g6, 2, none⟩) (by show g3 ≠ g6; omega) _)
 have HMB5 : Hid (Blk W5 mb 83 (rcs (.slice (some ad) p.length cp) iv (.slice (some adA) s.acts.length ca) (.slice At s.trace.length ct) s)) := hQ (by rw [hW5]; exact (HMBw.out.after b7).far (p := ⟨g6, 2, none⟩) (by show mb ≠ g6; omega) _)
 have HX5 : Hid (∀ (q : Nat) (ty : TypeId) (cs : Array Value), q ≠ g6 → Blk W4 q ty cs → Blk W5 q ty cs) := hQ (fun q ty cs hq h => by rw [hW5]; exact (h.after b7).far (p := ⟨g6, 2, none⟩) (by show q ≠ g6; exact hq) _)
 have hg5z : g < W5.heap.size := by rw [hW5]; simpa [World.setCell] using hglt
 have h6z : g6 < W5.heap.size := HK6e.out.lt
 have hg1 : W1.heap.size ≤ g := by have := HGw.out.size; omega
 have hg6g : g6 < g := by omega
 have hbase : mb + 1 ≤ W4.heap.size := hmw
 clear hW5 own7' hg7' hat7' own7 b7 q0 q1 q2 q3 f0 f1 f2 f3 qz hglt hq6
 have hai : (a : Int) < (a0.ss.length : Int) := by omega
 have hbi : (b : Int) < 8 := by omega
 clear k0 k1 k2 kz
 obtain ⟨k0, k1, k2, -, -, -, -, -, -, -, kz⟩ := HK3e.out.c5
 obtain ⟨q0, q1, q2, q3, -, -, -, -, qz⟩ := HK6e.out.c4
 obtain ⟨j0, j1, j2, -, -, -, jz⟩ := (HX5.out g7 _ _ (by omega) HK7.out).c3
 obtain ⟨r0, r1⟩ := sreg_cell HMB5.out hb
 obtain ⟨v, hv⟩ : ∃ v, v = sg s b := ⟨_, rfl⟩
 rw [← hv] at r0 r1
 have HV := hQ hv
 clear hv
 obtain ⟨hfa, hz0, hz1, hv1, hv2⟩ := HZ.out
 rw [← HA0.out, ← HFN.out] at hfa hz0 hz1
 rw [← HV.out] at hv1 hv2
 obtain ⟨adF, hAF, hFm, z0, -⟩ := HSX.out.whole hfa
 subst hAF
 have hF4 : (adF.add (a * 2)).block < W1.heap.size := by rw [block_of_add]; omega
 have hF5 : (adF.add (a * 2)).block < W5.heap.size := by have := HG5.out.size; omega
 have z0 := (World.cell?_of_block (a := adF.add (a * 2)) (HG5.out.block _ hF4 (fun e => by injection e with e; rw [block_of_add] at e; omega))).trans z0
 obtain ⟨z, hz⟩ : ∃ z, z = (fn.slots.getD a (0, 0)).1 := ⟨_, rfl⟩
 rw [← hz] at z0 hz0 hz1
 obtain ⟨c9, hc9⟩ : ∃ c9, c9 = vcut v z := ⟨_, rfl⟩
 have HTR : Hid (∀ W, Below W5.heap.size W5 W → Calls Tryd.prog 63 #[.agg #[.int .u64 v.1, .int .u64 v.2], .int .i64 z] W fun e w' => e = .returned (.agg #[.int .u64 c9.1, .int .u64 c9.2]) ∧ Below W.heap.size W w') := hQ (fun W hW => (reftrunc_any v.1 v.2 hv1 hv2 z hz0 hz1 W).mono fun e w' ⟨p1, p2⟩ => ⟨by rw [p1, hc9]; rfl, p2⟩)
 have HZZ := hQ hz
 have HC9 := hQ hc9
 have hfi2 : (a : Int) < (fn.slots.length : Int) := by omega
 have hlt5 : mb < W5.heap.size := HMB5.out.lt
 have hsl2 : (fn.slots.length : Int) ≤ 9223372036854775807 := by have := hsl.1; unfold maxLen at this; omega
 clear hz hc9 hv1 hv2 hz0 hz1 hfa
 refine wp_region_rg (fun (X : Nat → Prop) (j : Nat) (u : Nat → Value) (w : World) => match j with
  | 0 => u 0 = .pointer (some ⟨g6, 2, none⟩)
  | 1 => u 1 = .slice (some ⟨g, 0, none⟩) a0.ss.length cap
  | 2 => u 2 = .pointer (some ⟨g3, 1, none⟩)
  | 3 => u 3 = .int .i64 (a : Int)
  | 4 => u 4 = .pointer (some ⟨mb, 0, none⟩)
  | 5 => u 5 = .pointer (some ⟨g3, 2, none⟩)
  | 6 => u 6 = .int .i64 (b : Int)
  | 7 => u 7 = .pointer (some ⟨mb, 0, none⟩)
  | 8 => u 8 = .pointer (some ⟨mb, 1, none⟩)
  | 9 => u 9 = .pointer (some ⟨mb, 1 + b * 2, none⟩)
  | 10 => u 10 = .agg #[.int .u64 (v.1 : Int), .int .u64 (v.2 : Int)]
  | 11 => u 11 = .pointer (some ⟨g7, 1, none⟩)
  | 12 => u 12 = .slice (some adF) fn.slots.length cf
  | 13 => u 13 = .pointer (some ⟨g3, 1, none⟩)
  | 14 => u 14 = .int .i64 (a : Int)
  | 15 => u 15 = .pointer (some (adF.add (a * 2)))
  | 16 => u 16 = .pointer (some (adF.add (a * 2)))
  | 17 => u 17 = .int .i64 z
  | 18 => u 18 = .agg #[.int .u64 (c9.1 : Int), .int .u64 (c9.2 : Int)]
  | 19 => u 19 = .agg #[.int .u64 (c9.1 : Int), .int .u64 (c9.2 : Int), .bool true]
  | 20 => u 20 = .pointer (some ⟨g, a * 3, none⟩)
  | 21 => True
  | _ => True)
  (fun X w' => (¬ X 21 → Below W5.heap.size W5 w') ∧ (X 21 → ∃ w0, Below W5.heap.size W5 w0 ∧ w' = ((w0.setCell ⟨g, a * 3, none⟩ (.int .u64 (c9.1 : Int))).setCell ⟨g, a * 3 + 1, none⟩ (.int .u64 (c9.2 : Int))).setCell ⟨g, a * 3 + 2, none⟩ (.bool true))) (fun w w' => w' = w) [18, 21] [0, 1, 0, 4, 0, 0, 32, 16, 144, 496, 1008, 0, 2048, 0, 8192, 30720, 63488, 129024, 262128, 524272, 1048575, 2097151]
  [[], [(0, 64)], [], [(2, 66)], [], [], [(5, 69)], [(4, 68)], [(7, 71)], [(6, 70), (8, 72)], [(9, 73)], [], [(11, 75)], [], [(13, 77)], [(12, 76), (14, 78)], [(15, 79)], [(16, 80)], [(10, 74), (17, 81)], [(18, 82)], [(1, 65), (3, 67)], [(19, 83), (20, 84)]]
  [(0, 64), (1, 65), (2, 66), (3, 67), (4, 68), (5, 69), (6, 70), (7, 71), (8, 72), (9, 73), (10, 74), (11, 75), (12, 76), (13, 77), (14, 78), (15, 79), (16, 80), (17, 81), (18, 82), (19, 83), (20, 84)] (by kernel_rfl) (by kernel_rfl) ?hsG ?hsT ?h0 ?hs ?he
 case hsG =>
  intro i X w w' hsp hR hG
  rw [hR]; exact ⟨fun h => hG.1 (fun q => h (.inr q)), fun h => hG.2 (h.resolve_left (by rintro rfl; exact absurd hsp (by decide)))⟩
 case hsT =>
  intro i X j u u' w w' hsp hij hni hXj hR hu h
  match j, hij, hni, hXj, hu, h with
  | 0, hij, hni, hXj, hu, h => exact (hu 0 (.inl rfl)).trans h
  | 1, hij, hni, hXj, hu, h => exact (hu 1 (.inl rfl)).trans h
  | 2, hij, hni, hXj, hu, h => exact (hu 2 (.inl rfl)).trans h
  | 3, hij, hni, hXj, hu, h => exact (hu 3 (.inl rfl)).trans h
  | 4, hij, hni, hXj, hu, h => exact (hu 4 (.inl rfl)).trans h
  | 5, hij, hni, hXj, hu, h => exact (hu 5 (.inl rfl)).trans h
  | 6, hij, hni, hXj, hu, h => exact (hu 6 (.inl rfl)).trans h
  | 7, hij, hni, hXj, hu, h => exact (hu 7 (.inl rfl)).trans h
  | 8, hij, hni, hXj, hu, h => exact (hu 8 (.inl rfl)).trans h
  | 9, hij, hni, hXj, hu, h => exact (hu 9 (.inl rfl)).trans h
  | 10, hij, hni, hXj, hu, h => exact (hu 10 (.inl rfl)).trans h
  | 11, hij, hni, hXj, hu, h => exact (hu 11 (.inl rfl)).trans h
  | 12, hij, hni, hXj, hu, h => exact (hu 12 (.inl rfl)).trans h
  | 13, hij, hni, hXj, hu, h => exact (hu 13 (.inl rfl)).trans h
  | 14, hij, hni, hXj, hu, h => exact (hu 14 (.inl rfl)).trans h
  | 15, hij, hni, hXj, hu, h => exact (hu 15 (.inl rfl)).trans h
  | 16, hij, hni, hXj, hu, h => exact (hu 16 (.inl rfl)).trans h
  | 17, hij, hni, hXj, hu, h => exact (hu 17 (.inl rfl)).trans h
  | 18, hij, hni, hXj, hu, h => exact (hu 18 (.inl rfl)).trans h
  | 19, hij, hni, hXj, hu, h => exact (hu 19 (.inl rfl)).trans h
  | 20, hij, hni, hXj, hu, h => exact (hu 20 (.inl rfl)).trans h
  | 21, hij, hni, hXj, hu, h => exact trivial
  | _ + 22, _, _, _, _, h => exact trivial
 case h0 => exact ⟨fun _ => bR.drew, fun h => h.elim⟩
 case hs =>
  refine RgAll.cons [] rfl (by decide) ?_ ?_
  · intro u w X hi hA hF hG hT K hK
    simp only [lay, Act.put, sA, sZ, sS] at hK ⊢
    clear hi hA hF hG hT
    go_simp
    exact hK _ _ (rfl) (updV_self _ _ _)
  refine RgAll.cons [(0, 64)] rfl (by decide) ?_ ?_
  · intro u w X hi hA hF hG hT K hK
    have t0 : u 0 = .pointer (some ⟨g6, 2, none⟩) := hT 0 (hA 0 rfl)
    simp only [lay, Act.put, sA, sZ, sS, t0] at hK ⊢
    have HBw : Below W5.heap.size W5 w := hG.1 (hF 21 rfl)
    have k1w := (HBw.cell (p := ⟨g3, 1, none⟩) kz).trans k1
    have k2w := (HBw.cell (p := ⟨g3, 2, none⟩) kz).trans k2
    have q2w := (HBw.cell (p := ⟨g6, 2, none⟩) qz).trans q2
    have j1w := (HBw.cell (p := ⟨g7, 1, none⟩) jz).trans j1
    have r0w := (HBw.cell (p := ⟨mb, 1 + b * 2, none⟩) hlt5).trans r0
    have r1w := (HBw.cell (p := ⟨mb, 1 + b * 2 + 1, none⟩) hlt5).trans r1
    have z0w := (HBw.cell (p := adF.add (a * 2)) hF5).trans z0
    clear hi hA hF hG hT
    go_simp
    exact hK _ _ (rfl) (updV_self _ _ _)
  refine RgAll.cons [] rfl (by decide) ?_ ?_
  · intro u w X hi hA hF hG hT K hK
    simp only [lay, Act.put, sA, sZ, sS] at hK ⊢
    clear hi hA hF hG hT
    go_simp
    exact hK _ _ (rfl) (updV_self _ _ _)
  refine RgAll.cons [(2, 66)] rfl (by decide) ?_ ?_
  · intro u w X hi hA hF hG hT K hK
    have t2 : u 2 = .pointer (some ⟨g3, 1, none⟩) := hT 2 (hA 2 rfl)
    simp only [lay, Act.put, sA, sZ, sS, t2] at hK ⊢
    have HBw : Below W5.heap.size W5 w := hG.1 (hF 21 rfl)
    have k1w := (HBw.cell (p := ⟨g3, 1, none⟩) kz).trans k1
    have k2w := (HBw.cell (p := ⟨g3, 2, none⟩) kz).trans k2
    have q2w := (HBw.cell (p := ⟨g6, 2, none⟩) qz).trans q2
    have j1w := (HBw.cell (p := ⟨g7, 1, none⟩) jz).trans j1
    have r0w := (HBw.cell (p := ⟨mb, 1 + b * 2, none⟩) hlt5).trans r0
    have r1w := (HBw.cell (p := ⟨mb, 1 + b * 2 + 1, none⟩) hlt5).trans r1
    have z0w := (HBw.cell (p := adF.add (a * 2)) hF5).trans z0
    clear hi hA hF hG hT
    go_simp
    exact hK _ _ (rfl) (updV_self _ _ _)
  refine RgAll.cons [] rfl (by decide) ?_ ?_
  · intro u w X hi hA hF hG hT K hK
    simp only [lay, Act.put, sA, sZ, sS] at hK ⊢
    clear hi hA hF hG hT
    go_simp
    exact hK _ _ (rfl) (updV_self _ _ _)
  refine RgAll.cons [] rfl (by decide) ?_ ?_
  · intro u w X hi hA hF hG hT K hK
    simp only [lay, Act.put, sA, sZ, sS] at hK ⊢
    clear hi hA hF hG hT
    go_simp
    exact hK _ _ (rfl) (updV_self _ _ _)
  refine RgAll.cons [(5, 69)] rfl (by decide) ?_ ?_
  · intro u w X hi hA hF hG hT K hK
    have t5 : u 5 = .pointer (some ⟨g3, 2, none⟩) := hT 5 (hA 5 rfl)
    simp only [lay, Act.put, sA, sZ, sS, t5] at hK ⊢
    have HBw : Below W5.heap.size W5 w := hG.1 (hF 21 rfl)
    have k1w := (HBw.cell (p := ⟨g3, 1, none⟩) kz).trans k1
    have k2w := (HBw.cell (p := ⟨g3, 2, none⟩) kz).trans k2
    have q2w := (HBw.cell (p := ⟨g6, 2, none⟩) qz).trans q2
    have j1w := (HBw.cell (p := ⟨g7, 1, none⟩) jz).trans j1
    have r0w := (HBw.cell (p := ⟨mb, 1 + b * 2, none⟩) hlt5).trans r0
    have r1w := (HBw.cell (p := ⟨mb, 1 + b * 2 + 1, none⟩) hlt5).trans r1
    have z0w := (HBw.cell (p := adF.add (a * 2)) hF5).trans z0
    clear hi hA hF hG hT
    go_simp
    exact hK _ _ (rfl) (updV_self _ _ _)
  refine RgAll.cons [(4, 68)] rfl (by decide) ?_ ?_
  · intro u w X hi hA hF hG hT K hK
    have t4 : u 4 = .pointer (some ⟨mb, 0, none⟩) := hT 4 (hA 4 rfl)
    simp only [lay, Act.put, sA, sZ, sS, t4] at hK ⊢
    clear hi hA hF hG hT
    go_simp
    exact hK _ _ (rfl) (updV_self _ _ _)
  refine RgAll.cons [(7, 71)] rfl (by decide) ?_ ?_
  · intro u w X hi hA hF hG hT K hK
    have t7 : u 7 = .pointer (some ⟨mb, 0, none⟩) := hT 7 (hA 7 rfl)
    simp only [lay, Act.put, sA, sZ, sS, t7] at hK ⊢
    clear hi hA hF hG hT
    go_simp
    exact hK _ _ (rfl) (updV_self _ _ _)
  refine RgAll.cons [(6, 70), (8, 72)] rfl (by decide) ?_ ?_
  · intro u w X hi hA hF hG hT K hK
    have t6 : u 6 = .int .i64 (b : Int) := hT 6 (hA 6 rfl)
    have t8 : u 8 = .pointer (some ⟨mb, 1, none⟩) := hT 8 (hA 8 rfl)
    simp only [lay, Act.put, sA, sZ, sS, t6, t8] at hK ⊢
    clear hi hA hF hG hT
    go_simp
    exact hK _ _ (rfl) (updV_self _ _ _)
  refine RgAll.cons [(9, 73)] rfl (by decide) ?_ ?_
  · intro u w X hi hA hF hG hT K hK
    have t9 : u 9 = .pointer (some ⟨mb, 1 + b * 2, none⟩) := hT 9 (hA 9 rfl)
    simp only [lay, Act.put, sA, sZ, sS, t9] at hK ⊢
    have HBw : Below W5.heap.size W5 w := hG.1 (hF 21 rfl)
    have k1w := (HBw.cell (p := ⟨g3, 1, none⟩) kz).trans k1
    have k2w := (HBw.cell (p := ⟨g3, 2, none⟩) kz).trans k2
    have q2w := (HBw.cell (p := ⟨g6, 2, none⟩) qz).trans q2
    have j1w := (HBw.cell (p := ⟨g7, 1, none⟩) jz).trans j1
    have r0w := (HBw.cell (p := ⟨mb, 1 + b * 2, none⟩) hlt5).trans r0
    have r1w := (HBw.cell (p := ⟨mb, 1 + b * 2 + 1, none⟩) hlt5).trans r1
    have z0w := (HBw.cell (p := adF.add (a * 2)) hF5).trans z0
    clear hi hA hF hG hT
    go_simp
    exact hK _ _ (rfl) (updV_self _ _ _)
  refine RgAll.cons [] rfl (by decide) ?_ ?_
  · intro u w X hi hA hF hG hT K hK
    simp only [lay, Act.put, sA, sZ, sS] at hK ⊢
    clear hi hA hF hG hT
    go_simp
    exact hK _ _ (rfl) (updV_self _ _ _)
  refine RgAll.cons [(11, 75)] rfl (by decide) ?_ ?_
  · intro u w X hi hA hF hG hT K hK
    have t11 : u 11 = .pointer (some ⟨g7, 1, none⟩) := hT 11 (hA 11 rfl)
    simp only [lay, Act.put, sA, sZ, sS, t11] at hK ⊢
    have HBw : Below W5.heap.size W5 w := hG.1 (hF 21 rfl)
    have k1w := (HBw.cell (p := ⟨g3, 1, none⟩) kz).trans k1
    have k2w := (HBw.cell (p := ⟨g3, 2, none⟩) kz).trans k2
    have q2w := (HBw.cell (p := ⟨g6, 2, none⟩) qz).trans q2
    have j1w := (HBw.cell (p := ⟨g7, 1, none⟩) jz).trans j1
    have r0w := (HBw.cell (p := ⟨mb, 1 + b * 2, none⟩) hlt5).trans r0
    have r1w := (HBw.cell (p := ⟨mb, 1 + b * 2 + 1, none⟩) hlt5).trans r1
    have z0w := (HBw.cell (p := adF.add (a * 2)) hF5).trans z0
    clear hi hA hF hG hT
    go_simp
    exact hK _ _ (rfl) (updV_self _ _ _)
  refine RgAll.cons [] rfl (by decide) ?_ ?_
  · intro u w X hi hA hF hG hT K hK
    simp only [lay, Act.put, sA, sZ, sS] at hK ⊢
    clear hi hA hF hG hT
    go_simp
    exact hK _ _ (rfl) (updV_self _ _ _)
  refine RgAll.cons [(13, 77)] rfl (by decide) ?_ ?_
  · intro u w X hi hA hF hG hT K hK
    have t13 : u 13 = .pointer (some ⟨g3, 1, none⟩) := hT 13 (hA 13 rfl)
    simp only [lay, Act.put, sA, sZ, sS, t13] at hK ⊢
    have HBw : Below W5.heap.size W5 w := hG.1 (hF 21 rfl)
    have k1w := (HBw.cell (p := ⟨g3, 1, none⟩) kz).trans k1
    have k2w := (HBw.cell (p := ⟨g3, 2, none⟩) kz).trans k2
    have q2w := (HBw.cell (p := ⟨g6, 2, none⟩) qz).trans q2
    have j1w := (HBw.cell (p := ⟨g7, 1, none⟩) jz).trans j1
    have r0w := (HBw.cell (p := ⟨mb, 1 + b * 2, none⟩) hlt5).trans r0
    have r1w := (HBw.cell (p := ⟨mb, 1 + b * 2 + 1, none⟩) hlt5).trans r1
    have z0w := (HBw.cell (p := adF.add (a * 2)) hF5).trans z0
    clear hi hA hF hG hT
    go_simp
    exact hK _ _ (rfl) (updV_self _ _ _)
  refine RgAll.cons [(12, 76), (14, 78)] rfl (by decide) ?_ ?_
  · intro u w X hi hA hF hG hT K hK
    have t12 : u 12 = .slice (some adF) fn.slots.length cf := hT 12 (hA 12 rfl)
    have t14 : u 14 = .int .i64 (a : Int) := hT 14 (hA 14 rfl)
    simp only [lay, Act.put, sA, sZ, sS, t12, t14] at hK ⊢
    clear hi hA hF hG hT
    go_simp
    exact hK _ _ (rfl) (updV_self _ _ _)
  refine RgAll.cons [(15, 79)] rfl (by decide) ?_ ?_
  · intro u w X hi hA hF hG hT K hK
    have t15 : u 15 = .pointer (some (adF.add (a * 2))) := hT 15 (hA 15 rfl)
    simp only [lay, Act.put, sA, sZ, sS, t15] at hK ⊢
    clear hi hA hF hG hT
    go_simp
    exact hK _ _ (rfl) (updV_self _ _ _)
  refine RgAll.cons [(16, 80)] rfl (by decide) ?_ ?_
  · intro u w X hi hA hF hG hT K hK
    have t16 : u 16 = .pointer (some (adF.add (a * 2))) := hT 16 (hA 16 rfl)
    simp only [lay, Act.put, sA, sZ, sS, t16] at hK ⊢
    have HBw : Below W5.heap.size W5 w := hG.1 (hF 21 rfl)
    have k1w := (HBw.cell (p := ⟨g3, 1, none⟩) kz).trans k1
    have k2w := (HBw.cell (p := ⟨g3, 2, none⟩) kz).trans k2
    have q2w := (HBw.cell (p := ⟨g6, 2, none⟩) qz).trans q2
    have j1w := (HBw.cell (p := ⟨g7, 1, none⟩) jz).trans j1
    have r0w := (HBw.cell (p := ⟨mb, 1 + b * 2, none⟩) hlt5).trans r0
    have r1w := (HBw.cell (p := ⟨mb, 1 + b * 2 + 1, none⟩) hlt5).trans r1
    have z0w := (HBw.cell (p := adF.add (a * 2)) hF5).trans z0
    clear hi hA hF hG hT
    go_simp
    exact hK _ _ (rfl) (updV_self _ _ _)
  refine RgAll.consS [(10, 74), (17, 81)] rfl ?_ ?_
  · intro u w X hi hA hF hG hT K hK
    have t10 : u 10 = .agg #[.int .u64 (v.1 : Int), .int .u64 (v.2 : Int)] := hT 10 (hA 10 rfl)
    have t17 : u 17 = .int .i64 z := hT 17 (hA 17 rfl)
    simp only [lay, Act.put, sA, sZ, sS, t10, t17] at hK ⊢
    have HBw : Below W5.heap.size W5 w := hG.1 (hF 21 rfl)
    go_simp
    refine (HTR.out w HBw).mono ?_
    rintro e w5 ⟨rfl, hb5⟩
    refine hK _ w5 ⟨fun _ => HBw.trans (hb5.mono HBw.size), fun h => absurd (h.resolve_left (by decide)) (hF 21 rfl)⟩ ?_
    intro j hj
    match j, hj with
     | 0, hj => exact (updV_ne _ _ (by decide)).trans (hT 0 (hj.resolve_left (by decide)))
     | 1, hj => exact (updV_ne _ _ (by decide)).trans (hT 1 (hj.resolve_left (by decide)))
     | 2, hj => exact (updV_ne _ _ (by decide)).trans (hT 2 (hj.resolve_left (by decide)))
     | 3, hj => exact (updV_ne _ _ (by decide)).trans (hT 3 (hj.resolve_left (by decide)))
     | 4, hj => exact (updV_ne _ _ (by decide)).trans (hT 4 (hj.resolve_left (by decide)))
     | 5, hj => exact (updV_ne _ _ (by decide)).trans (hT 5 (hj.resolve_left (by decide)))
     | 6, hj => exact (updV_ne _ _ (by decide)).trans (hT 6 (hj.resolve_left (by decide)))
     | 7, hj => exact (updV_ne _ _ (by decide)).trans (hT 7 (hj.resolve_left (by decide)))
     | 8, hj => exact (updV_ne _ _ (by decide)).trans (hT 8 (hj.resolve_left (by decide)))
     | 9, hj => exact (updV_ne _ _ (by decide)).trans (hT 9 (hj.resolve_left (by decide)))
     | 10, hj => exact (updV_ne _ _ (by decide)).trans (hT 10 (hj.resolve_left (by decide)))
     | 11, hj => exact (updV_ne _ _ (by decide)).trans (hT 11 (hj.resolve_left (by decide)))
     | 12, hj => exact (updV_ne _ _ (by decide)).trans (hT 12 (hj.resolve_left (by decide)))
     | 13, hj => exact (updV_ne _ _ (by decide)).trans (hT 13 (hj.resolve_left (by decide)))
     | 14, hj => exact (updV_ne _ _ (by decide)).trans (hT 14 (hj.resolve_left (by decide)))
     | 15, hj => exact (updV_ne _ _ (by decide)).trans (hT 15 (hj.resolve_left (by decide)))
     | 16, hj => exact (updV_ne _ _ (by decide)).trans (hT 16 (hj.resolve_left (by decide)))
     | 17, hj => exact (updV_ne _ _ (by decide)).trans (hT 17 (hj.resolve_left (by decide)))
     | 18, hj => exact updV_self _ _ _
     | 19, hj => exact (updV_ne _ _ (by decide)).trans (hT 19 (hj.resolve_left (by decide)))
     | 20, hj => exact (updV_ne _ _ (by decide)).trans (hT 20 (hj.resolve_left (by decide)))
     | 21, hj => exact trivial
     | _ + 22, hj => exact trivial
  refine RgAll.cons [(18, 82)] rfl (by decide) ?_ ?_
  · intro u w X hi hA hF hG hT K hK
    have t18 : u 18 = .agg #[.int .u64 (c9.1 : Int), .int .u64 (c9.2 : Int)] := hT 18 (hA 18 rfl)
    simp only [lay, Act.put, sA, sZ, sS, t18] at hK ⊢
    clear hi hA hF hG hT
    go_simp
    exact hK _ _ (rfl) (updV_self _ _ _)
  refine RgAll.cons [(1, 65), (3, 67)] rfl (by decide) ?_ ?_
  · intro u w X hi hA hF hG hT K hK
    have t1 : u 1 = .slice (some ⟨g, 0, none⟩) a0.ss.length cap := hT 1 (hA 1 rfl)
    have t3 : u 3 = .int .i64 (a : Int) := hT 3 (hA 3 rfl)
    simp only [lay, Act.put, sA, sZ, sS, t1, t3] at hK ⊢
    clear hi hA hF hG hT
    go_simp
    exact hK _ _ (rfl) (updV_self _ _ _)
  refine RgAll.consS [(19, 83), (20, 84)] rfl ?_ ?_
  · intro u w X hi hA hF hG hT K hK
    have t19 : u 19 = .agg #[.int .u64 (c9.1 : Int), .int .u64 (c9.2 : Int), .bool true] := hT 19 (hA 19 rfl)
    have t20 : u 20 = .pointer (some ⟨g, a * 3, none⟩) := hT 20 (hA 20 rfl)
    simp only [lay, Act.put, sA, sZ, sS, t19, t20] at hK ⊢
    have HBw : Below W5.heap.size W5 w := hG.1 hi
    obtain ⟨y0, y1, y2, yf0, yf1, yf2⟩ := own_cells3 (own_keep HO5.out HBw nL) rfl ha
    have hgw : g < w.heap.size := by have := HBw.size; omega
    go_simp
    refine hK undef _ ⟨fun h => absurd (by simp) h, fun _ => ⟨w, HBw, rfl⟩⟩ ?_
    intro j hj
    match j, hj with
     | 0, hj => exact (updV_ne _ _ (by decide)).trans (hT 0 (hj.resolve_left (by decide)))
     | 1, hj => exact (updV_ne _ _ (by decide)).trans (hT 1 (hj.resolve_left (by decide)))
     | 2, hj => exact (updV_ne _ _ (by decide)).trans (hT 2 (hj.resolve_left (by decide)))
     | 3, hj => exact (updV_ne _ _ (by decide)).trans (hT 3 (hj.resolve_left (by decide)))
     | 4, hj => exact (updV_ne _ _ (by decide)).trans (hT 4 (hj.resolve_left (by decide)))
     | 5, hj => exact (updV_ne _ _ (by decide)).trans (hT 5 (hj.resolve_left (by decide)))
     | 6, hj => exact (updV_ne _ _ (by decide)).trans (hT 6 (hj.resolve_left (by decide)))
     | 7, hj => exact (updV_ne _ _ (by decide)).trans (hT 7 (hj.resolve_left (by decide)))
     | 8, hj => exact (updV_ne _ _ (by decide)).trans (hT 8 (hj.resolve_left (by decide)))
     | 9, hj => exact (updV_ne _ _ (by decide)).trans (hT 9 (hj.resolve_left (by decide)))
     | 10, hj => exact (updV_ne _ _ (by decide)).trans (hT 10 (hj.resolve_left (by decide)))
     | 11, hj => exact (updV_ne _ _ (by decide)).trans (hT 11 (hj.resolve_left (by decide)))
     | 12, hj => exact (updV_ne _ _ (by decide)).trans (hT 12 (hj.resolve_left (by decide)))
     | 13, hj => exact (updV_ne _ _ (by decide)).trans (hT 13 (hj.resolve_left (by decide)))
     | 14, hj => exact (updV_ne _ _ (by decide)).trans (hT 14 (hj.resolve_left (by decide)))
     | 15, hj => exact (updV_ne _ _ (by decide)).trans (hT 15 (hj.resolve_left (by decide)))
     | 16, hj => exact (updV_ne _ _ (by decide)).trans (hT 16 (hj.resolve_left (by decide)))
     | 17, hj => exact (updV_ne _ _ (by decide)).trans (hT 17 (hj.resolve_left (by decide)))
     | 18, hj => exact (updV_ne _ _ (by decide)).trans (hT 18 (hj.resolve_left (by decide)))
     | 19, hj => exact (updV_ne _ _ (by decide)).trans (hT 19 (hj.resolve_left (by decide)))
     | 20, hj => exact (updV_ne _ _ (by decide)).trans (hT 20 (hj.resolve_left (by decide)))
     | 21, hj => exact trivial
     | _ + 22, hj => exact trivial
  exact RgAll.nil
 intro u w X hX hG hT
 have t0 : u 0 = .pointer (some ⟨g6, 2, none⟩) := hT 0 (by simp)
 have t1 : u 1 = .slice (some ⟨g, 0, none⟩) a0.ss.length cap := hT 1 (by simp)
 have t2 : u 2 = .pointer (some ⟨g3, 1, none⟩) := hT 2 (by simp)
 have t3 : u 3 = .int .i64 (a : Int) := hT 3 (by simp)
 have t4 : u 4 = .pointer (some ⟨mb, 0, none⟩) := hT 4 (by simp)
 have t5 : u 5 = .pointer (some ⟨g3, 2, none⟩) := hT 5 (by simp)
 have t6 : u 6 = .int .i64 (b : Int) := hT 6 (by simp)
 have t7 : u 7 = .pointer (some ⟨mb, 0, none⟩) := hT 7 (by simp)
 have t8 : u 8 = .pointer (some ⟨mb, 1, none⟩) := hT 8 (by simp)
 have t9 : u 9 = .pointer (some ⟨mb, 1 + b * 2, none⟩) := hT 9 (by simp)
 have t10 : u 10 = .agg #[.int .u64 (v.1 : Int), .int .u64 (v.2 : Int)] := hT 10 (by simp)
 have t11 : u 11 = .pointer (some ⟨g7, 1, none⟩) := hT 11 (by simp)
 have t12 : u 12 = .slice (some adF) fn.slots.length cf := hT 12 (by simp)
 have t13 : u 13 = .pointer (some ⟨g3, 1, none⟩) := hT 13 (by simp)
 have t14 : u 14 = .int .i64 (a : Int) := hT 14 (by simp)
 have t15 : u 15 = .pointer (some (adF.add (a * 2))) := hT 15 (by simp)
 have t16 : u 16 = .pointer (some (adF.add (a * 2))) := hT 16 (by simp)
 have t17 : u 17 = .int .i64 z := hT 17 (by simp)
 have t18 : u 18 = .agg #[.int .u64 (c9.1 : Int), .int .u64 (c9.2 : Int)] := hT 18 (by simp)
 have t19 : u 19 = .agg #[.int .u64 (c9.1 : Int), .int .u64 (c9.2 : Int), .bool true] := hT 19 (by simp)
 have t20 : u 20 = .pointer (some ⟨g, a * 3, none⟩) := hT 20 (by simp)
 simp only [lay, Act.put, sA, sZ, sS, t0, t1, t2, t3, t4, t5, t6, t7, t8, t9, t10, t11, t12, t13, t14, t15, t16, t17, t18, t19, t20]
 clear hT t0 t1 t2 t3 t4 t5 t6 t7 t8 t9 t10 t11 t12 t13 t14 t15 t16 t17 t18 t19 t20
 obtain ⟨w0, hb9, rfl⟩ := hG.2 (hX 21 (by simp))
 clear hG hX
 have HO9 := hQ (own_keep HO5.out hb9 nL)
 have HK69 := hQ (HK6e.out.after hb9)
 have HG9 := hQ (grownBy_trans HG5.out (grownBy_of_below hb9 _))
 have HMB9 := hQ (HMB5.out.after hb9)
 have hz9 := hb9.size
 clear HO5 HK6e HG5 HMB5 HX5 hb9 k0 k1 k2 kz q0 q1 q2 q3 qz j0 j1 j2 jz r0 r1 z0 hlt5 HTR hF4 hF5
 have HO5 := HO9
 have HK6e := HK69
 have HG5 := HG9
 have HMB5 := HMB9
 have hg5z : g < w0.heap.size := by omega
 have HX5 : True := trivial
 clear HO9 HK69 HG9 HMB9
 go_upto_region 25 with (fail)
 obtain ⟨v9, hv9⟩ : ∃ v9, v9 = v := ⟨_, rfl⟩
 have HV9 := hQ hv9
 clear hv9
 obtain ⟨Wt, hWt⟩ : ∃ W, W = (((w0.setCell ⟨g, a * 3, none⟩ (.int .u64 (c9.1 : Int))).setCell ⟨g, a * 3 + 1, none⟩ (.int .u64 (c9.2 : Int))).setCell ⟨g, a * 3 + 2, none⟩ (.bool true)) := ⟨_, rfl⟩
 rw [← hWt]
 have own9 : Wt.ownsRow W4.heap.size 118 3 (.slice (some ⟨g, 0, none⟩) a0.ss.length cap) a0.ss.length ((a0.ss.set a (some c9)).flatMap cellV) := by rw [hWt, ← flat_set3 c9 _ a ha]; exact own_set3 HO5.out a _ _ _
 obtain ⟨a1, ha1⟩ : ∃ x : As8, x = { a0 with ss := a0.ss.set a (some c9) } := ⟨_, rfl⟩
 have l1 : a1.ss.length = a0.ss.length := by rw [ha1]; exact List.length_set ..
 have l2 : a1.aa.length = a0.aa.length := by rw [ha1]
 have HGt : Hid (W1.grownBy Wt (some mb)) := hQ (by rw [hWt]; exact (grownBy_set (grownBy_set (grownBy_set HG5.out (p := ⟨g, a * 3, none⟩) hg1 _) (p := ⟨g, a * 3 + 1, none⟩) hg1 _) (p := ⟨g, a * 3 + 2, none⟩) hg1 _))
 have HK6t : Hid (Blk Wt g6 100 #[.int .i64 (a1.f : Int), .int .i64 (a1.pc : Int), .slice (some ⟨g, 0, none⟩) a1.ss.length cap, .slice Ar a1.aa.length c2]) := hQ (by
  rw [l1, l2, show a1.f = a0.f by rw [ha1], show a1.pc = a0.pc by rw [ha1], hWt]
  exact (((HK6e.out.far (p := ⟨g, a * 3, none⟩) (by show g6 ≠ g; omega) _).far (p := ⟨g, a * 3 + 1, none⟩) (by show g6 ≠ g; omega) _).far (p := ⟨g, a * 3 + 2, none⟩) (by show g6 ≠ g; omega) _))
 have HMt : Hid (SAt Wt mb (.slice (some ad) p.length cp) iv (some adA) ca At ct s) := hQ (HM.out.move HGt.out (by rw [hWt]; exact (((HMB5.out.far (p := ⟨g, a * 3, none⟩) (by show mb ≠ g; omega) _).far (p := ⟨g, a * 3 + 1, none⟩) (by show mb ≠ g; omega) _).far (p := ⟨g, a * 3 + 2, none⟩) (by show mb ≠ g; omega) _)) rfl rfl)
 have HCt : Hid (CX Wt (mb + 1) Wt.heap.size (some ⟨g, 0, none⟩) a1.ss ∧ CX Wt (mb + 1) Wt.heap.size Ar a1.aa) := hQ ⟨(by rw [show a1.ss = a0.ss.set a (some c9) by rw [ha1]]; exact cx_set c9 own9 rfl hbase), (by rw [show a1.aa = a0.aa by rw [ha1]]; exact (HCA.out.keep (Kp.of_grown HGt.out nL (.inl (by omega)))).more nL HGt.out.size)⟩
 have HT1 : Hid (s.acts.length = t + 1) := HT
 have HRt : Hid (({ s with acts := s.acts.set t a1 } : Sx8) = RES) := hQ (by rw [← HRES.out]; unfold Sx8.putS; rw [setTop_eq HT.out, top_eq HT.out, ← HA0.out, ← HFN.out, ← HV.out, ← HZZ.out, ← HC9.out, ha1])
 have HKt : Hid ((a1.ss.length ≤ cap ∧ a1.ss.length ≤ maxLen) ∧ (a1.aa.length ≤ c2 ∧ a1.aa.length ≤ maxLen)) := hQ ⟨⟨by rw [l1]; exact (own_cap own9).2, by rw [l1]; exact hk1.2⟩, ⟨by rw [l2]; exact hk2.1, by rw [l2]; exact hk2.2⟩⟩
 have h6t : g6 < Wt.heap.size := HK6t.out.lt
 clear hWt own9 HO5 HK6e HG5 HMB5 hg6g hg5z hg1 hbase h6z ha1 l1 l2 HX5
 clear HK3 HB4 HM4 HCS4 HCA4 HSX4 HK7 HK6b HK3e HGw HK3w HK6w HMBw HCw HM HCS HCA
 obtain ⟨vs5, hr5, hv5⟩ := HMt.out.acts
 obtain ⟨-, m17, -, -, -, -, -, hltt⟩ := HMt.out.cells
 obtain ⟨q0, q1, q2, q3, -, -, -, -, qz⟩ := HK6t.out.c4
 rw [HT1.out] at m17 hr5
 have HR5 := hQ hr5
 have HV5 := hQ hv5
 have HO5 := hQ (SVx.one hv5 (by rw [HT1.out]; exact hr5.1.1))
 clear hr5 hv5
 go_upto_region 26 with (at_builtin; refine wpList_append_any _ rfl (.const (.slice none 0 0)) (.tmp 162) _ rfl Wt.heap.size 100 i0 _ 4 64 Tryd.underlying81 hi0 hz0 hz1 hz2 rfl (by omega) (.slice none 0 0) 0 [] rfl (World.ownsRow_nil _ _ _ _) _ (some adA) (t + 1) ca vs5 rfl HR5.out.1 HO5.out (by unfold maxLen; omega) (by omega) nL ?_; intro o1 w8 own8' hg8' hat8'; have own8 : w8.ownsRow Wt.heap.size 100 4 o1 (t + 1) vs5 := (by simpa using own8'); obtain ⟨g, cap, rfl, hg, hglt⟩ := own8.form (by omega))
 have b8 : Below Wt.heap.size Wt w8 := below_append bR (World.ownsRow_nil Wt Wt.heap.size 100 4) hg8' nL (by simp)
 have HB8 := hQ b8
 have HO8 := hQ own8
 clear own8' hg8' hat8' q0 q1 q2 q3 m17
 have hvl : vs5.length = (t + 1) * 4 := HR5.out.1.1
 obtain ⟨q0, q1, q2, q3, -, -, -, -, qz8⟩ := (HK6t.out.after b8).c4
 obtain ⟨Sl6, d3, Ar6, d4, v0, v1, v2, v3, -⟩ := HV5.out t (Nat.lt_of_lt_of_eq (Nat.lt_succ_self t) HT1.out.symm)
 have r0 := (own8.cellAt (t * 4) (by omega)).trans v0
 have r1 := (own8.cellAt (t * 4 + 1) (by omega)).trans v1
 have r2 := (own8.cellAt (t * 4 + 2) (by omega)).trans v2
 have r3 := (own8.cellAt (t * 4 + 3) (by omega)).trans v3
 have rf0 := own8.frozenAt (t * 4)
 have rf1 := own8.frozenAt (t * 4 + 1)
 have rf2 := own8.frozenAt (t * 4 + 2)
 have rf3 := own8.frozenAt (t * 4 + 3)
 have m17 := (HMt.out.after b8).cells.2.1
 have mf := (HMt.out.after b8).blk.frozen 17
 rw [HT1.out] at m17
 have hg6g : g6 < g := by omega
 have hgm : ¬ g = mb := by omega
 have hmg : ¬ mb = g := by omega
 have hzm : mb < w8.heap.size := by have := HB8.out.size; omega
 clear own8 b8 v0 v1 v2 v3
 go_wp2
 go_ret
 have fin := HMt.out.relay HB8.out (by rw [HT1.out]; exact HR5.out) HV5.out (by rw [HT1.out]; exact HO8.out) (t := t) (Nat.lt_of_lt_of_eq (Nat.lt_succ_self t) HT1.out.symm) a1 HCt.out.1 HCt.out.2 HKt.out.1 HKt.out.2
 rw [HT1.out, HRt.out] at fin
 exact ⟨rfl, grownBy_trans HGt.out (grownBy_trans (grownBy_of_below ((((HB8.out.setCell hg _).setCell hg _).setCell hg _).setCell hg _) _) (grown_mb _ _ _ _)), some ⟨g, 0, none⟩, cap, fin⟩
end
end Go.Proofs.YtdijeijbcoeopaaDoor.pm
