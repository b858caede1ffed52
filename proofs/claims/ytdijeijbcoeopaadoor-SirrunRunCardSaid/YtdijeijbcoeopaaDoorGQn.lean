/- The reference's machine: memory. Printed by mkqm.py. -/
import Derived.Test.YtdijeijbcoeopaaDoorGQm
import Derived.Test.YtdijeijbcoeopaaDoorGVa
import Derived.StillTailTactics
set_option linter.unusedVariables false
set_option maxRecDepth 10000
set_option maxHeartbeats 8000000
namespace Go.Proofs.YtdijeijbcoeopaaDoor.pm
open Go.RowKit
section
variable {mb ca ct cp : Nat} {iv : Value} {As At : Option Addr} {s : Sx8} {p : List Fn} {ad : Addr}
theorem smem_no (W1 : World) (oo : Int) (a b : Nat) (c imm : Int) (hr8 : s.regs.length = 8) (h : SAt W1 mb (.slice (some ad) p.length cp) iv As ca At ct s) (hfx : Fx W1 0 mb (some ad) p) {t : Nat} (ht : s.acts.length = t + 1) (ht6 : t ≤ 1000000) (hf : (s.acts.getD t As8.z).f < p.length) (hp : p.length ≤ 1000) (b15 : (oo == 15) = false) (b16 : (oo == 16) = false) (b17 : (oo == 17) = false) (b18 : (oo == 18) = false) (b19 : (oo == 19) = false) :
 Calls Tryd.prog 46 #[.pointer (some ⟨mb, 0, none⟩), .agg #[.int .i64 oo, .int .i64 (a : Int), .int .i64 (b : Int), .int .i64 c, .int .u64 imm]] W1 (fun e w' => e = .returned (.bool false) ∧ Below W1.heap.size W1 w') := by
 obtain ⟨i0, hi0, hz0, hz1, hz2⟩ := info_parts info_ract
 obtain ⟨adA, Sl, c1, Ar, c2, rfl, hA1, hA2, y0, y1, y2, y3, hcs, hca, hk1, hk2⟩ := h.act_at (i := t) (by omega)
 obtain ⟨ad', Fs, cf, Ai, ci, e', hbl, z0, z1, z2, -, -, hsx, -, hsl, -⟩ := hfx.whole hf
 obtain rfl : ad = ad' := by injection e'
 obtain ⟨a0, ha0⟩ : ∃ a0, a0 = (s.acts.getD t As8.z) := ⟨_, rfl⟩
 rw [← ha0] at y0 y1 y2 y3 hcs hca hk1 hk2 z0 z1 z2 hf hsx hsl
 obtain ⟨fn, hfn⟩ : ∃ fn, fn = p.getD a0.f Fn.z := ⟨_, rfl⟩
 rw [← hfn] at z0 z1 z2 hsx hsl
 have HA0 := hQ ha0
 have HFN := hQ hfn
 have HCS := hQ hcs
 have HCA := hQ hca
 have HSX := hQ hsx
 have HM := hQ h
 have HT := hQ ht
 obtain ⟨m0, m17, -, -, m20, -, -, hlt⟩ := h.cells
 rw [ht] at m17
 obtain ⟨W2, hW2⟩ : ∃ W, W = W1.alloc (.cells #[.int .i64 oo, .int .i64 (a : Int), .int .i64 (b : Int), .int .i64 c, .int .u64 imm] 50) := ⟨_, rfl⟩
 obtain ⟨g3, hg3⟩ : ∃ g, g = W1.heap.size := ⟨_, rfl⟩
 have hb2 : Below W1.heap.size W1 W2 := by rw [hW2]; exact bR.alloc nL _
 have HK3 : Hid (Blk W2 g3 50 #[.int .i64 oo, .int .i64 (a : Int), .int .i64 (b : Int), .int .i64 c, .int .u64 imm]) := hQ (by rw [hW2, hg3]; exact Blk.new _ _ _)
 have HW2 := hQ hW2
 have HG3 := hQ hg3
 have HB2 := hQ hb2
 obtain ⟨x0, x1, x2, x3, x4, -, -, -, -, -, xz⟩ := HK3.out.c5
 have m0' := (hb2.cell (p := ⟨mb, 0, none⟩) hlt).trans m0
 have m17' := (hb2.cell (p := ⟨mb, 17, none⟩) hlt).trans m17
 have hA3 : (adA.add (t * 4)).block < W1.heap.size := by rw [block_of_add]; exact hA2
 have hF3 : (ad.add (a0.f * 3)).block < W1.heap.size := by rw [block_of_add]; omega
 have y0' := (hb2.cell (p := adA.add (t * 4)) hA3).trans y0
 have y1' := (hb2.cell (p := ⟨(adA.add (t * 4)).block, (adA.add (t * 4)).off + 1, none⟩) hA3).trans y1
 have y2' := (hb2.cell (p := ⟨(adA.add (t * 4)).block, (adA.add (t * 4)).off + 2, none⟩) hA3).trans y2
 have y3' := (hb2.cell (p := ⟨(adA.add (t * 4)).block, (adA.add (t * 4)).off + 3, none⟩) hA3).trans y3
 have hs2 : W2.heap.size = W1.heap.size + 1 := by rw [hW2]; simp
 have hlt2 : mb < W2.heap.size := by omega
 have hA4 : (adA.add (t * 4)).block < W2.heap.size := by omega
 have ht0 : (0 : Int) ≤ (t : Int) := by omega
 have hti : (t : Int) ≤ 1000000 := by omega
 have hfi : (a0.f : Int) < (p.length : Int) := by omega
 have hf0 : (0 : Int) ≤ (a0.f : Int) := by omega
 clear h hfx ha0 hfn hcs hca hsx hW2 hg3 hb2 m0 m17 y0 y1 y2 y3 m20
 go_enter Tryd.func46, Tryd.ntmps46
 go_upto_region 1 with (fail)
 rw [← HW2.out, ← HG3.out]
 go_upto_region 3 with (fail)
 obtain ⟨W3, hW3⟩ : ∃ W, W = W2.alloc (.cells #[.int .i64 (a0.f : Int), .int .i64 (a0.pc : Int), .slice Sl a0.ss.length c1, .slice Ar a0.aa.length c2] 100) := ⟨_, rfl⟩
 rw [← hW3, ← hs2]
 obtain ⟨g6, hg6⟩ : ∃ g, g = W2.heap.size := ⟨_, rfl⟩
 rw [← hg6]
 have hb3 : Below W2.heap.size W2 W3 := by rw [hW3]; exact bR.alloc nL _
 have HK6 : Hid (Blk W3 g6 100 #[.int .i64 (a0.f : Int), .int .i64 (a0.pc : Int), .slice Sl a0.ss.length c1, .slice Ar a0.aa.length c2]) := hQ (by rw [hW3, hg6]; exact Blk.new _ _ _)
 have HK3b := hQ (HK3.out.after hb3)
 have HB3 : Hid (Below W1.heap.size W1 W3) := hQ (HB2.out.trans (hb3.mono HB2.out.size))
 have hs3 : W3.heap.size = g6 + 1 := by rw [hW3, hg6]; simp
 have hg63 : g3 < g6 := by rw [hg6]; exact xz
 clear x0 x1 x2 x3 x4 xz m0' m17' y0' y1' y2' y3' hW3 hb3 HK3 HB2 hg6 hs2
 have m0 := (HM.out.after HB3.out).cells.1
 obtain ⟨x0, -, -, -, -, -, -, -, xz⟩ := HK6.out.c4
 have z0' := (HB3.out.cell (p := ad.add (a0.f * 3)) hF3).trans z0
 have z1' := (HB3.out.cell (p := ⟨(ad.add (a0.f * 3)).block, (ad.add (a0.f * 3)).off + 1, none⟩) hF3).trans z1
 have z2' := (HB3.out.cell (p := ⟨(ad.add (a0.f * 3)).block, (ad.add (a0.f * 3)).off + 2, none⟩) hF3).trans z2
 have hF4 : (ad.add (a0.f * 3)).block < W3.heap.size := by have := HB3.out.size; omega
 have hmb3 : mb < W3.heap.size := by have := HB3.out.size; omega
 have g6z : g6 < W3.heap.size := by omega
 have e0 : ∀ o, (W3.alloc o).drew.cell? ⟨mb, 0, none⟩ = some (.slice (some ad) p.length cp) := fun o => (World.cell?_alloc_lt W3 o ⟨mb, 0, none⟩ hmb3).trans m0
 have e1 : ∀ o, (W3.alloc o).drew.cell? ⟨g6, 0, none⟩ = some (.int .i64 (a0.f : Int)) := fun o => (World.cell?_alloc_lt W3 o ⟨g6, 0, none⟩ g6z).trans x0
 have e2 : ∀ o, (W3.alloc o).drew.cell? (ad.add (a0.f * 3)) = some (.int .i64 fn.params) := fun o => (World.cell?_alloc_lt W3 o (ad.add (a0.f * 3)) hF4).trans z0'
 have e3 : ∀ o, (W3.alloc o).drew.cell? ⟨(ad.add (a0.f * 3)).block, (ad.add (a0.f * 3)).off + 1, none⟩ = some (.slice Fs fn.slots.length cf) := fun o => (World.cell?_alloc_lt W3 o ⟨(ad.add (a0.f * 3)).block, (ad.add (a0.f * 3)).off + 1, none⟩ hF4).trans z1'
 have e4 : ∀ o, (W3.alloc o).drew.cell? ⟨(ad.add (a0.f * 3)).block, (ad.add (a0.f * 3)).off + 2, none⟩ = some (.slice Ai fn.code.length ci) := fun o => (World.cell?_alloc_lt W3 o ⟨(ad.add (a0.f * 3)).block, (ad.add (a0.f * 3)).off + 2, none⟩ hF4).trans z2'
 go_region
 obtain ⟨W4, hW4⟩ : ∃ W, W = (W3.alloc (.cells #[.int .i64 fn.params, .slice Fs fn.slots.length cf, .slice Ai fn.code.length ci] 54)).drew := ⟨_, rfl⟩
 rw [← hW4]
 have hb4 : Below W3.heap.size W3 W4 := by rw [hW4]; exact (bR.alloc nL _).drew
 have HK7 : Hid (Blk W4 (g6 + 1) 54 #[.int .i64 fn.params, .slice Fs fn.slots.length cf, .slice Ai fn.code.length ci]) := hQ (by rw [hW4, ← hs3]; exact (Blk.new _ _ _).drew)
 have HK3 := hQ (HK3b.out.after hb4)
 have HK6b := hQ (HK6.out.after hb4)
 have hB4 := HB3.out.trans (hb4.mono HB3.out.size)
 have HB4 := hQ hB4
 have HM4 := hQ (HM.out.after hB4)
 have HCS4 := hQ ((HCS.out.keep (Kp.of_below hB4 nL)).more nL hB4.size)
 have HCA4 := hQ ((HCA.out.keep (Kp.of_below hB4 nL)).more nL hB4.size)
 have HSX4 := hQ (HSX.out.keep (Kp.of_below hB4 (by omega)))
 have hs4 : W3.heap.size < W4.heap.size := by have := HK7.out.lt; omega
 have hg3m : mb < g3 := by rw [HG3.out]; exact hlt
 generalize hg7 : g6 + 1 = g7 at *
 have hg67 : g6 < g7 := by omega
 have hg61 : W1.heap.size ≤ g6 := by have := HG3.out; omega
 clear hW4 hb4 hB4 HK6 HK3b HB3 HW2 HG3 m0 x0 xz z0 z1 z2 z0' z1' z2' hF4 hmb3 g6z e0 e1 e2 e3 e4 hs3 hs4 hF3 hlt2 hg7
 obtain ⟨k0, k1, k2, -, -, -, -, -, -, -, kz⟩ := HK3.out.c5
 go_wp2
 go_ret
 exact ⟨rfl, HB4.out⟩
end
section
variable {mb ca ct cp : Nat} {iv : Value} {As At : Option Addr} {s : Sx8} {p : List Fn} {ad : Addr}
theorem smem_mv (W1 : World) (a b : Nat) (c imm : Int) (hr8 : s.regs.length = 8) (h : SAt W1 mb (.slice (some ad) p.length cp) iv As ca At ct s) (hfx : Fx W1 0 mb (some ad) p) {t : Nat} (ht : s.acts.length = t + 1) (ht6 : t ≤ 1000000) (hf : (s.acts.getD t As8.z).f < p.length) (hp : p.length ≤ 1000) (ha : a < (s.acts.getD t As8.z).ss.length) (hb : b < (s.acts.getD t As8.z).ss.length) (hsl0 : (s.acts.getD t As8.z).ss.length ≤ 1000) (hne : s.ended = false) :
 Calls Tryd.prog 46 #[.pointer (some ⟨mb, 0, none⟩), .agg #[.int .i64 17, .int .i64 (a : Int), .int .i64 (b : Int), .int .i64 c, .int .u64 imm]] W1 (MemD mb (.slice (some ad) p.length cp) iv At ct (s.moveIn a ((s.acts.getD t As8.z).ss.getD b none)) W1) := by
 obtain ⟨i0, hi0, hz0, hz1, hz2⟩ := info_parts info_ract
 generalize hres : s.moveIn a ((s.acts.getD t As8.z).ss.getD b none) = RES
 have HRES := hQ hres
 clear hres
 obtain ⟨adA, Sl, c1, Ar, c2, rfl, hA1, hA2, y0, y1, y2, y3, hcs, hca, hk1, hk2⟩ := h.act_at (i := t) (by omega)
 obtain ⟨ad', Fs, cf, Ai, ci, e', hbl, z0, z1, z2, -, -, hsx, -, hsl, -⟩ := hfx.whole hf
 obtain rfl : ad = ad' := by injection e'
 obtain ⟨a0, ha0⟩ : ∃ a0, a0 = (s.acts.getD t As8.z) := ⟨_, rfl⟩
 rw [← ha0] at y0 y1 y2 y3 hcs hca hk1 hk2 z0 z1 z2 hf hsx hsl ha hb hsl0
 obtain ⟨fn, hfn⟩ : ∃ fn, fn = p.getD a0.f Fn.z := ⟨_, rfl⟩
 rw [← hfn] at z0 z1 z2 hsx hsl
 have HA0 := hQ ha0
 have HFN := hQ hfn
 have HCS := hQ hcs
 have HCA := hQ hca
 have HSX := hQ hsx
 have HM := hQ h
 have HT := hQ ht
 obtain ⟨m0, m17, -, -, m20, -, -, hlt⟩ := h.cells
 rw [ht] at m17
 obtain ⟨W2, hW2⟩ : ∃ W, W = W1.alloc (.cells #[.int .i64 17, .int .i64 (a : Int), .int .i64 (b : Int), .int .i64 c, .int .u64 imm] 50) := ⟨_, rfl⟩
 obtain ⟨g3, hg3⟩ : ∃ g, g = W1.heap.size := ⟨_, rfl⟩
 have hb2 : Below W1.heap.size W1 W2 := by rw [hW2]; exact bR.alloc nL _
 have HK3 : Hid (Blk W2 g3 50 #[.int .i64 17, .int .i64 (a : Int), .int .i64 (b : Int), .int .i64 c, .int .u64 imm]) := hQ (by rw [hW2, hg3]; exact Blk.new _ _ _)
 have HW2 := hQ hW2
 have HG3 := hQ hg3
 have HB2 := hQ hb2
 obtain ⟨x0, x1, x2, x3, x4, -, -, -, -, -, xz⟩ := HK3.out.c5
 have m0' := (hb2.cell (p := ⟨mb, 0, none⟩) hlt).trans m0
 have m17' := (hb2.cell (p := ⟨mb, 17, none⟩) hlt).trans m17
 have hA3 : (adA.add (t * 4)).block < W1.heap.size := by rw [block_of_add]; exact hA2
 have hF3 : (ad.add (a0.f * 3)).block < W1.heap.size := by rw [block_of_add]; omega
 have y0' := (hb2.cell (p := adA.add (t * 4)) hA3).trans y0
 have y1' := (hb2.cell (p := ⟨(adA.add (t * 4)).block, (adA.add (t * 4)).off + 1, none⟩) hA3).trans y1
 have y2' := (hb2.cell (p := ⟨(adA.add (t * 4)).block, (adA.add (t * 4)).off + 2, none⟩) hA3).trans y2
 have y3' := (hb2.cell (p := ⟨(adA.add (t * 4)).block, (adA.add (t * 4)).off + 3, none⟩) hA3).trans y3
 have hs2 : W2.heap.size = W1.heap.size + 1 := by rw [hW2]; simp
 have hlt2 : mb < W2.heap.size := by omega
 have hA4 : (adA.add (t * 4)).block < W2.heap.size := by omega
 have ht0 : (0 : Int) ≤ (t : Int) := by omega
 have hti : (t : Int) ≤ 1000000 := by omega
 have hfi : (a0.f : Int) < (p.length : Int) := by omega
 have hf0 : (0 : Int) ≤ (a0.f : Int) := by omega
 clear h hfx ha0 hfn hcs hca hsx hW2 hg3 hb2 m0 m17 y0 y1 y2 y3 m20
 go_enter Tryd.func46, Tryd.ntmps46
 go_upto_region 1 with (fail)
 rw [← HW2.out, ← HG3.out]
 go_upto_region 3 with (fail)
 obtain ⟨W3, hW3⟩ : ∃ W, W = W2.alloc (.cells #[.int .i64 (a0.f : Int), .int .i64 (a0.pc : Int), .slice Sl a0.ss.length c1, .slice Ar a0.aa.length c2] 100) := ⟨_, rfl⟩
 rw [← hW3, ← hs2]
 obtain ⟨g6, hg6⟩ : ∃ g, g = W2.heap.size := ⟨_, rfl⟩
 rw [← hg6]
 have hb3 : Below W2.heap.size W2 W3 := by rw [hW3]; exact bR.alloc nL _
 have HK6 : Hid (Blk W3 g6 100 #[.int .i64 (a0.f : Int), .int .i64 (a0.pc : Int), .slice Sl a0.ss.length c1, .slice Ar a0.aa.length c2]) := hQ (by rw [hW3, hg6]; exact Blk.new _ _ _)
 have HK3b := hQ (HK3.out.after hb3)
 have HB3 : Hid (Below W1.heap.size W1 W3) := hQ (HB2.out.trans (hb3.mono HB2.out.size))
 have hs3 : W3.heap.size = g6 + 1 := by rw [hW3, hg6]; simp
 have hg63 : g3 < g6 := by rw [hg6]; exact xz
 clear x0 x1 x2 x3 x4 xz m0' m17' y0' y1' y2' y3' hW3 hb3 HK3 HB2 hg6 hs2
 have m0 := (HM.out.after HB3.out).cells.1
 obtain ⟨x0, -, -, -, -, -, -, -, xz⟩ := HK6.out.c4
 have z0' := (HB3.out.cell (p := ad.add (a0.f * 3)) hF3).trans z0
 have z1' := (HB3.out.cell (p := ⟨(ad.add (a0.f * 3)).block, (ad.add (a0.f * 3)).off + 1, none⟩) hF3).trans z1
 have z2' := (HB3.out.cell (p := ⟨(ad.add (a0.f * 3)).block, (ad.add (a0.f * 3)).off + 2, none⟩) hF3).trans z2
 have hF4 : (ad.add (a0.f * 3)).block < W3.heap.size := by have := HB3.out.size; omega
 have hmb3 : mb < W3.heap.size := by have := HB3.out.size; omega
 have g6z : g6 < W3.heap.size := by omega
 have e0 : ∀ o, (W3.alloc o).drew.cell? ⟨mb, 0, none⟩ = some (.slice (some ad) p.length cp) := fun o => (World.cell?_alloc_lt W3 o ⟨mb, 0, none⟩ hmb3).trans m0
 have e1 : ∀ o, (W3.alloc o).drew.cell? ⟨g6, 0, none⟩ = some (.int .i64 (a0.f : Int)) := fun o => (World.cell?_alloc_lt W3 o ⟨g6, 0, none⟩ g6z).trans x0
 have e2 : ∀ o, (W3.alloc o).drew.cell? (ad.add (a0.f * 3)) = some (.int .i64 fn.params) := fun o => (World.cell?_alloc_lt W3 o (ad.add (a0.f * 3)) hF4).trans z0'
 have e3 : ∀ o, (W3.alloc o).drew.cell? ⟨(ad.add (a0.f * 3)).block, (ad.add (a0.f * 3)).off + 1, none⟩ = some (.slice Fs fn.slots.length cf) := fun o => (World.cell?_alloc_lt W3 o ⟨(ad.add (a0.f * 3)).block, (ad.add (a0.f * 3)).off + 1, none⟩ hF4).trans z1'
 have e4 : ∀ o, (W3.alloc o).drew.cell? ⟨(ad.add (a0.f * 3)).block, (ad.add (a0.f * 3)).off + 2, none⟩ = some (.slice Ai fn.code.length ci) := fun o => (World.cell?_alloc_lt W3 o ⟨(ad.add (a0.f * 3)).block, (ad.add (a0.f * 3)).off + 2, none⟩ hF4).trans z2'
 go_region
 obtain ⟨W4, hW4⟩ : ∃ W, W = (W3.alloc (.cells #[.int .i64 fn.params, .slice Fs fn.slots.length cf, .slice Ai fn.code.length ci] 54)).drew := ⟨_, rfl⟩
 rw [← hW4]
 have hb4 : Below W3.heap.size W3 W4 := by rw [hW4]; exact (bR.alloc nL _).drew
 have HK7 : Hid (Blk W4 (g6 + 1) 54 #[.int .i64 fn.params, .slice Fs fn.slots.length cf, .slice Ai fn.code.length ci]) := hQ (by rw [hW4, ← hs3]; exact (Blk.new _ _ _).drew)
 have HK3 := hQ (HK3b.out.after hb4)
 have HK6b := hQ (HK6.out.after hb4)
 have hB4 := HB3.out.trans (hb4.mono HB3.out.size)
 have HB4 := hQ hB4
 have HM4 := hQ (HM.out.after hB4)
 have HCS4 := hQ ((HCS.out.keep (Kp.of_below hB4 nL)).more nL hB4.size)
 have HCA4 := hQ ((HCA.out.keep (Kp.of_below hB4 nL)).more nL hB4.size)
 have HSX4 := hQ (HSX.out.keep (Kp.of_below hB4 (by omega)))
 have hs4 : W3.heap.size < W4.heap.size := by have := HK7.out.lt; omega
 have hg3m : mb < g3 := by rw [HG3.out]; exact hlt
 generalize hg7 : g6 + 1 = g7 at *
 have hg67 : g6 < g7 := by omega
 have hg61 : W1.heap.size ≤ g6 := by have := HG3.out; omega
 clear hW4 hb4 hB4 HK6 HK3b HB3 HW2 HG3 m0 x0 xz z0 z1 z2 z0' z1' z2' hF4 hmb3 g6z e0 e1 e2 e3 e4 hs3 hs4 hF3 hlt2 hg7
 obtain ⟨o, ho⟩ : ∃ o, o = a0.ss.getD b none := ⟨_, rfl⟩
 obtain ⟨adS, hAS, -, hS1, o0, o1, o2⟩ := HCS4.out.at_ hb
 subst hAS
 rw [← ho] at o0 o1 o2
 have HO := hQ ho
 clear ho
 obtain ⟨k0, k1, k2, -, -, -, -, -, -, -, kz⟩ := HK3.out.c5
 obtain ⟨q0, q1, q2, q3, -, -, -, -, qz⟩ := HK6b.out.c4
 have hS2 : (adS.add (b * 3)).block < W4.heap.size := by rw [block_of_add]; exact hS1
 have hb0 : (0 : Int) ≤ (b : Int) := by omega
 have hbi : (b : Int) < (a0.ss.length : Int) := by omega
 have hlm : (a0.ss.length : Int) ≤ 9223372036854775807 := by have := hk1.2; unfold maxLen at this; omega
 have HRD := hQ (sread_any W4 o HM4.out)
 go_wp2_with fail
 refine HRD.out.mono ?_
 rintro e w5 ⟨rfl, hm5, hg5⟩
 have HK6c := hQ (HK6b.out.grown hg5 (some_ne (by omega)))
 have HK3c := hQ (HK3.out.grown hg5 (some_ne (by omega)))
 clear q0 q1 q2 q3 qz k0 k1 k2 kz o0 o1 o2 HRD
 cases o with
 | none =>
  have hm5' : SAt w5 mb (.slice (some ad) p.length cp) iv (some adA) ca At ct (s.stop 3) := by simpa using hm5
  have m20 : w5.cell? ⟨mb, 20, none⟩ = some (.bool true) := hm5'.cells.2.2.2.2.1
  have hlt5 : mb < w5.heap.size := hm5'.blk.lt
  have HM5 := hQ hm5'
  clear hm5 hm5'
  go_upto_region 15 with (fail)
  obtain ⟨W6, hW6⟩ : ∃ W, W = w5.alloc (.cells #[.int .u64 0, .int .u64 0] 37) := ⟨_, rfl⟩
  obtain ⟨g8, hg8⟩ : ∃ g, g = w5.heap.size := ⟨_, rfl⟩
  rw [← hW6, ← hg8]
  have hb6 : Below w5.heap.size w5 W6 := by rw [hW6]; exact bR.alloc nL _
  have HK8 : Hid (Blk W6 g8 37 #[.int .u64 0, .int .u64 0]) := hQ (by rw [hW6, hg8]; exact Blk.new _ _ _)
  have hw8 : w5.heap.size ≤ g8 := Nat.le_of_eq hg8.symm
  clear hW6 hg8
  have HMt := hQ (HM5.out.after hb6)
  have HK6t := hQ (HK6c.out.after hb6)
  have HGt := hQ (grownBy_trans (grownBy_trans (grownBy_of_below HB4.out _) hg5) (grownBy_of_below hb6 _))
  have HCt := hQ (keepX HCS4.out HCA4.out hg5 hb6)
  have m20 : W6.cell? ⟨mb, 20, none⟩ = some (.bool true) := HMt.out.cells.2.2.2.2.1
  clear hb6
  go_upto_region 25 with (fail)
  have HRt : Hid (({ s.stop 3 with acts := (s.stop 3).acts.set t a0 } : Sx8) = RES) := hQ (by rw [← HRES.out, ← HA0.out, ← HO.out, HA0.out]; exact set_top _ (by have := HT.out; show t < s.acts.length; omega))
  have HT1 : Hid ((s.stop 3).acts.length = t + 1) := hQ HT.out
  have HKt := hQ (⟨hk1, hk2⟩ : (a0.ss.length ≤ c1 ∧ a0.ss.length ≤ maxLen) ∧ (a0.aa.length ≤ c2 ∧ a0.aa.length ≤ maxLen))
  clear m20 HK3 HB4 HM4 HCA4 HSX4 HK7 hg67 HK6b HCS4 hS2 hb0 hbi hlm hg5 HK6c HK3c hlt5 HM5 HK8 hS1 HM HCS HCA
  obtain ⟨vs5, hr5, hv5⟩ := HMt.out.acts
  obtain ⟨-, m17, -, -, -, -, -, hltt⟩ := HMt.out.cells
  obtain ⟨q0, q1, q2, q3, -, -, -, -, qz⟩ := HK6t.out.c4
  rw [HT1.out] at m17 hr5
  have HR5 := hQ hr5
  have HV5 := hQ hv5
  have HO5 := hQ (SVx.one hv5 (by rw [HT1.out]; exact hr5.1.1))
  clear hr5 hv5
  go_upto_region 26 with (at_builtin; refine wpList_append_any _ rfl (.const (.slice none 0 0)) (.tmp 162) _ rfl W6.heap.size 100 i0 _ 4 64 Tryd.underlying81 hi0 hz0 hz1 hz2 rfl (by omega) (.slice none 0 0) 0 [] rfl (World.ownsRow_nil _ _ _ _) _ (some adA) (t + 1) ca vs5 rfl HR5.out.1 HO5.out (by unfold maxLen; omega) (by omega) nL ?_; intro o1 w8 own8' hg8' hat8'; have own8 : w8.ownsRow W6.heap.size 100 4 o1 (t + 1) vs5 := (by simpa using own8'); obtain ⟨g, cap, rfl, hg, hglt⟩ := own8.form (by omega))
  have b8 : Below W6.heap.size W6 w8 := below_append bR (World.ownsRow_nil W6 W6.heap.size 100 4) hg8' nL (by simp)
  have HB8 := hQ b8
  have HO8 := hQ own8
  clear own8' hg8' hat8' q0 q1 q2 q3 m17
  have hvl : vs5.length = (t + 1) * 4 := HR5.out.1.1
  obtain ⟨q0, q1, q2, q3, -, -, -, -, qz8⟩ := (HK6t.out.after b8).c4
  obtain ⟨Sl6, d3, Ar6, d4, v0, v1, v2, v3, -⟩ := HV5.out t (Nat.lt_of_lt_of_eq (Nat.lt_succ_self t) HT1.out.symm)
  have r0 := (own8.cellAt (t * 4) (by omega)).trans v0
  have r1 := (own8.cellAt (t * 4 + 1) (by omega)).trans v1
  have r2 := (own8.cellAt (t * 4 + 2) (by omega)).trans v2
  have r3 := (own8.cellAt (t * 4 + 3) (by omega)).trans v3
  have rf0 := own8.frozenAt (t * 4)
  have rf1 := own8.frozenAt (t * 4 + 1)
  have rf2 := own8.frozenAt (t * 4 + 2)
  have rf3 := own8.frozenAt (t * 4 + 3)
  have m17 := (HMt.out.after b8).cells.2.1
  have mf := (HMt.out.after b8).blk.frozen 17
  rw [HT1.out] at m17
  have hg6g : g6 < g := by omega
  have hgm : ¬ g = mb := by omega
  have hmg : ¬ mb = g := by omega
  have hzm : mb < w8.heap.size := by have := HB8.out.size; omega
  clear own8 b8 v0 v1 v2 v3
  go_wp2
  go_ret
  have fin := HMt.out.relay HB8.out (by rw [HT1.out]; exact HR5.out) HV5.out (by rw [HT1.out]; exact HO8.out) (t := t) (Nat.lt_of_lt_of_eq (Nat.lt_succ_self t) HT1.out.symm) a0 HCt.out.1 HCt.out.2 HKt.out.1 HKt.out.2
  rw [HT1.out, HRt.out] at fin
  exact ⟨rfl, grownBy_trans HGt.out (grownBy_trans (grownBy_of_below ((((HB8.out.setCell hg _).setCell hg _).setCell hg _).setCell hg _) _) (grown_mb _ _ _ _)), some ⟨g, 0, none⟩, cap, fin⟩
 | some v =>
  have hm5' : SAt w5 mb (.slice (some ad) p.length cp) iv (some adA) ca At ct s := by simpa using hm5
  have m20 : w5.cell? ⟨mb, 20, none⟩ = some (.bool false) := by rw [← hne]; exact hm5'.cells.2.2.2.2.1
  have hlt5 : mb < w5.heap.size := hm5'.blk.lt
  have HM5 := hQ hm5'
  clear hm5 hm5'
  go_upto_region 15 with (fail)
  obtain ⟨W6, hW6⟩ : ∃ W, W = w5.alloc (.cells #[.int .u64 (v.1 : Int), .int .u64 (v.2 : Int)] 37) := ⟨_, rfl⟩
  obtain ⟨g8, hg8⟩ : ∃ g, g = w5.heap.size := ⟨_, rfl⟩
  rw [← hW6, ← hg8]
  have hb6 : Below w5.heap.size w5 W6 := by rw [hW6]; exact bR.alloc nL _
  have HK8 : Hid (Blk W6 g8 37 #[.int .u64 (v.1 : Int), .int .u64 (v.2 : Int)]) := hQ (by rw [hW6, hg8]; exact Blk.new _ _ _)
  have hw8 : w5.heap.size ≤ g8 := Nat.le_of_eq hg8.symm
  clear hW6 hg8
  have HM6 := hQ (HM5.out.after hb6)
  have HK6w := hQ (HK6c.out.after hb6)
  have HK3w := hQ (HK3c.out.after hb6)
  have HGw := hQ (grownBy_trans (grownBy_trans (grownBy_of_below HB4.out _) hg5) (grownBy_of_below hb6 _))
  have HCd := hQ (keepX HCS4.out HCA4.out hg5 hb6)
  have HCw := hQ HCd.out.1
  have HMBw := hQ HM6.out.blk
  have m20 : W6.cell? ⟨mb, 20, none⟩ = some (.bool false) := by rw [← hne]; exact HM6.out.cells.2.2.2.2.1
  have ha0 : (0 : Int) ≤ (a : Int) := by omega
  have hg68 : g6 < g8 := by have := HK6c.out.lt; have := HK8.out.lt; omega
  clear hb6 HK3 HB4 HM4 HCA4 HSX4 HK7 hg67 HK6b HCS4 hS2 hbi hlm hg5 HK6c HK3c hlt5 HM5 hS1
  obtain ⟨j0, hj0, hj1, hj2, hj3⟩ := info_parts info_cell
  obtain ⟨q0, q1, q2, q3, f0, f1, f2, f3, qz⟩ := HK6w.out.c4
  have hq6 : g6 < W6.heap.size := qz
  have hmw : mb < W6.heap.size := HMBw.out.lt
  go_upto_region 17 with (at_builtin; refine wpList_append_any _ rfl (.const (.slice none 0 0)) (.tmp 101) _ rfl W6.heap.size 118 j0 _ 3 24 Tryd.underlying98 hj0 hj1 hj2 hj3 rfl (by omega) (.slice none 0 0) 0 [] rfl (World.ownsRow_nil _ _ _ _) _ (some adS) a0.ss.length c1 (a0.ss.flatMap cellV) rfl HCw.out.1 (cellV_one _) (by unfold maxLen; omega) (by omega) nL ?_; intro o1 w7 own7' hg7' hat7'; have own7 : w7.ownsRow W6.heap.size 118 3 o1 a0.ss.length (a0.ss.flatMap cellV) := (by simpa using own7'); obtain ⟨g, cap, rfl, hg, hglt⟩ := own7.form (by omega); have b7 : Below W6.heap.size W6 w7 := below_append bR (World.ownsRow_nil W6 W6.heap.size 118 3) hg7' nL (by simp); clear q0 q1 q2 q3 f0 f1 f2 f3 qz; obtain ⟨q0, q1, q2, q3, f0, f1, f2, f3, qz⟩ := (HK6w.out.after b7).c4)
  obtain ⟨W5, hW5⟩ : ∃ W, W = w7.setCell ⟨g6, 2, none⟩ (.slice (some ⟨g, 0, none⟩) a0.ss.length cap) := ⟨_, rfl⟩
  rw [← hW5]
  have HK6e : Hid (Blk W5 g6 100 #[.int .i64 (a0.f : Int), .int .i64 (a0.pc : Int), .slice (some ⟨g, 0, none⟩) a0.ss.length cap, .slice Ar a0.aa.length c2]) := hQ (by rw [hW5]; exact (HK6w.out.after b7).set_ 2 _)
  have HO5 : Hid (W5.ownsRow W6.heap.size 118 3 (.slice (some ⟨g, 0, none⟩) a0.ss.length cap) a0.ss.length (a0.ss.flatMap cellV)) := hQ (by rw [hW5]; exact own_far own7 ⟨g6, 2, none⟩ hq6 _)
  have HG5 : Hid (W1.grownBy W5 (some mb)) := hQ (by rw [hW5]; exact grownBy_set (grownBy_trans HGw.out (grownBy_of_below b7 _)) hg61 _)
  have HK3e : Hid (Blk W5 g3 50 #[.int .i64 17, .int .i64 (a : Int), .int .i64 (b : Int), .int .i64 c, .int .u64 imm]) := hQ (by rw [hW5]; exact (HK3w.out.after b7).far (p := ⟨g6, 2, none⟩) (by show g3 ≠ g6; omega) _)
  have HMB5 : Hid (Blk W5 mb 83 (rcs (.slice (some ad) p.length cp) iv (.slice (some adA) s.acts.length ca) (.slice At s.trace.length ct) s)) := hQ (by rw [hW5]; exact (HMBw.out.after b7).far (p := ⟨g6, 2, none⟩) (by show mb ≠ g6; omega) _)
  have HX5 : Hid (∀ (q : Nat) (ty : TypeId) (cs : Array Value), q ≠ g6 → Blk W6 q ty cs → Blk W5 q ty cs) := hQ (fun q ty cs hq h => by rw [hW5]; exact (h.after b7).far (p := ⟨g6, 2, none⟩) (by show q ≠ g6; exact hq) _)
  have hg5z : g < W5.heap.size := by rw [hW5]; simpa [World.setCell] using hglt
  have h6z : g6 < W5.heap.size := HK6e.out.lt
  have hg1 : W1.heap.size ≤ g := by have := HGw.out.size; omega
  have hg6g : g6 < g := by omega
  have hbase : mb + 1 ≤ W6.heap.size := hmw
  clear hW5 own7' hg7' hat7' own7 b7 q0 q1 q2 q3 f0 f1 f2 f3 qz hglt hq6
  have hai : (a : Int) < (a0.ss.length : Int) := by omega
  obtain ⟨k0, k1, k2, -, -, -, -, -, -, -, kz⟩ := HK3e.out.c5
  obtain ⟨q0, q1, q2, q3, -, -, -, -, qz⟩ := HK6e.out.c4
  obtain ⟨j0, j1, -, -, jz⟩ := (HX5.out g8 _ _ (by omega) HK8.out).c2
  obtain ⟨y0, y1, y2, yf0, yf1, yf2⟩ := own_cells3 HO5.out rfl ha
  have hlt5 : mb < W5.heap.size := HMB5.out.lt
  go_upto_region 25 with (fail)
  clear k0 k1 k2 kz q0 q1 q2 q3 qz j0 j1 jz y0 y1 y2 yf0 yf1 yf2 hlt5 m20
  obtain ⟨Wt, hWt⟩ : ∃ W, W = (((W5.setCell ⟨g, a * 3, none⟩ (.int .u64 (v.1 : Int))).setCell ⟨g, a * 3 + 1, none⟩ (.int .u64 (v.2 : Int))).setCell ⟨g, a * 3 + 2, none⟩ (.bool true)) := ⟨_, rfl⟩
  rw [← hWt]
  have own9 : Wt.ownsRow W6.heap.size 118 3 (.slice (some ⟨g, 0, none⟩) a0.ss.length cap) a0.ss.length ((a0.ss.set a (some v)).flatMap cellV) := by rw [hWt, ← flat_set3 v _ a ha]; exact own_set3 HO5.out a _ _ _
  obtain ⟨a1, ha1⟩ : ∃ x : As8, x = { a0 with ss := a0.ss.set a (some v) } := ⟨_, rfl⟩
  have l1 : a1.ss.length = a0.ss.length := by rw [ha1]; exact List.length_set ..
  have l2 : a1.aa.length = a0.aa.length := by rw [ha1]
  have HGt : Hid (W1.grownBy Wt (some mb)) := hQ (by rw [hWt]; exact (grownBy_set (grownBy_set (grownBy_set HG5.out (p := ⟨g, a * 3, none⟩) hg1 _) (p := ⟨g, a * 3 + 1, none⟩) hg1 _) (p := ⟨g, a * 3 + 2, none⟩) hg1 _))
  have HK6t : Hid (Blk Wt g6 100 #[.int .i64 (a1.f : Int), .int .i64 (a1.pc : Int), .slice (some ⟨g, 0, none⟩) a1.ss.length cap, .slice Ar a1.aa.length c2]) := hQ (by
   rw [l1, l2, show a1.f = a0.f by rw [ha1], show a1.pc = a0.pc by rw [ha1], hWt]
   exact (((HK6e.out.far (p := ⟨g, a * 3, none⟩) (by show g6 ≠ g; omega) _).far (p := ⟨g, a * 3 + 1, none⟩) (by show g6 ≠ g; omega) _).far (p := ⟨g, a * 3 + 2, none⟩) (by show g6 ≠ g; omega) _))
  have HMt : Hid (SAt Wt mb (.slice (some ad) p.length cp) iv (some adA) ca At ct s) := hQ (HM.out.move HGt.out (by rw [hWt]; exact (((HMB5.out.far (p := ⟨g, a * 3, none⟩) (by show mb ≠ g; omega) _).far (p := ⟨g, a * 3 + 1, none⟩) (by show mb ≠ g; omega) _).far (p := ⟨g, a * 3 + 2, none⟩) (by show mb ≠ g; omega) _)) rfl rfl)
  have HCt : Hid (CX Wt (mb + 1) Wt.heap.size (some ⟨g, 0, none⟩) a1.ss ∧ CX Wt (mb + 1) Wt.heap.size Ar a1.aa) := hQ ⟨(by rw [show a1.ss = a0.ss.set a (some v) by rw [ha1]]; exact cx_set v own9 rfl hbase), (by rw [show a1.aa = a0.aa by rw [ha1]]; exact (HCA.out.keep (Kp.of_grown HGt.out nL (.inl (by omega)))).more nL HGt.out.size)⟩
  have HT1 : Hid (s.acts.length = t + 1) := HT
  have HRt : Hid (({ s with acts := s.acts.set t a1 } : Sx8) = RES) := hQ (by rw [← HRES.out]; rw [← HA0.out, ← HO.out]; show _ = s.putS a v; unfold Sx8.putS; rw [setTop_eq HT.out, top_eq HT.out, ← HA0.out, ha1])
  have HKt : Hid ((a1.ss.length ≤ cap ∧ a1.ss.length ≤ maxLen) ∧ (a1.aa.length ≤ c2 ∧ a1.aa.length ≤ maxLen)) := hQ ⟨⟨by rw [l1]; exact (own_cap own9).2, by rw [l1]; exact hk1.2⟩, ⟨by rw [l2]; exact hk2.1, by rw [l2]; exact hk2.2⟩⟩
  have h6t : g6 < Wt.heap.size := HK6t.out.lt
  clear hWt own9 HO5 HK6e HG5 HMB5 hg6g hg5z hg1 hbase h6z ha1 l1 l2 HX5
  clear HK3e HGw HK3w HK6w HMBw HCw HCd HM6 HK8 HM HCS HCA
  obtain ⟨vs5, hr5, hv5⟩ := HMt.out.acts
  obtain ⟨-, m17, -, -, -, -, -, hltt⟩ := HMt.out.cells
  obtain ⟨q0, q1, q2, q3, -, -, -, -, qz⟩ := HK6t.out.c4
  rw [HT1.out] at m17 hr5
  have HR5 := hQ hr5
  have HV5 := hQ hv5
  have HO5 := hQ (SVx.one hv5 (by rw [HT1.out]; exact hr5.1.1))
  clear hr5 hv5
  go_upto_region 26 with (at_builtin; refine wpList_append_any _ rfl (.const (.slice none 0 0)) (.tmp 162) _ rfl Wt.heap.size 100 i0 _ 4 64 Tryd.underlying81 hi0 hz0 hz1 hz2 rfl (by omega) (.slice none 0 0) 0 [] rfl (World.ownsRow_nil _ _ _ _) _ (some adA) (t + 1) ca vs5 rfl HR5.out.1 HO5.out (by unfold maxLen; omega) (by omega) nL ?_; intro o1 w8 own8' hg8' hat8'; have own8 : w8.ownsRow Wt.heap.size 100 4 o1 (t + 1) vs5 := (by simpa using own8'); obtain ⟨g, cap, rfl, hg, hglt⟩ := own8.form (by omega))
  have b8 : Below Wt.heap.size Wt w8 := below_append bR (World.ownsRow_nil Wt Wt.heap.size 100 4) hg8' nL (by simp)
  have HB8 := hQ b8
  have HO8 := hQ own8
  clear own8' hg8' hat8' q0 q1 q2 q3 m17
  have hvl : vs5.length = (t + 1) * 4 := HR5.out.1.1
  obtain ⟨q0, q1, q2, q3, -, -, -, -, qz8⟩ := (HK6t.out.after b8).c4
  obtain ⟨Sl6, d3, Ar6, d4, v0, v1, v2, v3, -⟩ := HV5.out t (Nat.lt_of_lt_of_eq (Nat.lt_succ_self t) HT1.out.symm)
  have r0 := (own8.cellAt (t * 4) (by omega)).trans v0
  have r1 := (own8.cellAt (t * 4 + 1) (by omega)).trans v1
  have r2 := (own8.cellAt (t * 4 + 2) (by omega)).trans v2
  have r3 := (own8.cellAt (t * 4 + 3) (by omega)).trans v3
  have rf0 := own8.frozenAt (t * 4)
  have rf1 := own8.frozenAt (t * 4 + 1)
  have rf2 := own8.frozenAt (t * 4 + 2)
  have rf3 := own8.frozenAt (t * 4 + 3)
  have m17 := (HMt.out.after b8).cells.2.1
  have mf := (HMt.out.after b8).blk.frozen 17
  rw [HT1.out] at m17
  have hg6g : g6 < g := by omega
  have hgm : ¬ g = mb := by omega
  have hmg : ¬ mb = g := by omega
  have hzm : mb < w8.heap.size := by have := HB8.out.size; omega
  clear own8 b8 v0 v1 v2 v3
  go_wp2
  go_ret
  have fin := HMt.out.relay HB8.out (by rw [HT1.out]; exact HR5.out) HV5.out (by rw [HT1.out]; exact HO8.out) (t := t) (Nat.lt_of_lt_of_eq (Nat.lt_succ_self t) HT1.out.symm) a1 HCt.out.1 HCt.out.2 HKt.out.1 HKt.out.2
  rw [HT1.out, HRt.out] at fin
  exact ⟨rfl, grownBy_trans HGt.out (grownBy_trans (grownBy_of_below ((((HB8.out.setCell hg _).setCell hg _).setCell hg _).setCell hg _) _) (grown_mb _ _ _ _)), some ⟨g, 0, none⟩, cap, fin⟩
end
end Go.Proofs.YtdijeijbcoeopaaDoor.pm
