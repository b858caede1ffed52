/- The reference's machine: memory. Printed by mkqm.py. -/
import Derived.Test.YtdijeijbcoeopaaDoorGQm
import Derived.Test.YtdijeijbcoeopaaDoorGVa
import Derived.Test.YtdijeijbcoeopaaDoorRg
import Derived.StillTailTactics
set_option linter.unusedVariables false
set_option maxRecDepth 10000
set_option maxHeartbeats 8000000
namespace Go.Proofs.YtdijeijbcoeopaaDoor.pm
open Go.RowKit
section
variable {mb ca ct cp : Nat} {iv : Value} {As At : Option Addr} {s : Sx8} {p : List Fn} {ad : Addr}
theorem smem_pm (W1 : World) (a b : Nat) (c imm : Int) (hr8 : s.regs.length = 8) (h : SAt W1 mb (.slice (some ad) p.length cp) iv As ca At ct s) (hfx : Fx W1 0 mb (some ad) p) {t : Nat} (ht : s.acts.length = t + 1) (ht6 : t ≤ 1000000) (hf : (s.acts.getD t As8.z).f < p.length) (hp : p.length ≤ 1000) (tq : Nat) (ht2 : t = tq + 1) (ha : a < 8) (hb : b < (s.acts.getD tq As8.z).aa.length) (hne : s.ended = false) :
 Calls Tryd.prog 46 #[.pointer (some ⟨mb, 0, none⟩), .agg #[.int .i64 19, .int .i64 (a : Int), .int .i64 (b : Int), .int .i64 c, .int .u64 imm]] W1 (MemD mb (.slice (some ad) p.length cp) iv At ct (s.take a ((s.acts.getD tq As8.z).aa.getD b none)) W1) := by
 obtain ⟨i0, hi0, hz0, hz1, hz2⟩ := info_parts info_ract
 generalize hres : s.take a ((s.acts.getD tq As8.z).aa.getD b none) = RES
 have HRES := hQ hres
 clear hres
 have HT2 := hQ ht2
 clear ht2
 obtain ⟨adA, Sl, c1, Ar, c2, rfl, hA1, hA2, y0, y1, y2, y3, hcs, hca, hk1, hk2⟩ := h.act_at (i := t) (by omega)
 obtain ⟨ad', Fs, cf, Ai, ci, e', hbl, z0, z1, z2, -, -, hsx, -, hsl, -⟩ := hfx.whole hf
 obtain rfl : ad = ad' := by injection e'
 obtain ⟨a0, ha0⟩ : ∃ a0, a0 = (s.acts.getD t As8.z) := ⟨_, rfl⟩
 rw [← ha0] at y0 y1 y2 y3 hcs hca hk1 hk2 z0 z1 z2 hf hsx hsl
 obtain ⟨fn, hfn⟩ : ∃ fn, fn = p.getD a0.f Fn.z := ⟨_, rfl⟩
 rw [← hfn] at z0 z1 z2 hsx hsl
 have HA0 := hQ ha0
 have HFN := hQ hfn
 have HCS := hQ hcs
 have HCA := hQ hca
 have HSX := hQ hsx
 have HM := hQ h
 have HT := hQ ht
 obtain ⟨m0, m17, -, -, m20, -, -, hlt⟩ := h.cells
 rw [ht] at m17
 obtain ⟨W2, hW2⟩ : ∃ W, W = W1.alloc (.cells #[.int .i64 19, .int .i64 (a : Int), .int .i64 (b : Int), .int .i64 c, .int .u64 imm] 50) := ⟨_, rfl⟩
 obtain ⟨g3, hg3⟩ : ∃ g, g = W1.heap.size := ⟨_, rfl⟩
 have hb2 : Below W1.heap.size W1 W2 := by rw [hW2]; exact bR.alloc nL _
 have HK3 : Hid (Blk W2 g3 50 #[.int .i64 19, .int .i64 (a : Int), .int .i64 (b : Int), .int .i64 c, .int .u64 imm]) := hQ (by rw [hW2, hg3]; exact Blk.new _ _ _)
 have HW2 := hQ hW2
 have HG3 := hQ hg3
 have HB2 := hQ hb2
 obtain ⟨x0, x1, x2, x3, x4, -, -, -, -, -, xz⟩ := HK3.out.c5
 have m0' := (hb2.cell (p := ⟨mb, 0, none⟩) hlt).trans m0
 have m17' := (hb2.cell (p := ⟨mb, 17, none⟩) hlt).trans m17
 have hA3 : (adA.add (t * 4)).block < W1.heap.size := by rw [block_of_add]; exact hA2
 have hF3 : (ad.add (a0.f * 3)).block < W1.heap.size := by rw [block_of_add]; omega
 have y0' := (hb2.cell (p := adA.add (t * 4)) hA3).trans y0
 have y1' := (hb2.cell (p := ⟨(adA.add (t * 4)).block, (adA.add (t * 4)).off + 1, none⟩) hA3).trans y1
 have y2' := (hb2.cell (p := ⟨(adA.add (t * 4)).block, (adA.add (t * 4)).off + 2, none⟩) hA3).trans y2
 have y3' := (hb2.cell (p := ⟨(adA.add (t * 4)).block, (adA.add (t * 4)).off + 3, none⟩) hA3).trans y3
 have hs2 : W2.heap.size = W1.heap.size + 1 := by rw [hW2]; simp
 have hlt2 : mb < W2.heap.size := by omega
 have hA4 : (adA.add (t * 4)).block < W2.heap.size := by omega
 have ht0 : (0 : Int) ≤ (t : Int) := by omega
 have hti : (t : Int) ≤ 1000000 := by omega
 have hfi : (a0.f : Int) < (p.length : Int) := by omega
 have hf0 : (0 : Int) ≤ (a0.f : Int) := by omega
 clear h hfx ha0 hfn hcs hca hsx hW2 hg3 hb2 m0 m17 y0 y1 y2 y3 m20
 go_enter Tryd.func46, Tryd.ntmps46
 go_upto_region 1 with (fail)
 rw [← HW2.out, ← HG3.out]
 go_upto_region 3 with (fail)
 obtain ⟨W3, hW3⟩ : ∃ W, W = W2.alloc (.cells #[.int .i64 (a0.f : Int), .int .i64 (a0.pc : Int), .slice Sl a0.ss.length c1, .slice Ar a0.aa.length c2] 100) := ⟨_, rfl⟩
 rw [← hW3, ← hs2]
 obtain ⟨g6, hg6⟩ : ∃ g, g = W2.heap.size := ⟨_, rfl⟩
 rw [← hg6]
 have hb3 : Below W2.heap.size W2 W3 := by rw [hW3]; exact bR.alloc nL _
 have HK6 : Hid (Blk W3 g6 100 #[.int .i64 (a0.f : Int), .int .i64 (a0.pc : Int), .slice Sl a0.ss.length c1, .slice Ar a0.aa.length c2]) := hQ (by rw [hW3, hg6]; exact Blk.new _ _ _)
 have HK3b := hQ (HK3.out.after hb3)
 have HB3 : Hid (Below W1.heap.size W1 W3) := hQ (HB2.out.trans (hb3.mono HB2.out.size))
 have hs3 : W3.heap.size = g6 + 1 := by rw [hW3, hg6]; simp
 have hg63 : g3 < g6 := by rw [hg6]; exact xz
 clear x0 x1 x2 x3 x4 xz m0' m17' y0' y1' y2' y3' hW3 hb3 HK3 HB2 hg6 hs2
 have m0 := (HM.out.after HB3.out).cells.1
 obtain ⟨x0, -, -, -, -, -, -, -, xz⟩ := HK6.out.c4
 have z0' := (HB3.out.cell (p := ad.add (a0.f * 3)) hF3).trans z0
 have z1' := (HB3.out.cell (p := ⟨(ad.add (a0.f * 3)).block, (ad.add (a0.f * 3)).off + 1, none⟩) hF3).trans z1
 have z2' := (HB3.out.cell (p := ⟨(ad.add (a0.f * 3)).block, (ad.add (a0.f * 3)).off + 2, none⟩) hF3).trans z2
 have hF4 : (ad.add (a0.f * 3)).block < W3.heap.size := by have := HB3.out.size; omega
 have hmb3 : mb < W3.heap.size := by have := HB3.out.size; omega
 have g6z : g6 < W3.heap.size := by omega
 have e0 : ∀ o, (W3.alloc o).drew.cell? ⟨mb, 0, none⟩ = some (.slice (some ad) p.length cp) := fun o => (World.cell?_alloc_lt W3 o ⟨mb, 0, none⟩ hmb3).trans m0
 have e1 : ∀ o, (W3.alloc o).drew.cell? ⟨g6, 0, none⟩ = some (.int .i64 (a0.f : Int)) := fun o => (World.cell?_alloc_lt W3 o ⟨g6, 0, none⟩ g6z).trans x0
 have e2 : ∀ o, (W3.alloc o).drew.cell? (ad.add (a0.f * 3)) = some (.int .i64 fn.params) := fun o => (World.cell?_alloc_lt W3 o (ad.add (a0.f * 3)) hF4).trans z0'
 have e3 : ∀ o, (W3.alloc o).drew.cell? ⟨(ad.add (a0.f * 3)).block, (ad.add (a0.f * 3)).off + 1, none⟩ = some (.slice Fs fn.slots.length cf) := fun o => (World.cell?_alloc_lt W3 o ⟨(ad.add (a0.f * 3)).block, (ad.add (a0.f * 3)).off + 1, none⟩ hF4).trans z1'
 have e4 : ∀ o, (W3.alloc o).drew.cell? ⟨(ad.add (a0.f * 3)).block, (ad.add (a0.f * 3)).off + 2, none⟩ = some (.slice Ai fn.code.length ci) := fun o => (World.cell?_alloc_lt W3 o ⟨(ad.add (a0.f * 3)).block, (ad.add (a0.f * 3)).off + 2, none⟩ hF4).trans z2'
 go_region
 obtain ⟨W4, hW4⟩ : ∃ W, W = (W3.alloc (.cells #[.int .i64 fn.params, .slice Fs fn.slots.length cf, .slice Ai fn.code.length ci] 54)).drew := ⟨_, rfl⟩
 rw [← hW4]
 have hb4 : Below W3.heap.size W3 W4 := by rw [hW4]; exact (bR.alloc nL _).drew
 have HK7 : Hid (Blk W4 (g6 + 1) 54 #[.int .i64 fn.params, .slice Fs fn.slots.length cf, .slice Ai fn.code.length ci]) := hQ (by rw [hW4, ← hs3]; exact (Blk.new _ _ _).drew)
 have HK3 := hQ (HK3b.out.after hb4)
 have HK6b := hQ (HK6.out.after hb4)
 have hB4 := HB3.out.trans (hb4.mono HB3.out.size)
 have HB4 := hQ hB4
 have HM4 := hQ (HM.out.after hB4)
 have HCS4 := hQ ((HCS.out.keep (Kp.of_below hB4 nL)).more nL hB4.size)
 have HCA4 := hQ ((HCA.out.keep (Kp.of_below hB4 nL)).more nL hB4.size)
 have HSX4 := hQ (HSX.out.keep (Kp.of_below hB4 (by omega)))
 have hs4 : W3.heap.size < W4.heap.size := by have := HK7.out.lt; omega
 have hg3m : mb < g3 := by rw [HG3.out]; exact hlt
 generalize hg7 : g6 + 1 = g7 at *
 have hg67 : g6 < g7 := by omega
 have hg61 : W1.heap.size ≤ g6 := by have := HG3.out; omega
 clear hW4 hb4 hB4 HK6 HK3b HB3 HW2 HG3 m0 x0 xz z0 z1 z2 z0' z1' z2' hF4 hmb3 g6z e0 e1 e2 e3 e4 hs3 hs4 hF3 hlt2 hg7
 have hT := HT.out
 have ht2 := HT2.out
 obtain ⟨adB, Sl2, d1, Ar2, d2, hAB, -, hB2, -, -, -, y3, -, hcr, -, hk4⟩ := HM4.out.act_at (i := tq) (by omega)
 injection hAB with hAB
 subst hAB
 obtain ⟨a2, ha2⟩ : ∃ a2, a2 = s.acts.getD tq As8.z := ⟨_, rfl⟩
 rw [← ha2] at y3 hcr hk4 hb
 obtain ⟨o, ho⟩ : ∃ o, o = a2.aa.getD b none := ⟨_, rfl⟩
 obtain ⟨adR, hAR, -, hR1, o0, o1, o2⟩ := hcr.at_ hb
 subst hAR
 rw [← ho] at o0 o1 o2
 have HA2 := hQ ha2
 have HO := hQ ho
 clear ha2 ho hcr
 obtain ⟨k0, k1, k2, -, -, -, -, -, -, -, kz⟩ := HK3.out.c5
 obtain ⟨-, m17, -, -, -, -, -, hlt4⟩ := HM4.out.cells
 rw [HT.out] at m17
 have hR2 : (adR.add (b * 3)).block < W4.heap.size := by rw [block_of_add]; exact hR1
 have hB3 : (adA.add (tq * 4)).block < W4.heap.size := by rw [block_of_add]; exact hB2
 have hb0 : (0 : Int) ≤ (b : Int) := by omega
 have hbi : (b : Int) < (a2.aa.length : Int) := by omega
 have hlm : (a2.aa.length : Int) ≤ 9223372036854775807 := by have := hk4.2; unfold maxLen at this; omega
 have htm : (t : Int) - 1 = (tq : Int) := by omega
 have ht2i : (tq : Int) < (t : Int) + 1 := by omega
 have ht20 : (0 : Int) ≤ (tq : Int) := by omega
 have htq6 : IntKind.i64.wrap (tq : Int) = (tq : Int) := IntWalk.i64_in _ (by omega)
 obtain ⟨s', hs'⟩ : ∃ s', s' = if o.isSome = true then s else s.stop 3 := ⟨_, rfl⟩
 have ea : s'.acts = s.acts := by rw [hs']; split <;> rfl
 have et : s'.trace = s.trace := by rw [hs']; split <;> rfl
 have HRD : Hid (∀ W, Below W4.heap.size W4 W → Calls Tryd.prog 62 #[.pointer (some ⟨mb, 0, none⟩), .agg #[.int .u64 ((o.getD (0, 0)).1 : Int), .int .u64 ((o.getD (0, 0)).2 : Int), .bool o.isSome]] W fun e w' => e = .returned (.agg #[.int .u64 ((o.getD (0, 0)).1 : Int), .int .u64 ((o.getD (0, 0)).2 : Int)]) ∧ Blk w' mb 83 (rcs (.slice (some ad) p.length cp) iv (.slice (some adA) s.acts.length ca) (.slice At s.trace.length ct) s') ∧ W.grownBy w' (some mb)) := hQ (fun W hW => (sread_any W o (HM4.out.after hW)).mono (by
  rintro e w' ⟨h1, h2, h3⟩
  rw [← hs'] at h2
  have := h2.blk
  rw [ea, et] at this
  exact ⟨h1, this, h3⟩))
 have HS := hQ hs'
 have HEA := hQ ea
 have HET := hQ et
 clear hs' ea et hT ht2
 go_upto_region 22 with (fail)
 refine wp_region_rg (fun (X : Nat → Prop) (j : Nat) (u : Nat → Value) (w : World) => match j with
  | 0 => u 0 = .pointer (some ⟨mb, 0, none⟩)
  | 1 => u 1 = .pointer (some ⟨mb, 0, none⟩)
  | 2 => u 2 = .pointer (some ⟨mb, 0, none⟩)
  | 3 => u 3 = .pointer (some ⟨mb, 17, none⟩)
  | 4 => u 4 = .slice (some adA) (t + 1) ca
  | 5 => u 5 = .int .i64 (t : Int)
  | 6 => u 6 = .int .i64 (tq : Int)
  | 7 => u 7 = .pointer (some (adA.add (tq * 4)))
  | 8 => u 8 = .pointer (some ⟨(adA.add (tq * 4)).block, (adA.add (tq * 4)).off + 3, none⟩)
  | 9 => u 9 = .slice (some adR) a2.aa.length d2
  | 10 => u 10 = .pointer (some ⟨g3, 2, none⟩)
  | 11 => u 11 = .int .i64 (b : Int)
  | 12 => u 12 = .pointer (some (adR.add (b * 3)))
  | 13 => u 13 = .agg #[.int .u64 ((o.getD (0, 0)).1 : Int), .int .u64 ((o.getD (0, 0)).2 : Int), .bool o.isSome]
  | 14 => u 14 = .agg #[.int .u64 ((o.getD (0, 0)).1 : Int), .int .u64 ((o.getD (0, 0)).2 : Int)]
  | 15 => ∃ b9, u 15 = .pointer (some ⟨b9, 0, none⟩) ∧ W4.heap.size ≤ b9 ∧ (¬ X 16 → Blk w b9 37 #[.int .u64 0, .int .u64 0])
  | 16 => ∃ b9, u 15 = .pointer (some ⟨b9, 0, none⟩) ∧ W4.heap.size ≤ b9 ∧ Blk w b9 37 #[.int .u64 ((o.getD (0, 0)).1 : Int), .int .u64 ((o.getD (0, 0)).2 : Int)]
  | _ => True)
  (fun X w' => W4.grownBy w' (some mb) ∧ (¬ X 14 → Below W4.heap.size W4 w') ∧ (X 14 → Blk w' mb 83 (rcs (.slice (some ad) p.length cp) iv (.slice (some adA) s.acts.length ca) (.slice At s.trace.length ct) s'))) (fun w w' => Below w.heap.size w w') [14, 16] [0, 0, 2, 6, 14, 0, 32, 126, 254, 510, 0, 1024, 4094, 8190, 16383, 0, 65535]
  [[], [], [(1, 133)], [(2, 134)], [(3, 135)], [], [(5, 137)], [(4, 136), (6, 138)], [(7, 139)], [(8, 140)], [], [(10, 142)], [(9, 141), (11, 143)], [(12, 144)], [(0, 132), (13, 145)], [], [(15, 10), (14, 146)]]
  [(0, 132), (1, 133), (2, 134), (3, 135), (4, 136), (5, 137), (6, 138), (7, 139), (8, 140), (9, 141), (10, 142), (11, 143), (12, 144), (13, 145), (14, 146), (15, 10)] (by kernel_rfl) (by kernel_rfl) ?hsG ?hsT ?h0 ?hs ?he
 case hsG =>
  intro i X w w' hsp hR hG
  exact ⟨grownBy_trans hG.1 (grownBy_of_below hR _), fun h => (hG.2.1 (fun q => h (.inr q))).trans (hR.mono (hG.2.1 (fun q => h (.inr q))).size), fun h => (hG.2.2 (h.resolve_left (by rintro rfl; exact absurd hsp (by decide)))).after hR⟩
 case hsT =>
  intro i X j u u' w w' hsp hij hni hXj hR hu h
  match j, hij, hni, hXj, hu, h with
  | 0, hij, hni, hXj, hu, h => exact (hu 0 (.inl rfl)).trans h
  | 1, hij, hni, hXj, hu, h => exact (hu 1 (.inl rfl)).trans h
  | 2, hij, hni, hXj, hu, h => exact (hu 2 (.inl rfl)).trans h
  | 3, hij, hni, hXj, hu, h => exact (hu 3 (.inl rfl)).trans h
  | 4, hij, hni, hXj, hu, h => exact (hu 4 (.inl rfl)).trans h
  | 5, hij, hni, hXj, hu, h => exact (hu 5 (.inl rfl)).trans h
  | 6, hij, hni, hXj, hu, h => exact (hu 6 (.inl rfl)).trans h
  | 7, hij, hni, hXj, hu, h => exact (hu 7 (.inl rfl)).trans h
  | 8, hij, hni, hXj, hu, h => exact (hu 8 (.inl rfl)).trans h
  | 9, hij, hni, hXj, hu, h => exact (hu 9 (.inl rfl)).trans h
  | 10, hij, hni, hXj, hu, h => exact (hu 10 (.inl rfl)).trans h
  | 11, hij, hni, hXj, hu, h => exact (hu 11 (.inl rfl)).trans h
  | 12, hij, hni, hXj, hu, h => exact (hu 12 (.inl rfl)).trans h
  | 13, hij, hni, hXj, hu, h => exact (hu 13 (.inl rfl)).trans h
  | 14, hij, hni, hXj, hu, h => exact (hu 14 (.inl rfl)).trans h
  | 15, hij, hni, hXj, hu, h => exact (by obtain ⟨b9, e, hb9, hk⟩ := h; exact ⟨b9, (hu 15 (.inl rfl)).trans e, hb9, fun hx => (hk (fun q => hx (.inr q))).after hR⟩)
  | 16, hij, hni, hXj, hu, h => exact (by obtain ⟨b9, e, hb9, hk⟩ := h; exact ⟨b9, (hu 15 (.inr rfl)).trans e, hb9, hk.after hR⟩)
  | _ + 17, _, _, _, _, h => exact trivial
 case h0 => exact ⟨grownBy_of_below ((Below.refl W4.heap.size W4).drew) _, fun _ => bR.drew, fun h => h.elim⟩
 case hs =>
  refine RgAll.cons [] rfl (by decide) ?_ ?_
  · intro u w X hi hA hF hG hT K hK
    simp only [lay, Act.put, sA, sZ, sS] at hK ⊢
    clear hi hA hF hG hT
    go_simp
    exact hK _ _ bR (updV_self _ _ _)
  refine RgAll.cons [] rfl (by decide) ?_ ?_
  · intro u w X hi hA hF hG hT K hK
    simp only [lay, Act.put, sA, sZ, sS] at hK ⊢
    clear hi hA hF hG hT
    go_simp
    exact hK _ _ bR (updV_self _ _ _)
  refine RgAll.cons [(1, 133)] rfl (by decide) ?_ ?_
  · intro u w X hi hA hF hG hT K hK
    have t1 : u 1 = .pointer (some ⟨mb, 0, none⟩) := hT 1 (hA 1 rfl)
    simp only [lay, Act.put, sA, sZ, sS, t1] at hK ⊢
    clear hi hA hF hG hT
    go_simp
    exact hK _ _ bR (updV_self _ _ _)
  refine RgAll.cons [(2, 134)] rfl (by decide) ?_ ?_
  · intro u w X hi hA hF hG hT K hK
    have t2 : u 2 = .pointer (some ⟨mb, 0, none⟩) := hT 2 (hA 2 rfl)
    simp only [lay, Act.put, sA, sZ, sS, t2] at hK ⊢
    clear hi hA hF hG hT
    go_simp
    exact hK _ _ bR (updV_self _ _ _)
  refine RgAll.cons [(3, 135)] rfl (by decide) ?_ ?_
  · intro u w X hi hA hF hG hT K hK
    have t3 : u 3 = .pointer (some ⟨mb, 17, none⟩) := hT 3 (hA 3 rfl)
    simp only [lay, Act.put, sA, sZ, sS, t3] at hK ⊢
    have HBw : Below W4.heap.size W4 w := hG.2.1 (hF 14 rfl)
    have m17w := (HBw.cell (p := ⟨mb, 17, none⟩) hlt4).trans m17
    have k2w := (HBw.cell (p := ⟨g3, 2, none⟩) kz).trans k2
    have y3w := (HBw.cell (p := ⟨(adA.add (tq * 4)).block, (adA.add (tq * 4)).off + 3, none⟩) hB3).trans y3
    have o0w := (HBw.cell (p := adR.add (b * 3)) hR2).trans o0
    have o1w := (HBw.cell (p := ⟨(adR.add (b * 3)).block, (adR.add (b * 3)).off + 1, none⟩) hR2).trans o1
    have o2w := (HBw.cell (p := ⟨(adR.add (b * 3)).block, (adR.add (b * 3)).off + 2, none⟩) hR2).trans o2
    clear hi hA hF hG hT
    go_simp
    exact hK _ _ bR (updV_self _ _ _)
  refine RgAll.cons [] rfl (by decide) ?_ ?_
  · intro u w X hi hA hF hG hT K hK
    simp only [lay, Act.put, sA, sZ, sS] at hK ⊢
    clear hi hA hF hG hT
    go_simp
    exact hK _ _ bR (updV_self _ _ _)
  refine RgAll.cons [(5, 137)] rfl (by decide) ?_ ?_
  · intro u w X hi hA hF hG hT K hK
    have t5 : u 5 = .int .i64 (t : Int) := hT 5 (hA 5 rfl)
    simp only [lay, Act.put, sA, sZ, sS, t5] at hK ⊢
    clear hi hA hF hG hT
    go_simp
    exact hK _ _ bR (updV_self _ _ _)
  refine RgAll.cons [(4, 136), (6, 138)] rfl (by decide) ?_ ?_
  · intro u w X hi hA hF hG hT K hK
    have t4 : u 4 = .slice (some adA) (t + 1) ca := hT 4 (hA 4 rfl)
    have t6 : u 6 = .int .i64 (tq : Int) := hT 6 (hA 6 rfl)
    simp only [lay, Act.put, sA, sZ, sS, t4, t6] at hK ⊢
    clear hi hA hF hG hT
    go_simp
    exact hK _ _ bR (updV_self _ _ _)
  refine RgAll.cons [(7, 139)] rfl (by decide) ?_ ?_
  · intro u w X hi hA hF hG hT K hK
    have t7 : u 7 = .pointer (some (adA.add (tq * 4))) := hT 7 (hA 7 rfl)
    simp only [lay, Act.put, sA, sZ, sS, t7] at hK ⊢
    clear hi hA hF hG hT
    go_simp
    exact hK _ _ bR (updV_self _ _ _)
  refine RgAll.cons [(8, 140)] rfl (by decide) ?_ ?_
  · intro u w X hi hA hF hG hT K hK
    have t8 : u 8 = .pointer (some ⟨(adA.add (tq * 4)).block, (adA.add (tq * 4)).off + 3, none⟩) := hT 8 (hA 8 rfl)
    simp only [lay, Act.put, sA, sZ, sS, t8] at hK ⊢
    have HBw : Below W4.heap.size W4 w := hG.2.1 (hF 14 rfl)
    have m17w := (HBw.cell (p := ⟨mb, 17, none⟩) hlt4).trans m17
    have k2w := (HBw.cell (p := ⟨g3, 2, none⟩) kz).trans k2
    have y3w := (HBw.cell (p := ⟨(adA.add (tq * 4)).block, (adA.add (tq * 4)).off + 3, none⟩) hB3).trans y3
    have o0w := (HBw.cell (p := adR.add (b * 3)) hR2).trans o0
    have o1w := (HBw.cell (p := ⟨(adR.add (b * 3)).block, (adR.add (b * 3)).off + 1, none⟩) hR2).trans o1
    have o2w := (HBw.cell (p := ⟨(adR.add (b * 3)).block, (adR.add (b * 3)).off + 2, none⟩) hR2).trans o2
    clear hi hA hF hG hT
    go_simp
    exact hK _ _ bR (updV_self _ _ _)
  refine RgAll.cons [] rfl (by decide) ?_ ?_
  · intro u w X hi hA hF hG hT K hK
    simp only [lay, Act.put, sA, sZ, sS] at hK ⊢
    clear hi hA hF hG hT
    go_simp
    exact hK _ _ bR (updV_self _ _ _)
  refine RgAll.cons [(10, 142)] rfl (by decide) ?_ ?_
  · intro u w X hi hA hF hG hT K hK
    have t10 : u 10 = .pointer (some ⟨g3, 2, none⟩) := hT 10 (hA 10 rfl)
    simp only [lay, Act.put, sA, sZ, sS, t10] at hK ⊢
    have HBw : Below W4.heap.size W4 w := hG.2.1 (hF 14 rfl)
    have m17w := (HBw.cell (p := ⟨mb, 17, none⟩) hlt4).trans m17
    have k2w := (HBw.cell (p := ⟨g3, 2, none⟩) kz).trans k2
    have y3w := (HBw.cell (p := ⟨(adA.add (tq * 4)).block, (adA.add (tq * 4)).off + 3, none⟩) hB3).trans y3
    have o0w := (HBw.cell (p := adR.add (b * 3)) hR2).trans o0
    have o1w := (HBw.cell (p := ⟨(adR.add (b * 3)).block, (adR.add (b * 3)).off + 1, none⟩) hR2).trans o1
    have o2w := (HBw.cell (p := ⟨(adR.add (b * 3)).block, (adR.add (b * 3)).off + 2, none⟩) hR2).trans o2
    clear hi hA hF hG hT
    go_simp
    exact hK _ _ bR (updV_self _ _ _)
  refine RgAll.cons [(9, 141), (11, 143)] rfl (by decide) ?_ ?_
  · intro u w X hi hA hF hG hT K hK
    have t9 : u 9 = .slice (some adR) a2.aa.length d2 := hT 9 (hA 9 rfl)
    have t11 : u 11 = .int .i64 (b : Int) := hT 11 (hA 11 rfl)
    simp only [lay, Act.put, sA, sZ, sS, t9, t11] at hK ⊢
    clear hi hA hF hG hT
    go_simp
    exact hK _ _ bR (updV_self _ _ _)
  refine RgAll.cons [(12, 144)] rfl (by decide) ?_ ?_
  · intro u w X hi hA hF hG hT K hK
    have t12 : u 12 = .pointer (some (adR.add (b * 3))) := hT 12 (hA 12 rfl)
    simp only [lay, Act.put, sA, sZ, sS, t12] at hK ⊢
    have HBw : Below W4.heap.size W4 w := hG.2.1 (hF 14 rfl)
    have m17w := (HBw.cell (p := ⟨mb, 17, none⟩) hlt4).trans m17
    have k2w := (HBw.cell (p := ⟨g3, 2, none⟩) kz).trans k2
    have y3w := (HBw.cell (p := ⟨(adA.add (tq * 4)).block, (adA.add (tq * 4)).off + 3, none⟩) hB3).trans y3
    have o0w := (HBw.cell (p := adR.add (b * 3)) hR2).trans o0
    have o1w := (HBw.cell (p := ⟨(adR.add (b * 3)).block, (adR.add (b * 3)).off + 1, none⟩) hR2).trans o1
    have o2w := (HBw.cell (p := ⟨(adR.add (b * 3)).block, (adR.add (b * 3)).off + 2, none⟩) hR2).trans o2
    clear hi hA hF hG hT
    go_simp
    exact hK _ _ bR (updV_self _ _ _)
  refine RgAll.consS [(0, 132), (13, 145)] rfl ?_ ?_
  · intro u w X hi hA hF hG hT K hK
    have t0 : u 0 = .pointer (some ⟨mb, 0, none⟩) := hT 0 (hA 0 rfl)
    have t13 : u 13 = .agg #[.int .u64 ((o.getD (0, 0)).1 : Int), .int .u64 ((o.getD (0, 0)).2 : Int), .bool o.isSome] := hT 13 (hA 13 rfl)
    simp only [lay, Act.put, sA, sZ, sS, t0, t13] at hK ⊢
    have HBw : Below W4.heap.size W4 w := hG.2.1 hi
    go_simp
    refine (HRD.out w HBw).mono ?_
    rintro e w5 ⟨rfl, hm5, hg5⟩
    refine hK _ w5 ⟨grownBy_trans hG.1 hg5, fun h => absurd (by simp) h, fun _ => hm5⟩ ?_
    intro j hj
    match j, hj with
     | 0, hj => exact (updV_ne _ _ (by decide)).trans (hT 0 (hj.resolve_left (by decide)))
     | 1, hj => exact (updV_ne _ _ (by decide)).trans (hT 1 (hj.resolve_left (by decide)))
     | 2, hj => exact (updV_ne _ _ (by decide)).trans (hT 2 (hj.resolve_left (by decide)))
     | 3, hj => exact (updV_ne _ _ (by decide)).trans (hT 3 (hj.resolve_left (by decide)))
     | 4, hj => exact (updV_ne _ _ (by decide)).trans (hT 4 (hj.resolve_left (by decide)))
     | 5, hj => exact (updV_ne _ _ (by decide)).trans (hT 5 (hj.resolve_left (by decide)))
     | 6, hj => exact (updV_ne _ _ (by decide)).trans (hT 6 (hj.resolve_left (by decide)))
     | 7, hj => exact (updV_ne _ _ (by decide)).trans (hT 7 (hj.resolve_left (by decide)))
     | 8, hj => exact (updV_ne _ _ (by decide)).trans (hT 8 (hj.resolve_left (by decide)))
     | 9, hj => exact (updV_ne _ _ (by decide)).trans (hT 9 (hj.resolve_left (by decide)))
     | 10, hj => exact (updV_ne _ _ (by decide)).trans (hT 10 (hj.resolve_left (by decide)))
     | 11, hj => exact (updV_ne _ _ (by decide)).trans (hT 11 (hj.resolve_left (by decide)))
     | 12, hj => exact (updV_ne _ _ (by decide)).trans (hT 12 (hj.resolve_left (by decide)))
     | 13, hj => exact (updV_ne _ _ (by decide)).trans (hT 13 (hj.resolve_left (by decide)))
     | 14, hj => exact updV_self _ _ _
     | 15, hj => exact (by simp only [updV_ne _ _ (show 15 ≠ 14 by decide)]; obtain ⟨b9, e, hb9, hk⟩ := hT 15 (hj.resolve_left (by decide)); exact ⟨b9, e, hb9, fun hx => (hk (fun q => hx (.inr q))).grown hg5 (some_ne (by omega))⟩)
     | 16, hj => exact (absurd (hj.resolve_left (by decide)) (hF 16 rfl))
     | _ + 17, hj => exact trivial
  refine RgAll.cons [] rfl (by decide) ?_ ?_
  · intro u w X hi hA hF hG hT K hK
    simp only [lay, Act.put, sA, sZ, sS] at hK ⊢
    have hzw := hG.1.size
    clear hi hA hF hG hT
    go_simp
    exact hK _ _ (bR.alloc nL _) ⟨w.heap.size, updV_self _ _ _, hzw, fun _ => Blk.new _ _ _⟩
  refine RgAll.consS [(15, 10), (14, 146)] rfl ?_ ?_
  · intro u w X hi hA hF hG hT K hK
    have t14 : u 14 = .agg #[.int .u64 ((o.getD (0, 0)).1 : Int), .int .u64 ((o.getD (0, 0)).2 : Int)] := hT 14 (hA 14 rfl)
    have t15 : ∃ b9, u 15 = .pointer (some ⟨b9, 0, none⟩) ∧ W4.heap.size ≤ b9 ∧ (¬ X 16 → Blk w b9 37 #[.int .u64 0, .int .u64 0]) := hT 15 (hA 15 rfl)
    simp only [lay, Act.put, sA, sZ, sS, t14] at hK ⊢
    obtain ⟨b9, e15, hb9, hk9⟩ := t15
    have hk := hk9 hi
    have hmk := hG.2.2 (hA 14 rfl)
    simp only [e15] at hK ⊢
    obtain ⟨j0, j1, jf0, jf1, jz⟩ := hk.c2
    go_simp
    refine hK undef _ ⟨grownBy_set (grownBy_set hG.1 (p := ⟨b9, 0, none⟩) hb9 _) (p := ⟨b9, 1, none⟩) hb9 _, fun h => absurd (.inr (hA 14 rfl)) h, fun _ => (hmk.far (p := ⟨b9, 0, none⟩) (by show mb ≠ b9; omega) _).far (p := ⟨b9, 1, none⟩) (by show mb ≠ b9; omega) _⟩ ?_
    intro j hj
    match j, hj with
    | 0, hj => exact (updV_ne _ _ (by decide)).trans (hT 0 (hj.resolve_left (by decide)))
    | 1, hj => exact (updV_ne _ _ (by decide)).trans (hT 1 (hj.resolve_left (by decide)))
    | 2, hj => exact (updV_ne _ _ (by decide)).trans (hT 2 (hj.resolve_left (by decide)))
    | 3, hj => exact (updV_ne _ _ (by decide)).trans (hT 3 (hj.resolve_left (by decide)))
    | 4, hj => exact (updV_ne _ _ (by decide)).trans (hT 4 (hj.resolve_left (by decide)))
    | 5, hj => exact (updV_ne _ _ (by decide)).trans (hT 5 (hj.resolve_left (by decide)))
    | 6, hj => exact (updV_ne _ _ (by decide)).trans (hT 6 (hj.resolve_left (by decide)))
    | 7, hj => exact (updV_ne _ _ (by decide)).trans (hT 7 (hj.resolve_left (by decide)))
    | 8, hj => exact (updV_ne _ _ (by decide)).trans (hT 8 (hj.resolve_left (by decide)))
    | 9, hj => exact (updV_ne _ _ (by decide)).trans (hT 9 (hj.resolve_left (by decide)))
    | 10, hj => exact (updV_ne _ _ (by decide)).trans (hT 10 (hj.resolve_left (by decide)))
    | 11, hj => exact (updV_ne _ _ (by decide)).trans (hT 11 (hj.resolve_left (by decide)))
    | 12, hj => exact (updV_ne _ _ (by decide)).trans (hT 12 (hj.resolve_left (by decide)))
    | 13, hj => exact (updV_ne _ _ (by decide)).trans (hT 13 (hj.resolve_left (by decide)))
    | 14, hj => exact (updV_ne _ _ (by decide)).trans (hT 14 (hj.resolve_left (by decide)))
    | 15, hj => exact (by simp only [updV_ne _ _ (show 15 ≠ 16 by decide)]; exact ⟨b9, e15, hb9, fun h => absurd (by simp) h⟩)
    | 16, hj => exact (by simp only [updV_ne _ _ (show 15 ≠ 16 by decide)]; exact ⟨b9, e15, hb9, (hk.set_ 0 _).set_ 1 _⟩)
    | _ + 17, hj => exact trivial
  exact RgAll.nil
 intro u w X hX hG hT
 have t0 : u 0 = .pointer (some ⟨mb, 0, none⟩) := hT 0 (by simp)
 have t1 : u 1 = .pointer (some ⟨mb, 0, none⟩) := hT 1 (by simp)
 have t2 : u 2 = .pointer (some ⟨mb, 0, none⟩) := hT 2 (by simp)
 have t3 : u 3 = .pointer (some ⟨mb, 17, none⟩) := hT 3 (by simp)
 have t4 : u 4 = .slice (some adA) (t + 1) ca := hT 4 (by simp)
 have t5 : u 5 = .int .i64 (t : Int) := hT 5 (by simp)
 have t6 : u 6 = .int .i64 (tq : Int) := hT 6 (by simp)
 have t7 : u 7 = .pointer (some (adA.add (tq * 4))) := hT 7 (by simp)
 have t8 : u 8 = .pointer (some ⟨(adA.add (tq * 4)).block, (adA.add (tq * 4)).off + 3, none⟩) := hT 8 (by simp)
 have t9 : u 9 = .slice (some adR) a2.aa.length d2 := hT 9 (by simp)
 have t10 : u 10 = .pointer (some ⟨g3, 2, none⟩) := hT 10 (by simp)
 have t11 : u 11 = .int .i64 (b : Int) := hT 11 (by simp)
 have t12 : u 12 = .pointer (some (adR.add (b * 3))) := hT 12 (by simp)
 have t13 : u 13 = .agg #[.int .u64 ((o.getD (0, 0)).1 : Int), .int .u64 ((o.getD (0, 0)).2 : Int), .bool o.isSome] := hT 13 (by simp)
 have t14 : u 14 = .agg #[.int .u64 ((o.getD (0, 0)).1 : Int), .int .u64 ((o.getD (0, 0)).2 : Int)] := hT 14 (by simp)
 have t15 : ∃ b9, u 15 = .pointer (some ⟨b9, 0, none⟩) ∧ W4.heap.size ≤ b9 ∧ (¬ X 16 → Blk w b9 37 #[.int .u64 0, .int .u64 0]) := hT 15 (by simp)
 have t16 : ∃ b9, u 15 = .pointer (some ⟨b9, 0, none⟩) ∧ W4.heap.size ≤ b9 ∧ Blk w b9 37 #[.int .u64 ((o.getD (0, 0)).1 : Int), .int .u64 ((o.getD (0, 0)).2 : Int)] := hT 16 (by simp)
 simp only [lay, Act.put, sA, sZ, sS, t0, t1, t2, t3, t4, t5, t6, t7, t8, t9, t10, t11, t12, t13, t14]
 clear hT t0 t1 t2 t3 t4 t5 t6 t7 t8 t9 t10 t11 t12 t13 t14
 obtain ⟨g8, e15, hb9, hk9⟩ := t16
 rw [e15]
 have HK8 := hQ hk9
 have HG46 := hQ hG.1
 have HMB6 := hQ (hG.2.2 (hX 14 (by simp)))
 clear hX hG t15 e15 hk9 k0 k1 k2 kz m17 y3 o0 o1 o2
 generalize w = W6 at *
 have HGd := hQ (grownBy_trans (grownBy_of_below HB4.out _) HG46.out)
 have HM6 : Hid (SAt W6 mb (.slice (some ad) p.length cp) iv (some adA) ca At ct s') := hQ (HM.out.move HGd.out HMB6.out HEA.out HET.out)
 have HK6d := hQ (HK6b.out.grown HG46.out (some_ne (by omega)))
 have HK3d := hQ (HK3.out.grown HG46.out (some_ne (by omega)))
 have HCd := hQ (keepX HCS4.out HCA4.out HG46.out bR)
 clear htq6 HK3 HB4 HM4 HCA4 HSX4 HK7 hg67 HK6b HCS4 hbi hlm HM HCS HCA HRD HMB6 HG46 hR2 hB3 hR1 hB2 htm ht2i ht20 hlt4
 cases o with
 | none =>
  have hs1 : s' = s.stop 3 := by rw [HS.out]; rfl
  rw [hs1] at HM6
  clear HS HEA HET hs1
  have HMt := HM6
  have HK6t := HK6d
  have HGt := HGd
  have HCt := HCd
  have m20 : W6.cell? ⟨mb, 20, none⟩ = some (.bool true) := HMt.out.cells.2.2.2.2.1
  go_upto_region 25 with (fail)
  have HRt : Hid (({ s.stop 3 with acts := (s.stop 3).acts.set t a0 } : Sx8) = RES) := hQ (by rw [← HRES.out, ← HA2.out, ← HO.out, HA0.out]; exact set_top _ (by have := HT.out; show t < s.acts.length; omega))
  have HT1 : Hid ((s.stop 3).acts.length = t + 1) := hQ HT.out
  have HKt := hQ (⟨hk1, hk2⟩ : (a0.ss.length ≤ c1 ∧ a0.ss.length ≤ maxLen) ∧ (a0.aa.length ≤ c2 ∧ a0.aa.length ≤ maxLen))
  clear m20 HK3d HK8
  obtain ⟨vs5, hr5, hv5⟩ := HMt.out.acts
  obtain ⟨-, m17, -, -, -, -, -, hltt⟩ := HMt.out.cells
  obtain ⟨q0, q1, q2, q3, -, -, -, -, qz⟩ := HK6t.out.c4
  rw [HT1.out] at m17 hr5
  have HR5 := hQ hr5
  have HV5 := hQ hv5
  have HO5 := hQ (SVx.one hv5 (by rw [HT1.out]; exact hr5.1.1))
  clear hr5 hv5
  go_upto_region 26 with (at_builtin; refine wpList_append_any _ rfl (.const (.slice none 0 0)) (.tmp 162) _ rfl W6.heap.size 100 i0 _ 4 64 Tryd.underlying81 hi0 hz0 hz1 hz2 rfl (by omega) (.slice none 0 0) 0 [] rfl (World.ownsRow_nil _ _ _ _) _ (some adA) (t + 1) ca vs5 rfl HR5.out.1 HO5.out (by unfold maxLen; omega) (by omega) nL ?_; intro o1 w8 own8' hg8' hat8'; have own8 : w8.ownsRow W6.heap.size 100 4 o1 (t + 1) vs5 := (by simpa using own8'); obtain ⟨g, cap, rfl, hg, hglt⟩ := own8.form (by omega))
  have b8 : Below W6.heap.size W6 w8 := below_append bR (World.ownsRow_nil W6 W6.heap.size 100 4) hg8' nL (by simp)
  have HB8 := hQ b8
  have HO8 := hQ own8
  clear own8' hg8' hat8' q0 q1 q2 q3 m17
  have hvl : vs5.length = (t + 1) * 4 := HR5.out.1.1
  obtain ⟨q0, q1, q2, q3, -, -, -, -, qz8⟩ := (HK6t.out.after b8).c4
  obtain ⟨Sl6, d3, Ar6, d4, v0, v1, v2, v3, -⟩ := HV5.out t (Nat.lt_of_lt_of_eq (Nat.lt_succ_self t) HT1.out.symm)
  have r0 := (own8.cellAt (t * 4) (by omega)).trans v0
  have r1 := (own8.cellAt (t * 4 + 1) (by omega)).trans v1
  have r2 := (own8.cellAt (t * 4 + 2) (by omega)).trans v2
  have r3 := (own8.cellAt (t * 4 + 3) (by omega)).trans v3
  have rf0 := own8.frozenAt (t * 4)
  have rf1 := own8.frozenAt (t * 4 + 1)
  have rf2 := own8.frozenAt (t * 4 + 2)
  have rf3 := own8.frozenAt (t * 4 + 3)
  have m17 := (HMt.out.after b8).cells.2.1
  have mf := (HMt.out.after b8).blk.frozen 17
  rw [HT1.out] at m17
  have hg6g : g6 < g := by omega
  have hgm : ¬ g = mb := by omega
  have hmg : ¬ mb = g := by omega
  have hzm : mb < w8.heap.size := by have := HB8.out.size; omega
  clear own8 b8 v0 v1 v2 v3
  go_wp2
  go_ret
  have fin := HMt.out.relay HB8.out (by rw [HT1.out]; exact HR5.out) HV5.out (by rw [HT1.out]; exact HO8.out) (t := t) (Nat.lt_of_lt_of_eq (Nat.lt_succ_self t) HT1.out.symm) a0 HCt.out.1 HCt.out.2 HKt.out.1 HKt.out.2
  rw [HT1.out, HRt.out] at fin
  exact ⟨rfl, grownBy_trans HGt.out (grownBy_trans (grownBy_of_below ((((HB8.out.setCell hg _).setCell hg _).setCell hg _).setCell hg _) _) (grown_mb _ _ _ _)), some ⟨g, 0, none⟩, cap, fin⟩
 | some v =>
  have hs1 : s' = s := by rw [HS.out]; rfl
  rw [hs1] at HM6
  clear HS HEA HET hs1
  have m20 : W6.cell? ⟨mb, 20, none⟩ = some (.bool false) := by rw [← hne]; exact HM6.out.cells.2.2.2.2.1
  go_upto_region 24 with (fail)
  obtain ⟨k0, k1, k2, -, -, -, -, -, -, -, kz⟩ := HK3d.out.c5
  obtain ⟨j0, j1, -, -, jz⟩ := HK8.out.c2
  obtain ⟨r0, r1⟩ := sreg_cell HM6.out.blk ha
  have f0 := HM6.out.blk.frozen (1 + a * 2)
  have f1 := HM6.out.blk.frozen (1 + a * 2 + 1)
  have hlt6 := HM6.out.blk.lt
  have ha0 : (0 : Int) ≤ (a : Int) := by omega
  have hai : (a : Int) < 8 := by omega
  go_still_tail 7, (by kernel_rfl)
  change wpList _ _ _ _ _ W6.drew
  go_upto_region 25 with (fail)
  obtain ⟨Wt, hWt⟩ : ∃ W, W = ((W6.setCell ⟨mb, 1 + a * 2, none⟩ (.int .u64 (v.1 : Int))).setCell ⟨mb, 1 + a * 2 + 1, none⟩ (.int .u64 (v.2 : Int))).drew := ⟨_, rfl⟩
  rw [← hWt]
  have HMt : Hid (SAt Wt mb (.slice (some ad) p.length cp) iv (some adA) ca At ct { s with regs := s.regs.set a v }) := hQ (by rw [hWt]; exact (HM6.out.rset hr8 ha v).after (bR.drew))
  have HK6t : Hid (Blk Wt g6 100 #[.int .i64 (a0.f : Int), .int .i64 (a0.pc : Int), .slice Sl a0.ss.length c1, .slice Ar a0.aa.length c2]) := hQ (by rw [hWt]; exact ((HK6d.out.far (p := ⟨mb, 1 + a * 2, none⟩) (by show g6 ≠ mb; omega) _).far (p := ⟨mb, 1 + a * 2 + 1, none⟩) (by show g6 ≠ mb; omega) _).drew)
  have HCt : Hid (CX Wt (mb + 1) Wt.heap.size Sl a0.ss ∧ CX Wt (mb + 1) Wt.heap.size Ar a0.aa) := hQ (by
   have hk : Kp (mb + 1) W6.heap.size W6 Wt := by rw [hWt]; exact ((((Kp.refl _ _ _).set (p := ⟨mb, 1 + a * 2, none⟩) (.inl (by show mb < mb + 1; omega)) _).set (p := ⟨mb, 1 + a * 2 + 1, none⟩) (.inl (by show mb < mb + 1; omega)) _))
   have hz : Wt.heap.size = W6.heap.size := by rw [hWt]; simp [World.setCell]
   rw [hz]
   exact ⟨HCd.out.1.keep hk, HCd.out.2.keep hk⟩)
  have HGt : Hid (W1.grownBy Wt (some mb)) := hQ (by rw [hWt]; exact grownBy_trans HGd.out (grownBy_trans (grown_mb _ _ _ _) (grownBy_trans (grown_mb _ _ _ _) (grownBy_of_below (bR.drew) _))))
  have HT1 : Hid (({ s with regs := s.regs.set a v } : Sx8).acts.length = t + 1) := hQ HT.out
  have HRt : Hid (({ s with regs := s.regs.set a v, acts := ({ s with regs := s.regs.set a v } : Sx8).acts.set t a0 } : Sx8) = RES) := hQ (by
   rw [← HRES.out, ← HA2.out, ← HO.out, HA0.out]
   exact set_top ({ s with regs := s.regs.set a v } : Sx8) (by have := HT.out; show t < s.acts.length; omega))
  have HKt := hQ (⟨hk1, hk2⟩ : (a0.ss.length ≤ c1 ∧ a0.ss.length ≤ maxLen) ∧ (a0.aa.length ≤ c2 ∧ a0.aa.length ≤ maxLen))
  clear hWt k0 k1 k2 kz j0 j1 jz r0 r1 f0 f1 hlt6 HM6 HK6d HK3d HCd HGd HK8 m20
  obtain ⟨vs5, hr5, hv5⟩ := HMt.out.acts
  obtain ⟨-, m17, -, -, -, -, -, hltt⟩ := HMt.out.cells
  obtain ⟨q0, q1, q2, q3, -, -, -, -, qz⟩ := HK6t.out.c4
  rw [HT1.out] at m17 hr5
  have HR5 := hQ hr5
  have HV5 := hQ hv5
  have HO5 := hQ (SVx.one hv5 (by rw [HT1.out]; exact hr5.1.1))
  clear hr5 hv5
  go_upto_region 26 with (at_builtin; refine wpList_append_any _ rfl (.const (.slice none 0 0)) (.tmp 162) _ rfl Wt.heap.size 100 i0 _ 4 64 Tryd.underlying81 hi0 hz0 hz1 hz2 rfl (by omega) (.slice none 0 0) 0 [] rfl (World.ownsRow_nil _ _ _ _) _ (some adA) (t + 1) ca vs5 rfl HR5.out.1 HO5.out (by unfold maxLen; omega) (by omega) nL ?_; intro o1 w8 own8' hg8' hat8'; have own8 : w8.ownsRow Wt.heap.size 100 4 o1 (t + 1) vs5 := (by simpa using own8'); obtain ⟨g, cap, rfl, hg, hglt⟩ := own8.form (by omega))
  have b8 : Below Wt.heap.size Wt w8 := below_append bR (World.ownsRow_nil Wt Wt.heap.size 100 4) hg8' nL (by simp)
  have HB8 := hQ b8
  have HO8 := hQ own8
  clear own8' hg8' hat8' q0 q1 q2 q3 m17
  have hvl : vs5.length = (t + 1) * 4 := HR5.out.1.1
  obtain ⟨q0, q1, q2, q3, -, -, -, -, qz8⟩ := (HK6t.out.after b8).c4
  obtain ⟨Sl6, d3, Ar6, d4, v0, v1, v2, v3, -⟩ := HV5.out t (Nat.lt_of_lt_of_eq (Nat.lt_succ_self t) HT1.out.symm)
  have r0 := (own8.cellAt (t * 4) (by omega)).trans v0
  have r1 := (own8.cellAt (t * 4 + 1) (by omega)).trans v1
  have r2 := (own8.cellAt (t * 4 + 2) (by omega)).trans v2
  have r3 := (own8.cellAt (t * 4 + 3) (by omega)).trans v3
  have rf0 := own8.frozenAt (t * 4)
  have rf1 := own8.frozenAt (t * 4 + 1)
  have rf2 := own8.frozenAt (t * 4 + 2)
  have rf3 := own8.frozenAt (t * 4 + 3)
  have m17 := (HMt.out.after b8).cells.2.1
  have mf := (HMt.out.after b8).blk.frozen 17
  rw [HT1.out] at m17
  have hg6g : g6 < g := by omega
  have hgm : ¬ g = mb := by omega
  have hmg : ¬ mb = g := by omega
  have hzm : mb < w8.heap.size := by have := HB8.out.size; omega
  clear own8 b8 v0 v1 v2 v3
  go_wp2
  go_ret
  have fin := HMt.out.relay HB8.out (by rw [HT1.out]; exact HR5.out) HV5.out (by rw [HT1.out]; exact HO8.out) (t := t) (Nat.lt_of_lt_of_eq (Nat.lt_succ_self t) HT1.out.symm) a0 HCt.out.1 HCt.out.2 HKt.out.1 HKt.out.2
  rw [HT1.out, HRt.out] at fin
  exact ⟨rfl, grownBy_trans HGt.out (grownBy_trans (grownBy_of_below ((((HB8.out.setCell hg _).setCell hg _).setCell hg _).setCell hg _) _) (grown_mb _ _ _ _)), some ⟨g, 0, none⟩, cap, fin⟩
end
end Go.Proofs.YtdijeijbcoeopaaDoor.pm
