/- MachLimits: the walk of the law. -/
import Derived.Test.YtgakphichcihjaaKh
import Derived.Test.YtgakphichcihjaaAw10
import Derived.Deep.CutBlock
namespace Go.Proofs.Ytgakphichcihjaa.pm
open Go.RowKit
set_option linter.unusedVariables false
set_option maxRecDepth 10000
theorem reads_blk {w : World} {g : Nat} {t : TypeId} {cs : Array Value} {n size : Nat} (h : Blk w g t cs) (hl : cs.size = n * size) : Reads w w.heap.size size (some ⟨g, 0, none⟩) n cs.toList :=
  ⟨by rw [Array.length_toList, hl], fun _ => ⟨⟨g, 0, none⟩, rfl, h.lt, fun j u hu => by
    have e : (⟨g, 0, none⟩ : Addr).add j = ⟨g, j, none⟩ := by unfold Addr.add; by_cases hj : j = 0 <;> simp [hj]
    rw [e, Blk.cell h j]
    rw [Array.getElem?_toList] at hu
    exact hu⟩⟩
def retF (sz : Int) : Fr := ⟨0, sz, [⟨23, 0, 0, 0, 0⟩]⟩
theorem gx_one {w : World} {gc gf : Nat} {sz : Int} {t5 t3 : TypeId} (hc : Blk w gc t5 #[.int .i64 23, .int .i64 0, .int .i64 0, .int .i64 0, .int .u64 0]) (hf : Blk w gf t3 #[.int .i64 0, .int .i64 sz, .slice (some ⟨gc, 0, none⟩) 1 1]) : Gx w 0 w.heap.size (some ⟨gf, 0, none⟩) [retF sz] := by
  have h1 : Reads w w.heap.size 3 (some ⟨gf, 0, none⟩) 1 [.int .i64 0, .int .i64 sz, .slice (some ⟨gc, 0, none⟩) 1 1] := reads_blk hf rfl
  have h2 : Reads w w.heap.size 5 (some ⟨gc, 0, none⟩) 1 (inV [⟨23, 0, 0, 0, 0⟩]) := reads_blk hc rfl
  refine ⟨_, Rx.of_reads h1, fun i hi => ?_⟩
  obtain rfl : i = 0 := by simpa using hi
  exact ⟨some ⟨gc, 0, none⟩, 1, rfl, rfl, rfl, Rx.of_reads h2, (by show 1 ≤ maxLen; decide), (by show 1 ≤ 1; decide)⟩
theorem tgr_one {al sz : Int} (h : I64 al) (h' : I64 sz) : TgR al [retF sz] := by
  refine ⟨h, fun f hf => ?_⟩
  obtain rfl : f = retF sz := by simpa using hf
  refine ⟨(by show -9223372036854775808 ≤ (0 : Int) ∧ (0 : Int) ≤ 9223372036854775807; decide), h', fun x hx => ?_⟩
  obtain rfl : x = ⟨23, 0, 0, 0, 0⟩ := by simpa [retF] using hx
  unfold InR I64
  decide
set_option maxHeartbeats 4000000 in
theorem ml_law (a h : Int) (ha0 : -128 ≤ a) (ha1 : a ≤ 127) (hh0 : 0 ≤ h) (hh1 : h ≤ 255) (w : World) :
    Calls Try.prog 5 #[.int .i8 a, .int .u8 h] w fun e w' => e = .returned (.bool true) ∧ Below w.heap.size w w' := by
  have hn : a.tmod 2 = -1 ∨ a.tmod 2 = 0 ∨ a.tmod 2 = 1 := by
    have h1 := Int.tmod_lt_of_pos a (show (0 : Int) < 2 by decide)
    have h2 := Int.lt_tmod_of_pos a (show (0 : Int) < 2 by decide)
    omega
  have hq : h % 3 = 0 ∨ h % 3 = 1 ∨ h % 3 = 2 := by omega
  have hqt : h.tmod 3 = h % 3 := Int.tmod_eq_emod_of_nonneg hh0
  rcases hn with hn | hn | hn <;> rcases hq with hq | hq | hq
  · have hnn : a.tmod 2 = -1 := hn
    have hqq : h % 3 = 0 := hq
    have HE : Hid (tgE 16 [retF 2147483488] = 0) := Lib.hid (by kernel_rfl)
    clear hn hq
    go_enter Try.func5, Try.ntmps5
    go_wp2_with fail
    refine (awake10 _).mono ?_
    rintro e w1 ⟨rfl, bel⟩
    have HB := Lib.hid bel
    clear bel
    go_upto_region 5 with (fail)
    obtain ⟨W4, hW4⟩ : ∃ W4, W4 = ((w1.alloc (.cells #[.int .i64 23, .int .i64 0, .int .i64 0, .int .i64 0, .int .u64 0] 45)).alloc (.cells #[.int .i64 0, .int .i64 0, .slice (some ⟨w1.heap.size, 0, none⟩) 1 1] 38)).alloc (.cells #[.int .i64 16, .slice (some ⟨w1.heap.size + 1, 0, none⟩) 1 1] 24) := ⟨_, rfl⟩
    rw [← hW4]
    have HC : Hid (Blk W4 w1.heap.size 45 #[.int .i64 23, .int .i64 0, .int .i64 0, .int .i64 0, .int .u64 0]) := Lib.hid (by rw [hW4]; exact ((Blk.new _ _ _).alloc _).alloc _)
    have HF : Hid (Blk W4 (w1.heap.size + 1) 38 #[.int .i64 0, .int .i64 0, .slice (some ⟨w1.heap.size, 0, none⟩) 1 1]) := Lib.hid (by rw [hW4]; exact (Blk.newAt (by simp)).alloc _)
    have HT : Hid (Blk W4 (w1.heap.size + 1 + 1) 24 #[.int .i64 16, .slice (some ⟨w1.heap.size + 1, 0, none⟩) 1 1]) := Lib.hid (by rw [hW4]; exact Blk.newAt (by simp))
    have HB4 : Hid (Below w.heap.size w W4) := Lib.hid (by rw [hW4]; exact Below.al (Below.al (Below.al HB.out _) _) _)
    have hzw : w.heap.size ≤ w1.heap.size := HB.out.size
    clear hW4
    obtain ⟨gc, hgc⟩ : ∃ g, g = w1.heap.size := ⟨_, rfl⟩
    rw [← hgc] at HC HF HT hzw ⊢
    obtain ⟨gf, hgf⟩ : ∃ g, g = gc + 1 := ⟨_, rfl⟩
    rw [← hgf] at HF HT ⊢
    obtain ⟨gt, hgt⟩ : ∃ g, g = gf + 1 := ⟨_, rfl⟩
    rw [← hgt] at HT ⊢
    have hcf : gc ≠ gf := by omega
    have hct : gc ≠ gt := by omega
    have hft : gf ≠ gt := by omega
    have htf : gt ≠ gf := by omega
    have hle1 : w.heap.size ≤ gf := by omega
    have hle2 : w.heap.size ≤ gt := by omega
    clear HB hgc hgf hgt hzw
    obtain ⟨x0, x1, y0, -, xz⟩ := HT.out.c2
    obtain ⟨f0, f1, f2, -, g1, -, fz⟩ := HF.out.c3
    go_upto_region 19 with (fail)
    obtain ⟨W5, hW5⟩ : ∃ W5, W5 = (W4.setCell ⟨gf, 1, none⟩ (.int .i64 2147483488)) := ⟨_, rfl⟩
    rw [← hW5]
    have HC5 : Hid (Blk W5 gc 45 #[.int .i64 23, .int .i64 0, .int .i64 0, .int .i64 0, .int .u64 0]) := Lib.hid (by rw [hW5]; exact (HC.out.far (p := ⟨gf, 1, none⟩) hcf _))
    have HF5 : Hid (Blk W5 gf 38 #[.int .i64 0, .int .i64 2147483488, .slice (some ⟨gc, 0, none⟩) 1 1]) := Lib.hid (by rw [hW5]; exact (HF.out.set_ 1 _))
    have HT5 : Hid (Blk W5 gt 24 #[.int .i64 16, .slice (some ⟨gf, 0, none⟩) 1 1]) := Lib.hid (by rw [hW5]; exact (HT.out.far (p := ⟨gf, 1, none⟩) htf _))
    have HB5 : Hid (Below w.heap.size w W5) := Lib.hid (by rw [hW5]; exact (HB4.out.setCell (p := ⟨gf, 1, none⟩) hle1 _))
    clear hW5 x0 x1 y0 xz f0 f1 f2 g1 fz HC HF HT HB4
    obtain ⟨x0, x1, -, -, xz⟩ := HT5.out.c2
    have HCK := Lib.hid (mcheck_any (al := 16) (t := [retF 2147483488]) (some ⟨gf, 0, none⟩) 1 (tgr_one (by unfold I64; decide) (by unfold I64; decide)) W5 0 W5.heap.size (gx_one HC5.out HF5.out) (Nat.le_refl _) (by decide))
    go_wp2_with fail
    refine HCK.out.mono ?_
    rintro e w6 ⟨rfl, bel⟩
    have HB6 := Lib.hid (HB5.out.trans (bel.mono HB5.out.size))
    clear bel
    rw [HE.out]
    go_wp2
    go_ret
    exact ⟨rfl, HB6.out⟩
  · have hnn : a.tmod 2 = -1 := hn
    have hqq : h % 3 = 1 := hq
    have HE : Hid (tgE 16777216 [retF 0] = 0) := Lib.hid (by kernel_rfl)
    clear hn hq
    go_enter Try.func5, Try.ntmps5
    go_wp2_with fail
    refine (awake10 _).mono ?_
    rintro e w1 ⟨rfl, bel⟩
    have HB := Lib.hid bel
    clear bel
    go_upto_region 5 with (fail)
    obtain ⟨W4, hW4⟩ : ∃ W4, W4 = ((w1.alloc (.cells #[.int .i64 23, .int .i64 0, .int .i64 0, .int .i64 0, .int .u64 0] 45)).alloc (.cells #[.int .i64 0, .int .i64 0, .slice (some ⟨w1.heap.size, 0, none⟩) 1 1] 38)).alloc (.cells #[.int .i64 16, .slice (some ⟨w1.heap.size + 1, 0, none⟩) 1 1] 24) := ⟨_, rfl⟩
    rw [← hW4]
    have HC : Hid (Blk W4 w1.heap.size 45 #[.int .i64 23, .int .i64 0, .int .i64 0, .int .i64 0, .int .u64 0]) := Lib.hid (by rw [hW4]; exact ((Blk.new _ _ _).alloc _).alloc _)
    have HF : Hid (Blk W4 (w1.heap.size + 1) 38 #[.int .i64 0, .int .i64 0, .slice (some ⟨w1.heap.size, 0, none⟩) 1 1]) := Lib.hid (by rw [hW4]; exact (Blk.newAt (by simp)).alloc _)
    have HT : Hid (Blk W4 (w1.heap.size + 1 + 1) 24 #[.int .i64 16, .slice (some ⟨w1.heap.size + 1, 0, none⟩) 1 1]) := Lib.hid (by rw [hW4]; exact Blk.newAt (by simp))
    have HB4 : Hid (Below w.heap.size w W4) := Lib.hid (by rw [hW4]; exact Below.al (Below.al (Below.al HB.out _) _) _)
    have hzw : w.heap.size ≤ w1.heap.size := HB.out.size
    clear hW4
    obtain ⟨gc, hgc⟩ : ∃ g, g = w1.heap.size := ⟨_, rfl⟩
    rw [← hgc] at HC HF HT hzw ⊢
    obtain ⟨gf, hgf⟩ : ∃ g, g = gc + 1 := ⟨_, rfl⟩
    rw [← hgf] at HF HT ⊢
    obtain ⟨gt, hgt⟩ : ∃ g, g = gf + 1 := ⟨_, rfl⟩
    rw [← hgt] at HT ⊢
    have hcf : gc ≠ gf := by omega
    have hct : gc ≠ gt := by omega
    have hft : gf ≠ gt := by omega
    have htf : gt ≠ gf := by omega
    have hle1 : w.heap.size ≤ gf := by omega
    have hle2 : w.heap.size ≤ gt := by omega
    clear HB hgc hgf hgt hzw
    obtain ⟨x0, x1, y0, -, xz⟩ := HT.out.c2
    obtain ⟨f0, f1, f2, -, g1, -, fz⟩ := HF.out.c3
    go_upto_region 19 with (fail)
    obtain ⟨W5, hW5⟩ : ∃ W5, W5 = (W4.setCell ⟨gt, 0, none⟩ (.int .i64 16777216)) := ⟨_, rfl⟩
    rw [← hW5]
    have HC5 : Hid (Blk W5 gc 45 #[.int .i64 23, .int .i64 0, .int .i64 0, .int .i64 0, .int .u64 0]) := Lib.hid (by rw [hW5]; exact (HC.out.far (p := ⟨gt, 0, none⟩) hct _))
    have HF5 : Hid (Blk W5 gf 38 #[.int .i64 0, .int .i64 0, .slice (some ⟨gc, 0, none⟩) 1 1]) := Lib.hid (by rw [hW5]; exact (HF.out.far (p := ⟨gt, 0, none⟩) hft _))
    have HT5 : Hid (Blk W5 gt 24 #[.int .i64 16777216, .slice (some ⟨gf, 0, none⟩) 1 1]) := Lib.hid (by rw [hW5]; exact (HT.out.set_ 0 _))
    have HB5 : Hid (Below w.heap.size w W5) := Lib.hid (by rw [hW5]; exact (HB4.out.setCell (p := ⟨gt, 0, none⟩) hle2 _))
    clear hW5 x0 x1 y0 xz f0 f1 f2 g1 fz HC HF HT HB4
    obtain ⟨x0, x1, -, -, xz⟩ := HT5.out.c2
    have HCK := Lib.hid (mcheck_any (al := 16777216) (t := [retF 0]) (some ⟨gf, 0, none⟩) 1 (tgr_one (by unfold I64; decide) (by unfold I64; decide)) W5 0 W5.heap.size (gx_one HC5.out HF5.out) (Nat.le_refl _) (by decide))
    go_wp2_with fail
    refine HCK.out.mono ?_
    rintro e w6 ⟨rfl, bel⟩
    have HB6 := Lib.hid (HB5.out.trans (bel.mono HB5.out.size))
    clear bel
    rw [HE.out]
    go_wp2
    go_ret
    exact ⟨rfl, HB6.out⟩
  · have hnn : a.tmod 2 = -1 := hn
    have hqq : h % 3 = 2 := hq
    have HE : Hid (tgE 16 [retF 0] = 0) := Lib.hid (by kernel_rfl)
    clear hn hq
    go_enter Try.func5, Try.ntmps5
    go_wp2_with fail
    refine (awake10 _).mono ?_
    rintro e w1 ⟨rfl, bel⟩
    have HB := Lib.hid bel
    clear bel
    go_upto_region 5 with (fail)
    obtain ⟨W4, hW4⟩ : ∃ W4, W4 = ((w1.alloc (.cells #[.int .i64 23, .int .i64 0, .int .i64 0, .int .i64 0, .int .u64 0] 45)).alloc (.cells #[.int .i64 0, .int .i64 0, .slice (some ⟨w1.heap.size, 0, none⟩) 1 1] 38)).alloc (.cells #[.int .i64 16, .slice (some ⟨w1.heap.size + 1, 0, none⟩) 1 1] 24) := ⟨_, rfl⟩
    rw [← hW4]
    have HC : Hid (Blk W4 w1.heap.size 45 #[.int .i64 23, .int .i64 0, .int .i64 0, .int .i64 0, .int .u64 0]) := Lib.hid (by rw [hW4]; exact ((Blk.new _ _ _).alloc _).alloc _)
    have HF : Hid (Blk W4 (w1.heap.size + 1) 38 #[.int .i64 0, .int .i64 0, .slice (some ⟨w1.heap.size, 0, none⟩) 1 1]) := Lib.hid (by rw [hW4]; exact (Blk.newAt (by simp)).alloc _)
    have HT : Hid (Blk W4 (w1.heap.size + 1 + 1) 24 #[.int .i64 16, .slice (some ⟨w1.heap.size + 1, 0, none⟩) 1 1]) := Lib.hid (by rw [hW4]; exact Blk.newAt (by simp))
    have HB4 : Hid (Below w.heap.size w W4) := Lib.hid (by rw [hW4]; exact Below.al (Below.al (Below.al HB.out _) _) _)
    have hzw : w.heap.size ≤ w1.heap.size := HB.out.size
    clear hW4
    obtain ⟨gc, hgc⟩ : ∃ g, g = w1.heap.size := ⟨_, rfl⟩
    rw [← hgc] at HC HF HT hzw ⊢
    obtain ⟨gf, hgf⟩ : ∃ g, g = gc + 1 := ⟨_, rfl⟩
    rw [← hgf] at HF HT ⊢
    obtain ⟨gt, hgt⟩ : ∃ g, g = gf + 1 := ⟨_, rfl⟩
    rw [← hgt] at HT ⊢
    have hcf : gc ≠ gf := by omega
    have hct : gc ≠ gt := by omega
    have hft : gf ≠ gt := by omega
    have htf : gt ≠ gf := by omega
    have hle1 : w.heap.size ≤ gf := by omega
    have hle2 : w.heap.size ≤ gt := by omega
    clear HB hgc hgf hgt hzw
    obtain ⟨x0, x1, y0, -, xz⟩ := HT.out.c2
    obtain ⟨f0, f1, f2, -, g1, -, fz⟩ := HF.out.c3
    go_upto_region 19 with (fail)
    obtain ⟨W5, hW5⟩ : ∃ W5, W5 = (W4.setCell ⟨gt, 0, none⟩ (.int .i64 16)) := ⟨_, rfl⟩
    rw [← hW5]
    have HC5 : Hid (Blk W5 gc 45 #[.int .i64 23, .int .i64 0, .int .i64 0, .int .i64 0, .int .u64 0]) := Lib.hid (by rw [hW5]; exact (HC.out.far (p := ⟨gt, 0, none⟩) hct _))
    have HF5 : Hid (Blk W5 gf 38 #[.int .i64 0, .int .i64 0, .slice (some ⟨gc, 0, none⟩) 1 1]) := Lib.hid (by rw [hW5]; exact (HF.out.far (p := ⟨gt, 0, none⟩) hft _))
    have HT5 : Hid (Blk W5 gt 24 #[.int .i64 16, .slice (some ⟨gf, 0, none⟩) 1 1]) := Lib.hid (by rw [hW5]; exact (HT.out.set_ 0 _))
    have HB5 : Hid (Below w.heap.size w W5) := Lib.hid (by rw [hW5]; exact (HB4.out.setCell (p := ⟨gt, 0, none⟩) hle2 _))
    clear hW5 x0 x1 y0 xz f0 f1 f2 g1 fz HC HF HT HB4
    obtain ⟨x0, x1, -, -, xz⟩ := HT5.out.c2
    have HCK := Lib.hid (mcheck_any (al := 16) (t := [retF 0]) (some ⟨gf, 0, none⟩) 1 (tgr_one (by unfold I64; decide) (by unfold I64; decide)) W5 0 W5.heap.size (gx_one HC5.out HF5.out) (Nat.le_refl _) (by decide))
    go_wp2_with fail
    refine HCK.out.mono ?_
    rintro e w6 ⟨rfl, bel⟩
    have HB6 := Lib.hid (HB5.out.trans (bel.mono HB5.out.size))
    clear bel
    rw [HE.out]
    go_wp2
    go_ret
    exact ⟨rfl, HB6.out⟩
  · have hnn : a.tmod 2 = 0 := hn
    have hqq : h % 3 = 0 := hq
    have HE : Hid (tgE 16 [retF 2147483504] = 0) := Lib.hid (by kernel_rfl)
    clear hn hq
    go_enter Try.func5, Try.ntmps5
    go_wp2_with fail
    refine (awake10 _).mono ?_
    rintro e w1 ⟨rfl, bel⟩
    have HB := Lib.hid bel
    clear bel
    go_upto_region 5 with (fail)
    obtain ⟨W4, hW4⟩ : ∃ W4, W4 = ((w1.alloc (.cells #[.int .i64 23, .int .i64 0, .int .i64 0, .int .i64 0, .int .u64 0] 45)).alloc (.cells #[.int .i64 0, .int .i64 0, .slice (some ⟨w1.heap.size, 0, none⟩) 1 1] 38)).alloc (.cells #[.int .i64 16, .slice (some ⟨w1.heap.size + 1, 0, none⟩) 1 1] 24) := ⟨_, rfl⟩
    rw [← hW4]
    have HC : Hid (Blk W4 w1.heap.size 45 #[.int .i64 23, .int .i64 0, .int .i64 0, .int .i64 0, .int .u64 0]) := Lib.hid (by rw [hW4]; exact ((Blk.new _ _ _).alloc _).alloc _)
    have HF : Hid (Blk W4 (w1.heap.size + 1) 38 #[.int .i64 0, .int .i64 0, .slice (some ⟨w1.heap.size, 0, none⟩) 1 1]) := Lib.hid (by rw [hW4]; exact (Blk.newAt (by simp)).alloc _)
    have HT : Hid (Blk W4 (w1.heap.size + 1 + 1) 24 #[.int .i64 16, .slice (some ⟨w1.heap.size + 1, 0, none⟩) 1 1]) := Lib.hid (by rw [hW4]; exact Blk.newAt (by simp))
    have HB4 : Hid (Below w.heap.size w W4) := Lib.hid (by rw [hW4]; exact Below.al (Below.al (Below.al HB.out _) _) _)
    have hzw : w.heap.size ≤ w1.heap.size := HB.out.size
    clear hW4
    obtain ⟨gc, hgc⟩ : ∃ g, g = w1.heap.size := ⟨_, rfl⟩
    rw [← hgc] at HC HF HT hzw ⊢
    obtain ⟨gf, hgf⟩ : ∃ g, g = gc + 1 := ⟨_, rfl⟩
    rw [← hgf] at HF HT ⊢
    obtain ⟨gt, hgt⟩ : ∃ g, g = gf + 1 := ⟨_, rfl⟩
    rw [← hgt] at HT ⊢
    have hcf : gc ≠ gf := by omega
    have hct : gc ≠ gt := by omega
    have hft : gf ≠ gt := by omega
    have htf : gt ≠ gf := by omega
    have hle1 : w.heap.size ≤ gf := by omega
    have hle2 : w.heap.size ≤ gt := by omega
    clear HB hgc hgf hgt hzw
    obtain ⟨x0, x1, y0, -, xz⟩ := HT.out.c2
    obtain ⟨f0, f1, f2, -, g1, -, fz⟩ := HF.out.c3
    go_upto_region 19 with (fail)
    obtain ⟨W5, hW5⟩ : ∃ W5, W5 = (W4.setCell ⟨gf, 1, none⟩ (.int .i64 2147483504)) := ⟨_, rfl⟩
    rw [← hW5]
    have HC5 : Hid (Blk W5 gc 45 #[.int .i64 23, .int .i64 0, .int .i64 0, .int .i64 0, .int .u64 0]) := Lib.hid (by rw [hW5]; exact (HC.out.far (p := ⟨gf, 1, none⟩) hcf _))
    have HF5 : Hid (Blk W5 gf 38 #[.int .i64 0, .int .i64 2147483504, .slice (some ⟨gc, 0, none⟩) 1 1]) := Lib.hid (by rw [hW5]; exact (HF.out.set_ 1 _))
    have HT5 : Hid (Blk W5 gt 24 #[.int .i64 16, .slice (some ⟨gf, 0, none⟩) 1 1]) := Lib.hid (by rw [hW5]; exact (HT.out.far (p := ⟨gf, 1, none⟩) htf _))
    have HB5 : Hid (Below w.heap.size w W5) := Lib.hid (by rw [hW5]; exact (HB4.out.setCell (p := ⟨gf, 1, none⟩) hle1 _))
    clear hW5 x0 x1 y0 xz f0 f1 f2 g1 fz HC HF HT HB4
    obtain ⟨x0, x1, -, -, xz⟩ := HT5.out.c2
    have HCK := Lib.hid (mcheck_any (al := 16) (t := [retF 2147483504]) (some ⟨gf, 0, none⟩) 1 (tgr_one (by unfold I64; decide) (by unfold I64; decide)) W5 0 W5.heap.size (gx_one HC5.out HF5.out) (Nat.le_refl _) (by decide))
    go_wp2_with fail
    refine HCK.out.mono ?_
    rintro e w6 ⟨rfl, bel⟩
    have HB6 := Lib.hid (HB5.out.trans (bel.mono HB5.out.size))
    clear bel
    rw [HE.out]
    go_wp2
    go_ret
    exact ⟨rfl, HB6.out⟩
  · have hnn : a.tmod 2 = 0 := hn
    have hqq : h % 3 = 1 := hq
    have HE : Hid (tgE 16777216 [retF 0] = 0) := Lib.hid (by kernel_rfl)
    clear hn hq
    go_enter Try.func5, Try.ntmps5
    go_wp2_with fail
    refine (awake10 _).mono ?_
    rintro e w1 ⟨rfl, bel⟩
    have HB := Lib.hid bel
    clear bel
    go_upto_region 5 with (fail)
    obtain ⟨W4, hW4⟩ : ∃ W4, W4 = ((w1.alloc (.cells #[.int .i64 23, .int .i64 0, .int .i64 0, .int .i64 0, .int .u64 0] 45)).alloc (.cells #[.int .i64 0, .int .i64 0, .slice (some ⟨w1.heap.size, 0, none⟩) 1 1] 38)).alloc (.cells #[.int .i64 16, .slice (some ⟨w1.heap.size + 1, 0, none⟩) 1 1] 24) := ⟨_, rfl⟩
    rw [← hW4]
    have HC : Hid (Blk W4 w1.heap.size 45 #[.int .i64 23, .int .i64 0, .int .i64 0, .int .i64 0, .int .u64 0]) := Lib.hid (by rw [hW4]; exact ((Blk.new _ _ _).alloc _).alloc _)
    have HF : Hid (Blk W4 (w1.heap.size + 1) 38 #[.int .i64 0, .int .i64 0, .slice (some ⟨w1.heap.size, 0, none⟩) 1 1]) := Lib.hid (by rw [hW4]; exact (Blk.newAt (by simp)).alloc _)
    have HT : Hid (Blk W4 (w1.heap.size + 1 + 1) 24 #[.int .i64 16, .slice (some ⟨w1.heap.size + 1, 0, none⟩) 1 1]) := Lib.hid (by rw [hW4]; exact Blk.newAt (by simp))
    have HB4 : Hid (Below w.heap.size w W4) := Lib.hid (by rw [hW4]; exact Below.al (Below.al (Below.al HB.out _) _) _)
    have hzw : w.heap.size ≤ w1.heap.size := HB.out.size
    clear hW4
    obtain ⟨gc, hgc⟩ : ∃ g, g = w1.heap.size := ⟨_, rfl⟩
    rw [← hgc] at HC HF HT hzw ⊢
    obtain ⟨gf, hgf⟩ : ∃ g, g = gc + 1 := ⟨_, rfl⟩
    rw [← hgf] at HF HT ⊢
    obtain ⟨gt, hgt⟩ : ∃ g, g = gf + 1 := ⟨_, rfl⟩
    rw [← hgt] at HT ⊢
    have hcf : gc ≠ gf := by omega
    have hct : gc ≠ gt := by omega
    have hft : gf ≠ gt := by omega
    have htf : gt ≠ gf := by omega
    have hle1 : w.heap.size ≤ gf := by omega
    have hle2 : w.heap.size ≤ gt := by omega
    clear HB hgc hgf hgt hzw
    obtain ⟨x0, x1, y0, -, xz⟩ := HT.out.c2
    obtain ⟨f0, f1, f2, -, g1, -, fz⟩ := HF.out.c3
    go_upto_region 19 with (fail)
    obtain ⟨W5, hW5⟩ : ∃ W5, W5 = (W4.setCell ⟨gt, 0, none⟩ (.int .i64 16777216)) := ⟨_, rfl⟩
    rw [← hW5]
    have HC5 : Hid (Blk W5 gc 45 #[.int .i64 23, .int .i64 0, .int .i64 0, .int .i64 0, .int .u64 0]) := Lib.hid (by rw [hW5]; exact (HC.out.far (p := ⟨gt, 0, none⟩) hct _))
    have HF5 : Hid (Blk W5 gf 38 #[.int .i64 0, .int .i64 0, .slice (some ⟨gc, 0, none⟩) 1 1]) := Lib.hid (by rw [hW5]; exact (HF.out.far (p := ⟨gt, 0, none⟩) hft _))
    have HT5 : Hid (Blk W5 gt 24 #[.int .i64 16777216, .slice (some ⟨gf, 0, none⟩) 1 1]) := Lib.hid (by rw [hW5]; exact (HT.out.set_ 0 _))
    have HB5 : Hid (Below w.heap.size w W5) := Lib.hid (by rw [hW5]; exact (HB4.out.setCell (p := ⟨gt, 0, none⟩) hle2 _))
    clear hW5 x0 x1 y0 xz f0 f1 f2 g1 fz HC HF HT HB4
    obtain ⟨x0, x1, -, -, xz⟩ := HT5.out.c2
    have HCK := Lib.hid (mcheck_any (al := 16777216) (t := [retF 0]) (some ⟨gf, 0, none⟩) 1 (tgr_one (by unfold I64; decide) (by unfold I64; decide)) W5 0 W5.heap.size (gx_one HC5.out HF5.out) (Nat.le_refl _) (by decide))
    go_wp2_with fail
    refine HCK.out.mono ?_
    rintro e w6 ⟨rfl, bel⟩
    have HB6 := Lib.hid (HB5.out.trans (bel.mono HB5.out.size))
    clear bel
    rw [HE.out]
    go_wp2
    go_ret
    exact ⟨rfl, HB6.out⟩
  · have hnn : a.tmod 2 = 0 := hn
    have hqq : h % 3 = 2 := hq
    have HE : Hid (tgE 16 [retF 0] = 0) := Lib.hid (by kernel_rfl)
    clear hn hq
    go_enter Try.func5, Try.ntmps5
    go_wp2_with fail
    refine (awake10 _).mono ?_
    rintro e w1 ⟨rfl, bel⟩
    have HB := Lib.hid bel
    clear bel
    go_upto_region 5 with (fail)
    obtain ⟨W4, hW4⟩ : ∃ W4, W4 = ((w1.alloc (.cells #[.int .i64 23, .int .i64 0, .int .i64 0, .int .i64 0, .int .u64 0] 45)).alloc (.cells #[.int .i64 0, .int .i64 0, .slice (some ⟨w1.heap.size, 0, none⟩) 1 1] 38)).alloc (.cells #[.int .i64 16, .slice (some ⟨w1.heap.size + 1, 0, none⟩) 1 1] 24) := ⟨_, rfl⟩
    rw [← hW4]
    have HC : Hid (Blk W4 w1.heap.size 45 #[.int .i64 23, .int .i64 0, .int .i64 0, .int .i64 0, .int .u64 0]) := Lib.hid (by rw [hW4]; exact ((Blk.new _ _ _).alloc _).alloc _)
    have HF : Hid (Blk W4 (w1.heap.size + 1) 38 #[.int .i64 0, .int .i64 0, .slice (some ⟨w1.heap.size, 0, none⟩) 1 1]) := Lib.hid (by rw [hW4]; exact (Blk.newAt (by simp)).alloc _)
    have HT : Hid (Blk W4 (w1.heap.size + 1 + 1) 24 #[.int .i64 16, .slice (some ⟨w1.heap.size + 1, 0, none⟩) 1 1]) := Lib.hid (by rw [hW4]; exact Blk.newAt (by simp))
    have HB4 : Hid (Below w.heap.size w W4) := Lib.hid (by rw [hW4]; exact Below.al (Below.al (Below.al HB.out _) _) _)
    have hzw : w.heap.size ≤ w1.heap.size := HB.out.size
    clear hW4
    obtain ⟨gc, hgc⟩ : ∃ g, g = w1.heap.size := ⟨_, rfl⟩
    rw [← hgc] at HC HF HT hzw ⊢
    obtain ⟨gf, hgf⟩ : ∃ g, g = gc + 1 := ⟨_, rfl⟩
    rw [← hgf] at HF HT ⊢
    obtain ⟨gt, hgt⟩ : ∃ g, g = gf + 1 := ⟨_, rfl⟩
    rw [← hgt] at HT ⊢
    have hcf : gc ≠ gf := by omega
    have hct : gc ≠ gt := by omega
    have hft : gf ≠ gt := by omega
    have htf : gt ≠ gf := by omega
    have hle1 : w.heap.size ≤ gf := by omega
    have hle2 : w.heap.size ≤ gt := by omega
    clear HB hgc hgf hgt hzw
    obtain ⟨x0, x1, y0, -, xz⟩ := HT.out.c2
    obtain ⟨f0, f1, f2, -, g1, -, fz⟩ := HF.out.c3
    go_upto_region 19 with (fail)
    obtain ⟨W5, hW5⟩ : ∃ W5, W5 = (W4.setCell ⟨gt, 0, none⟩ (.int .i64 16)) := ⟨_, rfl⟩
    rw [← hW5]
    have HC5 : Hid (Blk W5 gc 45 #[.int .i64 23, .int .i64 0, .int .i64 0, .int .i64 0, .int .u64 0]) := Lib.hid (by rw [hW5]; exact (HC.out.far (p := ⟨gt, 0, none⟩) hct _))
    have HF5 : Hid (Blk W5 gf 38 #[.int .i64 0, .int .i64 0, .slice (some ⟨gc, 0, none⟩) 1 1]) := Lib.hid (by rw [hW5]; exact (HF.out.far (p := ⟨gt, 0, none⟩) hft _))
    have HT5 : Hid (Blk W5 gt 24 #[.int .i64 16, .slice (some ⟨gf, 0, none⟩) 1 1]) := Lib.hid (by rw [hW5]; exact (HT.out.set_ 0 _))
    have HB5 : Hid (Below w.heap.size w W5) := Lib.hid (by rw [hW5]; exact (HB4.out.setCell (p := ⟨gt, 0, none⟩) hle2 _))
    clear hW5 x0 x1 y0 xz f0 f1 f2 g1 fz HC HF HT HB4
    obtain ⟨x0, x1, -, -, xz⟩ := HT5.out.c2
    have HCK := Lib.hid (mcheck_any (al := 16) (t := [retF 0]) (some ⟨gf, 0, none⟩) 1 (tgr_one (by unfold I64; decide) (by unfold I64; decide)) W5 0 W5.heap.size (gx_one HC5.out HF5.out) (Nat.le_refl _) (by decide))
    go_wp2_with fail
    refine HCK.out.mono ?_
    rintro e w6 ⟨rfl, bel⟩
    have HB6 := Lib.hid (HB5.out.trans (bel.mono HB5.out.size))
    clear bel
    rw [HE.out]
    go_wp2
    go_ret
    exact ⟨rfl, HB6.out⟩
  · have hnn : a.tmod 2 = 1 := hn
    have hqq : h % 3 = 0 := hq
    have HE : Hid (tgE 16 [retF 2147483520] = 4) := Lib.hid (by kernel_rfl)
    clear hn hq
    go_enter Try.func5, Try.ntmps5
    go_wp2_with fail
    refine (awake10 _).mono ?_
    rintro e w1 ⟨rfl, bel⟩
    have HB := Lib.hid bel
    clear bel
    go_upto_region 5 with (fail)
    obtain ⟨W4, hW4⟩ : ∃ W4, W4 = ((w1.alloc (.cells #[.int .i64 23, .int .i64 0, .int .i64 0, .int .i64 0, .int .u64 0] 45)).alloc (.cells #[.int .i64 0, .int .i64 0, .slice (some ⟨w1.heap.size, 0, none⟩) 1 1] 38)).alloc (.cells #[.int .i64 16, .slice (some ⟨w1.heap.size + 1, 0, none⟩) 1 1] 24) := ⟨_, rfl⟩
    rw [← hW4]
    have HC : Hid (Blk W4 w1.heap.size 45 #[.int .i64 23, .int .i64 0, .int .i64 0, .int .i64 0, .int .u64 0]) := Lib.hid (by rw [hW4]; exact ((Blk.new _ _ _).alloc _).alloc _)
    have HF : Hid (Blk W4 (w1.heap.size + 1) 38 #[.int .i64 0, .int .i64 0, .slice (some ⟨w1.heap.size, 0, none⟩) 1 1]) := Lib.hid (by rw [hW4]; exact (Blk.newAt (by simp)).alloc _)
    have HT : Hid (Blk W4 (w1.heap.size + 1 + 1) 24 #[.int .i64 16, .slice (some ⟨w1.heap.size + 1, 0, none⟩) 1 1]) := Lib.hid (by rw [hW4]; exact Blk.newAt (by simp))
    have HB4 : Hid (Below w.heap.size w W4) := Lib.hid (by rw [hW4]; exact Below.al (Below.al (Below.al HB.out _) _) _)
    have hzw : w.heap.size ≤ w1.heap.size := HB.out.size
    clear hW4
    obtain ⟨gc, hgc⟩ : ∃ g, g = w1.heap.size := ⟨_, rfl⟩
    rw [← hgc] at HC HF HT hzw ⊢
    obtain ⟨gf, hgf⟩ : ∃ g, g = gc + 1 := ⟨_, rfl⟩
    rw [← hgf] at HF HT ⊢
    obtain ⟨gt, hgt⟩ : ∃ g, g = gf + 1 := ⟨_, rfl⟩
    rw [← hgt] at HT ⊢
    have hcf : gc ≠ gf := by omega
    have hct : gc ≠ gt := by omega
    have hft : gf ≠ gt := by omega
    have htf : gt ≠ gf := by omega
    have hle1 : w.heap.size ≤ gf := by omega
    have hle2 : w.heap.size ≤ gt := by omega
    clear HB hgc hgf hgt hzw
    obtain ⟨x0, x1, y0, -, xz⟩ := HT.out.c2
    obtain ⟨f0, f1, f2, -, g1, -, fz⟩ := HF.out.c3
    go_upto_region 19 with (fail)
    obtain ⟨W5, hW5⟩ : ∃ W5, W5 = (W4.setCell ⟨gf, 1, none⟩ (.int .i64 2147483520)) := ⟨_, rfl⟩
    rw [← hW5]
    have HC5 : Hid (Blk W5 gc 45 #[.int .i64 23, .int .i64 0, .int .i64 0, .int .i64 0, .int .u64 0]) := Lib.hid (by rw [hW5]; exact (HC.out.far (p := ⟨gf, 1, none⟩) hcf _))
    have HF5 : Hid (Blk W5 gf 38 #[.int .i64 0, .int .i64 2147483520, .slice (some ⟨gc, 0, none⟩) 1 1]) := Lib.hid (by rw [hW5]; exact (HF.out.set_ 1 _))
    have HT5 : Hid (Blk W5 gt 24 #[.int .i64 16, .slice (some ⟨gf, 0, none⟩) 1 1]) := Lib.hid (by rw [hW5]; exact (HT.out.far (p := ⟨gf, 1, none⟩) htf _))
    have HB5 : Hid (Below w.heap.size w W5) := Lib.hid (by rw [hW5]; exact (HB4.out.setCell (p := ⟨gf, 1, none⟩) hle1 _))
    clear hW5 x0 x1 y0 xz f0 f1 f2 g1 fz HC HF HT HB4
    obtain ⟨x0, x1, -, -, xz⟩ := HT5.out.c2
    have HCK := Lib.hid (mcheck_any (al := 16) (t := [retF 2147483520]) (some ⟨gf, 0, none⟩) 1 (tgr_one (by unfold I64; decide) (by unfold I64; decide)) W5 0 W5.heap.size (gx_one HC5.out HF5.out) (Nat.le_refl _) (by decide))
    go_wp2_with fail
    refine HCK.out.mono ?_
    rintro e w6 ⟨rfl, bel⟩
    have HB6 := Lib.hid (HB5.out.trans (bel.mono HB5.out.size))
    clear bel
    rw [HE.out]
    go_wp2
    go_ret
    exact ⟨rfl, HB6.out⟩
  · have hnn : a.tmod 2 = 1 := hn
    have hqq : h % 3 = 1 := hq
    have HE : Hid (tgE 33554432 [retF 0] = 5) := Lib.hid (by kernel_rfl)
    clear hn hq
    go_enter Try.func5, Try.ntmps5
    go_wp2_with fail
    refine (awake10 _).mono ?_
    rintro e w1 ⟨rfl, bel⟩
    have HB := Lib.hid bel
    clear bel
    go_upto_region 5 with (fail)
    obtain ⟨W4, hW4⟩ : ∃ W4, W4 = ((w1.alloc (.cells #[.int .i64 23, .int .i64 0, .int .i64 0, .int .i64 0, .int .u64 0] 45)).alloc (.cells #[.int .i64 0, .int .i64 0, .slice (some ⟨w1.heap.size, 0, none⟩) 1 1] 38)).alloc (.cells #[.int .i64 16, .slice (some ⟨w1.heap.size + 1, 0, none⟩) 1 1] 24) := ⟨_, rfl⟩
    rw [← hW4]
    have HC : Hid (Blk W4 w1.heap.size 45 #[.int .i64 23, .int .i64 0, .int .i64 0, .int .i64 0, .int .u64 0]) := Lib.hid (by rw [hW4]; exact ((Blk.new _ _ _).alloc _).alloc _)
    have HF : Hid (Blk W4 (w1.heap.size + 1) 38 #[.int .i64 0, .int .i64 0, .slice (some ⟨w1.heap.size, 0, none⟩) 1 1]) := Lib.hid (by rw [hW4]; exact (Blk.newAt (by simp)).alloc _)
    have HT : Hid (Blk W4 (w1.heap.size + 1 + 1) 24 #[.int .i64 16, .slice (some ⟨w1.heap.size + 1, 0, none⟩) 1 1]) := Lib.hid (by rw [hW4]; exact Blk.newAt (by simp))
    have HB4 : Hid (Below w.heap.size w W4) := Lib.hid (by rw [hW4]; exact Below.al (Below.al (Below.al HB.out _) _) _)
    have hzw : w.heap.size ≤ w1.heap.size := HB.out.size
    clear hW4
    obtain ⟨gc, hgc⟩ : ∃ g, g = w1.heap.size := ⟨_, rfl⟩
    rw [← hgc] at HC HF HT hzw ⊢
    obtain ⟨gf, hgf⟩ : ∃ g, g = gc + 1 := ⟨_, rfl⟩
    rw [← hgf] at HF HT ⊢
    obtain ⟨gt, hgt⟩ : ∃ g, g = gf + 1 := ⟨_, rfl⟩
    rw [← hgt] at HT ⊢
    have hcf : gc ≠ gf := by omega
    have hct : gc ≠ gt := by omega
    have hft : gf ≠ gt := by omega
    have htf : gt ≠ gf := by omega
    have hle1 : w.heap.size ≤ gf := by omega
    have hle2 : w.heap.size ≤ gt := by omega
    clear HB hgc hgf hgt hzw
    obtain ⟨x0, x1, y0, -, xz⟩ := HT.out.c2
    obtain ⟨f0, f1, f2, -, g1, -, fz⟩ := HF.out.c3
    go_upto_region 19 with (fail)
    obtain ⟨W5, hW5⟩ : ∃ W5, W5 = ((W4.setCell ⟨gt, 0, none⟩ (.int .i64 16777216)).setCell ⟨gt, 0, none⟩ (.int .i64 33554432)) := ⟨_, rfl⟩
    rw [← hW5]
    have HC5 : Hid (Blk W5 gc 45 #[.int .i64 23, .int .i64 0, .int .i64 0, .int .i64 0, .int .u64 0]) := Lib.hid (by rw [hW5]; exact (Blk.far (p := ⟨gt, 0, none⟩) (HC.out.far (p := ⟨gt, 0, none⟩) hct _) hct _))
    have HF5 : Hid (Blk W5 gf 38 #[.int .i64 0, .int .i64 0, .slice (some ⟨gc, 0, none⟩) 1 1]) := Lib.hid (by rw [hW5]; exact (Blk.far (p := ⟨gt, 0, none⟩) (HF.out.far (p := ⟨gt, 0, none⟩) hft _) hft _))
    have HT5 : Hid (Blk W5 gt 24 #[.int .i64 33554432, .slice (some ⟨gf, 0, none⟩) 1 1]) := Lib.hid (by rw [hW5]; exact (Blk.set_ (HT.out.set_ 0 _) 0 _))
    have HB5 : Hid (Below w.heap.size w W5) := Lib.hid (by rw [hW5]; exact (Below.setCell (p := ⟨gt, 0, none⟩) (HB4.out.setCell (p := ⟨gt, 0, none⟩) hle2 _) hle2 _))
    clear hW5 x0 x1 y0 xz f0 f1 f2 g1 fz HC HF HT HB4
    obtain ⟨x0, x1, -, -, xz⟩ := HT5.out.c2
    have HCK := Lib.hid (mcheck_any (al := 33554432) (t := [retF 0]) (some ⟨gf, 0, none⟩) 1 (tgr_one (by unfold I64; decide) (by unfold I64; decide)) W5 0 W5.heap.size (gx_one HC5.out HF5.out) (Nat.le_refl _) (by decide))
    go_wp2_with fail
    refine HCK.out.mono ?_
    rintro e w6 ⟨rfl, bel⟩
    have HB6 := Lib.hid (HB5.out.trans (bel.mono HB5.out.size))
    clear bel
    rw [HE.out]
    go_wp2
    go_ret
    exact ⟨rfl, HB6.out⟩
  · have hnn : a.tmod 2 = 1 := hn
    have hqq : h % 3 = 2 := hq
    have HE : Hid (tgE 8 [retF 0] = 5) := Lib.hid (by kernel_rfl)
    clear hn hq
    go_enter Try.func5, Try.ntmps5
    go_wp2_with fail
    refine (awake10 _).mono ?_
    rintro e w1 ⟨rfl, bel⟩
    have HB := Lib.hid bel
    clear bel
    go_upto_region 5 with (fail)
    obtain ⟨W4, hW4⟩ : ∃ W4, W4 = ((w1.alloc (.cells #[.int .i64 23, .int .i64 0, .int .i64 0, .int .i64 0, .int .u64 0] 45)).alloc (.cells #[.int .i64 0, .int .i64 0, .slice (some ⟨w1.heap.size, 0, none⟩) 1 1] 38)).alloc (.cells #[.int .i64 16, .slice (some ⟨w1.heap.size + 1, 0, none⟩) 1 1] 24) := ⟨_, rfl⟩
    rw [← hW4]
    have HC : Hid (Blk W4 w1.heap.size 45 #[.int .i64 23, .int .i64 0, .int .i64 0, .int .i64 0, .int .u64 0]) := Lib.hid (by rw [hW4]; exact ((Blk.new _ _ _).alloc _).alloc _)
    have HF : Hid (Blk W4 (w1.heap.size + 1) 38 #[.int .i64 0, .int .i64 0, .slice (some ⟨w1.heap.size, 0, none⟩) 1 1]) := Lib.hid (by rw [hW4]; exact (Blk.newAt (by simp)).alloc _)
    have HT : Hid (Blk W4 (w1.heap.size + 1 + 1) 24 #[.int .i64 16, .slice (some ⟨w1.heap.size + 1, 0, none⟩) 1 1]) := Lib.hid (by rw [hW4]; exact Blk.newAt (by simp))
    have HB4 : Hid (Below w.heap.size w W4) := Lib.hid (by rw [hW4]; exact Below.al (Below.al (Below.al HB.out _) _) _)
    have hzw : w.heap.size ≤ w1.heap.size := HB.out.size
    clear hW4
    obtain ⟨gc, hgc⟩ : ∃ g, g = w1.heap.size := ⟨_, rfl⟩
    rw [← hgc] at HC HF HT hzw ⊢
    obtain ⟨gf, hgf⟩ : ∃ g, g = gc + 1 := ⟨_, rfl⟩
    rw [← hgf] at HF HT ⊢
    obtain ⟨gt, hgt⟩ : ∃ g, g = gf + 1 := ⟨_, rfl⟩
    rw [← hgt] at HT ⊢
    have hcf : gc ≠ gf := by omega
    have hct : gc ≠ gt := by omega
    have hft : gf ≠ gt := by omega
    have htf : gt ≠ gf := by omega
    have hle1 : w.heap.size ≤ gf := by omega
    have hle2 : w.heap.size ≤ gt := by omega
    clear HB hgc hgf hgt hzw
    obtain ⟨x0, x1, y0, -, xz⟩ := HT.out.c2
    obtain ⟨f0, f1, f2, -, g1, -, fz⟩ := HF.out.c3
    go_upto_region 19 with (fail)
    obtain ⟨W5, hW5⟩ : ∃ W5, W5 = ((W4.setCell ⟨gt, 0, none⟩ (.int .i64 16)).setCell ⟨gt, 0, none⟩ (.int .i64 8)) := ⟨_, rfl⟩
    rw [← hW5]
    have HC5 : Hid (Blk W5 gc 45 #[.int .i64 23, .int .i64 0, .int .i64 0, .int .i64 0, .int .u64 0]) := Lib.hid (by rw [hW5]; exact (Blk.far (p := ⟨gt, 0, none⟩) (HC.out.far (p := ⟨gt, 0, none⟩) hct _) hct _))
    have HF5 : Hid (Blk W5 gf 38 #[.int .i64 0, .int .i64 0, .slice (some ⟨gc, 0, none⟩) 1 1]) := Lib.hid (by rw [hW5]; exact (Blk.far (p := ⟨gt, 0, none⟩) (HF.out.far (p := ⟨gt, 0, none⟩) hft _) hft _))
    have HT5 : Hid (Blk W5 gt 24 #[.int .i64 8, .slice (some ⟨gf, 0, none⟩) 1 1]) := Lib.hid (by rw [hW5]; exact (Blk.set_ (HT.out.set_ 0 _) 0 _))
    have HB5 : Hid (Below w.heap.size w W5) := Lib.hid (by rw [hW5]; exact (Below.setCell (p := ⟨gt, 0, none⟩) (HB4.out.setCell (p := ⟨gt, 0, none⟩) hle2 _) hle2 _))
    clear hW5 x0 x1 y0 xz f0 f1 f2 g1 fz HC HF HT HB4
    obtain ⟨x0, x1, -, -, xz⟩ := HT5.out.c2
    have HCK := Lib.hid (mcheck_any (al := 8) (t := [retF 0]) (some ⟨gf, 0, none⟩) 1 (tgr_one (by unfold I64; decide) (by unfold I64; decide)) W5 0 W5.heap.size (gx_one HC5.out HF5.out) (Nat.le_refl _) (by decide))
    go_wp2_with fail
    refine HCK.out.mono ?_
    rintro e w6 ⟨rfl, bel⟩
    have HB6 := Lib.hid (HB5.out.trans (bel.mono HB5.out.size))
    clear bel
    rw [HE.out]
    go_wp2
    go_ret
    exact ⟨rfl, HB6.out⟩
end Go.Proofs.Ytgakphichcihjaa.pm
