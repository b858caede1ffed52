/- Contracts: mach.of. -/
import Derived.Test.YtinfeglhjmnlaaaDoorGKb
import Derived.Test.YtinfeglhjmnlaaaDoorGBa
import Derived.Test.YtinfeglhjmnlaaaDoorGRg
import Derived.Deep.CutBlock
namespace Go.Proofs.YtinfeglhjmnlaaaDoor.pm
open Go.RowKit
set_option linter.unusedVariables false
set_option maxRecDepth 100000

theorem Blk.put5 {w : World} {g : Nat} {t : TypeId} {b0 b1 b2 b3 b4 : Value} (h : Blk w g t #[b0, b1, b2, b3, b4]) (a0 a1 a2 a3 a4 : Value) :
    Blk (((((w.setCell ⟨g, 0, none⟩ a0).setCell ⟨g, 1, none⟩ a1).setCell ⟨g, 2, none⟩ a2).setCell ⟨g, 3, none⟩ a3).setCell ⟨g, 4, none⟩ a4) g t #[a0, a1, a2, a3, a4] := by
  have := ((((h.set_ 0 a0).set_ 1 a1).set_ 2 a2).set_ 3 a3).set_ 4 a4
  simpa using this
theorem below_put5 {w0 w : World} {B g : Nat} (h : Below B w0 w) (hg : B ≤ g) (a0 a1 a2 a3 a4 : Value) :
    Below B w0 (((((w.setCell ⟨g, 0, none⟩ a0).setCell ⟨g, 1, none⟩ a1).setCell ⟨g, 2, none⟩ a2).setCell ⟨g, 3, none⟩ a3).setCell ⟨g, 4, none⟩ a4) :=
  ((((h.setCell (p := ⟨g, 0, none⟩) hg _).setCell (p := ⟨g, 1, none⟩) hg _).setCell (p := ⟨g, 2, none⟩) hg _).setCell (p := ⟨g, 3, none⟩) hg _).setCell (p := ⟨g, 4, none⟩) hg _
theorem of_out (al : Int) (A : Option Addr) (n ct : Nat) (i : Int) (hi : inB i n = false) (hn : n ≤ maxLen) (w : World) :
    Calls Tryd.prog 88 #[.agg #[.int .i64 al, .slice A n ct], .int .i64 i] w fun e w' => e = .returned (.tuple #[.agg #[.int .i64 0, .int .i64 0, .slice none 0 0, .int .i64 0, .int .i64 0], .bool false]) ∧ Below w.heap.size w w' := by
  have HI := Lib.hid hi
  have hni : (n : Int) ≤ 9223372036854775807 := by unfold maxLen at hn; omega
  obtain ⟨Wa, hWa⟩ : ∃ Wa, Wa = (w.alloc (.cells #[.int .i64 al, .slice A n ct] 29)).alloc (.cells #[.int .i64 0, .int .i64 0, .slice none 0 0, .int .i64 0, .int .i64 0] 125) := ⟨_, rfl⟩
  have HB : Hid (Below w.heap.size w Wa) := Lib.hid (by rw [hWa]; exact ((Below.refl _ _).alloc (Nat.le_refl _) _).alloc (by simp) _)
  have hrr : Blk Wa (w.heap.size + 1) 125 #[.int .i64 0, .int .i64 0, .slice none 0 0, .int .i64 0, .int .i64 0] := by rw [hWa]; exact Blk.newAt (by simp)
  have HWa := Lib.hid hWa
  clear hWa hi
  go_enter Tryd.func88, Tryd.ntmps88
  go_wp2_with fail
  refine (mwithin_any _ _ _).mono ?_
  rintro e w1 ⟨rfl, rfl⟩
  rw [HI.out]
  go_upto_region 2 with (fail)
  rw [← HWa.out]
  obtain ⟨gR, hgR⟩ : ∃ g, g = w.heap.size + 1 := ⟨_, rfl⟩
  rw [← hgR] at hrr ⊢
  have hle : w.heap.size ≤ gR := by omega
  have HB5 := Lib.hid (below_put5 HB.out hle (.int .i64 0) (.int .i64 0) (.slice none 0 0) (.int .i64 0) (.int .i64 0))
  have HR5 := Lib.hid (Blk.put5 hrr (.int .i64 0) (.int .i64 0) (.slice none 0 0) (.int .i64 0) (.int .i64 0))
  obtain ⟨x0, x1, x2, x3, x4, y0, y1, y2, y3, y4, xz⟩ := Blk.c5 hrr
  clear hrr hgR HWa HI
  go_wp2
  clear x0 x1 x2 x3 x4 y0 y1 y2 y3 y4 xz
  obtain ⟨x0, x1, x2, x3, x4, -, -, -, -, -, xz⟩ := HR5.out.c5
  generalize ((((Wa.setCell ⟨gR, 0, none⟩ (.int .i64 0)).setCell ⟨gR, 1, none⟩ (.int .i64 0)).setCell ⟨gR, 2, none⟩ (.slice none 0 0)).setCell ⟨gR, 3, none⟩ (.int .i64 0)).setCell ⟨gR, 4, none⟩ (.int .i64 0) = Wz at *
  exact bodyPost_ret (v := .tuple #[.agg #[.int .i64 0, .int .i64 0, .slice none 0 0, .int .i64 0, .int .i64 0], .bool false]) (by simp [results, Tryd.results88, go_sem, x0, x1, x2, x3, x4]) rfl ⟨rfl, HB5.out⟩
set_option maxHeartbeats 4000000 in
theorem of_ok (al prm sz : Int) (n ct k nc ci : Nat) (Ai : Option Addr) (ad : Addr) (hp : powB al = true) (hal : 1 ≤ al) (hq : inB prm 9 = true) (hs : inB sz 2147483520 = true) (s0 : 0 ≤ sz) (h64 : I64 al) (hk : k < n) (hn : n ≤ maxLen) (w : World) (hb : ad.block < w.heap.size)
    (c0 : w.cell? (ad.add (k * 3)) = some (.int .i64 prm)) (c1 : w.cell? ⟨(ad.add (k * 3)).block, (ad.add (k * 3)).off + 1, none⟩ = some (.int .i64 sz)) (c2 : w.cell? ⟨(ad.add (k * 3)).block, (ad.add (k * 3)).off + 2, none⟩ = some (.slice Ai nc ci)) :
    Calls Tryd.prog 88 #[.agg #[.int .i64 al, .slice (some ad) n ct], .int .i64 (k : Int)] w fun e w' => e = .returned (.tuple #[.agg #[.int .i64 prm, .int .i64 sz, .slice Ai nc ci, .int .i64 al, .int .i64 (n : Int)], .bool (sz.tmod al == 0)]) ∧ Below w.heap.size w w' := by
  have hni : (n : Int) ≤ 9223372036854775807 := by unfold maxLen at hn; omega
  have hk0 : (0 : Int) ≤ (k : Int) := by omega
  have hk1 : (k : Int) < (n : Int) := by omega
  have HI : Hid (inB (k : Int) n = true) := Lib.hid (inB_t.2 ⟨hk0, hk1⟩)
  have HP : Hid (∀ W, Calls Tryd.prog 86 #[.int .i64 al] W fun e w' => e = .returned (.bool true) ∧ W = w') := Lib.hid (fun W => hp ▸ power_any al h64.1 h64.2 W)
  have HQ : Hid (∀ W, Calls Tryd.prog 118 #[.int .i64 prm, .int .i64 9] W fun e w' => e = .returned (.bool true) ∧ W = w') := Lib.hid (fun W => hq ▸ mwithin_any prm 9 W)
  have HS : Hid (∀ W, Calls Tryd.prog 118 #[.int .i64 sz, .int .i64 2147483520] W fun e w' => e = .returned (.bool true) ∧ W = w') := Lib.hid (fun W => hs ▸ mwithin_any sz 2147483520 W)
  have hae : (al == 0) = false := by rw [beq_eq_false_iff_ne]; omega
  have hane : ¬ al = 0 := by omega
  have HMD : Hid (∀ W, (binOp .rem 3 (.int .i64 sz) (.int .i64 al)).run Tryd.prog W = .ok (.int .i64 (sz.tmod al)) W) := Lib.hid (fun W => by go_simp)
  have hb1 : (ad.add (k * 3)).block < w.heap.size := by rw [block_of_add]; exact hb
  obtain ⟨Wa, hWa⟩ : ∃ Wa, Wa = (w.alloc (.cells #[.int .i64 al, .slice (some ad) n ct] 29)).alloc (.cells #[.int .i64 0, .int .i64 0, .slice none 0 0, .int .i64 0, .int .i64 0] 125) := ⟨_, rfl⟩
  have HB : Hid (Below w.heap.size w Wa) := Lib.hid (by rw [hWa]; exact ((Below.refl _ _).alloc (Nat.le_refl _) _).alloc (by simp) _)
  have HK0 : Hid (Blk Wa w.heap.size 29 #[.int .i64 al, .slice (some ad) n ct]) := Lib.hid (by rw [hWa]; exact (Blk.new _ _ _).alloc _)
  have HKR : Hid (Blk Wa (w.heap.size + 1) 125 #[.int .i64 0, .int .i64 0, .slice none 0 0, .int .i64 0, .int .i64 0]) := Lib.hid (by rw [hWa]; exact Blk.newAt (by simp))
  have d0 := (HB.out.cell (p := ad.add (k * 3)) hb1).trans c0
  have d1 := (HB.out.cell (p := ⟨(ad.add (k * 3)).block, (ad.add (k * 3)).off + 1, none⟩) hb1).trans c1
  have d2 := (HB.out.cell (p := ⟨(ad.add (k * 3)).block, (ad.add (k * 3)).off + 2, none⟩) hb1).trans c2
  have HWa := Lib.hid hWa
  clear hWa c0 c1 c2 hp hq hs h64
  go_enter Tryd.func88, Tryd.ntmps88
  go_wp2_with fail
  refine (mwithin_any _ _ _).mono ?_
  rintro e w1 ⟨rfl, rfl⟩
  rw [HI.out]
  go_upto_region 3 with (fail)
  rw [← HWa.out]
  obtain ⟨x0, x1, -, -, xz⟩ := HK0.out.c2
  have e0 : ∀ o, (Wa.alloc o).drew.cell? (ad.add (k * 3)) = some (.int .i64 prm) := fun o => (World.cell?_alloc_lt Wa o _ (by have := HB.out.size; omega)).trans d0
  have e1 : ∀ o, (Wa.alloc o).drew.cell? ⟨(ad.add (k * 3)).block, (ad.add (k * 3)).off + 1, none⟩ = some (.int .i64 sz) := fun o => (World.cell?_alloc_lt Wa o _ (by have := HB.out.size; show (ad.add (k * 3)).block < _; omega)).trans d1
  have e2 : ∀ o, (Wa.alloc o).drew.cell? ⟨(ad.add (k * 3)).block, (ad.add (k * 3)).off + 2, none⟩ = some (.slice Ai nc ci) := fun o => (World.cell?_alloc_lt Wa o _ (by have := HB.out.size; show (ad.add (k * 3)).block < _; omega)).trans d2
  clear HI
  go_region
  clear x0 x1 xz d0 d1 d2 e0 e1 e2
  obtain ⟨Wb, hWb⟩ : ∃ Wb, Wb = (Wa.alloc (.cells #[.int .i64 prm, .int .i64 sz, .slice Ai nc ci, .int .i64 al, .int .i64 (n : Int)] 125)).drew := ⟨_, rfl⟩
  rw [← hWb]
  have HB2 : Hid (Below w.heap.size w Wb) := Lib.hid (by rw [hWb]; exact (Below.al HB.out _).drew)
  have hfr : Blk Wb Wa.heap.size 125 #[.int .i64 prm, .int .i64 sz, .slice Ai nc ci, .int .i64 al, .int .i64 (n : Int)] := by rw [hWb]; exact (Blk.new _ _ _).drew
  have hrr : Blk Wb (w.heap.size + 1) 125 #[.int .i64 0, .int .i64 0, .slice none 0 0, .int .i64 0, .int .i64 0] := by rw [hWb]; exact (HKR.out.alloc _).drew
  have hle : w.heap.size + 1 < Wa.heap.size := HKR.out.lt
  clear hWb HKR HK0 HB HWa
  generalize Wa.heap.size = gF at *
  obtain ⟨gR, hgR⟩ : ∃ g, g = w.heap.size + 1 := ⟨_, rfl⟩
  rw [← hgR] at hrr ⊢
  have hgR' : w.heap.size ≤ gR := by omega
  have hgne : gF ≠ gR := by omega
  have HF : Hid (Blk Wb.drew gF 125 #[.int .i64 prm, .int .i64 sz, .slice Ai nc ci, .int .i64 al, .int .i64 (n : Int)]) := Lib.hid hfr.drew
  have HR : Hid (Blk Wb.drew gR 125 #[.int .i64 0, .int .i64 0, .slice none 0 0, .int .i64 0, .int .i64 0]) := Lib.hid hrr.drew
  clear hfr hrr hle hgR
  obtain ⟨Wc, hWc⟩ : ∃ Wc, Wc = Wb.drew := ⟨_, rfl⟩
  rw [← hWc] at HF HR
  have HB3 : Hid (Below w.heap.size w Wc) := Lib.hid (by rw [hWc]; exact Below.drew HB2.out)
  have HWc := Lib.hid hWc
  clear hWc HB2
  go_wp2_with fail
  refine wp_region_rg (fun (X : Nat → Prop) (j : Nat) (u : Nat → Value) (w : World) => match j with
      | 0 => u 0 = .agg #[.int .i64 prm, .int .i64 sz, .slice Ai nc ci, .int .i64 al, .int .i64 (n : Int)]
      | 1 => u 1 = .pointer (some ⟨gF, 3, none⟩)
      | 2 => u 2 = .int .i64 al
      | 3 => u 3 = .bool true
      | 4 => u 4 = .bool true
      | 5 => u 5 = .pointer (some ⟨gF, 0, none⟩)
      | 6 => u 6 = .pointer (some ⟨gF, 0, none⟩)
      | 7 => u 7 = .int .i64 prm
      | 8 => u 8 = .bool true
      | 9 => u 9 = .bool true
      | 10 => u 10 = .bool true
      | 11 => u 11 = .pointer (some ⟨gF, 0, none⟩)
      | 12 => u 12 = .pointer (some ⟨gF, 1, none⟩)
      | 13 => u 13 = .int .i64 sz
      | 14 => u 14 = .bool true
      | 15 => u 15 = .bool true
      | 16 => u 16 = .bool true
      | 17 => u 17 = .pointer (some ⟨gF, 0, none⟩)
      | 18 => u 18 = .pointer (some ⟨gF, 1, none⟩)
      | 19 => u 19 = .int .i64 sz
      | 20 => u 20 = .pointer (some ⟨gF, 3, none⟩)
      | 21 => u 21 = .int .i64 al
      | 22 => u 22 = .int .i64 (sz.tmod al)
      | 23 => u 23 = .bool (sz.tmod al == 0)
      | 24 => u 24 = .bool (sz.tmod al == 0)
      | 25 => True
      | 26 => u 26 = .bool (sz.tmod al == 0)
      | _ => True)
    (fun X w' => (¬ X 25 → w' = Wc) ∧ (X 25 → w' = ((((Wc.setCell ⟨gR, 0, none⟩ (.int .i64 prm)).setCell ⟨gR, 1, none⟩ (.int .i64 sz)).setCell ⟨gR, 2, none⟩ (.slice Ai nc ci)).setCell ⟨gR, 3, none⟩ (.int .i64 al)).setCell ⟨gR, 4, none⟩ (.int .i64 (n : Int)))) (fun w w' => w' = w) [25] [0, 0, 2, 6, 14, 30, 62, 126, 254, 510, 1022, 2046, 4094, 8190, 16382, 32766, 65534, 131070, 262142, 524286, 131070, 1179646, 4194302, 8388606, 16777214, 131071, 67108863]
    [[], [], [(1, 26)], [(2, 27)], [(3, 28)], [(4, 29)], [(4, 29), (5, 30)], [(4, 29), (6, 31)], [(4, 29), (7, 32)], [(4, 29), (8, 33)], [(9, 34)], [(10, 35)], [(10, 35), (11, 36)], [(10, 35), (12, 37)], [(10, 35), (13, 38)], [(10, 35), (14, 39)], [(15, 40)], [(16, 41)], [(16, 41), (17, 42)], [(16, 41), (18, 43)], [(16, 41)], [(16, 41), (20, 45)], [(16, 41), (19, 44), (21, 46)], [(16, 41), (22, 47)], [(16, 41), (23, 48)], [(0, 25)], [(24, 49)]]
    [(0, 25), (1, 26), (2, 27), (3, 28), (4, 29), (5, 30), (6, 31), (7, 32), (8, 33), (9, 34), (10, 35), (11, 36), (12, 37), (13, 38), (14, 39), (15, 40), (16, 41), (17, 42), (18, 43), (19, 44), (20, 45), (21, 46), (22, 47), (23, 48), (24, 49), (26, 5)] (by kernel_rfl) (by kernel_rfl) ?hsG ?hsT ?h0 ?hs ?he
  case hsG =>
    intro i X w w' hsp hR hG
    refine ⟨fun h => by rw [hR]; exact hG.1 (fun hk => h (.inr hk)), fun h => by rw [hR]; exact hG.2 (h.resolve_left (by rintro rfl; exact absurd hsp (by decide)))⟩
  case hsT =>
    intro i X j u u' w w' hsp hij hni hXj hR hu h
    match j, hij, hni, hXj, hu, h with
    | 0, hij, hni, hXj, hu, h => exact (hu 0 (.inl rfl)).trans h
    | 1, hij, hni, hXj, hu, h => exact (hu 1 (.inl rfl)).trans h
    | 2, hij, hni, hXj, hu, h => exact (hu 2 (.inl rfl)).trans h
    | 3, hij, hni, hXj, hu, h => exact (hu 3 (.inl rfl)).trans h
    | 4, hij, hni, hXj, hu, h => exact (hu 4 (.inl rfl)).trans h
    | 5, hij, hni, hXj, hu, h => exact (hu 5 (.inl rfl)).trans h
    | 6, hij, hni, hXj, hu, h => exact (hu 6 (.inl rfl)).trans h
    | 7, hij, hni, hXj, hu, h => exact (hu 7 (.inl rfl)).trans h
    | 8, hij, hni, hXj, hu, h => exact (hu 8 (.inl rfl)).trans h
    | 9, hij, hni, hXj, hu, h => exact (hu 9 (.inl rfl)).trans h
    | 10, hij, hni, hXj, hu, h => exact (hu 10 (.inl rfl)).trans h
    | 11, hij, hni, hXj, hu, h => exact (hu 11 (.inl rfl)).trans h
    | 12, hij, hni, hXj, hu, h => exact (hu 12 (.inl rfl)).trans h
    | 13, hij, hni, hXj, hu, h => exact (hu 13 (.inl rfl)).trans h
    | 14, hij, hni, hXj, hu, h => exact (hu 14 (.inl rfl)).trans h
    | 15, hij, hni, hXj, hu, h => exact (hu 15 (.inl rfl)).trans h
    | 16, hij, hni, hXj, hu, h => exact (hu 16 (.inl rfl)).trans h
    | 17, hij, hni, hXj, hu, h => exact (hu 17 (.inl rfl)).trans h
    | 18, hij, hni, hXj, hu, h => exact (hu 18 (.inl rfl)).trans h
    | 19, hij, hni, hXj, hu, h => exact (hu 19 (.inl rfl)).trans h
    | 20, hij, hni, hXj, hu, h => exact (hu 20 (.inl rfl)).trans h
    | 21, hij, hni, hXj, hu, h => exact (hu 21 (.inl rfl)).trans h
    | 22, hij, hni, hXj, hu, h => exact (hu 22 (.inl rfl)).trans h
    | 23, hij, hni, hXj, hu, h => exact (hu 23 (.inl rfl)).trans h
    | 24, hij, hni, hXj, hu, h => exact (hu 24 (.inl rfl)).trans h
    | 25, hij, hni, hXj, hu, h => exact trivial
    | 26, hij, hni, hXj, hu, h => exact (hu 26 (.inl rfl)).trans h
    | _ + 27, _, _, _, _, h => exact trivial
  case h0 => exact ⟨fun _ => HWc.out.symm, fun h => h.elim⟩
  case hs =>
    refine RgAll.cons [] rfl (by decide) ?_ ?_
    · intro u w X hi hA hF hG hT K hK
      simp only [lay, Act.put, List.setIfInBounds_toArray, List.set_cons_zero, List.set_cons_succ] at hK ⊢
      obtain rfl := hG.1 (hF 25 rfl)
      obtain ⟨k0, k1, k2, k3, k4, -, -, -, -, -, zz⟩ := HF.out.c5
      clear hi hA hF hG hT
      go_simp
      exact hK _ _ (rfl) (updV_self _ _ _)
    refine RgAll.cons [] rfl (by decide) ?_ ?_
    · intro u w X hi hA hF hG hT K hK
      simp only [lay, Act.put, List.setIfInBounds_toArray, List.set_cons_zero, List.set_cons_succ] at hK ⊢
      clear hi hA hF hG hT
      go_simp
      exact hK _ _ (rfl) (updV_self _ _ _)
    refine RgAll.cons [(1, 26)] rfl (by decide) ?_ ?_
    · intro u w X hi hA hF hG hT K hK
      have t1 : u 1 = .pointer (some ⟨gF, 3, none⟩) := hT 1 (hA 1 rfl)
      simp only [lay, Act.put, List.setIfInBounds_toArray, List.set_cons_zero, List.set_cons_succ, t1] at hK ⊢
      obtain rfl := hG.1 (hF 25 rfl)
      obtain ⟨k0, k1, k2, k3, k4, -, -, -, -, -, zz⟩ := HF.out.c5
      clear hi hA hF hG hT
      go_simp
      exact hK _ _ (rfl) (updV_self _ _ _)
    refine RgAll.cons [(2, 27)] rfl (by decide) ?_ ?_
    · intro u w X hi hA hF hG hT K hK
      have t2 : u 2 = .int .i64 al := hT 2 (hA 2 rfl)
      simp only [lay, Act.put, List.setIfInBounds_toArray, List.set_cons_zero, List.set_cons_succ, t2] at hK ⊢
      clear hi hA hF hG hT
      go_simp
      refine (HP.out _).mono ?_
      rintro e w' ⟨rfl, rfl⟩
      exact hK _ _ (rfl) (updV_self _ _ _)
    refine RgAll.cons [(3, 28)] rfl (by decide) ?_ ?_
    · intro u w X hi hA hF hG hT K hK
      have t3 : u 3 = .bool true := hT 3 (hA 3 rfl)
      simp only [lay, Act.put, List.setIfInBounds_toArray, List.set_cons_zero, List.set_cons_succ, t3] at hK ⊢
      clear hi hA hF hG hT
      go_simp
      exact hK _ _ (rfl) (updV_self _ _ _)
    refine RgAll.cons [(4, 29)] rfl (by decide) ?_ ?_
    · intro u w X hi hA hF hG hT K hK
      have t4 : u 4 = .bool true := hT 4 (hA 4 rfl)
      simp only [lay, Act.put, List.setIfInBounds_toArray, List.set_cons_zero, List.set_cons_succ, t4] at hK ⊢
      clear hi hA hF hG hT
      go_simp
      exact hK _ _ (rfl) (updV_self _ _ _)
    refine RgAll.cons [(4, 29), (5, 30)] rfl (by decide) ?_ ?_
    · intro u w X hi hA hF hG hT K hK
      have t4 : u 4 = .bool true := hT 4 (hA 4 rfl)
      have t5 : u 5 = .pointer (some ⟨gF, 0, none⟩) := hT 5 (hA 5 rfl)
      simp only [lay, Act.put, List.setIfInBounds_toArray, List.set_cons_zero, List.set_cons_succ, t4, t5] at hK ⊢
      clear hi hA hF hG hT
      go_simp
      exact hK _ _ (rfl) (updV_self _ _ _)
    refine RgAll.cons [(4, 29), (6, 31)] rfl (by decide) ?_ ?_
    · intro u w X hi hA hF hG hT K hK
      have t4 : u 4 = .bool true := hT 4 (hA 4 rfl)
      have t6 : u 6 = .pointer (some ⟨gF, 0, none⟩) := hT 6 (hA 6 rfl)
      simp only [lay, Act.put, List.setIfInBounds_toArray, List.set_cons_zero, List.set_cons_succ, t4, t6] at hK ⊢
      obtain rfl := hG.1 (hF 25 rfl)
      obtain ⟨k0, k1, k2, k3, k4, -, -, -, -, -, zz⟩ := HF.out.c5
      clear hi hA hF hG hT
      go_simp
      exact hK _ _ (rfl) (updV_self _ _ _)
    refine RgAll.cons [(4, 29), (7, 32)] rfl (by decide) ?_ ?_
    · intro u w X hi hA hF hG hT K hK
      have t4 : u 4 = .bool true := hT 4 (hA 4 rfl)
      have t7 : u 7 = .int .i64 prm := hT 7 (hA 7 rfl)
      simp only [lay, Act.put, List.setIfInBounds_toArray, List.set_cons_zero, List.set_cons_succ, t4, t7] at hK ⊢
      clear hi hA hF hG hT
      go_simp
      refine (HQ.out _).mono ?_
      rintro e w' ⟨rfl, rfl⟩
      exact hK _ _ (rfl) (updV_self _ _ _)
    refine RgAll.cons [(4, 29), (8, 33)] rfl (by decide) ?_ ?_
    · intro u w X hi hA hF hG hT K hK
      have t4 : u 4 = .bool true := hT 4 (hA 4 rfl)
      have t8 : u 8 = .bool true := hT 8 (hA 8 rfl)
      simp only [lay, Act.put, List.setIfInBounds_toArray, List.set_cons_zero, List.set_cons_succ, t4, t8] at hK ⊢
      clear hi hA hF hG hT
      go_simp
      exact hK _ _ (rfl) (updV_self _ _ _)
    refine RgAll.cons [(9, 34)] rfl (by decide) ?_ ?_
    · intro u w X hi hA hF hG hT K hK
      have t9 : u 9 = .bool true := hT 9 (hA 9 rfl)
      simp only [lay, Act.put, List.setIfInBounds_toArray, List.set_cons_zero, List.set_cons_succ, t9] at hK ⊢
      clear hi hA hF hG hT
      go_simp
      exact hK _ _ (rfl) (updV_self _ _ _)
    refine RgAll.cons [(10, 35)] rfl (by decide) ?_ ?_
    · intro u w X hi hA hF hG hT K hK
      have t10 : u 10 = .bool true := hT 10 (hA 10 rfl)
      simp only [lay, Act.put, List.setIfInBounds_toArray, List.set_cons_zero, List.set_cons_succ, t10] at hK ⊢
      clear hi hA hF hG hT
      go_simp
      exact hK _ _ (rfl) (updV_self _ _ _)
    refine RgAll.cons [(10, 35), (11, 36)] rfl (by decide) ?_ ?_
    · intro u w X hi hA hF hG hT K hK
      have t10 : u 10 = .bool true := hT 10 (hA 10 rfl)
      have t11 : u 11 = .pointer (some ⟨gF, 0, none⟩) := hT 11 (hA 11 rfl)
      simp only [lay, Act.put, List.setIfInBounds_toArray, List.set_cons_zero, List.set_cons_succ, t10, t11] at hK ⊢
      clear hi hA hF hG hT
      go_simp
      exact hK _ _ (rfl) (updV_self _ _ _)
    refine RgAll.cons [(10, 35), (12, 37)] rfl (by decide) ?_ ?_
    · intro u w X hi hA hF hG hT K hK
      have t10 : u 10 = .bool true := hT 10 (hA 10 rfl)
      have t12 : u 12 = .pointer (some ⟨gF, 1, none⟩) := hT 12 (hA 12 rfl)
      simp only [lay, Act.put, List.setIfInBounds_toArray, List.set_cons_zero, List.set_cons_succ, t10, t12] at hK ⊢
      obtain rfl := hG.1 (hF 25 rfl)
      obtain ⟨k0, k1, k2, k3, k4, -, -, -, -, -, zz⟩ := HF.out.c5
      clear hi hA hF hG hT
      go_simp
      exact hK _ _ (rfl) (updV_self _ _ _)
    refine RgAll.cons [(10, 35), (13, 38)] rfl (by decide) ?_ ?_
    · intro u w X hi hA hF hG hT K hK
      have t10 : u 10 = .bool true := hT 10 (hA 10 rfl)
      have t13 : u 13 = .int .i64 sz := hT 13 (hA 13 rfl)
      simp only [lay, Act.put, List.setIfInBounds_toArray, List.set_cons_zero, List.set_cons_succ, t10, t13] at hK ⊢
      clear hi hA hF hG hT
      go_simp
      refine (HS.out _).mono ?_
      rintro e w' ⟨rfl, rfl⟩
      exact hK _ _ (rfl) (updV_self _ _ _)
    refine RgAll.cons [(10, 35), (14, 39)] rfl (by decide) ?_ ?_
    · intro u w X hi hA hF hG hT K hK
      have t10 : u 10 = .bool true := hT 10 (hA 10 rfl)
      have t14 : u 14 = .bool true := hT 14 (hA 14 rfl)
      simp only [lay, Act.put, List.setIfInBounds_toArray, List.set_cons_zero, List.set_cons_succ, t10, t14] at hK ⊢
      clear hi hA hF hG hT
      go_simp
      exact hK _ _ (rfl) (updV_self _ _ _)
    refine RgAll.cons [(15, 40)] rfl (by decide) ?_ ?_
    · intro u w X hi hA hF hG hT K hK
      have t15 : u 15 = .bool true := hT 15 (hA 15 rfl)
      simp only [lay, Act.put, List.setIfInBounds_toArray, List.set_cons_zero, List.set_cons_succ, t15] at hK ⊢
      clear hi hA hF hG hT
      go_simp
      exact hK _ _ (rfl) (updV_self _ _ _)
    refine RgAll.cons [(16, 41)] rfl (by decide) ?_ ?_
    · intro u w X hi hA hF hG hT K hK
      have t16 : u 16 = .bool true := hT 16 (hA 16 rfl)
      simp only [lay, Act.put, List.setIfInBounds_toArray, List.set_cons_zero, List.set_cons_succ, t16] at hK ⊢
      clear hi hA hF hG hT
      go_simp
      exact hK _ _ (rfl) (updV_self _ _ _)
    refine RgAll.cons [(16, 41), (17, 42)] rfl (by decide) ?_ ?_
    · intro u w X hi hA hF hG hT K hK
      have t16 : u 16 = .bool true := hT 16 (hA 16 rfl)
      have t17 : u 17 = .pointer (some ⟨gF, 0, none⟩) := hT 17 (hA 17 rfl)
      simp only [lay, Act.put, List.setIfInBounds_toArray, List.set_cons_zero, List.set_cons_succ, t16, t17] at hK ⊢
      clear hi hA hF hG hT
      go_simp
      exact hK _ _ (rfl) (updV_self _ _ _)
    refine RgAll.cons [(16, 41), (18, 43)] rfl (by decide) ?_ ?_
    · intro u w X hi hA hF hG hT K hK
      have t16 : u 16 = .bool true := hT 16 (hA 16 rfl)
      have t18 : u 18 = .pointer (some ⟨gF, 1, none⟩) := hT 18 (hA 18 rfl)
      simp only [lay, Act.put, List.setIfInBounds_toArray, List.set_cons_zero, List.set_cons_succ, t16, t18] at hK ⊢
      have HFw : Blk w gF 125 #[.int .i64 prm, .int .i64 sz, .slice Ai nc ci, .int .i64 al, .int .i64 (n : Int)] := by
        rcases Classical.em (X 25) with h | h
        · rw [hG.2 h]; exact Blk.far (Blk.far (Blk.far (Blk.far (Blk.far HF.out hgne _) hgne _) hgne _) hgne _) hgne _
        · rw [hG.1 h]; exact HF.out
      obtain ⟨k0, k1, k2, k3, k4, -, -, -, -, -, zz⟩ := HFw.c5
      clear hi hA hF hG hT
      go_simp
      exact hK _ _ (rfl) (updV_self _ _ _)
    refine RgAll.cons [(16, 41)] rfl (by decide) ?_ ?_
    · intro u w X hi hA hF hG hT K hK
      have t16 : u 16 = .bool true := hT 16 (hA 16 rfl)
      simp only [lay, Act.put, List.setIfInBounds_toArray, List.set_cons_zero, List.set_cons_succ, t16] at hK ⊢
      clear hi hA hF hG hT
      go_simp
      exact hK _ _ (rfl) (updV_self _ _ _)
    refine RgAll.cons [(16, 41), (20, 45)] rfl (by decide) ?_ ?_
    · intro u w X hi hA hF hG hT K hK
      have t16 : u 16 = .bool true := hT 16 (hA 16 rfl)
      have t20 : u 20 = .pointer (some ⟨gF, 3, none⟩) := hT 20 (hA 20 rfl)
      simp only [lay, Act.put, List.setIfInBounds_toArray, List.set_cons_zero, List.set_cons_succ, t16, t20] at hK ⊢
      have HFw : Blk w gF 125 #[.int .i64 prm, .int .i64 sz, .slice Ai nc ci, .int .i64 al, .int .i64 (n : Int)] := by
        rcases Classical.em (X 25) with h | h
        · rw [hG.2 h]; exact Blk.far (Blk.far (Blk.far (Blk.far (Blk.far HF.out hgne _) hgne _) hgne _) hgne _) hgne _
        · rw [hG.1 h]; exact HF.out
      obtain ⟨k0, k1, k2, k3, k4, -, -, -, -, -, zz⟩ := HFw.c5
      clear hi hA hF hG hT
      go_simp
      exact hK _ _ (rfl) (updV_self _ _ _)
    refine RgAll.cons [(16, 41), (19, 44), (21, 46)] rfl (by decide) ?_ ?_
    · intro u w X hi hA hF hG hT K hK
      have t16 : u 16 = .bool true := hT 16 (hA 16 rfl)
      have t19 : u 19 = .int .i64 sz := hT 19 (hA 19 rfl)
      have t21 : u 21 = .int .i64 al := hT 21 (hA 21 rfl)
      simp only [lay, Act.put, List.setIfInBounds_toArray, List.set_cons_zero, List.set_cons_succ, t16, t19, t21] at hK ⊢
      clear hi hA hF hG hT
      go_simp
      exact hK _ _ (rfl) (updV_self _ _ _)
    refine RgAll.cons [(16, 41), (22, 47)] rfl (by decide) ?_ ?_
    · intro u w X hi hA hF hG hT K hK
      have t16 : u 16 = .bool true := hT 16 (hA 16 rfl)
      have t22 : u 22 = .int .i64 (sz.tmod al) := hT 22 (hA 22 rfl)
      simp only [lay, Act.put, List.setIfInBounds_toArray, List.set_cons_zero, List.set_cons_succ, t16, t22] at hK ⊢
      clear hi hA hF hG hT
      go_simp
      exact hK _ _ (rfl) (updV_self _ _ _)
    refine RgAll.cons [(16, 41), (23, 48)] rfl (by decide) ?_ ?_
    · intro u w X hi hA hF hG hT K hK
      have t16 : u 16 = .bool true := hT 16 (hA 16 rfl)
      have t23 : u 23 = .bool (sz.tmod al == 0) := hT 23 (hA 23 rfl)
      simp only [lay, Act.put, List.setIfInBounds_toArray, List.set_cons_zero, List.set_cons_succ, t16, t23] at hK ⊢
      clear hi hA hF hG hT
      go_simp
      exact hK _ _ (rfl) (updV_self _ _ _)
    refine RgAll.consS [(0, 25)] rfl ?_ ?_
    · intro u w X hi hA hF hG hT K hK
      have t0 : u 0 = .agg #[.int .i64 prm, .int .i64 sz, .slice Ai nc ci, .int .i64 al, .int .i64 (n : Int)] := hT 0 (hA 0 rfl)
      simp only [lay, Act.put, List.setIfInBounds_toArray, List.set_cons_zero, List.set_cons_succ, t0] at hK ⊢
      obtain rfl := hG.1 hi
      obtain ⟨k0, k1, k2, k3, k4, z0, z1, z2, z3, z4, zz⟩ := HR.out.c5
      go_simp
      refine hK undef _ ⟨fun h => absurd (by simp) h, fun _ => rfl⟩ ?_
      intro j hj
      match j, hj with
        | 0, hj => exact (updV_ne _ _ (by decide)).trans (hT 0 (hj.resolve_left (by decide)))
        | 1, hj => exact (updV_ne _ _ (by decide)).trans (hT 1 (hj.resolve_left (by decide)))
        | 2, hj => exact (updV_ne _ _ (by decide)).trans (hT 2 (hj.resolve_left (by decide)))
        | 3, hj => exact (updV_ne _ _ (by decide)).trans (hT 3 (hj.resolve_left (by decide)))
        | 4, hj => exact (updV_ne _ _ (by decide)).trans (hT 4 (hj.resolve_left (by decide)))
        | 5, hj => exact (updV_ne _ _ (by decide)).trans (hT 5 (hj.resolve_left (by decide)))
        | 6, hj => exact (updV_ne _ _ (by decide)).trans (hT 6 (hj.resolve_left (by decide)))
        | 7, hj => exact (updV_ne _ _ (by decide)).trans (hT 7 (hj.resolve_left (by decide)))
        | 8, hj => exact (updV_ne _ _ (by decide)).trans (hT 8 (hj.resolve_left (by decide)))
        | 9, hj => exact (updV_ne _ _ (by decide)).trans (hT 9 (hj.resolve_left (by decide)))
        | 10, hj => exact (updV_ne _ _ (by decide)).trans (hT 10 (hj.resolve_left (by decide)))
        | 11, hj => exact (updV_ne _ _ (by decide)).trans (hT 11 (hj.resolve_left (by decide)))
        | 12, hj => exact (updV_ne _ _ (by decide)).trans (hT 12 (hj.resolve_left (by decide)))
        | 13, hj => exact (updV_ne _ _ (by decide)).trans (hT 13 (hj.resolve_left (by decide)))
        | 14, hj => exact (updV_ne _ _ (by decide)).trans (hT 14 (hj.resolve_left (by decide)))
        | 15, hj => exact (updV_ne _ _ (by decide)).trans (hT 15 (hj.resolve_left (by decide)))
        | 16, hj => exact (updV_ne _ _ (by decide)).trans (hT 16 (hj.resolve_left (by decide)))
        | 17, hj => exact (updV_ne _ _ (by decide)).trans (hT 17 (hj.resolve_left (by decide)))
        | 18, hj => exact (updV_ne _ _ (by decide)).trans (hT 18 (hj.resolve_left (by decide)))
        | 19, hj => exact (updV_ne _ _ (by decide)).trans (hT 19 (hj.resolve_left (by decide)))
        | 20, hj => exact (updV_ne _ _ (by decide)).trans (hT 20 (hj.resolve_left (by decide)))
        | 21, hj => exact (updV_ne _ _ (by decide)).trans (hT 21 (hj.resolve_left (by decide)))
        | 22, hj => exact (updV_ne _ _ (by decide)).trans (hT 22 (hj.resolve_left (by decide)))
        | 23, hj => exact (updV_ne _ _ (by decide)).trans (hT 23 (hj.resolve_left (by decide)))
        | 24, hj => exact (updV_ne _ _ (by decide)).trans (hT 24 (hj.resolve_left (by decide)))
        | 25, hj => exact trivial
        | 26, hj => exact (updV_ne _ _ (by decide)).trans (hT 26 (hj.resolve_left (by decide)))
        | _ + 27, hj => exact trivial
    refine RgAll.cons [(24, 49)] rfl (by decide) ?_ ?_
    · intro u w X hi hA hF hG hT K hK
      have t24 : u 24 = .bool (sz.tmod al == 0) := hT 24 (hA 24 rfl)
      simp only [lay, Act.put, List.setIfInBounds_toArray, List.set_cons_zero, List.set_cons_succ, t24] at hK ⊢
      clear hi hA hF hG hT
      go_simp
      exact hK _ _ (rfl) (updV_self _ _ _)
    exact RgAll.nil
  intro u w X hX hG hT
  have t0 : u 0 = .agg #[.int .i64 prm, .int .i64 sz, .slice Ai nc ci, .int .i64 al, .int .i64 (n : Int)] := hT 0 (by simp)
  have t1 : u 1 = .pointer (some ⟨gF, 3, none⟩) := hT 1 (by simp)
  have t2 : u 2 = .int .i64 al := hT 2 (by simp)
  have t3 : u 3 = .bool true := hT 3 (by simp)
  have t4 : u 4 = .bool true := hT 4 (by simp)
  have t5 : u 5 = .pointer (some ⟨gF, 0, none⟩) := hT 5 (by simp)
  have t6 : u 6 = .pointer (some ⟨gF, 0, none⟩) := hT 6 (by simp)
  have t7 : u 7 = .int .i64 prm := hT 7 (by simp)
  have t8 : u 8 = .bool true := hT 8 (by simp)
  have t9 : u 9 = .bool true := hT 9 (by simp)
  have t10 : u 10 = .bool true := hT 10 (by simp)
  have t11 : u 11 = .pointer (some ⟨gF, 0, none⟩) := hT 11 (by simp)
  have t12 : u 12 = .pointer (some ⟨gF, 1, none⟩) := hT 12 (by simp)
  have t13 : u 13 = .int .i64 sz := hT 13 (by simp)
  have t14 : u 14 = .bool true := hT 14 (by simp)
  have t15 : u 15 = .bool true := hT 15 (by simp)
  have t16 : u 16 = .bool true := hT 16 (by simp)
  have t17 : u 17 = .pointer (some ⟨gF, 0, none⟩) := hT 17 (by simp)
  have t18 : u 18 = .pointer (some ⟨gF, 1, none⟩) := hT 18 (by simp)
  have t19 : u 19 = .int .i64 sz := hT 19 (by simp)
  have t20 : u 20 = .pointer (some ⟨gF, 3, none⟩) := hT 20 (by simp)
  have t21 : u 21 = .int .i64 al := hT 21 (by simp)
  have t22 : u 22 = .int .i64 (sz.tmod al) := hT 22 (by simp)
  have t23 : u 23 = .bool (sz.tmod al == 0) := hT 23 (by simp)
  have t24 : u 24 = .bool (sz.tmod al == 0) := hT 24 (by simp)
  have t26 : u 26 = .bool (sz.tmod al == 0) := hT 26 (by simp)
  simp only [lay, Act.put, List.setIfInBounds_toArray, List.set_cons_zero, List.set_cons_succ, t0, t1, t2, t3, t4, t5, t6, t7, t8, t9, t10, t11, t12, t13, t14, t15, t16, t17, t18, t19, t20, t21, t22, t23, t24, t26]
  clear hT t0 t1 t2 t3 t4 t5 t6 t7 t8 t9 t10 t11 t12 t13 t14 t15 t16 t17 t18 t19 t20 t21 t22 t23 t24 t26
  obtain rfl := hG.2 (hX 25 (by simp))
  have HB5 := Lib.hid (below_put5 HB3.out hgR' (.int .i64 prm) (.int .i64 sz) (.slice Ai nc ci) (.int .i64 al) (.int .i64 (n : Int)))
  have HR5 := Lib.hid (Blk.put5 HR.out (.int .i64 prm) (.int .i64 sz) (.slice Ai nc ci) (.int .i64 al) (.int .i64 (n : Int)))
  clear hG hX
  generalize ((((Wc.setCell ⟨gR, 0, none⟩ (.int .i64 prm)).setCell ⟨gR, 1, none⟩ (.int .i64 sz)).setCell ⟨gR, 2, none⟩ (.slice Ai nc ci)).setCell ⟨gR, 3, none⟩ (.int .i64 al)).setCell ⟨gR, 4, none⟩ (.int .i64 (n : Int)) = Wz at *
  obtain ⟨x0, x1, x2, x3, x4, -, -, -, -, -, xz⟩ := HR5.out.c5
  go_wp2_with fail
  exact bodyPost_ret (v := .tuple #[.agg #[.int .i64 prm, .int .i64 sz, .slice Ai nc ci, .int .i64 al, .int .i64 (n : Int)], .bool (sz.tmod al == 0)]) (by simp [results, Tryd.results88, go_sem, x0, x1, x2, x3, x4]) rfl ⟨rfl, HB5.out⟩
set_option maxHeartbeats 4000000 in
theorem of_p (al prm sz : Int) (n ct k nc ci : Nat) (Ai : Option Addr) (ad : Addr) (hp : powB al = false) (h64 : I64 al) (hk : k < n) (hn : n ≤ maxLen) (w : World) (hb : ad.block < w.heap.size)
    (c0 : w.cell? (ad.add (k * 3)) = some (.int .i64 prm)) (c1 : w.cell? ⟨(ad.add (k * 3)).block, (ad.add (k * 3)).off + 1, none⟩ = some (.int .i64 sz)) (c2 : w.cell? ⟨(ad.add (k * 3)).block, (ad.add (k * 3)).off + 2, none⟩ = some (.slice Ai nc ci)) :
    Calls Tryd.prog 88 #[.agg #[.int .i64 al, .slice (some ad) n ct], .int .i64 (k : Int)] w fun e w' => e = .returned (.tuple #[.agg #[.int .i64 prm, .int .i64 sz, .slice Ai nc ci, .int .i64 al, .int .i64 (n : Int)], .bool false]) ∧ Below w.heap.size w w' := by
  have hni : (n : Int) ≤ 9223372036854775807 := by unfold maxLen at hn; omega
  have hk0 : (0 : Int) ≤ (k : Int) := by omega
  have hk1 : (k : Int) < (n : Int) := by omega
  have HI : Hid (inB (k : Int) n = true) := Lib.hid (inB_t.2 ⟨hk0, hk1⟩)
  have HP : Hid (∀ W, Calls Tryd.prog 86 #[.int .i64 al] W fun e w' => e = .returned (.bool false) ∧ W = w') := Lib.hid (fun W => hp ▸ power_any al h64.1 h64.2 W)
  have hb1 : (ad.add (k * 3)).block < w.heap.size := by rw [block_of_add]; exact hb
  obtain ⟨Wa, hWa⟩ : ∃ Wa, Wa = (w.alloc (.cells #[.int .i64 al, .slice (some ad) n ct] 29)).alloc (.cells #[.int .i64 0, .int .i64 0, .slice none 0 0, .int .i64 0, .int .i64 0] 125) := ⟨_, rfl⟩
  have HB : Hid (Below w.heap.size w Wa) := Lib.hid (by rw [hWa]; exact ((Below.refl _ _).alloc (Nat.le_refl _) _).alloc (by simp) _)
  have HK0 : Hid (Blk Wa w.heap.size 29 #[.int .i64 al, .slice (some ad) n ct]) := Lib.hid (by rw [hWa]; exact (Blk.new _ _ _).alloc _)
  have HKR : Hid (Blk Wa (w.heap.size + 1) 125 #[.int .i64 0, .int .i64 0, .slice none 0 0, .int .i64 0, .int .i64 0]) := Lib.hid (by rw [hWa]; exact Blk.newAt (by simp))
  have d0 := (HB.out.cell (p := ad.add (k * 3)) hb1).trans c0
  have d1 := (HB.out.cell (p := ⟨(ad.add (k * 3)).block, (ad.add (k * 3)).off + 1, none⟩) hb1).trans c1
  have d2 := (HB.out.cell (p := ⟨(ad.add (k * 3)).block, (ad.add (k * 3)).off + 2, none⟩) hb1).trans c2
  have HWa := Lib.hid hWa
  clear hWa c0 c1 c2 hp h64
  go_enter Tryd.func88, Tryd.ntmps88
  go_wp2_with fail
  refine (mwithin_any _ _ _).mono ?_
  rintro e w1 ⟨rfl, rfl⟩
  rw [HI.out]
  go_upto_region 3 with (fail)
  rw [← HWa.out]
  obtain ⟨x0, x1, -, -, xz⟩ := HK0.out.c2
  have e0 : ∀ o, (Wa.alloc o).drew.cell? (ad.add (k * 3)) = some (.int .i64 prm) := fun o => (World.cell?_alloc_lt Wa o _ (by have := HB.out.size; omega)).trans d0
  have e1 : ∀ o, (Wa.alloc o).drew.cell? ⟨(ad.add (k * 3)).block, (ad.add (k * 3)).off + 1, none⟩ = some (.int .i64 sz) := fun o => (World.cell?_alloc_lt Wa o _ (by have := HB.out.size; show (ad.add (k * 3)).block < _; omega)).trans d1
  have e2 : ∀ o, (Wa.alloc o).drew.cell? ⟨(ad.add (k * 3)).block, (ad.add (k * 3)).off + 2, none⟩ = some (.slice Ai nc ci) := fun o => (World.cell?_alloc_lt Wa o _ (by have := HB.out.size; show (ad.add (k * 3)).block < _; omega)).trans d2
  clear HI
  go_region
  clear x0 x1 xz d0 d1 d2 e0 e1 e2
  obtain ⟨Wb, hWb⟩ : ∃ Wb, Wb = (Wa.alloc (.cells #[.int .i64 prm, .int .i64 sz, .slice Ai nc ci, .int .i64 al, .int .i64 (n : Int)] 125)).drew := ⟨_, rfl⟩
  rw [← hWb]
  have HB2 : Hid (Below w.heap.size w Wb) := Lib.hid (by rw [hWb]; exact (Below.al HB.out _).drew)
  have hfr : Blk Wb Wa.heap.size 125 #[.int .i64 prm, .int .i64 sz, .slice Ai nc ci, .int .i64 al, .int .i64 (n : Int)] := by rw [hWb]; exact (Blk.new _ _ _).drew
  have hrr : Blk Wb (w.heap.size + 1) 125 #[.int .i64 0, .int .i64 0, .slice none 0 0, .int .i64 0, .int .i64 0] := by rw [hWb]; exact (HKR.out.alloc _).drew
  have hle : w.heap.size + 1 < Wa.heap.size := HKR.out.lt
  clear hWb HKR HK0 HB HWa
  generalize Wa.heap.size = gF at *
  obtain ⟨gR, hgR⟩ : ∃ g, g = w.heap.size + 1 := ⟨_, rfl⟩
  rw [← hgR] at hrr ⊢
  have hgR' : w.heap.size ≤ gR := by omega
  have hgne : gF ≠ gR := by omega
  have HF : Hid (Blk Wb.drew gF 125 #[.int .i64 prm, .int .i64 sz, .slice Ai nc ci, .int .i64 al, .int .i64 (n : Int)]) := Lib.hid hfr.drew
  have HR : Hid (Blk Wb.drew gR 125 #[.int .i64 0, .int .i64 0, .slice none 0 0, .int .i64 0, .int .i64 0]) := Lib.hid hrr.drew
  clear hfr hrr hle hgR
  obtain ⟨Wc, hWc⟩ : ∃ Wc, Wc = Wb.drew := ⟨_, rfl⟩
  rw [← hWc] at HF HR
  have HB3 : Hid (Below w.heap.size w Wc) := Lib.hid (by rw [hWc]; exact Below.drew HB2.out)
  have HWc := Lib.hid hWc
  clear hWc HB2
  go_wp2_with fail
  refine wp_region_rg (fun (X : Nat → Prop) (j : Nat) (u : Nat → Value) (w : World) => match j with
      | 0 => u 0 = .agg #[.int .i64 prm, .int .i64 sz, .slice Ai nc ci, .int .i64 al, .int .i64 (n : Int)]
      | 1 => u 1 = .pointer (some ⟨gF, 3, none⟩)
      | 2 => u 2 = .int .i64 al
      | 3 => u 3 = .bool false
      | 4 => u 4 = .bool false
      | 5 => u 5 = undef
      | 6 => u 6 = undef
      | 7 => u 7 = undef
      | 8 => u 8 = undef
      | 9 => u 9 = .bool false
      | 10 => u 10 = .bool false
      | 11 => u 11 = undef
      | 12 => u 12 = undef
      | 13 => u 13 = undef
      | 14 => u 14 = undef
      | 15 => u 15 = .bool false
      | 16 => u 16 = .bool false
      | 17 => u 17 = undef
      | 18 => u 18 = undef
      | 19 => u 19 = undef
      | 20 => u 20 = undef
      | 21 => u 21 = undef
      | 22 => u 22 = undef
      | 23 => u 23 = undef
      | 24 => u 24 = .bool false
      | 25 => True
      | 26 => u 26 = .bool false
      | _ => True)
    (fun X w' => (¬ X 25 → w' = Wc) ∧ (X 25 → w' = ((((Wc.setCell ⟨gR, 0, none⟩ (.int .i64 prm)).setCell ⟨gR, 1, none⟩ (.int .i64 sz)).setCell ⟨gR, 2, none⟩ (.slice Ai nc ci)).setCell ⟨gR, 3, none⟩ (.int .i64 al)).setCell ⟨gR, 4, none⟩ (.int .i64 (n : Int)))) (fun w w' => w' = w) [25] [0, 0, 2, 6, 14, 30, 62, 126, 254, 510, 1022, 2046, 4094, 8190, 16382, 32766, 65534, 131070, 262142, 524286, 131070, 1179646, 4194302, 8388606, 16777214, 131071, 67108863]
    [[], [], [(1, 26)], [(2, 27)], [(3, 28)], [(4, 29)], [(4, 29), (5, 30)], [(4, 29), (6, 31)], [(4, 29), (7, 32)], [(4, 29), (8, 33)], [(9, 34)], [(10, 35)], [(10, 35), (11, 36)], [(10, 35), (12, 37)], [(10, 35), (13, 38)], [(10, 35), (14, 39)], [(15, 40)], [(16, 41)], [(16, 41), (17, 42)], [(16, 41), (18, 43)], [(16, 41)], [(16, 41), (20, 45)], [(16, 41), (19, 44), (21, 46)], [(16, 41), (22, 47)], [(16, 41), (23, 48)], [(0, 25)], [(24, 49)]]
    [(0, 25), (1, 26), (2, 27), (3, 28), (4, 29), (5, 30), (6, 31), (7, 32), (8, 33), (9, 34), (10, 35), (11, 36), (12, 37), (13, 38), (14, 39), (15, 40), (16, 41), (17, 42), (18, 43), (19, 44), (20, 45), (21, 46), (22, 47), (23, 48), (24, 49), (26, 5)] (by kernel_rfl) (by kernel_rfl) ?hsG ?hsT ?h0 ?hs ?he
  case hsG =>
    intro i X w w' hsp hR hG
    refine ⟨fun h => by rw [hR]; exact hG.1 (fun hk => h (.inr hk)), fun h => by rw [hR]; exact hG.2 (h.resolve_left (by rintro rfl; exact absurd hsp (by decide)))⟩
  case hsT =>
    intro i X j u u' w w' hsp hij hni hXj hR hu h
    match j, hij, hni, hXj, hu, h with
    | 0, hij, hni, hXj, hu, h => exact (hu 0 (.inl rfl)).trans h
    | 1, hij, hni, hXj, hu, h => exact (hu 1 (.inl rfl)).trans h
    | 2, hij, hni, hXj, hu, h => exact (hu 2 (.inl rfl)).trans h
    | 3, hij, hni, hXj, hu, h => exact (hu 3 (.inl rfl)).trans h
    | 4, hij, hni, hXj, hu, h => exact (hu 4 (.inl rfl)).trans h
    | 5, hij, hni, hXj, hu, h => exact (hu 5 (.inl rfl)).trans h
    | 6, hij, hni, hXj, hu, h => exact (hu 6 (.inl rfl)).trans h
    | 7, hij, hni, hXj, hu, h => exact (hu 7 (.inl rfl)).trans h
    | 8, hij, hni, hXj, hu, h => exact (hu 8 (.inl rfl)).trans h
    | 9, hij, hni, hXj, hu, h => exact (hu 9 (.inl rfl)).trans h
    | 10, hij, hni, hXj, hu, h => exact (hu 10 (.inl rfl)).trans h
    | 11, hij, hni, hXj, hu, h => exact (hu 11 (.inl rfl)).trans h
    | 12, hij, hni, hXj, hu, h => exact (hu 12 (.inl rfl)).trans h
    | 13, hij, hni, hXj, hu, h => exact (hu 13 (.inl rfl)).trans h
    | 14, hij, hni, hXj, hu, h => exact (hu 14 (.inl rfl)).trans h
    | 15, hij, hni, hXj, hu, h => exact (hu 15 (.inl rfl)).trans h
    | 16, hij, hni, hXj, hu, h => exact (hu 16 (.inl rfl)).trans h
    | 17, hij, hni, hXj, hu, h => exact (hu 17 (.inl rfl)).trans h
    | 18, hij, hni, hXj, hu, h => exact (hu 18 (.inl rfl)).trans h
    | 19, hij, hni, hXj, hu, h => exact (hu 19 (.inl rfl)).trans h
    | 20, hij, hni, hXj, hu, h => exact (hu 20 (.inl rfl)).trans h
    | 21, hij, hni, hXj, hu, h => exact (hu 21 (.inl rfl)).trans h
    | 22, hij, hni, hXj, hu, h => exact (hu 22 (.inl rfl)).trans h
    | 23, hij, hni, hXj, hu, h => exact (hu 23 (.inl rfl)).trans h
    | 24, hij, hni, hXj, hu, h => exact (hu 24 (.inl rfl)).trans h
    | 25, hij, hni, hXj, hu, h => exact trivial
    | 26, hij, hni, hXj, hu, h => exact (hu 26 (.inl rfl)).trans h
    | _ + 27, _, _, _, _, h => exact trivial
  case h0 => exact ⟨fun _ => HWc.out.symm, fun h => h.elim⟩
  case hs =>
    refine RgAll.cons [] rfl (by decide) ?_ ?_
    · intro u w X hi hA hF hG hT K hK
      simp only [lay, Act.put, List.setIfInBounds_toArray, List.set_cons_zero, List.set_cons_succ] at hK ⊢
      obtain rfl := hG.1 (hF 25 rfl)
      obtain ⟨k0, k1, k2, k3, k4, -, -, -, -, -, zz⟩ := HF.out.c5
      clear hi hA hF hG hT
      go_simp
      exact hK _ _ (rfl) (updV_self _ _ _)
    refine RgAll.cons [] rfl (by decide) ?_ ?_
    · intro u w X hi hA hF hG hT K hK
      simp only [lay, Act.put, List.setIfInBounds_toArray, List.set_cons_zero, List.set_cons_succ] at hK ⊢
      clear hi hA hF hG hT
      go_simp
      exact hK _ _ (rfl) (updV_self _ _ _)
    refine RgAll.cons [(1, 26)] rfl (by decide) ?_ ?_
    · intro u w X hi hA hF hG hT K hK
      have t1 : u 1 = .pointer (some ⟨gF, 3, none⟩) := hT 1 (hA 1 rfl)
      simp only [lay, Act.put, List.setIfInBounds_toArray, List.set_cons_zero, List.set_cons_succ, t1] at hK ⊢
      obtain rfl := hG.1 (hF 25 rfl)
      obtain ⟨k0, k1, k2, k3, k4, -, -, -, -, -, zz⟩ := HF.out.c5
      clear hi hA hF hG hT
      go_simp
      exact hK _ _ (rfl) (updV_self _ _ _)
    refine RgAll.cons [(2, 27)] rfl (by decide) ?_ ?_
    · intro u w X hi hA hF hG hT K hK
      have t2 : u 2 = .int .i64 al := hT 2 (hA 2 rfl)
      simp only [lay, Act.put, List.setIfInBounds_toArray, List.set_cons_zero, List.set_cons_succ, t2] at hK ⊢
      clear hi hA hF hG hT
      go_simp
      refine (HP.out _).mono ?_
      rintro e w' ⟨rfl, rfl⟩
      exact hK _ _ (rfl) (updV_self _ _ _)
    refine RgAll.cons [(3, 28)] rfl (by decide) ?_ ?_
    · intro u w X hi hA hF hG hT K hK
      have t3 : u 3 = .bool false := hT 3 (hA 3 rfl)
      simp only [lay, Act.put, List.setIfInBounds_toArray, List.set_cons_zero, List.set_cons_succ, t3] at hK ⊢
      clear hi hA hF hG hT
      go_simp
      exact hK _ _ (rfl) (updV_self _ _ _)
    refine RgAll.cons [(4, 29)] rfl (by decide) ?_ ?_
    · intro u w X hi hA hF hG hT K hK
      have t4 : u 4 = .bool false := hT 4 (hA 4 rfl)
      simp only [lay, Act.put, List.setIfInBounds_toArray, List.set_cons_zero, List.set_cons_succ, t4] at hK ⊢
      clear hi hA hF hG hT
      go_simp
      exact hK _ _ (rfl) (updV_self _ _ _)
    refine RgAll.cons [(4, 29), (5, 30)] rfl (by decide) ?_ ?_
    · intro u w X hi hA hF hG hT K hK
      have t4 : u 4 = .bool false := hT 4 (hA 4 rfl)
      have t5 : u 5 = undef := hT 5 (hA 5 rfl)
      simp only [lay, Act.put, List.setIfInBounds_toArray, List.set_cons_zero, List.set_cons_succ, t4, t5] at hK ⊢
      clear hi hA hF hG hT
      go_simp
      exact hK _ _ (rfl) (updV_self _ _ _)
    refine RgAll.cons [(4, 29), (6, 31)] rfl (by decide) ?_ ?_
    · intro u w X hi hA hF hG hT K hK
      have t4 : u 4 = .bool false := hT 4 (hA 4 rfl)
      have t6 : u 6 = undef := hT 6 (hA 6 rfl)
      simp only [lay, Act.put, List.setIfInBounds_toArray, List.set_cons_zero, List.set_cons_succ, t4, t6] at hK ⊢
      skip
      clear hi hA hF hG hT
      go_simp
      exact hK _ _ (rfl) (updV_self _ _ _)
    refine RgAll.cons [(4, 29), (7, 32)] rfl (by decide) ?_ ?_
    · intro u w X hi hA hF hG hT K hK
      have t4 : u 4 = .bool false := hT 4 (hA 4 rfl)
      have t7 : u 7 = undef := hT 7 (hA 7 rfl)
      simp only [lay, Act.put, List.setIfInBounds_toArray, List.set_cons_zero, List.set_cons_succ, t4, t7] at hK ⊢
      clear hi hA hF hG hT
      go_simp
      exact hK _ _ (rfl) (updV_self _ _ _)
    refine RgAll.cons [(4, 29), (8, 33)] rfl (by decide) ?_ ?_
    · intro u w X hi hA hF hG hT K hK
      have t4 : u 4 = .bool false := hT 4 (hA 4 rfl)
      have t8 : u 8 = undef := hT 8 (hA 8 rfl)
      simp only [lay, Act.put, List.setIfInBounds_toArray, List.set_cons_zero, List.set_cons_succ, t4, t8] at hK ⊢
      clear hi hA hF hG hT
      go_simp
      exact hK _ _ (rfl) (updV_self _ _ _)
    refine RgAll.cons [(9, 34)] rfl (by decide) ?_ ?_
    · intro u w X hi hA hF hG hT K hK
      have t9 : u 9 = .bool false := hT 9 (hA 9 rfl)
      simp only [lay, Act.put, List.setIfInBounds_toArray, List.set_cons_zero, List.set_cons_succ, t9] at hK ⊢
      clear hi hA hF hG hT
      go_simp
      exact hK _ _ (rfl) (updV_self _ _ _)
    refine RgAll.cons [(10, 35)] rfl (by decide) ?_ ?_
    · intro u w X hi hA hF hG hT K hK
      have t10 : u 10 = .bool false := hT 10 (hA 10 rfl)
      simp only [lay, Act.put, List.setIfInBounds_toArray, List.set_cons_zero, List.set_cons_succ, t10] at hK ⊢
      clear hi hA hF hG hT
      go_simp
      exact hK _ _ (rfl) (updV_self _ _ _)
    refine RgAll.cons [(10, 35), (11, 36)] rfl (by decide) ?_ ?_
    · intro u w X hi hA hF hG hT K hK
      have t10 : u 10 = .bool false := hT 10 (hA 10 rfl)
      have t11 : u 11 = undef := hT 11 (hA 11 rfl)
      simp only [lay, Act.put, List.setIfInBounds_toArray, List.set_cons_zero, List.set_cons_succ, t10, t11] at hK ⊢
      clear hi hA hF hG hT
      go_simp
      exact hK _ _ (rfl) (updV_self _ _ _)
    refine RgAll.cons [(10, 35), (12, 37)] rfl (by decide) ?_ ?_
    · intro u w X hi hA hF hG hT K hK
      have t10 : u 10 = .bool false := hT 10 (hA 10 rfl)
      have t12 : u 12 = undef := hT 12 (hA 12 rfl)
      simp only [lay, Act.put, List.setIfInBounds_toArray, List.set_cons_zero, List.set_cons_succ, t10, t12] at hK ⊢
      skip
      clear hi hA hF hG hT
      go_simp
      exact hK _ _ (rfl) (updV_self _ _ _)
    refine RgAll.cons [(10, 35), (13, 38)] rfl (by decide) ?_ ?_
    · intro u w X hi hA hF hG hT K hK
      have t10 : u 10 = .bool false := hT 10 (hA 10 rfl)
      have t13 : u 13 = undef := hT 13 (hA 13 rfl)
      simp only [lay, Act.put, List.setIfInBounds_toArray, List.set_cons_zero, List.set_cons_succ, t10, t13] at hK ⊢
      clear hi hA hF hG hT
      go_simp
      exact hK _ _ (rfl) (updV_self _ _ _)
    refine RgAll.cons [(10, 35), (14, 39)] rfl (by decide) ?_ ?_
    · intro u w X hi hA hF hG hT K hK
      have t10 : u 10 = .bool false := hT 10 (hA 10 rfl)
      have t14 : u 14 = undef := hT 14 (hA 14 rfl)
      simp only [lay, Act.put, List.setIfInBounds_toArray, List.set_cons_zero, List.set_cons_succ, t10, t14] at hK ⊢
      clear hi hA hF hG hT
      go_simp
      exact hK _ _ (rfl) (updV_self _ _ _)
    refine RgAll.cons [(15, 40)] rfl (by decide) ?_ ?_
    · intro u w X hi hA hF hG hT K hK
      have t15 : u 15 = .bool false := hT 15 (hA 15 rfl)
      simp only [lay, Act.put, List.setIfInBounds_toArray, List.set_cons_zero, List.set_cons_succ, t15] at hK ⊢
      clear hi hA hF hG hT
      go_simp
      exact hK _ _ (rfl) (updV_self _ _ _)
    refine RgAll.cons [(16, 41)] rfl (by decide) ?_ ?_
    · intro u w X hi hA hF hG hT K hK
      have t16 : u 16 = .bool false := hT 16 (hA 16 rfl)
      simp only [lay, Act.put, List.setIfInBounds_toArray, List.set_cons_zero, List.set_cons_succ, t16] at hK ⊢
      clear hi hA hF hG hT
      go_simp
      exact hK _ _ (rfl) (updV_self _ _ _)
    refine RgAll.cons [(16, 41), (17, 42)] rfl (by decide) ?_ ?_
    · intro u w X hi hA hF hG hT K hK
      have t16 : u 16 = .bool false := hT 16 (hA 16 rfl)
      have t17 : u 17 = undef := hT 17 (hA 17 rfl)
      simp only [lay, Act.put, List.setIfInBounds_toArray, List.set_cons_zero, List.set_cons_succ, t16, t17] at hK ⊢
      clear hi hA hF hG hT
      go_simp
      exact hK _ _ (rfl) (updV_self _ _ _)
    refine RgAll.cons [(16, 41), (18, 43)] rfl (by decide) ?_ ?_
    · intro u w X hi hA hF hG hT K hK
      have t16 : u 16 = .bool false := hT 16 (hA 16 rfl)
      have t18 : u 18 = undef := hT 18 (hA 18 rfl)
      simp only [lay, Act.put, List.setIfInBounds_toArray, List.set_cons_zero, List.set_cons_succ, t16, t18] at hK ⊢
      skip
      clear hi hA hF hG hT
      go_simp
      exact hK _ _ (rfl) (updV_self _ _ _)
    refine RgAll.cons [(16, 41)] rfl (by decide) ?_ ?_
    · intro u w X hi hA hF hG hT K hK
      have t16 : u 16 = .bool false := hT 16 (hA 16 rfl)
      simp only [lay, Act.put, List.setIfInBounds_toArray, List.set_cons_zero, List.set_cons_succ, t16] at hK ⊢
      clear hi hA hF hG hT
      go_simp
      exact hK _ _ (rfl) (updV_self _ _ _)
    refine RgAll.cons [(16, 41), (20, 45)] rfl (by decide) ?_ ?_
    · intro u w X hi hA hF hG hT K hK
      have t16 : u 16 = .bool false := hT 16 (hA 16 rfl)
      have t20 : u 20 = undef := hT 20 (hA 20 rfl)
      simp only [lay, Act.put, List.setIfInBounds_toArray, List.set_cons_zero, List.set_cons_succ, t16, t20] at hK ⊢
      skip
      clear hi hA hF hG hT
      go_simp
      exact hK _ _ (rfl) (updV_self _ _ _)
    refine RgAll.cons [(16, 41), (19, 44), (21, 46)] rfl (by decide) ?_ ?_
    · intro u w X hi hA hF hG hT K hK
      have t16 : u 16 = .bool false := hT 16 (hA 16 rfl)
      have t19 : u 19 = undef := hT 19 (hA 19 rfl)
      have t21 : u 21 = undef := hT 21 (hA 21 rfl)
      simp only [lay, Act.put, List.setIfInBounds_toArray, List.set_cons_zero, List.set_cons_succ, t16, t19, t21] at hK ⊢
      clear hi hA hF hG hT
      go_simp
      exact hK _ _ (rfl) (updV_self _ _ _)
    refine RgAll.cons [(16, 41), (22, 47)] rfl (by decide) ?_ ?_
    · intro u w X hi hA hF hG hT K hK
      have t16 : u 16 = .bool false := hT 16 (hA 16 rfl)
      have t22 : u 22 = undef := hT 22 (hA 22 rfl)
      simp only [lay, Act.put, List.setIfInBounds_toArray, List.set_cons_zero, List.set_cons_succ, t16, t22] at hK ⊢
      clear hi hA hF hG hT
      go_simp
      exact hK _ _ (rfl) (updV_self _ _ _)
    refine RgAll.cons [(16, 41), (23, 48)] rfl (by decide) ?_ ?_
    · intro u w X hi hA hF hG hT K hK
      have t16 : u 16 = .bool false := hT 16 (hA 16 rfl)
      have t23 : u 23 = undef := hT 23 (hA 23 rfl)
      simp only [lay, Act.put, List.setIfInBounds_toArray, List.set_cons_zero, List.set_cons_succ, t16, t23] at hK ⊢
      clear hi hA hF hG hT
      go_simp
      exact hK _ _ (rfl) (updV_self _ _ _)
    refine RgAll.consS [(0, 25)] rfl ?_ ?_
    · intro u w X hi hA hF hG hT K hK
      have t0 : u 0 = .agg #[.int .i64 prm, .int .i64 sz, .slice Ai nc ci, .int .i64 al, .int .i64 (n : Int)] := hT 0 (hA 0 rfl)
      simp only [lay, Act.put, List.setIfInBounds_toArray, List.set_cons_zero, List.set_cons_succ, t0] at hK ⊢
      obtain rfl := hG.1 hi
      obtain ⟨k0, k1, k2, k3, k4, z0, z1, z2, z3, z4, zz⟩ := HR.out.c5
      go_simp
      refine hK undef _ ⟨fun h => absurd (by simp) h, fun _ => rfl⟩ ?_
      intro j hj
      match j, hj with
        | 0, hj => exact (updV_ne _ _ (by decide)).trans (hT 0 (hj.resolve_left (by decide)))
        | 1, hj => exact (updV_ne _ _ (by decide)).trans (hT 1 (hj.resolve_left (by decide)))
        | 2, hj => exact (updV_ne _ _ (by decide)).trans (hT 2 (hj.resolve_left (by decide)))
        | 3, hj => exact (updV_ne _ _ (by decide)).trans (hT 3 (hj.resolve_left (by decide)))
        | 4, hj => exact (updV_ne _ _ (by decide)).trans (hT 4 (hj.resolve_left (by decide)))
        | 5, hj => exact (updV_ne _ _ (by decide)).trans (hT 5 (hj.resolve_left (by decide)))
        | 6, hj => exact (updV_ne _ _ (by decide)).trans (hT 6 (hj.resolve_left (by decide)))
        | 7, hj => exact (updV_ne _ _ (by decide)).trans (hT 7 (hj.resolve_left (by decide)))
        | 8, hj => exact (updV_ne _ _ (by decide)).trans (hT 8 (hj.resolve_left (by decide)))
        | 9, hj => exact (updV_ne _ _ (by decide)).trans (hT 9 (hj.resolve_left (by decide)))
        | 10, hj => exact (updV_ne _ _ (by decide)).trans (hT 10 (hj.resolve_left (by decide)))
        | 11, hj => exact (updV_ne _ _ (by decide)).trans (hT 11 (hj.resolve_left (by decide)))
        | 12, hj => exact (updV_ne _ _ (by decide)).trans (hT 12 (hj.resolve_left (by decide)))
        | 13, hj => exact (updV_ne _ _ (by decide)).trans (hT 13 (hj.resolve_left (by decide)))
        | 14, hj => exact (updV_ne _ _ (by decide)).trans (hT 14 (hj.resolve_left (by decide)))
        | 15, hj => exact (updV_ne _ _ (by decide)).trans (hT 15 (hj.resolve_left (by decide)))
        | 16, hj => exact (updV_ne _ _ (by decide)).trans (hT 16 (hj.resolve_left (by decide)))
        | 17, hj => exact (updV_ne _ _ (by decide)).trans (hT 17 (hj.resolve_left (by decide)))
        | 18, hj => exact (updV_ne _ _ (by decide)).trans (hT 18 (hj.resolve_left (by decide)))
        | 19, hj => exact (updV_ne _ _ (by decide)).trans (hT 19 (hj.resolve_left (by decide)))
        | 20, hj => exact (updV_ne _ _ (by decide)).trans (hT 20 (hj.resolve_left (by decide)))
        | 21, hj => exact (updV_ne _ _ (by decide)).trans (hT 21 (hj.resolve_left (by decide)))
        | 22, hj => exact (updV_ne _ _ (by decide)).trans (hT 22 (hj.resolve_left (by decide)))
        | 23, hj => exact (updV_ne _ _ (by decide)).trans (hT 23 (hj.resolve_left (by decide)))
        | 24, hj => exact (updV_ne _ _ (by decide)).trans (hT 24 (hj.resolve_left (by decide)))
        | 25, hj => exact trivial
        | 26, hj => exact (updV_ne _ _ (by decide)).trans (hT 26 (hj.resolve_left (by decide)))
        | _ + 27, hj => exact trivial
    refine RgAll.cons [(24, 49)] rfl (by decide) ?_ ?_
    · intro u w X hi hA hF hG hT K hK
      have t24 : u 24 = .bool false := hT 24 (hA 24 rfl)
      simp only [lay, Act.put, List.setIfInBounds_toArray, List.set_cons_zero, List.set_cons_succ, t24] at hK ⊢
      clear hi hA hF hG hT
      go_simp
      exact hK _ _ (rfl) (updV_self _ _ _)
    exact RgAll.nil
  intro u w X hX hG hT
  have t0 : u 0 = .agg #[.int .i64 prm, .int .i64 sz, .slice Ai nc ci, .int .i64 al, .int .i64 (n : Int)] := hT 0 (by simp)
  have t1 : u 1 = .pointer (some ⟨gF, 3, none⟩) := hT 1 (by simp)
  have t2 : u 2 = .int .i64 al := hT 2 (by simp)
  have t3 : u 3 = .bool false := hT 3 (by simp)
  have t4 : u 4 = .bool false := hT 4 (by simp)
  have t5 : u 5 = undef := hT 5 (by simp)
  have t6 : u 6 = undef := hT 6 (by simp)
  have t7 : u 7 = undef := hT 7 (by simp)
  have t8 : u 8 = undef := hT 8 (by simp)
  have t9 : u 9 = .bool false := hT 9 (by simp)
  have t10 : u 10 = .bool false := hT 10 (by simp)
  have t11 : u 11 = undef := hT 11 (by simp)
  have t12 : u 12 = undef := hT 12 (by simp)
  have t13 : u 13 = undef := hT 13 (by simp)
  have t14 : u 14 = undef := hT 14 (by simp)
  have t15 : u 15 = .bool false := hT 15 (by simp)
  have t16 : u 16 = .bool false := hT 16 (by simp)
  have t17 : u 17 = undef := hT 17 (by simp)
  have t18 : u 18 = undef := hT 18 (by simp)
  have t19 : u 19 = undef := hT 19 (by simp)
  have t20 : u 20 = undef := hT 20 (by simp)
  have t21 : u 21 = undef := hT 21 (by simp)
  have t22 : u 22 = undef := hT 22 (by simp)
  have t23 : u 23 = undef := hT 23 (by simp)
  have t24 : u 24 = .bool false := hT 24 (by simp)
  have t26 : u 26 = .bool false := hT 26 (by simp)
  simp only [lay, Act.put, List.setIfInBounds_toArray, List.set_cons_zero, List.set_cons_succ, t0, t1, t2, t3, t4, t5, t6, t7, t8, t9, t10, t11, t12, t13, t14, t15, t16, t17, t18, t19, t20, t21, t22, t23, t24, t26]
  clear hT t0 t1 t2 t3 t4 t5 t6 t7 t8 t9 t10 t11 t12 t13 t14 t15 t16 t17 t18 t19 t20 t21 t22 t23 t24 t26
  obtain rfl := hG.2 (hX 25 (by simp))
  have HB5 := Lib.hid (below_put5 HB3.out hgR' (.int .i64 prm) (.int .i64 sz) (.slice Ai nc ci) (.int .i64 al) (.int .i64 (n : Int)))
  have HR5 := Lib.hid (Blk.put5 HR.out (.int .i64 prm) (.int .i64 sz) (.slice Ai nc ci) (.int .i64 al) (.int .i64 (n : Int)))
  clear hG hX
  generalize ((((Wc.setCell ⟨gR, 0, none⟩ (.int .i64 prm)).setCell ⟨gR, 1, none⟩ (.int .i64 sz)).setCell ⟨gR, 2, none⟩ (.slice Ai nc ci)).setCell ⟨gR, 3, none⟩ (.int .i64 al)).setCell ⟨gR, 4, none⟩ (.int .i64 (n : Int)) = Wz at *
  obtain ⟨x0, x1, x2, x3, x4, -, -, -, -, -, xz⟩ := HR5.out.c5
  go_wp2_with fail
  exact bodyPost_ret (v := .tuple #[.agg #[.int .i64 prm, .int .i64 sz, .slice Ai nc ci, .int .i64 al, .int .i64 (n : Int)], .bool false]) (by simp [results, Tryd.results88, go_sem, x0, x1, x2, x3, x4]) rfl ⟨rfl, HB5.out⟩
set_option maxHeartbeats 4000000 in
theorem of_q (al prm sz : Int) (n ct k nc ci : Nat) (Ai : Option Addr) (ad : Addr) (hp : powB al = true) (hal : 1 ≤ al) (hq : inB prm 9 = false) (h64 : I64 al) (hk : k < n) (hn : n ≤ maxLen) (w : World) (hb : ad.block < w.heap.size)
    (c0 : w.cell? (ad.add (k * 3)) = some (.int .i64 prm)) (c1 : w.cell? ⟨(ad.add (k * 3)).block, (ad.add (k * 3)).off + 1, none⟩ = some (.int .i64 sz)) (c2 : w.cell? ⟨(ad.add (k * 3)).block, (ad.add (k * 3)).off + 2, none⟩ = some (.slice Ai nc ci)) :
    Calls Tryd.prog 88 #[.agg #[.int .i64 al, .slice (some ad) n ct], .int .i64 (k : Int)] w fun e w' => e = .returned (.tuple #[.agg #[.int .i64 prm, .int .i64 sz, .slice Ai nc ci, .int .i64 al, .int .i64 (n : Int)], .bool false]) ∧ Below w.heap.size w w' := by
  have hni : (n : Int) ≤ 9223372036854775807 := by unfold maxLen at hn; omega
  have hk0 : (0 : Int) ≤ (k : Int) := by omega
  have hk1 : (k : Int) < (n : Int) := by omega
  have HI : Hid (inB (k : Int) n = true) := Lib.hid (inB_t.2 ⟨hk0, hk1⟩)
  have HP : Hid (∀ W, Calls Tryd.prog 86 #[.int .i64 al] W fun e w' => e = .returned (.bool true) ∧ W = w') := Lib.hid (fun W => hp ▸ power_any al h64.1 h64.2 W)
  have HQ : Hid (∀ W, Calls Tryd.prog 118 #[.int .i64 prm, .int .i64 9] W fun e w' => e = .returned (.bool false) ∧ W = w') := Lib.hid (fun W => hq ▸ mwithin_any prm 9 W)
  have hb1 : (ad.add (k * 3)).block < w.heap.size := by rw [block_of_add]; exact hb
  obtain ⟨Wa, hWa⟩ : ∃ Wa, Wa = (w.alloc (.cells #[.int .i64 al, .slice (some ad) n ct] 29)).alloc (.cells #[.int .i64 0, .int .i64 0, .slice none 0 0, .int .i64 0, .int .i64 0] 125) := ⟨_, rfl⟩
  have HB : Hid (Below w.heap.size w Wa) := Lib.hid (by rw [hWa]; exact ((Below.refl _ _).alloc (Nat.le_refl _) _).alloc (by simp) _)
  have HK0 : Hid (Blk Wa w.heap.size 29 #[.int .i64 al, .slice (some ad) n ct]) := Lib.hid (by rw [hWa]; exact (Blk.new _ _ _).alloc _)
  have HKR : Hid (Blk Wa (w.heap.size + 1) 125 #[.int .i64 0, .int .i64 0, .slice none 0 0, .int .i64 0, .int .i64 0]) := Lib.hid (by rw [hWa]; exact Blk.newAt (by simp))
  have d0 := (HB.out.cell (p := ad.add (k * 3)) hb1).trans c0
  have d1 := (HB.out.cell (p := ⟨(ad.add (k * 3)).block, (ad.add (k * 3)).off + 1, none⟩) hb1).trans c1
  have d2 := (HB.out.cell (p := ⟨(ad.add (k * 3)).block, (ad.add (k * 3)).off + 2, none⟩) hb1).trans c2
  have HWa := Lib.hid hWa
  clear hWa c0 c1 c2 hp hq h64
  go_enter Tryd.func88, Tryd.ntmps88
  go_wp2_with fail
  refine (mwithin_any _ _ _).mono ?_
  rintro e w1 ⟨rfl, rfl⟩
  rw [HI.out]
  go_upto_region 3 with (fail)
  rw [← HWa.out]
  obtain ⟨x0, x1, -, -, xz⟩ := HK0.out.c2
  have e0 : ∀ o, (Wa.alloc o).drew.cell? (ad.add (k * 3)) = some (.int .i64 prm) := fun o => (World.cell?_alloc_lt Wa o _ (by have := HB.out.size; omega)).trans d0
  have e1 : ∀ o, (Wa.alloc o).drew.cell? ⟨(ad.add (k * 3)).block, (ad.add (k * 3)).off + 1, none⟩ = some (.int .i64 sz) := fun o => (World.cell?_alloc_lt Wa o _ (by have := HB.out.size; show (ad.add (k * 3)).block < _; omega)).trans d1
  have e2 : ∀ o, (Wa.alloc o).drew.cell? ⟨(ad.add (k * 3)).block, (ad.add (k * 3)).off + 2, none⟩ = some (.slice Ai nc ci) := fun o => (World.cell?_alloc_lt Wa o _ (by have := HB.out.size; show (ad.add (k * 3)).block < _; omega)).trans d2
  clear HI
  go_region
  clear x0 x1 xz d0 d1 d2 e0 e1 e2
  obtain ⟨Wb, hWb⟩ : ∃ Wb, Wb = (Wa.alloc (.cells #[.int .i64 prm, .int .i64 sz, .slice Ai nc ci, .int .i64 al, .int .i64 (n : Int)] 125)).drew := ⟨_, rfl⟩
  rw [← hWb]
  have HB2 : Hid (Below w.heap.size w Wb) := Lib.hid (by rw [hWb]; exact (Below.al HB.out _).drew)
  have hfr : Blk Wb Wa.heap.size 125 #[.int .i64 prm, .int .i64 sz, .slice Ai nc ci, .int .i64 al, .int .i64 (n : Int)] := by rw [hWb]; exact (Blk.new _ _ _).drew
  have hrr : Blk Wb (w.heap.size + 1) 125 #[.int .i64 0, .int .i64 0, .slice none 0 0, .int .i64 0, .int .i64 0] := by rw [hWb]; exact (HKR.out.alloc _).drew
  have hle : w.heap.size + 1 < Wa.heap.size := HKR.out.lt
  clear hWb HKR HK0 HB HWa
  generalize Wa.heap.size = gF at *
  obtain ⟨gR, hgR⟩ : ∃ g, g = w.heap.size + 1 := ⟨_, rfl⟩
  rw [← hgR] at hrr ⊢
  have hgR' : w.heap.size ≤ gR := by omega
  have hgne : gF ≠ gR := by omega
  have HF : Hid (Blk Wb.drew gF 125 #[.int .i64 prm, .int .i64 sz, .slice Ai nc ci, .int .i64 al, .int .i64 (n : Int)]) := Lib.hid hfr.drew
  have HR : Hid (Blk Wb.drew gR 125 #[.int .i64 0, .int .i64 0, .slice none 0 0, .int .i64 0, .int .i64 0]) := Lib.hid hrr.drew
  clear hfr hrr hle hgR
  obtain ⟨Wc, hWc⟩ : ∃ Wc, Wc = Wb.drew := ⟨_, rfl⟩
  rw [← hWc] at HF HR
  have HB3 : Hid (Below w.heap.size w Wc) := Lib.hid (by rw [hWc]; exact Below.drew HB2.out)
  have HWc := Lib.hid hWc
  clear hWc HB2
  go_wp2_with fail
  refine wp_region_rg (fun (X : Nat → Prop) (j : Nat) (u : Nat → Value) (w : World) => match j with
      | 0 => u 0 = .agg #[.int .i64 prm, .int .i64 sz, .slice Ai nc ci, .int .i64 al, .int .i64 (n : Int)]
      | 1 => u 1 = .pointer (some ⟨gF, 3, none⟩)
      | 2 => u 2 = .int .i64 al
      | 3 => u 3 = .bool true
      | 4 => u 4 = .bool true
      | 5 => u 5 = .pointer (some ⟨gF, 0, none⟩)
      | 6 => u 6 = .pointer (some ⟨gF, 0, none⟩)
      | 7 => u 7 = .int .i64 prm
      | 8 => u 8 = .bool false
      | 9 => u 9 = .bool false
      | 10 => u 10 = .bool false
      | 11 => u 11 = undef
      | 12 => u 12 = undef
      | 13 => u 13 = undef
      | 14 => u 14 = undef
      | 15 => u 15 = .bool false
      | 16 => u 16 = .bool false
      | 17 => u 17 = undef
      | 18 => u 18 = undef
      | 19 => u 19 = undef
      | 20 => u 20 = undef
      | 21 => u 21 = undef
      | 22 => u 22 = undef
      | 23 => u 23 = undef
      | 24 => u 24 = .bool false
      | 25 => True
      | 26 => u 26 = .bool false
      | _ => True)
    (fun X w' => (¬ X 25 → w' = Wc) ∧ (X 25 → w' = ((((Wc.setCell ⟨gR, 0, none⟩ (.int .i64 prm)).setCell ⟨gR, 1, none⟩ (.int .i64 sz)).setCell ⟨gR, 2, none⟩ (.slice Ai nc ci)).setCell ⟨gR, 3, none⟩ (.int .i64 al)).setCell ⟨gR, 4, none⟩ (.int .i64 (n : Int)))) (fun w w' => w' = w) [25] [0, 0, 2, 6, 14, 30, 62, 126, 254, 510, 1022, 2046, 4094, 8190, 16382, 32766, 65534, 131070, 262142, 524286, 131070, 1179646, 4194302, 8388606, 16777214, 131071, 67108863]
    [[], [], [(1, 26)], [(2, 27)], [(3, 28)], [(4, 29)], [(4, 29), (5, 30)], [(4, 29), (6, 31)], [(4, 29), (7, 32)], [(4, 29), (8, 33)], [(9, 34)], [(10, 35)], [(10, 35), (11, 36)], [(10, 35), (12, 37)], [(10, 35), (13, 38)], [(10, 35), (14, 39)], [(15, 40)], [(16, 41)], [(16, 41), (17, 42)], [(16, 41), (18, 43)], [(16, 41)], [(16, 41), (20, 45)], [(16, 41), (19, 44), (21, 46)], [(16, 41), (22, 47)], [(16, 41), (23, 48)], [(0, 25)], [(24, 49)]]
    [(0, 25), (1, 26), (2, 27), (3, 28), (4, 29), (5, 30), (6, 31), (7, 32), (8, 33), (9, 34), (10, 35), (11, 36), (12, 37), (13, 38), (14, 39), (15, 40), (16, 41), (17, 42), (18, 43), (19, 44), (20, 45), (21, 46), (22, 47), (23, 48), (24, 49), (26, 5)] (by kernel_rfl) (by kernel_rfl) ?hsG ?hsT ?h0 ?hs ?he
  case hsG =>
    intro i X w w' hsp hR hG
    refine ⟨fun h => by rw [hR]; exact hG.1 (fun hk => h (.inr hk)), fun h => by rw [hR]; exact hG.2 (h.resolve_left (by rintro rfl; exact absurd hsp (by decide)))⟩
  case hsT =>
    intro i X j u u' w w' hsp hij hni hXj hR hu h
    match j, hij, hni, hXj, hu, h with
    | 0, hij, hni, hXj, hu, h => exact (hu 0 (.inl rfl)).trans h
    | 1, hij, hni, hXj, hu, h => exact (hu 1 (.inl rfl)).trans h
    | 2, hij, hni, hXj, hu, h => exact (hu 2 (.inl rfl)).trans h
    | 3, hij, hni, hXj, hu, h => exact (hu 3 (.inl rfl)).trans h
    | 4, hij, hni, hXj, hu, h => exact (hu 4 (.inl rfl)).trans h
    | 5, hij, hni, hXj, hu, h => exact (hu 5 (.inl rfl)).trans h
    | 6, hij, hni, hXj, hu, h => exact (hu 6 (.inl rfl)).trans h
    | 7, hij, hni, hXj, hu, h => exact (hu 7 (.inl rfl)).trans h
    | 8, hij, hni, hXj, hu, h => exact (hu 8 (.inl rfl)).trans h
    | 9, hij, hni, hXj, hu, h => exact (hu 9 (.inl rfl)).trans h
    | 10, hij, hni, hXj, hu, h => exact (hu 10 (.inl rfl)).trans h
    | 11, hij, hni, hXj, hu, h => exact (hu 11 (.inl rfl)).trans h
    | 12, hij, hni, hXj, hu, h => exact (hu 12 (.inl rfl)).trans h
    | 13, hij, hni, hXj, hu, h => exact (hu 13 (.inl rfl)).trans h
    | 14, hij, hni, hXj, hu, h => exact (hu 14 (.inl rfl)).trans h
    | 15, hij, hni, hXj, hu, h => exact (hu 15 (.inl rfl)).trans h
    | 16, hij, hni, hXj, hu, h => exact (hu 16 (.inl rfl)).trans h
    | 17, hij, hni, hXj, hu, h => exact (hu 17 (.inl rfl)).trans h
    | 18, hij, hni, hXj, hu, h => exact (hu 18 (.inl rfl)).trans h
    | 19, hij, hni, hXj, hu, h => exact (hu 19 (.inl rfl)).trans h
    | 20, hij, hni, hXj, hu, h => exact (hu 20 (.inl rfl)).trans h
    | 21, hij, hni, hXj, hu, h => exact (hu 21 (.inl rfl)).trans h
    | 22, hij, hni, hXj, hu, h => exact (hu 22 (.inl rfl)).trans h
    | 23, hij, hni, hXj, hu, h => exact (hu 23 (.inl rfl)).trans h
    | 24, hij, hni, hXj, hu, h => exact (hu 24 (.inl rfl)).trans h
    | 25, hij, hni, hXj, hu, h => exact trivial
    | 26, hij, hni, hXj, hu, h => exact (hu 26 (.inl rfl)).trans h
    | _ + 27, _, _, _, _, h => exact trivial
  case h0 => exact ⟨fun _ => HWc.out.symm, fun h => h.elim⟩
  case hs =>
    refine RgAll.cons [] rfl (by decide) ?_ ?_
    · intro u w X hi hA hF hG hT K hK
      simp only [lay, Act.put, List.setIfInBounds_toArray, List.set_cons_zero, List.set_cons_succ] at hK ⊢
      obtain rfl := hG.1 (hF 25 rfl)
      obtain ⟨k0, k1, k2, k3, k4, -, -, -, -, -, zz⟩ := HF.out.c5
      clear hi hA hF hG hT
      go_simp
      exact hK _ _ (rfl) (updV_self _ _ _)
    refine RgAll.cons [] rfl (by decide) ?_ ?_
    · intro u w X hi hA hF hG hT K hK
      simp only [lay, Act.put, List.setIfInBounds_toArray, List.set_cons_zero, List.set_cons_succ] at hK ⊢
      clear hi hA hF hG hT
      go_simp
      exact hK _ _ (rfl) (updV_self _ _ _)
    refine RgAll.cons [(1, 26)] rfl (by decide) ?_ ?_
    · intro u w X hi hA hF hG hT K hK
      have t1 : u 1 = .pointer (some ⟨gF, 3, none⟩) := hT 1 (hA 1 rfl)
      simp only [lay, Act.put, List.setIfInBounds_toArray, List.set_cons_zero, List.set_cons_succ, t1] at hK ⊢
      obtain rfl := hG.1 (hF 25 rfl)
      obtain ⟨k0, k1, k2, k3, k4, -, -, -, -, -, zz⟩ := HF.out.c5
      clear hi hA hF hG hT
      go_simp
      exact hK _ _ (rfl) (updV_self _ _ _)
    refine RgAll.cons [(2, 27)] rfl (by decide) ?_ ?_
    · intro u w X hi hA hF hG hT K hK
      have t2 : u 2 = .int .i64 al := hT 2 (hA 2 rfl)
      simp only [lay, Act.put, List.setIfInBounds_toArray, List.set_cons_zero, List.set_cons_succ, t2] at hK ⊢
      clear hi hA hF hG hT
      go_simp
      refine (HP.out _).mono ?_
      rintro e w' ⟨rfl, rfl⟩
      exact hK _ _ (rfl) (updV_self _ _ _)
    refine RgAll.cons [(3, 28)] rfl (by decide) ?_ ?_
    · intro u w X hi hA hF hG hT K hK
      have t3 : u 3 = .bool true := hT 3 (hA 3 rfl)
      simp only [lay, Act.put, List.setIfInBounds_toArray, List.set_cons_zero, List.set_cons_succ, t3] at hK ⊢
      clear hi hA hF hG hT
      go_simp
      exact hK _ _ (rfl) (updV_self _ _ _)
    refine RgAll.cons [(4, 29)] rfl (by decide) ?_ ?_
    · intro u w X hi hA hF hG hT K hK
      have t4 : u 4 = .bool true := hT 4 (hA 4 rfl)
      simp only [lay, Act.put, List.setIfInBounds_toArray, List.set_cons_zero, List.set_cons_succ, t4] at hK ⊢
      clear hi hA hF hG hT
      go_simp
      exact hK _ _ (rfl) (updV_self _ _ _)
    refine RgAll.cons [(4, 29), (5, 30)] rfl (by decide) ?_ ?_
    · intro u w X hi hA hF hG hT K hK
      have t4 : u 4 = .bool true := hT 4 (hA 4 rfl)
      have t5 : u 5 = .pointer (some ⟨gF, 0, none⟩) := hT 5 (hA 5 rfl)
      simp only [lay, Act.put, List.setIfInBounds_toArray, List.set_cons_zero, List.set_cons_succ, t4, t5] at hK ⊢
      clear hi hA hF hG hT
      go_simp
      exact hK _ _ (rfl) (updV_self _ _ _)
    refine RgAll.cons [(4, 29), (6, 31)] rfl (by decide) ?_ ?_
    · intro u w X hi hA hF hG hT K hK
      have t4 : u 4 = .bool true := hT 4 (hA 4 rfl)
      have t6 : u 6 = .pointer (some ⟨gF, 0, none⟩) := hT 6 (hA 6 rfl)
      simp only [lay, Act.put, List.setIfInBounds_toArray, List.set_cons_zero, List.set_cons_succ, t4, t6] at hK ⊢
      obtain rfl := hG.1 (hF 25 rfl)
      obtain ⟨k0, k1, k2, k3, k4, -, -, -, -, -, zz⟩ := HF.out.c5
      clear hi hA hF hG hT
      go_simp
      exact hK _ _ (rfl) (updV_self _ _ _)
    refine RgAll.cons [(4, 29), (7, 32)] rfl (by decide) ?_ ?_
    · intro u w X hi hA hF hG hT K hK
      have t4 : u 4 = .bool true := hT 4 (hA 4 rfl)
      have t7 : u 7 = .int .i64 prm := hT 7 (hA 7 rfl)
      simp only [lay, Act.put, List.setIfInBounds_toArray, List.set_cons_zero, List.set_cons_succ, t4, t7] at hK ⊢
      clear hi hA hF hG hT
      go_simp
      refine (HQ.out _).mono ?_
      rintro e w' ⟨rfl, rfl⟩
      exact hK _ _ (rfl) (updV_self _ _ _)
    refine RgAll.cons [(4, 29), (8, 33)] rfl (by decide) ?_ ?_
    · intro u w X hi hA hF hG hT K hK
      have t4 : u 4 = .bool true := hT 4 (hA 4 rfl)
      have t8 : u 8 = .bool false := hT 8 (hA 8 rfl)
      simp only [lay, Act.put, List.setIfInBounds_toArray, List.set_cons_zero, List.set_cons_succ, t4, t8] at hK ⊢
      clear hi hA hF hG hT
      go_simp
      exact hK _ _ (rfl) (updV_self _ _ _)
    refine RgAll.cons [(9, 34)] rfl (by decide) ?_ ?_
    · intro u w X hi hA hF hG hT K hK
      have t9 : u 9 = .bool false := hT 9 (hA 9 rfl)
      simp only [lay, Act.put, List.setIfInBounds_toArray, List.set_cons_zero, List.set_cons_succ, t9] at hK ⊢
      clear hi hA hF hG hT
      go_simp
      exact hK _ _ (rfl) (updV_self _ _ _)
    refine RgAll.cons [(10, 35)] rfl (by decide) ?_ ?_
    · intro u w X hi hA hF hG hT K hK
      have t10 : u 10 = .bool false := hT 10 (hA 10 rfl)
      simp only [lay, Act.put, List.setIfInBounds_toArray, List.set_cons_zero, List.set_cons_succ, t10] at hK ⊢
      clear hi hA hF hG hT
      go_simp
      exact hK _ _ (rfl) (updV_self _ _ _)
    refine RgAll.cons [(10, 35), (11, 36)] rfl (by decide) ?_ ?_
    · intro u w X hi hA hF hG hT K hK
      have t10 : u 10 = .bool false := hT 10 (hA 10 rfl)
      have t11 : u 11 = undef := hT 11 (hA 11 rfl)
      simp only [lay, Act.put, List.setIfInBounds_toArray, List.set_cons_zero, List.set_cons_succ, t10, t11] at hK ⊢
      clear hi hA hF hG hT
      go_simp
      exact hK _ _ (rfl) (updV_self _ _ _)
    refine RgAll.cons [(10, 35), (12, 37)] rfl (by decide) ?_ ?_
    · intro u w X hi hA hF hG hT K hK
      have t10 : u 10 = .bool false := hT 10 (hA 10 rfl)
      have t12 : u 12 = undef := hT 12 (hA 12 rfl)
      simp only [lay, Act.put, List.setIfInBounds_toArray, List.set_cons_zero, List.set_cons_succ, t10, t12] at hK ⊢
      skip
      clear hi hA hF hG hT
      go_simp
      exact hK _ _ (rfl) (updV_self _ _ _)
    refine RgAll.cons [(10, 35), (13, 38)] rfl (by decide) ?_ ?_
    · intro u w X hi hA hF hG hT K hK
      have t10 : u 10 = .bool false := hT 10 (hA 10 rfl)
      have t13 : u 13 = undef := hT 13 (hA 13 rfl)
      simp only [lay, Act.put, List.setIfInBounds_toArray, List.set_cons_zero, List.set_cons_succ, t10, t13] at hK ⊢
      clear hi hA hF hG hT
      go_simp
      exact hK _ _ (rfl) (updV_self _ _ _)
    refine RgAll.cons [(10, 35), (14, 39)] rfl (by decide) ?_ ?_
    · intro u w X hi hA hF hG hT K hK
      have t10 : u 10 = .bool false := hT 10 (hA 10 rfl)
      have t14 : u 14 = undef := hT 14 (hA 14 rfl)
      simp only [lay, Act.put, List.setIfInBounds_toArray, List.set_cons_zero, List.set_cons_succ, t10, t14] at hK ⊢
      clear hi hA hF hG hT
      go_simp
      exact hK _ _ (rfl) (updV_self _ _ _)
    refine RgAll.cons [(15, 40)] rfl (by decide) ?_ ?_
    · intro u w X hi hA hF hG hT K hK
      have t15 : u 15 = .bool false := hT 15 (hA 15 rfl)
      simp only [lay, Act.put, List.setIfInBounds_toArray, List.set_cons_zero, List.set_cons_succ, t15] at hK ⊢
      clear hi hA hF hG hT
      go_simp
      exact hK _ _ (rfl) (updV_self _ _ _)
    refine RgAll.cons [(16, 41)] rfl (by decide) ?_ ?_
    · intro u w X hi hA hF hG hT K hK
      have t16 : u 16 = .bool false := hT 16 (hA 16 rfl)
      simp only [lay, Act.put, List.setIfInBounds_toArray, List.set_cons_zero, List.set_cons_succ, t16] at hK ⊢
      clear hi hA hF hG hT
      go_simp
      exact hK _ _ (rfl) (updV_self _ _ _)
    refine RgAll.cons [(16, 41), (17, 42)] rfl (by decide) ?_ ?_
    · intro u w X hi hA hF hG hT K hK
      have t16 : u 16 = .bool false := hT 16 (hA 16 rfl)
      have t17 : u 17 = undef := hT 17 (hA 17 rfl)
      simp only [lay, Act.put, List.setIfInBounds_toArray, List.set_cons_zero, List.set_cons_succ, t16, t17] at hK ⊢
      clear hi hA hF hG hT
      go_simp
      exact hK _ _ (rfl) (updV_self _ _ _)
    refine RgAll.cons [(16, 41), (18, 43)] rfl (by decide) ?_ ?_
    · intro u w X hi hA hF hG hT K hK
      have t16 : u 16 = .bool false := hT 16 (hA 16 rfl)
      have t18 : u 18 = undef := hT 18 (hA 18 rfl)
      simp only [lay, Act.put, List.setIfInBounds_toArray, List.set_cons_zero, List.set_cons_succ, t16, t18] at hK ⊢
      skip
      clear hi hA hF hG hT
      go_simp
      exact hK _ _ (rfl) (updV_self _ _ _)
    refine RgAll.cons [(16, 41)] rfl (by decide) ?_ ?_
    · intro u w X hi hA hF hG hT K hK
      have t16 : u 16 = .bool false := hT 16 (hA 16 rfl)
      simp only [lay, Act.put, List.setIfInBounds_toArray, List.set_cons_zero, List.set_cons_succ, t16] at hK ⊢
      clear hi hA hF hG hT
      go_simp
      exact hK _ _ (rfl) (updV_self _ _ _)
    refine RgAll.cons [(16, 41), (20, 45)] rfl (by decide) ?_ ?_
    · intro u w X hi hA hF hG hT K hK
      have t16 : u 16 = .bool false := hT 16 (hA 16 rfl)
      have t20 : u 20 = undef := hT 20 (hA 20 rfl)
      simp only [lay, Act.put, List.setIfInBounds_toArray, List.set_cons_zero, List.set_cons_succ, t16, t20] at hK ⊢
      skip
      clear hi hA hF hG hT
      go_simp
      exact hK _ _ (rfl) (updV_self _ _ _)
    refine RgAll.cons [(16, 41), (19, 44), (21, 46)] rfl (by decide) ?_ ?_
    · intro u w X hi hA hF hG hT K hK
      have t16 : u 16 = .bool false := hT 16 (hA 16 rfl)
      have t19 : u 19 = undef := hT 19 (hA 19 rfl)
      have t21 : u 21 = undef := hT 21 (hA 21 rfl)
      simp only [lay, Act.put, List.setIfInBounds_toArray, List.set_cons_zero, List.set_cons_succ, t16, t19, t21] at hK ⊢
      clear hi hA hF hG hT
      go_simp
      exact hK _ _ (rfl) (updV_self _ _ _)
    refine RgAll.cons [(16, 41), (22, 47)] rfl (by decide) ?_ ?_
    · intro u w X hi hA hF hG hT K hK
      have t16 : u 16 = .bool false := hT 16 (hA 16 rfl)
      have t22 : u 22 = undef := hT 22 (hA 22 rfl)
      simp only [lay, Act.put, List.setIfInBounds_toArray, List.set_cons_zero, List.set_cons_succ, t16, t22] at hK ⊢
      clear hi hA hF hG hT
      go_simp
      exact hK _ _ (rfl) (updV_self _ _ _)
    refine RgAll.cons [(16, 41), (23, 48)] rfl (by decide) ?_ ?_
    · intro u w X hi hA hF hG hT K hK
      have t16 : u 16 = .bool false := hT 16 (hA 16 rfl)
      have t23 : u 23 = undef := hT 23 (hA 23 rfl)
      simp only [lay, Act.put, List.setIfInBounds_toArray, List.set_cons_zero, List.set_cons_succ, t16, t23] at hK ⊢
      clear hi hA hF hG hT
      go_simp
      exact hK _ _ (rfl) (updV_self _ _ _)
    refine RgAll.consS [(0, 25)] rfl ?_ ?_
    · intro u w X hi hA hF hG hT K hK
      have t0 : u 0 = .agg #[.int .i64 prm, .int .i64 sz, .slice Ai nc ci, .int .i64 al, .int .i64 (n : Int)] := hT 0 (hA 0 rfl)
      simp only [lay, Act.put, List.setIfInBounds_toArray, List.set_cons_zero, List.set_cons_succ, t0] at hK ⊢
      obtain rfl := hG.1 hi
      obtain ⟨k0, k1, k2, k3, k4, z0, z1, z2, z3, z4, zz⟩ := HR.out.c5
      go_simp
      refine hK undef _ ⟨fun h => absurd (by simp) h, fun _ => rfl⟩ ?_
      intro j hj
      match j, hj with
        | 0, hj => exact (updV_ne _ _ (by decide)).trans (hT 0 (hj.resolve_left (by decide)))
        | 1, hj => exact (updV_ne _ _ (by decide)).trans (hT 1 (hj.resolve_left (by decide)))
        | 2, hj => exact (updV_ne _ _ (by decide)).trans (hT 2 (hj.resolve_left (by decide)))
        | 3, hj => exact (updV_ne _ _ (by decide)).trans (hT 3 (hj.resolve_left (by decide)))
        | 4, hj => exact (updV_ne _ _ (by decide)).trans (hT 4 (hj.resolve_left (by decide)))
        | 5, hj => exact (updV_ne _ _ (by decide)).trans (hT 5 (hj.resolve_left (by decide)))
        | 6, hj => exact (updV_ne _ _ (by decide)).trans (hT 6 (hj.resolve_left (by decide)))
        | 7, hj => exact (updV_ne _ _ (by decide)).trans (hT 7 (hj.resolve_left (by decide)))
        | 8, hj => exact (updV_ne _ _ (by decide)).trans (hT 8 (hj.resolve_left (by decide)))
        | 9, hj => exact (updV_ne _ _ (by decide)).trans (hT 9 (hj.resolve_left (by decide)))
        | 10, hj => exact (updV_ne _ _ (by decide)).trans (hT 10 (hj.resolve_left (by decide)))
        | 11, hj => exact (updV_ne _ _ (by decide)).trans (hT 11 (hj.resolve_left (by decide)))
        | 12, hj => exact (updV_ne _ _ (by decide)).trans (hT 12 (hj.resolve_left (by decide)))
        | 13, hj => exact (updV_ne _ _ (by decide)).trans (hT 13 (hj.resolve_left (by decide)))
        | 14, hj => exact (updV_ne _ _ (by decide)).trans (hT 14 (hj.resolve_left (by decide)))
        | 15, hj => exact (updV_ne _ _ (by decide)).trans (hT 15 (hj.resolve_left (by decide)))
        | 16, hj => exact (updV_ne _ _ (by decide)).trans (hT 16 (hj.resolve_left (by decide)))
        | 17, hj => exact (updV_ne _ _ (by decide)).trans (hT 17 (hj.resolve_left (by decide)))
        | 18, hj => exact (updV_ne _ _ (by decide)).trans (hT 18 (hj.resolve_left (by decide)))
        | 19, hj => exact (updV_ne _ _ (by decide)).trans (hT 19 (hj.resolve_left (by decide)))
        | 20, hj => exact (updV_ne _ _ (by decide)).trans (hT 20 (hj.resolve_left (by decide)))
        | 21, hj => exact (updV_ne _ _ (by decide)).trans (hT 21 (hj.resolve_left (by decide)))
        | 22, hj => exact (updV_ne _ _ (by decide)).trans (hT 22 (hj.resolve_left (by decide)))
        | 23, hj => exact (updV_ne _ _ (by decide)).trans (hT 23 (hj.resolve_left (by decide)))
        | 24, hj => exact (updV_ne _ _ (by decide)).trans (hT 24 (hj.resolve_left (by decide)))
        | 25, hj => exact trivial
        | 26, hj => exact (updV_ne _ _ (by decide)).trans (hT 26 (hj.resolve_left (by decide)))
        | _ + 27, hj => exact trivial
    refine RgAll.cons [(24, 49)] rfl (by decide) ?_ ?_
    · intro u w X hi hA hF hG hT K hK
      have t24 : u 24 = .bool false := hT 24 (hA 24 rfl)
      simp only [lay, Act.put, List.setIfInBounds_toArray, List.set_cons_zero, List.set_cons_succ, t24] at hK ⊢
      clear hi hA hF hG hT
      go_simp
      exact hK _ _ (rfl) (updV_self _ _ _)
    exact RgAll.nil
  intro u w X hX hG hT
  have t0 : u 0 = .agg #[.int .i64 prm, .int .i64 sz, .slice Ai nc ci, .int .i64 al, .int .i64 (n : Int)] := hT 0 (by simp)
  have t1 : u 1 = .pointer (some ⟨gF, 3, none⟩) := hT 1 (by simp)
  have t2 : u 2 = .int .i64 al := hT 2 (by simp)
  have t3 : u 3 = .bool true := hT 3 (by simp)
  have t4 : u 4 = .bool true := hT 4 (by simp)
  have t5 : u 5 = .pointer (some ⟨gF, 0, none⟩) := hT 5 (by simp)
  have t6 : u 6 = .pointer (some ⟨gF, 0, none⟩) := hT 6 (by simp)
  have t7 : u 7 = .int .i64 prm := hT 7 (by simp)
  have t8 : u 8 = .bool false := hT 8 (by simp)
  have t9 : u 9 = .bool false := hT 9 (by simp)
  have t10 : u 10 = .bool false := hT 10 (by simp)
  have t11 : u 11 = undef := hT 11 (by simp)
  have t12 : u 12 = undef := hT 12 (by simp)
  have t13 : u 13 = undef := hT 13 (by simp)
  have t14 : u 14 = undef := hT 14 (by simp)
  have t15 : u 15 = .bool false := hT 15 (by simp)
  have t16 : u 16 = .bool false := hT 16 (by simp)
  have t17 : u 17 = undef := hT 17 (by simp)
  have t18 : u 18 = undef := hT 18 (by simp)
  have t19 : u 19 = undef := hT 19 (by simp)
  have t20 : u 20 = undef := hT 20 (by simp)
  have t21 : u 21 = undef := hT 21 (by simp)
  have t22 : u 22 = undef := hT 22 (by simp)
  have t23 : u 23 = undef := hT 23 (by simp)
  have t24 : u 24 = .bool false := hT 24 (by simp)
  have t26 : u 26 = .bool false := hT 26 (by simp)
  simp only [lay, Act.put, List.setIfInBounds_toArray, List.set_cons_zero, List.set_cons_succ, t0, t1, t2, t3, t4, t5, t6, t7, t8, t9, t10, t11, t12, t13, t14, t15, t16, t17, t18, t19, t20, t21, t22, t23, t24, t26]
  clear hT t0 t1 t2 t3 t4 t5 t6 t7 t8 t9 t10 t11 t12 t13 t14 t15 t16 t17 t18 t19 t20 t21 t22 t23 t24 t26
  obtain rfl := hG.2 (hX 25 (by simp))
  have HB5 := Lib.hid (below_put5 HB3.out hgR' (.int .i64 prm) (.int .i64 sz) (.slice Ai nc ci) (.int .i64 al) (.int .i64 (n : Int)))
  have HR5 := Lib.hid (Blk.put5 HR.out (.int .i64 prm) (.int .i64 sz) (.slice Ai nc ci) (.int .i64 al) (.int .i64 (n : Int)))
  clear hG hX
  generalize ((((Wc.setCell ⟨gR, 0, none⟩ (.int .i64 prm)).setCell ⟨gR, 1, none⟩ (.int .i64 sz)).setCell ⟨gR, 2, none⟩ (.slice Ai nc ci)).setCell ⟨gR, 3, none⟩ (.int .i64 al)).setCell ⟨gR, 4, none⟩ (.int .i64 (n : Int)) = Wz at *
  obtain ⟨x0, x1, x2, x3, x4, -, -, -, -, -, xz⟩ := HR5.out.c5
  go_wp2_with fail
  exact bodyPost_ret (v := .tuple #[.agg #[.int .i64 prm, .int .i64 sz, .slice Ai nc ci, .int .i64 al, .int .i64 (n : Int)], .bool false]) (by simp [results, Tryd.results88, go_sem, x0, x1, x2, x3, x4]) rfl ⟨rfl, HB5.out⟩
set_option maxHeartbeats 4000000 in
theorem of_r (al prm sz : Int) (n ct k nc ci : Nat) (Ai : Option Addr) (ad : Addr) (hp : powB al = true) (hal : 1 ≤ al) (hq : inB prm 9 = true) (hs : inB sz 2147483520 = false) (h64 : I64 al) (hk : k < n) (hn : n ≤ maxLen) (w : World) (hb : ad.block < w.heap.size)
    (c0 : w.cell? (ad.add (k * 3)) = some (.int .i64 prm)) (c1 : w.cell? ⟨(ad.add (k * 3)).block, (ad.add (k * 3)).off + 1, none⟩ = some (.int .i64 sz)) (c2 : w.cell? ⟨(ad.add (k * 3)).block, (ad.add (k * 3)).off + 2, none⟩ = some (.slice Ai nc ci)) :
    Calls Tryd.prog 88 #[.agg #[.int .i64 al, .slice (some ad) n ct], .int .i64 (k : Int)] w fun e w' => e = .returned (.tuple #[.agg #[.int .i64 prm, .int .i64 sz, .slice Ai nc ci, .int .i64 al, .int .i64 (n : Int)], .bool false]) ∧ Below w.heap.size w w' := by
  have hni : (n : Int) ≤ 9223372036854775807 := by unfold maxLen at hn; omega
  have hk0 : (0 : Int) ≤ (k : Int) := by omega
  have hk1 : (k : Int) < (n : Int) := by omega
  have HI : Hid (inB (k : Int) n = true) := Lib.hid (inB_t.2 ⟨hk0, hk1⟩)
  have HP : Hid (∀ W, Calls Tryd.prog 86 #[.int .i64 al] W fun e w' => e = .returned (.bool true) ∧ W = w') := Lib.hid (fun W => hp ▸ power_any al h64.1 h64.2 W)
  have HQ : Hid (∀ W, Calls Tryd.prog 118 #[.int .i64 prm, .int .i64 9] W fun e w' => e = .returned (.bool true) ∧ W = w') := Lib.hid (fun W => hq ▸ mwithin_any prm 9 W)
  have HS : Hid (∀ W, Calls Tryd.prog 118 #[.int .i64 sz, .int .i64 2147483520] W fun e w' => e = .returned (.bool false) ∧ W = w') := Lib.hid (fun W => hs ▸ mwithin_any sz 2147483520 W)
  have hb1 : (ad.add (k * 3)).block < w.heap.size := by rw [block_of_add]; exact hb
  obtain ⟨Wa, hWa⟩ : ∃ Wa, Wa = (w.alloc (.cells #[.int .i64 al, .slice (some ad) n ct] 29)).alloc (.cells #[.int .i64 0, .int .i64 0, .slice none 0 0, .int .i64 0, .int .i64 0] 125) := ⟨_, rfl⟩
  have HB : Hid (Below w.heap.size w Wa) := Lib.hid (by rw [hWa]; exact ((Below.refl _ _).alloc (Nat.le_refl _) _).alloc (by simp) _)
  have HK0 : Hid (Blk Wa w.heap.size 29 #[.int .i64 al, .slice (some ad) n ct]) := Lib.hid (by rw [hWa]; exact (Blk.new _ _ _).alloc _)
  have HKR : Hid (Blk Wa (w.heap.size + 1) 125 #[.int .i64 0, .int .i64 0, .slice none 0 0, .int .i64 0, .int .i64 0]) := Lib.hid (by rw [hWa]; exact Blk.newAt (by simp))
  have d0 := (HB.out.cell (p := ad.add (k * 3)) hb1).trans c0
  have d1 := (HB.out.cell (p := ⟨(ad.add (k * 3)).block, (ad.add (k * 3)).off + 1, none⟩) hb1).trans c1
  have d2 := (HB.out.cell (p := ⟨(ad.add (k * 3)).block, (ad.add (k * 3)).off + 2, none⟩) hb1).trans c2
  have HWa := Lib.hid hWa
  clear hWa c0 c1 c2 hp hq hs h64
  go_enter Tryd.func88, Tryd.ntmps88
  go_wp2_with fail
  refine (mwithin_any _ _ _).mono ?_
  rintro e w1 ⟨rfl, rfl⟩
  rw [HI.out]
  go_upto_region 3 with (fail)
  rw [← HWa.out]
  obtain ⟨x0, x1, -, -, xz⟩ := HK0.out.c2
  have e0 : ∀ o, (Wa.alloc o).drew.cell? (ad.add (k * 3)) = some (.int .i64 prm) := fun o => (World.cell?_alloc_lt Wa o _ (by have := HB.out.size; omega)).trans d0
  have e1 : ∀ o, (Wa.alloc o).drew.cell? ⟨(ad.add (k * 3)).block, (ad.add (k * 3)).off + 1, none⟩ = some (.int .i64 sz) := fun o => (World.cell?_alloc_lt Wa o _ (by have := HB.out.size; show (ad.add (k * 3)).block < _; omega)).trans d1
  have e2 : ∀ o, (Wa.alloc o).drew.cell? ⟨(ad.add (k * 3)).block, (ad.add (k * 3)).off + 2, none⟩ = some (.slice Ai nc ci) := fun o => (World.cell?_alloc_lt Wa o _ (by have := HB.out.size; show (ad.add (k * 3)).block < _; omega)).trans d2
  clear HI
  go_region
  clear x0 x1 xz d0 d1 d2 e0 e1 e2
  obtain ⟨Wb, hWb⟩ : ∃ Wb, Wb = (Wa.alloc (.cells #[.int .i64 prm, .int .i64 sz, .slice Ai nc ci, .int .i64 al, .int .i64 (n : Int)] 125)).drew := ⟨_, rfl⟩
  rw [← hWb]
  have HB2 : Hid (Below w.heap.size w Wb) := Lib.hid (by rw [hWb]; exact (Below.al HB.out _).drew)
  have hfr : Blk Wb Wa.heap.size 125 #[.int .i64 prm, .int .i64 sz, .slice Ai nc ci, .int .i64 al, .int .i64 (n : Int)] := by rw [hWb]; exact (Blk.new _ _ _).drew
  have hrr : Blk Wb (w.heap.size + 1) 125 #[.int .i64 0, .int .i64 0, .slice none 0 0, .int .i64 0, .int .i64 0] := by rw [hWb]; exact (HKR.out.alloc _).drew
  have hle : w.heap.size + 1 < Wa.heap.size := HKR.out.lt
  clear hWb HKR HK0 HB HWa
  generalize Wa.heap.size = gF at *
  obtain ⟨gR, hgR⟩ : ∃ g, g = w.heap.size + 1 := ⟨_, rfl⟩
  rw [← hgR] at hrr ⊢
  have hgR' : w.heap.size ≤ gR := by omega
  have hgne : gF ≠ gR := by omega
  have HF : Hid (Blk Wb.drew gF 125 #[.int .i64 prm, .int .i64 sz, .slice Ai nc ci, .int .i64 al, .int .i64 (n : Int)]) := Lib.hid hfr.drew
  have HR : Hid (Blk Wb.drew gR 125 #[.int .i64 0, .int .i64 0, .slice none 0 0, .int .i64 0, .int .i64 0]) := Lib.hid hrr.drew
  clear hfr hrr hle hgR
  obtain ⟨Wc, hWc⟩ : ∃ Wc, Wc = Wb.drew := ⟨_, rfl⟩
  rw [← hWc] at HF HR
  have HB3 : Hid (Below w.heap.size w Wc) := Lib.hid (by rw [hWc]; exact Below.drew HB2.out)
  have HWc := Lib.hid hWc
  clear hWc HB2
  go_wp2_with fail
  refine wp_region_rg (fun (X : Nat → Prop) (j : Nat) (u : Nat → Value) (w : World) => match j with
      | 0 => u 0 = .agg #[.int .i64 prm, .int .i64 sz, .slice Ai nc ci, .int .i64 al, .int .i64 (n : Int)]
      | 1 => u 1 = .pointer (some ⟨gF, 3, none⟩)
      | 2 => u 2 = .int .i64 al
      | 3 => u 3 = .bool true
      | 4 => u 4 = .bool true
      | 5 => u 5 = .pointer (some ⟨gF, 0, none⟩)
      | 6 => u 6 = .pointer (some ⟨gF, 0, none⟩)
      | 7 => u 7 = .int .i64 prm
      | 8 => u 8 = .bool true
      | 9 => u 9 = .bool true
      | 10 => u 10 = .bool true
      | 11 => u 11 = .pointer (some ⟨gF, 0, none⟩)
      | 12 => u 12 = .pointer (some ⟨gF, 1, none⟩)
      | 13 => u 13 = .int .i64 sz
      | 14 => u 14 = .bool false
      | 15 => u 15 = .bool false
      | 16 => u 16 = .bool false
      | 17 => u 17 = undef
      | 18 => u 18 = undef
      | 19 => u 19 = undef
      | 20 => u 20 = undef
      | 21 => u 21 = undef
      | 22 => u 22 = undef
      | 23 => u 23 = undef
      | 24 => u 24 = .bool false
      | 25 => True
      | 26 => u 26 = .bool false
      | _ => True)
    (fun X w' => (¬ X 25 → w' = Wc) ∧ (X 25 → w' = ((((Wc.setCell ⟨gR, 0, none⟩ (.int .i64 prm)).setCell ⟨gR, 1, none⟩ (.int .i64 sz)).setCell ⟨gR, 2, none⟩ (.slice Ai nc ci)).setCell ⟨gR, 3, none⟩ (.int .i64 al)).setCell ⟨gR, 4, none⟩ (.int .i64 (n : Int)))) (fun w w' => w' = w) [25] [0, 0, 2, 6, 14, 30, 62, 126, 254, 510, 1022, 2046, 4094, 8190, 16382, 32766, 65534, 131070, 262142, 524286, 131070, 1179646, 4194302, 8388606, 16777214, 131071, 67108863]
    [[], [], [(1, 26)], [(2, 27)], [(3, 28)], [(4, 29)], [(4, 29), (5, 30)], [(4, 29), (6, 31)], [(4, 29), (7, 32)], [(4, 29), (8, 33)], [(9, 34)], [(10, 35)], [(10, 35), (11, 36)], [(10, 35), (12, 37)], [(10, 35), (13, 38)], [(10, 35), (14, 39)], [(15, 40)], [(16, 41)], [(16, 41), (17, 42)], [(16, 41), (18, 43)], [(16, 41)], [(16, 41), (20, 45)], [(16, 41), (19, 44), (21, 46)], [(16, 41), (22, 47)], [(16, 41), (23, 48)], [(0, 25)], [(24, 49)]]
    [(0, 25), (1, 26), (2, 27), (3, 28), (4, 29), (5, 30), (6, 31), (7, 32), (8, 33), (9, 34), (10, 35), (11, 36), (12, 37), (13, 38), (14, 39), (15, 40), (16, 41), (17, 42), (18, 43), (19, 44), (20, 45), (21, 46), (22, 47), (23, 48), (24, 49), (26, 5)] (by kernel_rfl) (by kernel_rfl) ?hsG ?hsT ?h0 ?hs ?he
  case hsG =>
    intro i X w w' hsp hR hG
    refine ⟨fun h => by rw [hR]; exact hG.1 (fun hk => h (.inr hk)), fun h => by rw [hR]; exact hG.2 (h.resolve_left (by rintro rfl; exact absurd hsp (by decide)))⟩
  case hsT =>
    intro i X j u u' w w' hsp hij hni hXj hR hu h
    match j, hij, hni, hXj, hu, h with
    | 0, hij, hni, hXj, hu, h => exact (hu 0 (.inl rfl)).trans h
    | 1, hij, hni, hXj, hu, h => exact (hu 1 (.inl rfl)).trans h
    | 2, hij, hni, hXj, hu, h => exact (hu 2 (.inl rfl)).trans h
    | 3, hij, hni, hXj, hu, h => exact (hu 3 (.inl rfl)).trans h
    | 4, hij, hni, hXj, hu, h => exact (hu 4 (.inl rfl)).trans h
    | 5, hij, hni, hXj, hu, h => exact (hu 5 (.inl rfl)).trans h
    | 6, hij, hni, hXj, hu, h => exact (hu 6 (.inl rfl)).trans h
    | 7, hij, hni, hXj, hu, h => exact (hu 7 (.inl rfl)).trans h
    | 8, hij, hni, hXj, hu, h => exact (hu 8 (.inl rfl)).trans h
    | 9, hij, hni, hXj, hu, h => exact (hu 9 (.inl rfl)).trans h
    | 10, hij, hni, hXj, hu, h => exact (hu 10 (.inl rfl)).trans h
    | 11, hij, hni, hXj, hu, h => exact (hu 11 (.inl rfl)).trans h
    | 12, hij, hni, hXj, hu, h => exact (hu 12 (.inl rfl)).trans h
    | 13, hij, hni, hXj, hu, h => exact (hu 13 (.inl rfl)).trans h
    | 14, hij, hni, hXj, hu, h => exact (hu 14 (.inl rfl)).trans h
    | 15, hij, hni, hXj, hu, h => exact (hu 15 (.inl rfl)).trans h
    | 16, hij, hni, hXj, hu, h => exact (hu 16 (.inl rfl)).trans h
    | 17, hij, hni, hXj, hu, h => exact (hu 17 (.inl rfl)).trans h
    | 18, hij, hni, hXj, hu, h => exact (hu 18 (.inl rfl)).trans h
    | 19, hij, hni, hXj, hu, h => exact (hu 19 (.inl rfl)).trans h
    | 20, hij, hni, hXj, hu, h => exact (hu 20 (.inl rfl)).trans h
    | 21, hij, hni, hXj, hu, h => exact (hu 21 (.inl rfl)).trans h
    | 22, hij, hni, hXj, hu, h => exact (hu 22 (.inl rfl)).trans h
    | 23, hij, hni, hXj, hu, h => exact (hu 23 (.inl rfl)).trans h
    | 24, hij, hni, hXj, hu, h => exact (hu 24 (.inl rfl)).trans h
    | 25, hij, hni, hXj, hu, h => exact trivial
    | 26, hij, hni, hXj, hu, h => exact (hu 26 (.inl rfl)).trans h
    | _ + 27, _, _, _, _, h => exact trivial
  case h0 => exact ⟨fun _ => HWc.out.symm, fun h => h.elim⟩
  case hs =>
    refine RgAll.cons [] rfl (by decide) ?_ ?_
    · intro u w X hi hA hF hG hT K hK
      simp only [lay, Act.put, List.setIfInBounds_toArray, List.set_cons_zero, List.set_cons_succ] at hK ⊢
      obtain rfl := hG.1 (hF 25 rfl)
      obtain ⟨k0, k1, k2, k3, k4, -, -, -, -, -, zz⟩ := HF.out.c5
      clear hi hA hF hG hT
      go_simp
      exact hK _ _ (rfl) (updV_self _ _ _)
    refine RgAll.cons [] rfl (by decide) ?_ ?_
    · intro u w X hi hA hF hG hT K hK
      simp only [lay, Act.put, List.setIfInBounds_toArray, List.set_cons_zero, List.set_cons_succ] at hK ⊢
      clear hi hA hF hG hT
      go_simp
      exact hK _ _ (rfl) (updV_self _ _ _)
    refine RgAll.cons [(1, 26)] rfl (by decide) ?_ ?_
    · intro u w X hi hA hF hG hT K hK
      have t1 : u 1 = .pointer (some ⟨gF, 3, none⟩) := hT 1 (hA 1 rfl)
      simp only [lay, Act.put, List.setIfInBounds_toArray, List.set_cons_zero, List.set_cons_succ, t1] at hK ⊢
      obtain rfl := hG.1 (hF 25 rfl)
      obtain ⟨k0, k1, k2, k3, k4, -, -, -, -, -, zz⟩ := HF.out.c5
      clear hi hA hF hG hT
      go_simp
      exact hK _ _ (rfl) (updV_self _ _ _)
    refine RgAll.cons [(2, 27)] rfl (by decide) ?_ ?_
    · intro u w X hi hA hF hG hT K hK
      have t2 : u 2 = .int .i64 al := hT 2 (hA 2 rfl)
      simp only [lay, Act.put, List.setIfInBounds_toArray, List.set_cons_zero, List.set_cons_succ, t2] at hK ⊢
      clear hi hA hF hG hT
      go_simp
      refine (HP.out _).mono ?_
      rintro e w' ⟨rfl, rfl⟩
      exact hK _ _ (rfl) (updV_self _ _ _)
    refine RgAll.cons [(3, 28)] rfl (by decide) ?_ ?_
    · intro u w X hi hA hF hG hT K hK
      have t3 : u 3 = .bool true := hT 3 (hA 3 rfl)
      simp only [lay, Act.put, List.setIfInBounds_toArray, List.set_cons_zero, List.set_cons_succ, t3] at hK ⊢
      clear hi hA hF hG hT
      go_simp
      exact hK _ _ (rfl) (updV_self _ _ _)
    refine RgAll.cons [(4, 29)] rfl (by decide) ?_ ?_
    · intro u w X hi hA hF hG hT K hK
      have t4 : u 4 = .bool true := hT 4 (hA 4 rfl)
      simp only [lay, Act.put, List.setIfInBounds_toArray, List.set_cons_zero, List.set_cons_succ, t4] at hK ⊢
      clear hi hA hF hG hT
      go_simp
      exact hK _ _ (rfl) (updV_self _ _ _)
    refine RgAll.cons [(4, 29), (5, 30)] rfl (by decide) ?_ ?_
    · intro u w X hi hA hF hG hT K hK
      have t4 : u 4 = .bool true := hT 4 (hA 4 rfl)
      have t5 : u 5 = .pointer (some ⟨gF, 0, none⟩) := hT 5 (hA 5 rfl)
      simp only [lay, Act.put, List.setIfInBounds_toArray, List.set_cons_zero, List.set_cons_succ, t4, t5] at hK ⊢
      clear hi hA hF hG hT
      go_simp
      exact hK _ _ (rfl) (updV_self _ _ _)
    refine RgAll.cons [(4, 29), (6, 31)] rfl (by decide) ?_ ?_
    · intro u w X hi hA hF hG hT K hK
      have t4 : u 4 = .bool true := hT 4 (hA 4 rfl)
      have t6 : u 6 = .pointer (some ⟨gF, 0, none⟩) := hT 6 (hA 6 rfl)
      simp only [lay, Act.put, List.setIfInBounds_toArray, List.set_cons_zero, List.set_cons_succ, t4, t6] at hK ⊢
      obtain rfl := hG.1 (hF 25 rfl)
      obtain ⟨k0, k1, k2, k3, k4, -, -, -, -, -, zz⟩ := HF.out.c5
      clear hi hA hF hG hT
      go_simp
      exact hK _ _ (rfl) (updV_self _ _ _)
    refine RgAll.cons [(4, 29), (7, 32)] rfl (by decide) ?_ ?_
    · intro u w X hi hA hF hG hT K hK
      have t4 : u 4 = .bool true := hT 4 (hA 4 rfl)
      have t7 : u 7 = .int .i64 prm := hT 7 (hA 7 rfl)
      simp only [lay, Act.put, List.setIfInBounds_toArray, List.set_cons_zero, List.set_cons_succ, t4, t7] at hK ⊢
      clear hi hA hF hG hT
      go_simp
      refine (HQ.out _).mono ?_
      rintro e w' ⟨rfl, rfl⟩
      exact hK _ _ (rfl) (updV_self _ _ _)
    refine RgAll.cons [(4, 29), (8, 33)] rfl (by decide) ?_ ?_
    · intro u w X hi hA hF hG hT K hK
      have t4 : u 4 = .bool true := hT 4 (hA 4 rfl)
      have t8 : u 8 = .bool true := hT 8 (hA 8 rfl)
      simp only [lay, Act.put, List.setIfInBounds_toArray, List.set_cons_zero, List.set_cons_succ, t4, t8] at hK ⊢
      clear hi hA hF hG hT
      go_simp
      exact hK _ _ (rfl) (updV_self _ _ _)
    refine RgAll.cons [(9, 34)] rfl (by decide) ?_ ?_
    · intro u w X hi hA hF hG hT K hK
      have t9 : u 9 = .bool true := hT 9 (hA 9 rfl)
      simp only [lay, Act.put, List.setIfInBounds_toArray, List.set_cons_zero, List.set_cons_succ, t9] at hK ⊢
      clear hi hA hF hG hT
      go_simp
      exact hK _ _ (rfl) (updV_self _ _ _)
    refine RgAll.cons [(10, 35)] rfl (by decide) ?_ ?_
    · intro u w X hi hA hF hG hT K hK
      have t10 : u 10 = .bool true := hT 10 (hA 10 rfl)
      simp only [lay, Act.put, List.setIfInBounds_toArray, List.set_cons_zero, List.set_cons_succ, t10] at hK ⊢
      clear hi hA hF hG hT
      go_simp
      exact hK _ _ (rfl) (updV_self _ _ _)
    refine RgAll.cons [(10, 35), (11, 36)] rfl (by decide) ?_ ?_
    · intro u w X hi hA hF hG hT K hK
      have t10 : u 10 = .bool true := hT 10 (hA 10 rfl)
      have t11 : u 11 = .pointer (some ⟨gF, 0, none⟩) := hT 11 (hA 11 rfl)
      simp only [lay, Act.put, List.setIfInBounds_toArray, List.set_cons_zero, List.set_cons_succ, t10, t11] at hK ⊢
      clear hi hA hF hG hT
      go_simp
      exact hK _ _ (rfl) (updV_self _ _ _)
    refine RgAll.cons [(10, 35), (12, 37)] rfl (by decide) ?_ ?_
    · intro u w X hi hA hF hG hT K hK
      have t10 : u 10 = .bool true := hT 10 (hA 10 rfl)
      have t12 : u 12 = .pointer (some ⟨gF, 1, none⟩) := hT 12 (hA 12 rfl)
      simp only [lay, Act.put, List.setIfInBounds_toArray, List.set_cons_zero, List.set_cons_succ, t10, t12] at hK ⊢
      obtain rfl := hG.1 (hF 25 rfl)
      obtain ⟨k0, k1, k2, k3, k4, -, -, -, -, -, zz⟩ := HF.out.c5
      clear hi hA hF hG hT
      go_simp
      exact hK _ _ (rfl) (updV_self _ _ _)
    refine RgAll.cons [(10, 35), (13, 38)] rfl (by decide) ?_ ?_
    · intro u w X hi hA hF hG hT K hK
      have t10 : u 10 = .bool true := hT 10 (hA 10 rfl)
      have t13 : u 13 = .int .i64 sz := hT 13 (hA 13 rfl)
      simp only [lay, Act.put, List.setIfInBounds_toArray, List.set_cons_zero, List.set_cons_succ, t10, t13] at hK ⊢
      clear hi hA hF hG hT
      go_simp
      refine (HS.out _).mono ?_
      rintro e w' ⟨rfl, rfl⟩
      exact hK _ _ (rfl) (updV_self _ _ _)
    refine RgAll.cons [(10, 35), (14, 39)] rfl (by decide) ?_ ?_
    · intro u w X hi hA hF hG hT K hK
      have t10 : u 10 = .bool true := hT 10 (hA 10 rfl)
      have t14 : u 14 = .bool false := hT 14 (hA 14 rfl)
      simp only [lay, Act.put, List.setIfInBounds_toArray, List.set_cons_zero, List.set_cons_succ, t10, t14] at hK ⊢
      clear hi hA hF hG hT
      go_simp
      exact hK _ _ (rfl) (updV_self _ _ _)
    refine RgAll.cons [(15, 40)] rfl (by decide) ?_ ?_
    · intro u w X hi hA hF hG hT K hK
      have t15 : u 15 = .bool false := hT 15 (hA 15 rfl)
      simp only [lay, Act.put, List.setIfInBounds_toArray, List.set_cons_zero, List.set_cons_succ, t15] at hK ⊢
      clear hi hA hF hG hT
      go_simp
      exact hK _ _ (rfl) (updV_self _ _ _)
    refine RgAll.cons [(16, 41)] rfl (by decide) ?_ ?_
    · intro u w X hi hA hF hG hT K hK
      have t16 : u 16 = .bool false := hT 16 (hA 16 rfl)
      simp only [lay, Act.put, List.setIfInBounds_toArray, List.set_cons_zero, List.set_cons_succ, t16] at hK ⊢
      clear hi hA hF hG hT
      go_simp
      exact hK _ _ (rfl) (updV_self _ _ _)
    refine RgAll.cons [(16, 41), (17, 42)] rfl (by decide) ?_ ?_
    · intro u w X hi hA hF hG hT K hK
      have t16 : u 16 = .bool false := hT 16 (hA 16 rfl)
      have t17 : u 17 = undef := hT 17 (hA 17 rfl)
      simp only [lay, Act.put, List.setIfInBounds_toArray, List.set_cons_zero, List.set_cons_succ, t16, t17] at hK ⊢
      clear hi hA hF hG hT
      go_simp
      exact hK _ _ (rfl) (updV_self _ _ _)
    refine RgAll.cons [(16, 41), (18, 43)] rfl (by decide) ?_ ?_
    · intro u w X hi hA hF hG hT K hK
      have t16 : u 16 = .bool false := hT 16 (hA 16 rfl)
      have t18 : u 18 = undef := hT 18 (hA 18 rfl)
      simp only [lay, Act.put, List.setIfInBounds_toArray, List.set_cons_zero, List.set_cons_succ, t16, t18] at hK ⊢
      skip
      clear hi hA hF hG hT
      go_simp
      exact hK _ _ (rfl) (updV_self _ _ _)
    refine RgAll.cons [(16, 41)] rfl (by decide) ?_ ?_
    · intro u w X hi hA hF hG hT K hK
      have t16 : u 16 = .bool false := hT 16 (hA 16 rfl)
      simp only [lay, Act.put, List.setIfInBounds_toArray, List.set_cons_zero, List.set_cons_succ, t16] at hK ⊢
      clear hi hA hF hG hT
      go_simp
      exact hK _ _ (rfl) (updV_self _ _ _)
    refine RgAll.cons [(16, 41), (20, 45)] rfl (by decide) ?_ ?_
    · intro u w X hi hA hF hG hT K hK
      have t16 : u 16 = .bool false := hT 16 (hA 16 rfl)
      have t20 : u 20 = undef := hT 20 (hA 20 rfl)
      simp only [lay, Act.put, List.setIfInBounds_toArray, List.set_cons_zero, List.set_cons_succ, t16, t20] at hK ⊢
      skip
      clear hi hA hF hG hT
      go_simp
      exact hK _ _ (rfl) (updV_self _ _ _)
    refine RgAll.cons [(16, 41), (19, 44), (21, 46)] rfl (by decide) ?_ ?_
    · intro u w X hi hA hF hG hT K hK
      have t16 : u 16 = .bool false := hT 16 (hA 16 rfl)
      have t19 : u 19 = undef := hT 19 (hA 19 rfl)
      have t21 : u 21 = undef := hT 21 (hA 21 rfl)
      simp only [lay, Act.put, List.setIfInBounds_toArray, List.set_cons_zero, List.set_cons_succ, t16, t19, t21] at hK ⊢
      clear hi hA hF hG hT
      go_simp
      exact hK _ _ (rfl) (updV_self _ _ _)
    refine RgAll.cons [(16, 41), (22, 47)] rfl (by decide) ?_ ?_
    · intro u w X hi hA hF hG hT K hK
      have t16 : u 16 = .bool false := hT 16 (hA 16 rfl)
      have t22 : u 22 = undef := hT 22 (hA 22 rfl)
      simp only [lay, Act.put, List.setIfInBounds_toArray, List.set_cons_zero, List.set_cons_succ, t16, t22] at hK ⊢
      clear hi hA hF hG hT
      go_simp
      exact hK _ _ (rfl) (updV_self _ _ _)
    refine RgAll.cons [(16, 41), (23, 48)] rfl (by decide) ?_ ?_
    · intro u w X hi hA hF hG hT K hK
      have t16 : u 16 = .bool false := hT 16 (hA 16 rfl)
      have t23 : u 23 = undef := hT 23 (hA 23 rfl)
      simp only [lay, Act.put, List.setIfInBounds_toArray, List.set_cons_zero, List.set_cons_succ, t16, t23] at hK ⊢
      clear hi hA hF hG hT
      go_simp
      exact hK _ _ (rfl) (updV_self _ _ _)
    refine RgAll.consS [(0, 25)] rfl ?_ ?_
    · intro u w X hi hA hF hG hT K hK
      have t0 : u 0 = .agg #[.int .i64 prm, .int .i64 sz, .slice Ai nc ci, .int .i64 al, .int .i64 (n : Int)] := hT 0 (hA 0 rfl)
      simp only [lay, Act.put, List.setIfInBounds_toArray, List.set_cons_zero, List.set_cons_succ, t0] at hK ⊢
      obtain rfl := hG.1 hi
      obtain ⟨k0, k1, k2, k3, k4, z0, z1, z2, z3, z4, zz⟩ := HR.out.c5
      go_simp
      refine hK undef _ ⟨fun h => absurd (by simp) h, fun _ => rfl⟩ ?_
      intro j hj
      match j, hj with
        | 0, hj => exact (updV_ne _ _ (by decide)).trans (hT 0 (hj.resolve_left (by decide)))
        | 1, hj => exact (updV_ne _ _ (by decide)).trans (hT 1 (hj.resolve_left (by decide)))
        | 2, hj => exact (updV_ne _ _ (by decide)).trans (hT 2 (hj.resolve_left (by decide)))
        | 3, hj => exact (updV_ne _ _ (by decide)).trans (hT 3 (hj.resolve_left (by decide)))
        | 4, hj => exact (updV_ne _ _ (by decide)).trans (hT 4 (hj.resolve_left (by decide)))
        | 5, hj => exact (updV_ne _ _ (by decide)).trans (hT 5 (hj.resolve_left (by decide)))
        | 6, hj => exact (updV_ne _ _ (by decide)).trans (hT 6 (hj.resolve_left (by decide)))
        | 7, hj => exact (updV_ne _ _ (by decide)).trans (hT 7 (hj.resolve_left (by decide)))
        | 8, hj => exact (updV_ne _ _ (by decide)).trans (hT 8 (hj.resolve_left (by decide)))
        | 9, hj => exact (updV_ne _ _ (by decide)).trans (hT 9 (hj.resolve_left (by decide)))
        | 10, hj => exact (updV_ne _ _ (by decide)).trans (hT 10 (hj.resolve_left (by decide)))
        | 11, hj => exact (updV_ne _ _ (by decide)).trans (hT 11 (hj.resolve_left (by decide)))
        | 12, hj => exact (updV_ne _ _ (by decide)).trans (hT 12 (hj.resolve_left (by decide)))
        | 13, hj => exact (updV_ne _ _ (by decide)).trans (hT 13 (hj.resolve_left (by decide)))
        | 14, hj => exact (updV_ne _ _ (by decide)).trans (hT 14 (hj.resolve_left (by decide)))
        | 15, hj => exact (updV_ne _ _ (by decide)).trans (hT 15 (hj.resolve_left (by decide)))
        | 16, hj => exact (updV_ne _ _ (by decide)).trans (hT 16 (hj.resolve_left (by decide)))
        | 17, hj => exact (updV_ne _ _ (by decide)).trans (hT 17 (hj.resolve_left (by decide)))
        | 18, hj => exact (updV_ne _ _ (by decide)).trans (hT 18 (hj.resolve_left (by decide)))
        | 19, hj => exact (updV_ne _ _ (by decide)).trans (hT 19 (hj.resolve_left (by decide)))
        | 20, hj => exact (updV_ne _ _ (by decide)).trans (hT 20 (hj.resolve_left (by decide)))
        | 21, hj => exact (updV_ne _ _ (by decide)).trans (hT 21 (hj.resolve_left (by decide)))
        | 22, hj => exact (updV_ne _ _ (by decide)).trans (hT 22 (hj.resolve_left (by decide)))
        | 23, hj => exact (updV_ne _ _ (by decide)).trans (hT 23 (hj.resolve_left (by decide)))
        | 24, hj => exact (updV_ne _ _ (by decide)).trans (hT 24 (hj.resolve_left (by decide)))
        | 25, hj => exact trivial
        | 26, hj => exact (updV_ne _ _ (by decide)).trans (hT 26 (hj.resolve_left (by decide)))
        | _ + 27, hj => exact trivial
    refine RgAll.cons [(24, 49)] rfl (by decide) ?_ ?_
    · intro u w X hi hA hF hG hT K hK
      have t24 : u 24 = .bool false := hT 24 (hA 24 rfl)
      simp only [lay, Act.put, List.setIfInBounds_toArray, List.set_cons_zero, List.set_cons_succ, t24] at hK ⊢
      clear hi hA hF hG hT
      go_simp
      exact hK _ _ (rfl) (updV_self _ _ _)
    exact RgAll.nil
  intro u w X hX hG hT
  have t0 : u 0 = .agg #[.int .i64 prm, .int .i64 sz, .slice Ai nc ci, .int .i64 al, .int .i64 (n : Int)] := hT 0 (by simp)
  have t1 : u 1 = .pointer (some ⟨gF, 3, none⟩) := hT 1 (by simp)
  have t2 : u 2 = .int .i64 al := hT 2 (by simp)
  have t3 : u 3 = .bool true := hT 3 (by simp)
  have t4 : u 4 = .bool true := hT 4 (by simp)
  have t5 : u 5 = .pointer (some ⟨gF, 0, none⟩) := hT 5 (by simp)
  have t6 : u 6 = .pointer (some ⟨gF, 0, none⟩) := hT 6 (by simp)
  have t7 : u 7 = .int .i64 prm := hT 7 (by simp)
  have t8 : u 8 = .bool true := hT 8 (by simp)
  have t9 : u 9 = .bool true := hT 9 (by simp)
  have t10 : u 10 = .bool true := hT 10 (by simp)
  have t11 : u 11 = .pointer (some ⟨gF, 0, none⟩) := hT 11 (by simp)
  have t12 : u 12 = .pointer (some ⟨gF, 1, none⟩) := hT 12 (by simp)
  have t13 : u 13 = .int .i64 sz := hT 13 (by simp)
  have t14 : u 14 = .bool false := hT 14 (by simp)
  have t15 : u 15 = .bool false := hT 15 (by simp)
  have t16 : u 16 = .bool false := hT 16 (by simp)
  have t17 : u 17 = undef := hT 17 (by simp)
  have t18 : u 18 = undef := hT 18 (by simp)
  have t19 : u 19 = undef := hT 19 (by simp)
  have t20 : u 20 = undef := hT 20 (by simp)
  have t21 : u 21 = undef := hT 21 (by simp)
  have t22 : u 22 = undef := hT 22 (by simp)
  have t23 : u 23 = undef := hT 23 (by simp)
  have t24 : u 24 = .bool false := hT 24 (by simp)
  have t26 : u 26 = .bool false := hT 26 (by simp)
  simp only [lay, Act.put, List.setIfInBounds_toArray, List.set_cons_zero, List.set_cons_succ, t0, t1, t2, t3, t4, t5, t6, t7, t8, t9, t10, t11, t12, t13, t14, t15, t16, t17, t18, t19, t20, t21, t22, t23, t24, t26]
  clear hT t0 t1 t2 t3 t4 t5 t6 t7 t8 t9 t10 t11 t12 t13 t14 t15 t16 t17 t18 t19 t20 t21 t22 t23 t24 t26
  obtain rfl := hG.2 (hX 25 (by simp))
  have HB5 := Lib.hid (below_put5 HB3.out hgR' (.int .i64 prm) (.int .i64 sz) (.slice Ai nc ci) (.int .i64 al) (.int .i64 (n : Int)))
  have HR5 := Lib.hid (Blk.put5 HR.out (.int .i64 prm) (.int .i64 sz) (.slice Ai nc ci) (.int .i64 al) (.int .i64 (n : Int)))
  clear hG hX
  generalize ((((Wc.setCell ⟨gR, 0, none⟩ (.int .i64 prm)).setCell ⟨gR, 1, none⟩ (.int .i64 sz)).setCell ⟨gR, 2, none⟩ (.slice Ai nc ci)).setCell ⟨gR, 3, none⟩ (.int .i64 al)).setCell ⟨gR, 4, none⟩ (.int .i64 (n : Int)) = Wz at *
  obtain ⟨x0, x1, x2, x3, x4, -, -, -, -, -, xz⟩ := HR5.out.c5
  go_wp2_with fail
  exact bodyPost_ret (v := .tuple #[.agg #[.int .i64 prm, .int .i64 sz, .slice Ai nc ci, .int .i64 al, .int .i64 (n : Int)], .bool false]) (by simp [results, Tryd.results88, go_sem, x0, x1, x2, x3, x4]) rfl ⟨rfl, HB5.out⟩
end Go.Proofs.YtinfeglhjmnlaaaDoor.pm
