/- Contracts: mach.of. -/
import Derived.Test.YtcnndoefgjbmiaaGreatGKb
import Derived.Test.YtcnndoefgjbmiaaGreatGRg
set_option linter.unusedVariables false
set_option maxRecDepth 100000
set_option maxHeartbeats 8000000
namespace Go.Proofs.YtcnndoefgjbmiaaGreat.pm
open Go.RowKit
theorem Blk.put5 {w : World} {g : Nat} {t : TypeId} {b0 b1 b2 b3 b4 : Value} (h : Blk w g t #[b0, b1, b2, b3, b4]) (a0 a1 a2 a3 a4 : Value) :
 Blk (((((w.setCell ⟨g, 0, none⟩ a0).setCell ⟨g, 1, none⟩ a1).setCell ⟨g, 2, none⟩ a2).setCell ⟨g, 3, none⟩ a3).setCell ⟨g, 4, none⟩ a4) g t #[a0, a1, a2, a3, a4] := by
 have := ((((h.set_ 0 a0).set_ 1 a1).set_ 2 a2).set_ 3 a3).set_ 4 a4
 simpa using this
theorem below_put5 {w0 w : World} {B g : Nat} (h : Below B w0 w) (hg : B ≤ g) (a0 a1 a2 a3 a4 : Value) :
 Below B w0 (((((w.setCell ⟨g, 0, none⟩ a0).setCell ⟨g, 1, none⟩ a1).setCell ⟨g, 2, none⟩ a2).setCell ⟨g, 3, none⟩ a3).setCell ⟨g, 4, none⟩ a4) :=
 ((((h.setCell (p := ⟨g, 0, none⟩) hg _).setCell (p := ⟨g, 1, none⟩) hg _).setCell (p := ⟨g, 2, none⟩) hg _).setCell (p := ⟨g, 3, none⟩) hg _).setCell (p := ⟨g, 4, none⟩) hg _
theorem of_in (al prm sz : Int) (n ct k nc ci : Nat) (Ai : Option Addr) (ad : Addr) (p q r : Bool) (hp : powB al = p) (hq : inB prm 9 = q) (hs : inB sz 2147483520 = r) (hal : p = true → al ≠ 0) (h64 : I64 al) (hk : k < n) (hn : n ≤ maxLen) (w : World) (hb : ad.block < w.heap.size)
 (c0 : w.cell? (ad.add (k * 3)) = some (.int .i64 prm)) (c1 : w.cell? ⟨(ad.add (k * 3)).block, (ad.add (k * 3)).off + 1, none⟩ = some (.int .i64 sz)) (c2 : w.cell? ⟨(ad.add (k * 3)).block, (ad.add (k * 3)).off + 2, none⟩ = some (.slice Ai nc ci)) :
 Calls Tryz.prog 43 #[.agg #[.int .i64 al, .slice (some ad) n ct], .int .i64 (k : Int)] w fun e w' => e = .returned (.tuple #[.agg #[.int .i64 prm, .int .i64 sz, .slice Ai nc ci, .int .i64 al, .int .i64 (n : Int)], .bool (p && q && r && (sz.tmod al == 0))]) ∧ Below w.heap.size w w' := by
 have hni : (n : Int) ≤ 9223372036854775807 := by unfold maxLen at hn; omega
 have hk0 : (0 : Int) ≤ (k : Int) := by omega
 have hk1 : (k : Int) < (n : Int) := by omega
 have HI : Hid (inB (k : Int) n = true) := hQ (inB_t.2 ⟨hk0, hk1⟩)
 have HP : Hid (∀ W, Calls Tryz.prog 41 #[.int .i64 al] W fun e w' => e = .returned (.bool p) ∧ W = w') := hQ (fun W => hp ▸ power_any al h64.1 h64.2 W)
 have HQ : Hid (∀ W, Calls Tryz.prog 66 #[.int .i64 prm, .int .i64 9] W fun e w' => e = .returned (.bool q) ∧ W = w') := hQ (fun W => hq ▸ mwithin_any prm 9 W)
 have HS : Hid (∀ W, Calls Tryz.prog 66 #[.int .i64 sz, .int .i64 2147483520] W fun e w' => e = .returned (.bool r) ∧ W = w') := hQ (fun W => hs ▸ mwithin_any sz 2147483520 W)
 have hb1 : (ad.add (k * 3)).block < w.heap.size := by rw [block_of_add]; exact hb
 obtain ⟨Wa, hWa⟩ : ∃ Wa, Wa = (w.alloc (.cells #[.int .i64 al, .slice (some ad) n ct] 26)).alloc (.cells #[.int .i64 0, .int .i64 0, .slice none 0 0, .int .i64 0, .int .i64 0] 109) := ⟨_, rfl⟩
 have HB : Hid (Below w.heap.size w Wa) := hQ (by rw [hWa]; exact (bR.alloc nL _).alloc (by simp) _)
 have HK0 : Hid (Blk Wa w.heap.size 26 #[.int .i64 al, .slice (some ad) n ct]) := hQ (by rw [hWa]; exact (Blk.new _ _ _).alloc _)
 have HKR : Hid (Blk Wa (w.heap.size + 1) 109 #[.int .i64 0, .int .i64 0, .slice none 0 0, .int .i64 0, .int .i64 0]) := hQ (by rw [hWa]; exact Blk.newAt (by simp))
 have d0 := (HB.out.cell (p := ad.add (k * 3)) hb1).trans c0
 have d1 := (HB.out.cell (p := ⟨(ad.add (k * 3)).block, (ad.add (k * 3)).off + 1, none⟩) hb1).trans c1
 have d2 := (HB.out.cell (p := ⟨(ad.add (k * 3)).block, (ad.add (k * 3)).off + 2, none⟩) hb1).trans c2
 have HWa := hQ hWa
 clear hWa c0 c1 c2 hp hq hs h64
 go_enter Tryz.func43, Tryz.ntmps43
 go_wp2_with fail
 refine (mwithin_any _ _ _).mono ?_
 rintro e w1 ⟨rfl, rfl⟩
 rw [HI.out]
 go_upto_region 3 with (fail)
 rw [← HWa.out]
 obtain ⟨x0, x1, -, -, xz⟩ := HK0.out.c2
 have e0 : ∀ o, (Wa.alloc o).drew.cell? (ad.add (k * 3)) = some (.int .i64 prm) := fun o => (World.cell?_alloc_lt Wa o _ (by have := HB.out.size; omega)).trans d0
 have e1 : ∀ o, (Wa.alloc o).drew.cell? ⟨(ad.add (k * 3)).block, (ad.add (k * 3)).off + 1, none⟩ = some (.int .i64 sz) := fun o => (World.cell?_alloc_lt Wa o _ (by have := HB.out.size; show (ad.add (k * 3)).block < _; omega)).trans d1
 have e2 : ∀ o, (Wa.alloc o).drew.cell? ⟨(ad.add (k * 3)).block, (ad.add (k * 3)).off + 2, none⟩ = some (.slice Ai nc ci) := fun o => (World.cell?_alloc_lt Wa o _ (by have := HB.out.size; show (ad.add (k * 3)).block < _; omega)).trans d2
 clear HI
 go_region
 clear x0 x1 xz d0 d1 d2 e0 e1 e2
 obtain ⟨Wb, hWb⟩ : ∃ Wb, Wb = (Wa.alloc (.cells #[.int .i64 prm, .int .i64 sz, .slice Ai nc ci, .int .i64 al, .int .i64 (n : Int)] 109)).drew := ⟨_, rfl⟩
 rw [← hWb]
 have HB2 : Hid (Below w.heap.size w Wb) := hQ (by rw [hWb]; exact (Below.al HB.out _).drew)
 have hfr : Blk Wb Wa.heap.size 109 #[.int .i64 prm, .int .i64 sz, .slice Ai nc ci, .int .i64 al, .int .i64 (n : Int)] := by rw [hWb]; exact (Blk.new _ _ _).drew
 have hrr : Blk Wb (w.heap.size + 1) 109 #[.int .i64 0, .int .i64 0, .slice none 0 0, .int .i64 0, .int .i64 0] := by rw [hWb]; exact (HKR.out.alloc _).drew
 have hle : w.heap.size + 1 < Wa.heap.size := HKR.out.lt
 clear hWb HKR HK0 HB HWa
 generalize Wa.heap.size = gF at *
 obtain ⟨gR, hgR⟩ : ∃ g, g = w.heap.size + 1 := ⟨_, rfl⟩
 rw [← hgR] at hrr ⊢
 have hgR' : w.heap.size ≤ gR := by omega
 have hgne : gF ≠ gR := by omega
 have HF : Hid (Blk Wb.drew gF 109 #[.int .i64 prm, .int .i64 sz, .slice Ai nc ci, .int .i64 al, .int .i64 (n : Int)]) := hQ hfr.drew
 have HR : Hid (Blk Wb.drew gR 109 #[.int .i64 0, .int .i64 0, .slice none 0 0, .int .i64 0, .int .i64 0]) := hQ hrr.drew
 clear hfr hrr hle hgR
 obtain ⟨Wc, hWc⟩ : ∃ Wc, Wc = Wb.drew := ⟨_, rfl⟩
 rw [← hWc] at HF HR
 have HB3 : Hid (Below w.heap.size w Wc) := hQ (by rw [hWc]; exact Below.drew HB2.out)
 have HWc := hQ hWc
 clear hWc HB2
 go_wp2_with fail
 refine wp_region_rv (fun j => match j with
  | 0 => some (.agg #[.int .i64 prm, .int .i64 sz, .slice Ai nc ci, .int .i64 al, .int .i64 (n : Int)])
  | 1 => some (.pointer (some ⟨gF, 3, none⟩))
  | 2 => some (.int .i64 al)
  | 3 | 4 => some (.bool p)
  | 5 | 6 => some (if (p) = true then .pointer (some ⟨gF, 0, none⟩) else undef)
  | 7 => some (if (p) = true then .int .i64 prm else undef)
  | 8 => some (if (p) = true then .bool q else undef)
  | 9 | 10 => some (.bool (p && q))
  | 11 => some (if (p && q) = true then .pointer (some ⟨gF, 0, none⟩) else undef)
  | 12 => some (if (p && q) = true then .pointer (some ⟨gF, 1, none⟩) else undef)
  | 13 => some (if (p && q) = true then .int .i64 sz else undef)
  | 14 => some (if (p && q) = true then .bool r else undef)
  | 15 | 16 => some (.bool (p && q && r))
  | 17 => some (if (p && q && r) = true then .pointer (some ⟨gF, 0, none⟩) else undef)
  | 18 => some (if (p && q && r) = true then .pointer (some ⟨gF, 1, none⟩) else undef)
  | 19 => some (if (p && q && r) = true then .int .i64 sz else undef)
  | 20 => some (if (p && q && r) = true then .pointer (some ⟨gF, 3, none⟩) else undef)
  | 21 => some (if (p && q && r) = true then .int .i64 al else undef)
  | 22 => some (if (p && q && r) = true then .int .i64 (sz.tmod al) else undef)
  | 23 => some (if (p && q && r) = true then .bool (sz.tmod al == 0) else undef)
  | 24 | 26 => some (.bool (p && q && r && (sz.tmod al == 0)))
  | _ => none) [] (fun X j u w => match j with
  | _ => True)
  (fun X w' => (¬ X 25 → w' = Wc) ∧ (X 25 → w' = ((((Wc.setCell ⟨gR, 0, none⟩ (.int .i64 prm)).setCell ⟨gR, 1, none⟩ (.int .i64 sz)).setCell ⟨gR, 2, none⟩ (.slice Ai nc ci)).setCell ⟨gR, 3, none⟩ (.int .i64 al)).setCell ⟨gR, 4, none⟩ (.int .i64 (n : Int)))) (fun w w' => w' = w) [25] [0, 0, 2, 6, 14, 30, 62, 126, 254, 510, 1022, 2046, 4094, 8190, 16382, 32766, 65534, 131070, 262142, 524286, 131070, 1179646, 4194302, 8388606, 16777214, 131071, 67108863]
  [[], [], [(1, 26)], [(2, 27)], [(3, 28)], [(4, 29)], [(4, 29), (5, 30)], [(4, 29), (6, 31)], [(4, 29), (7, 32)], [(4, 29), (8, 33)], [(9, 34)], [(10, 35)], [(10, 35), (11, 36)], [(10, 35), (12, 37)], [(10, 35), (13, 38)], [(10, 35), (14, 39)], [(15, 40)], [(16, 41)], [(16, 41), (17, 42)], [(16, 41), (18, 43)], [(16, 41)], [(16, 41), (20, 45)], [(16, 41), (19, 44), (21, 46)], [(16, 41), (22, 47)], [(16, 41), (23, 48)], [(0, 25)], [(24, 49)]]
  [(0, 25), (1, 26), (2, 27), (3, 28), (4, 29), (5, 30), (6, 31), (7, 32), (8, 33), (9, 34), (10, 35), (11, 36), (12, 37), (13, 38), (14, 39), (15, 40), (16, 41), (17, 42), (18, 43), (19, 44), (20, 45), (21, 46), (22, 47), (23, 48), (24, 49), (26, 5)] (by kernel_rfl) (by kernel_rfl) ?hsG ?hsS ?h0 ?hs ?he
 case hsG =>
  intro i X w w' hsp hR hG
  refine ⟨fun h => by rw [hR]; exact hG.1 (fun hk => h (.inr hk)), fun h => by rw [hR]; exact hG.2 (h.resolve_left (by rintro rfl; exact absurd hsp (by decide)))⟩
 case hsS =>
  trivial
 case h0 => exact ⟨fun _ => HWc.out.symm, fun h => h.elim⟩
 case hs =>
  refine rvc ?_ (rvc ?_ (rvc ?_ (rvc ?a3 (rvc ?_ (rvc ?_ (rvc ?_ (rvc ?_ (rvc ?a8 (rvc ?_ (rvc ?_ (rvc ?_ (rvc ?_ (rvc ?_ (rvc ?a14 (rvc ?_ (rvc ?_ (rvc ?_ (rvc ?_ (rvc ?_ (rvc ?_ (rvc ?_ (rvc ?_ (rvc ?_ (rvc ?_ (rvs ?a25 (rvc ?_ (rvn)))))))))))))))))))))))))))
  case a3 =>
   intro u w X hi hA hF hG hT K hK
   simp only [lay, sel, Act.put, sA, sZ, sS] at hK ⊢
   clear hi hA hF hG hT
   go_simp
   refine (HP.out _).mono ?_
   rintro e w' ⟨rfl, rfl⟩
   exact hK _ _ rfl (updV_self _ _ _)
  case a8 =>
   intro u w X hi hA hF hG hT K hK
   simp only [lay, sel, Act.put, sA, sZ, sS] at hK ⊢
   clear hi hA hF hG hT
   rcases p with _ | _ <;> first | (go_simp; exact hK _ _ rfl (updV_self _ _ _)) | (go_simp; refine (HQ.out _).mono ?_; rintro e w' ⟨rfl, rfl⟩; exact hK _ _ rfl (updV_self _ _ _))
  case a14 =>
   intro u w X hi hA hF hG hT K hK
   simp only [lay, sel, Act.put, sA, sZ, sS] at hK ⊢
   clear hi hA hF hG hT
   rcases p with _ | _ <;> rcases q with _ | _ <;> first | (go_simp; exact hK _ _ rfl (updV_self _ _ _)) | (go_simp; refine (HS.out _).mono ?_; rintro e w' ⟨rfl, rfl⟩; exact hK _ _ rfl (updV_self _ _ _))
  case a25 =>
   intro u w X hi hA hF hG hT K hK
   simp only [lay, sel, Act.put, sA, sZ, sS] at hK ⊢
   obtain rfl := hG.1 hi
   obtain ⟨k0, k1, k2, k3, k4, z0, z1, z2, z3, z4, zz⟩ := HR.out.c5
   go_simp
   refine hK undef _ ⟨fun h => absurd (by simp) h, fun _ => rfl⟩ (trivial) (noV rfl)
  all_goals
   intro u w X hi hA hF hG hT K hK
   rcases p with _ | _
   rotate_left 1
   rcases q with _ | _
   rotate_left 1
   rcases r with _ | _
  all_goals
   try (have hane := hal rfl; have hae : (al == 0) = false := (by simpa using hane))
   simp only [lay, sel, Act.put, sA, sZ, sS] at hK ⊢
   try
    have HFw : Blk w gF 109 #[.int .i64 prm, .int .i64 sz, .slice Ai nc ci, .int .i64 al, .int .i64 (n : Int)] := by
     rcases Classical.em (X 25) with h | h
     · rw [hG.2 h]; exact Blk.far (Blk.far (Blk.far (Blk.far (Blk.far HF.out hgne _) hgne _) hgne _) hgne _) hgne _
     · rw [hG.1 h]; exact HF.out
    obtain ⟨k0, k1, k2, k3, k4, -, -, -, -, -, zz⟩ := HFw.c5
   clear hi hA hF hG hT
   go_simp
   exact hK _ _ (rfl) (updV_self _ _ _)
 intro u w X hX hG hT
 clear hT
 simp only [lay, sel, Act.put, sA, sZ, sS]
 obtain rfl := hG.2 (hX 25 (by simp))
 have HB5 := hQ (below_put5 HB3.out hgR' (.int .i64 prm) (.int .i64 sz) (.slice Ai nc ci) (.int .i64 al) (.int .i64 (n : Int)))
 have HR5 := hQ (Blk.put5 HR.out (.int .i64 prm) (.int .i64 sz) (.slice Ai nc ci) (.int .i64 al) (.int .i64 (n : Int)))
 clear hG hX
 generalize ((((Wc.setCell ⟨gR, 0, none⟩ (.int .i64 prm)).setCell ⟨gR, 1, none⟩ (.int .i64 sz)).setCell ⟨gR, 2, none⟩ (.slice Ai nc ci)).setCell ⟨gR, 3, none⟩ (.int .i64 al)).setCell ⟨gR, 4, none⟩ (.int .i64 (n : Int)) = Wz at *
 obtain ⟨x0, x1, x2, x3, x4, -, -, -, -, -, xz⟩ := HR5.out.c5
 rcases p with _ | _
 rotate_left 1
 rcases q with _ | _
 rotate_left 1
 rcases r with _ | _
 all_goals go_wp2_with fail
 all_goals first
  | exact bodyPost_ret (v := .tuple #[.agg #[.int .i64 prm, .int .i64 sz, .slice Ai nc ci, .int .i64 al, .int .i64 (n : Int)], .bool false]) (by simp [results, Tryz.results43, go_sem, x0, x1, x2, x3, x4]) rfl ⟨rfl, HB5.out⟩
  | exact bodyPost_ret (v := .tuple #[.agg #[.int .i64 prm, .int .i64 sz, .slice Ai nc ci, .int .i64 al, .int .i64 (n : Int)], .bool (sz.tmod al == 0)]) (by simp [results, Tryz.results43, go_sem, x0, x1, x2, x3, x4]) rfl ⟨rfl, HB5.out⟩
end Go.Proofs.YtcnndoefgjbmiaaGreat.pm
