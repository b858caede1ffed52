/- SirrunSame: the walk of the law. -/
import Derived.Test.YtillopkcmpcokaaDoorVo
import Derived.Test.YtillopkcmpcokaaDoorMa
import Derived.Test.YtillopkcmpcokaaDoorRaw
import Derived.Deep.CutBlock
import Derived.Deep.RegionHeld3
namespace Go.Proofs.YtillopkcmpcokaaDoor.pm
open Go.RowKit
set_option linter.unusedVariables false
set_option maxRecDepth 10000
theorem info_val : (Tryd.prog.info? 33).map (fun i => (i.zero, i.size, i.bytes)) = some (some (.agg #[.int .u64 0, .int .u64 0]), 2, 16) := by kernel_rfl
theorem ucells_one (l : List (Int × Int)) : ∀ u ∈ l.flatMap ucells, u.oneCell' = true := fun u hu => by
  obtain ⟨x, -, hx⟩ := List.mem_flatMap.1 hu
  simp [ucells] at hx
  rcases hx with rfl | rfl <;> rfl
theorem eqL_slEq_refl (l : List (Int × Int)) : eqL slEq l l = true := eqL_all (z := (0, 0)) rfl fun j _ => by simp [slEq]
def U64 (x : Int) : Prop := 0 ≤ x ∧ x < 18446744073709551616
theorem wrap_ne {k : Int} (h : W64 k) : (k == wrap64 (k + 1)) = false := by
  rw [beq_eq_false_iff_ne]
  unfold W64 at h
  unfold wrap64
  omega
theorem uwrap_ne {k : Int} (h : U64 k) : (k == IntKind.u64.wrap (k + 1)) = false := by
  rw [beq_eq_false_iff_ne]
  unfold U64 at h
  rw [IntKind.wrap_u64]
  omega
set_option maxHeartbeats 4000000 in
theorem os_law (a : Oc) (A1 : Option Addr) (c1 : Nat) (b : Oc) (A2 : Option Addr) (c2 : Nat) (wh : Nat) (hwh : wh < 256) (w : World) (hT : Tb w) (f1 : Ux w 0 w.heap.size A1 a.tr) (m1 : a.tr.length ≤ maxLen) (r1 : W64 a.kind ∧ U64 a.code ∧ U64 a.hi ∧ W64 a.st) (f2 : Ux w 0 w.heap.size A2 b.tr) (m2 : b.tr.length ≤ maxLen) (r2 : W64 b.kind ∧ U64 b.code ∧ U64 b.hi ∧ W64 b.st) :
    Calls Tryd.prog 8 #[.agg (ocs a A1 c1), .agg (ocs b A2 c2), .int .u8 wh] w fun e w' => e = .returned (.bool true) ∧ Below w.heap.size w w' := by
  obtain ⟨W1, hW1⟩ : ∃ W1, W1 = (w.alloc (.cells (ocs a A1 c1) 36)).alloc (.cells (ocs b A2 c2) 36) := ⟨_, rfl⟩
  have hB1 : Below w.heap.size w W1 := by rw [hW1]; exact ((Below.refl _ _).alloc (Nat.le_refl _) _).alloc (by simp) _
  have HK3 : Hid (Blk W1 w.heap.size 36 (ocs a A1 c1)) := Lib.hid (by rw [hW1]; exact (Blk.new _ _ _).alloc _)
  have HK4 : Hid (Blk W1 (w.heap.size + 1) 36 (ocs b A2 c2)) := Lib.hid (by rw [hW1]; exact Blk.newAt (by simp))
  have HF1 := Lib.hid (f1.keep (Kp.of_below hB1 (Nat.le_refl _)))
  have HF2 := Lib.hid (f2.keep (Kp.of_below hB1 (Nat.le_refl _)))
  have HT1 := Lib.hid (hT.below hB1)
  have HB1 := Lib.hid hB1
  have HW1 := Lib.hid hW1
  have HR := Lib.hid r1
  have HM1 := Lib.hid m1
  have HM2 := Lib.hid m2
  have hs1 := hB1.size
  clear hW1 hB1 f1 f2 hT r1
  unfold ocs at HW1 ⊢
  go_enter Tryd.func8, Tryd.ntmps8
  go_upto_region 1 with (fail)
  rw [← HW1.out]
  go_wp2_with fail
  refine (awake8 _ HT1.out).mono ?_
  rintro e w2 ⟨rfl, b2⟩
  have hk3 := HK3.out.after b2
  have hk4 := HK4.out.after b2
  have HK32 := Lib.hid hk3
  have HK42 := Lib.hid hk4
  have HB12 := Lib.hid b2
  have HB2 : Hid (Below w.heap.size w w2) := Lib.hid (HB1.out.trans (b2.mono hs1))
  unfold ocs at hk3 hk4
  obtain ⟨x0, x1, x2, x3, x4, x5, -, -, -, -, -, -, xz⟩ := hk3.c6
  obtain ⟨y0, y1, y2, y3, y4, y5, -, -, -, -, -, -, yz⟩ := hk4.c6
  have hs12 := b2.size
  clear hk3 hk4 b2
  have hm1i : (a.tr.length : Int) ≤ 9223372036854775807 := by unfold maxLen at m1; omega
  have hm2i : (b.tr.length : Int) ≤ 9223372036854775807 := by unfold maxLen at m2; omega
  by_cases h5 : 500 < a.tr.length
  · have h5i : (500 : Int) < (a.tr.length : Int) := by omega
    clear h5
    go_wp2
    go_ret
    exact ⟨ret_bool (by simp), HB2.out⟩
  · have h5i : ¬ (500 : Int) < (a.tr.length : Int) := by omega
    have h5j : (a.tr.length : Int) ≤ 500 := by omega
    by_cases h6 : 500 < b.tr.length
    · have h6i : (500 : Int) < (b.tr.length : Int) := by omega
      clear h6 h5
      go_wp2
      go_ret
      exact ⟨ret_bool (by simp), HB2.out⟩
    · have h6i : ¬ (500 : Int) < (b.tr.length : Int) := by omega
      have h6j : (b.tr.length : Int) ≤ 500 := by omega
      go_upto_block 0 with (fail)
      obtain ⟨z, hz⟩ : ∃ z, z = wh % 6 := ⟨_, rfl⟩
      have eF : ((wh : Int) % 6) = (z : Int) := by omega
      have hz6 : z = 0 ∨ z = 1 ∨ z = 2 ∨ z = 3 ∨ z = 4 ∨ z = 5 := by omega
      have HZ := Lib.hid hz
      rw [eF]
      obtain ⟨W3, hW3⟩ : ∃ W3, W3 = w2.alloc (.cells #[.int .i64 a.kind, .int .u64 a.code, .int .u64 a.lo, .int .u64 a.hi, .slice A1 a.tr.length c1, .int .i64 a.st] 36) := ⟨_, rfl⟩
      rw [← hW3]
      have HK7 : Hid (Blk W3 w2.heap.size 36 (ocs a A1 c1)) := Lib.hid (by rw [hW3]; exact Blk.new _ _ _)
      have HB3 : Hid (Below w2.heap.size w2 W3) := Lib.hid (by rw [hW3]; exact (Below.refl _ _).alloc (Nat.le_refl _) _)
      obtain ⟨g7, hg7⟩ : ∃ g, g = w2.heap.size := ⟨_, rfl⟩
      rw [← hg7] at HK7 ⊢
      have hg7a : w2.heap.size ≤ g7 := by omega
      have HX3 : Hid (Ux W3 0 w2.heap.size A1 a.tr) := Lib.hid ((HF1.out.keep (Kp.of_below (HB12.out.trans (HB3.out.mono hs12)) hs1)).more (Nat.le_refl _) (by omega))
      have HX3r : Hid (Reads W3 w2.heap.size 2 A1 a.tr.length (a.tr.flatMap ucells)) := Lib.hid HX3.out.1
      have hs3 := HB3.out.size
      clear hW3 hg7 hz x0 x1 x2 x3 x4 x5 y0 y1 y2 y3 y4 y5 h5 h6 eF
      have hl5 : a.tr.length ≤ 500 := by omega
      obtain ⟨i0, hi0, hz0, hz1, hz2⟩ := info_parts info_val
      go_cut [] (fun wx => ∃ (d : Oc) (Ad : Option Addr) (cd : Nat), Hid (Blk wx g7 36 (ocs d Ad cd)) ∧ Hid (Ux wx 0 wx.heap.size Ad d.tr) ∧ Hid (d.tr.length ≤ 600) ∧ Hid (sameO a d = decide (z = 5)) ∧ Hid (Below w2.heap.size w2 wx))
      case first =>
        have h7 := HK7.out
        unfold ocs at h7
        obtain ⟨x0, x1, x2, x3, x4, x5, e0, e1, e2, e3, e4, e5, xz⟩ := h7.c6
        clear h7
        rcases hz6 with rfl | rfl | rfl | rfl | rfl | rfl
        · go_wp2_with fail
          go_meet
          exact ⟨{ a with kind := wrap64 (a.kind + 1) }, A1, c1, Lib.hid (HK7.out.set_ 0 _), Lib.hid ((HX3.out.keep ((Kp.refl _ _ _).set (.inr hg7a) _)).more (Nat.le_refl _) (by simp; omega)), Lib.hid (Nat.le_trans hl5 (by omega)), Lib.hid (by unfold sameO; simp [wrap_ne HR.out.1]), Lib.hid (HB3.out.setCell hg7a _)⟩
        · go_wp2_with fail
          go_meet
          exact ⟨{ a with code := IntKind.u64.wrap (a.code + 1) }, A1, c1, Lib.hid (HK7.out.set_ 1 _), Lib.hid ((HX3.out.keep ((Kp.refl _ _ _).set (.inr hg7a) _)).more (Nat.le_refl _) (by simp; omega)), Lib.hid (Nat.le_trans hl5 (by omega)), Lib.hid (by unfold sameO; simp [uwrap_ne HR.out.2.1]), Lib.hid (HB3.out.setCell hg7a _)⟩
        · go_wp2_with fail
          go_meet
          exact ⟨{ a with hi := IntKind.u64.wrap (a.hi + 1) }, A1, c1, Lib.hid (HK7.out.set_ 3 _), Lib.hid ((HX3.out.keep ((Kp.refl _ _ _).set (.inr hg7a) _)).more (Nat.le_refl _) (by simp; omega)), Lib.hid (Nat.le_trans hl5 (by omega)), Lib.hid (by unfold sameO; simp [uwrap_ne HR.out.2.2.1]), Lib.hid (HB3.out.setCell hg7a _)⟩
        · go_wp2_with fail
          go_meet
          exact ⟨{ a with st := wrap64 (a.st + 1) }, A1, c1, Lib.hid (HK7.out.set_ 5 _), Lib.hid ((HX3.out.keep ((Kp.refl _ _ _).set (.inr hg7a) _)).more (Nat.le_refl _) (by simp; omega)), Lib.hid (Nat.le_trans hl5 (by omega)), Lib.hid (by unfold sameO; simp [wrap_ne HR.out.2.2.2]), Lib.hid (HB3.out.setCell hg7a _)⟩
        · have q4 : W3.cell? ⟨w.heap.size, 4, none⟩ = some (.slice A1 a.tr.length c1) := (HK32.out.after HB3.out).cell 4
          go_wp2_with (first
            | (at_builtin; refine wpList_append_any _ rfl (.const (.slice none 0 0)) (.tmp 64) _ rfl W3.heap.size 33 i0 _ 2 16 Tryd.underlying34 hi0 hz0 hz1 hz2 rfl (by omega) _ 0 [] rfl (World.ownsRow_nil _ _ _ _) w2.heap.size A1 a.tr.length c1 (a.tr.flatMap ucells) rfl HX3r.out (ucells_one _) (by unfold maxLen; omega) (by omega) (Nat.le_refl _) ?_; intro v4 w4 own4 hg4 hat4; clear hat4; have HO4 : Hid (w4.ownsRow W3.heap.size 33 2 v4 a.tr.length (a.tr.flatMap ucells)) := Lib.hid (by simpa using own4); have HG4 : Hid (W3.grownBy w4 none) := Lib.hid hg4; have hs4 : W3.heap.size ≤ w4.heap.size := hg4.size; clear own4 hg4)
            | (at_builtin; refine wpList_append_any _ rfl (.tmp 65) (.tmp 67) _ rfl W3.heap.size 33 i0 _ 2 16 Tryd.underlying34 hi0 hz0 hz1 hz2 rfl (by omega) _ a.tr.length (a.tr.flatMap ucells) rfl (HO4.out.alloc _) (w4.heap.size + 1) (some ⟨w4.heap.size, 0, none⟩) 1 1 _ rfl (reads_new1 rfl) (by simp [Value.oneCell']) (by unfold maxLen; omega) (by omega) (by simp; omega) ?_; intro v5 w5 own5 hg5 hat5; clear hat5; have HO5 : Hid (w5.ownsRow W3.heap.size 33 2 v5 (a.tr.length + 1) (a.tr.flatMap ucells ++ [.int .u64 0, .int .u64 0])) := Lib.hid own5; have HG5 : Hid ((w4.alloc (.cells #[.int .u64 0, .int .u64 0] 33)).grownBy w5 v4.ownBlock) := Lib.hid hg5; obtain ⟨A5, c5, rfl, -⟩ := own_form own5; have HK75 : Hid (Blk w5 g7 36 (ocs a A1 c1)) := Lib.hid (((HK7.out.grown HG4.out (by simp)).alloc _).grown HG5.out (fun e => blk_own_ne (gb := 0) ((HK7.out.grown HG4.out (by simp)).alloc (.cells #[.int .u64 0, .int .u64 0] 33)) (HO4.out.alloc _) (by decide) e.symm)); have t4 : w5.cell? ⟨g7, 4, none⟩ = some (.slice A1 a.tr.length c1) := HK75.out.cell 4; have t4f := HK75.out.frozen 4; clear own5 hg5))
          go_meet
          have hne : ∀ k, (Value.slice A5 (a.tr.length + 1) c5).ownBlock = some k → k ≠ g7 := fun k e e' => blk_own_ne (gb := 0) HK75.out HO5.out (by decide) (by rw [e, e'])
          have hox := own_miss8 HO5.out (⟨g7, 4, none⟩ : Addr) hne (.slice A5 (a.tr.length + 1) c5)
          have hlen : (a.tr ++ [((0 : Int), (0 : Int))]).length = a.tr.length + 1 := by simp
          have hbl4 : ∀ k, v4.ownBlock = some k → W3.heap.size ≤ k := fun k e => (HO4.out.lt k e).1
          have hb5 : Below w2.heap.size w2 w5 := HB3.out.trans (((below_of_grownR HG4.out (fun k e => by cases e) hs3).alloc (by omega) _).trans (below_of_grownR HG5.out (fun k e => by have := hbl4 k e; omega) (by simp; omega)))
          refine ⟨{ a with tr := a.tr ++ [(0, 0)] }, A5, c5, Lib.hid ?_, Lib.hid ?_, Lib.hid (by show (a.tr ++ [((0 : Int), (0 : Int))]).length ≤ 600; omega), Lib.hid ?_, Lib.hid (hb5.setCell hg7a _)⟩
          · have h := HK75.out.set_ 4 (.slice A5 (a.tr.length + 1) c5)
            show Blk _ g7 _ (ocs { a with tr := a.tr ++ [(0, 0)] } A5 c5)
            unfold ocs
            rw [show ({ a with tr := a.tr ++ [(0, 0)] } : Oc).tr.length = a.tr.length + 1 from hlen]
            exact h
          · have h := Rx.of_own hox
            unfold Ux
            rw [show ({ a with tr := a.tr ++ [(0, 0)] } : Oc).tr.length = a.tr.length + 1 from hlen]
            rw [show ({ a with tr := a.tr ++ [(0, 0)] } : Oc).tr.flatMap ucells = a.tr.flatMap ucells ++ [.int .u64 0, .int .u64 0] by show (a.tr ++ [(0, 0)]).flatMap ucells = _; rw [List.flatMap_append]; rfl]
            exact h.more (Nat.zero_le _) (Nat.le_refl _)
          · unfold sameO
            rw [show eqL slEq a.tr ({ a with tr := a.tr ++ [(0, 0)] } : Oc).tr = false from eqL_len (by rw [hlen]; omega)]
            simp
        · go_wp2_with fail
          go_meet
          exact ⟨a, A1, c1, HK7, Lib.hid (HX3.out.more (Nat.le_refl _) (by omega)), Lib.hid (Nat.le_trans hl5 (by omega)), Lib.hid (by unfold sameO; simp [eqL_slEq_refl]), HB3⟩
      case rest =>
        obtain ⟨d, Ad, cd, HKD, HXD, HDL, HSD, HBD⟩ := hcut
        obtain ⟨W4, hW4⟩ : ∃ W4, W4 = wc := ⟨_, rfl⟩
        subst hW4
        have hsd : w2.heap.size ≤ W4.heap.size := HBD.out.size
        have HKA := Lib.hid (HK32.out.after HBD.out)
        have HKB := Lib.hid (HK42.out.after HBD.out)
        have HXA : Hid (Ux W4 0 W4.heap.size A1 a.tr) := Lib.hid ((HF1.out.keep (Kp.of_below (HB12.out.trans (HBD.out.mono hs12)) hs1)).more (Nat.le_refl _) (by omega))
        have HXB : Hid (Ux W4 0 W4.heap.size A2 b.tr) := Lib.hid ((HF2.out.keep (Kp.of_below (HB12.out.trans (HBD.out.mono hs12)) hs1)).more (Nat.le_refl _) (by omega))
        have HML : Hid (d.tr.length ≤ maxLen) := Lib.hid (by have := HDL.out; unfold maxLen; omega)
        obtain ⟨z5, hz5⟩ : ∃ z5, z5 = decide (z = 5) := ⟨_, rfl⟩
        have e5 : ((wh : Int) % 6 == 5) = z5 := by
          have := HZ.out
          rw [hz5]
          by_cases h : z = 5
          · rw [decide_eq_true h, beq_iff_eq]; omega
          · rw [decide_eq_false h, beq_eq_false_iff_ne]; omega
        have e5t : ((wh : Int).tmod 6 == 5) = z5 := by rw [Int.tmod_eq_emod_of_nonneg (by omega)]; exact e5
        clear e5
        have HSE : Hid (sameO a d = z5) := Lib.hid (by rw [HSD.out, hz5])
        obtain ⟨ab, hab⟩ : ∃ ab, ab = sameO a b := ⟨_, rfl⟩
        have HAB := Lib.hid hab
        clear hz5 hab hz6
        have HC1 : Hid (∀ W, Below W4.heap.size W4 W → Calls Tryd.prog 21 #[.agg #[.int .i64 a.kind, .int .u64 a.code, .int .u64 a.lo, .int .u64 a.hi, .slice A1 a.tr.length c1, .int .i64 a.st], .agg #[.int .i64 b.kind, .int .u64 b.code, .int .u64 b.lo, .int .u64 b.hi, .slice A2 b.tr.length c2, .int .i64 b.st]] W fun e w' => e = .returned (.bool ab) ∧ Below W4.heap.size W4 w') := Lib.hid (fun W h => (HAB.out ▸ same8_any a b A1 A2 c1 c2 W _ _ _ _ h.size h.size (HXA.out.keep (Kp.of_below h (Nat.le_refl _))) (HXB.out.keep (Kp.of_below h (Nat.le_refl _))) HM1.out HM2.out).mono fun e w' ⟨p, r⟩ => ⟨p, h.trans (r.mono h.size)⟩)
        have HC2 : Hid (∀ W, Below W4.heap.size W4 W → Calls Tryd.prog 12 #[.agg #[.int .i64 a.kind, .int .u64 a.code, .int .u64 a.lo, .int .u64 a.hi, .slice A1 a.tr.length c1, .int .i64 a.st], .agg #[.int .i64 b.kind, .int .u64 b.code, .int .u64 b.lo, .int .u64 b.hi, .slice A2 b.tr.length c2, .int .i64 b.st]] W fun e w' => e = .returned (.bool ab) ∧ Below W4.heap.size W4 w') := Lib.hid (fun W h => (HAB.out ▸ refsame8_any a b A1 A2 c1 c2 W _ _ _ _ h.size h.size (HXA.out.keep (Kp.of_below h (Nat.le_refl _))) (HXB.out.keep (Kp.of_below h (Nat.le_refl _))) HM1.out HM2.out).mono fun e w' ⟨p, r⟩ => ⟨p, h.trans (r.mono h.size)⟩)
        have HC3 : Hid (∀ W, Below W4.heap.size W4 W → Calls Tryd.prog 21 #[.agg #[.int .i64 a.kind, .int .u64 a.code, .int .u64 a.lo, .int .u64 a.hi, .slice A1 a.tr.length c1, .int .i64 a.st], .agg #[.int .i64 d.kind, .int .u64 d.code, .int .u64 d.lo, .int .u64 d.hi, .slice Ad d.tr.length cd, .int .i64 d.st]] W fun e w' => e = .returned (.bool z5) ∧ Below W4.heap.size W4 w') := Lib.hid (fun W h => (HSE.out ▸ same8_any a d A1 Ad c1 cd W _ _ _ _ h.size h.size (HXA.out.keep (Kp.of_below h (Nat.le_refl _))) (HXD.out.keep (Kp.of_below h (Nat.le_refl _))) HM1.out HML.out).mono fun e w' ⟨p, r⟩ => ⟨p, h.trans (r.mono h.size)⟩)
        have HC4 : Hid (∀ W, Below W4.heap.size W4 W → Calls Tryd.prog 19 #[.agg #[.int .i64 a.kind, .int .u64 a.code, .int .u64 a.lo, .int .u64 a.hi, .slice A1 a.tr.length c1, .int .i64 a.st]] W fun e w' => e = .returned (.bool (endO a)) ∧ Below W4.heap.size W4 w') := Lib.hid (fun W h => (ends8_any a A1 c1 W).mono fun e w' ⟨p, r⟩ => ⟨p, h.trans (r.mono h.size)⟩)
        have HC5 : Hid (∀ W, Below W4.heap.size W4 W → Calls Tryd.prog 20 #[.agg #[.int .i64 a.kind, .int .u64 a.code, .int .u64 a.lo, .int .u64 a.hi, .slice A1 a.tr.length c1, .int .i64 a.st]] W fun e w' => e = .returned (.bool (endO a)) ∧ Below W4.heap.size W4 w') := Lib.hid (fun W h => (refends8_any a A1 c1 W).mono fun e w' ⟨p, r⟩ => ⟨p, h.trans (r.mono h.size)⟩)
        have HC6 : Hid (∀ W, Below W4.heap.size W4 W → Calls Tryd.prog 19 #[.agg #[.int .i64 d.kind, .int .u64 d.code, .int .u64 d.lo, .int .u64 d.hi, .slice Ad d.tr.length cd, .int .i64 d.st]] W fun e w' => e = .returned (.bool (endO d)) ∧ Below W4.heap.size W4 w') := Lib.hid (fun W h => (ends8_any d Ad cd W).mono fun e w' ⟨p, r⟩ => ⟨p, h.trans (r.mono h.size)⟩)
        have HC7 : Hid (∀ W, Below W4.heap.size W4 W → Calls Tryd.prog 20 #[.agg #[.int .i64 d.kind, .int .u64 d.code, .int .u64 d.lo, .int .u64 d.hi, .slice Ad d.tr.length cd, .int .i64 d.st]] W fun e w' => e = .returned (.bool (endO d)) ∧ Below W4.heap.size W4 w') := Lib.hid (fun W h => (refends8_any d Ad cd W).mono fun e w' ⟨p, r⟩ => ⟨p, h.trans (r.mono h.size)⟩)
        have HKC : Hid (∀ W, Below W4.heap.size W4 W → (W.cell? ⟨w.heap.size, 0, none⟩ = some (.int .i64 a.kind) ∧ W.cell? ⟨w.heap.size, 1, none⟩ = some (.int .u64 a.code) ∧ W.cell? ⟨w.heap.size, 2, none⟩ = some (.int .u64 a.lo) ∧ W.cell? ⟨w.heap.size, 3, none⟩ = some (.int .u64 a.hi) ∧ W.cell? ⟨w.heap.size, 4, none⟩ = some (.slice A1 a.tr.length c1) ∧ W.cell? ⟨w.heap.size, 5, none⟩ = some (.int .i64 a.st)) ∧ (W.cell? ⟨w.heap.size + 1, 0, none⟩ = some (.int .i64 b.kind) ∧ W.cell? ⟨w.heap.size + 1, 1, none⟩ = some (.int .u64 b.code) ∧ W.cell? ⟨w.heap.size + 1, 2, none⟩ = some (.int .u64 b.lo) ∧ W.cell? ⟨w.heap.size + 1, 3, none⟩ = some (.int .u64 b.hi) ∧ W.cell? ⟨w.heap.size + 1, 4, none⟩ = some (.slice A2 b.tr.length c2) ∧ W.cell? ⟨w.heap.size + 1, 5, none⟩ = some (.int .i64 b.st)) ∧ (W.cell? ⟨g7, 0, none⟩ = some (.int .i64 d.kind) ∧ W.cell? ⟨g7, 1, none⟩ = some (.int .u64 d.code) ∧ W.cell? ⟨g7, 2, none⟩ = some (.int .u64 d.lo) ∧ W.cell? ⟨g7, 3, none⟩ = some (.int .u64 d.hi) ∧ W.cell? ⟨g7, 4, none⟩ = some (.slice Ad d.tr.length cd) ∧ W.cell? ⟨g7, 5, none⟩ = some (.int .i64 d.st))) := Lib.hid (fun W h => ⟨⟨(HKA.out.after h).cell 0, (HKA.out.after h).cell 1, (HKA.out.after h).cell 2, (HKA.out.after h).cell 3, (HKA.out.after h).cell 4, (HKA.out.after h).cell 5⟩, ⟨(HKB.out.after h).cell 0, (HKB.out.after h).cell 1, (HKB.out.after h).cell 2, (HKB.out.after h).cell 3, (HKB.out.after h).cell 4, (HKB.out.after h).cell 5⟩, ⟨(HKD.out.after h).cell 0, (HKD.out.after h).cell 1, (HKD.out.after h).cell 2, (HKD.out.after h).cell 3, (HKD.out.after h).cell 4, (HKD.out.after h).cell 5⟩⟩)
        have HD0 : Hid (Below W4.heap.size W4 W4.drew) := Lib.hid ((Below.refl _ _).drew)
        have HBZ : Hid (∀ W, Below W4.heap.size W4 W → Below w.heap.size w W) := Lib.hid (fun W h => HB2.out.trans ((HBD.out.trans (h.mono hsd)).mono HB2.out.size))
        clear HXA HXB HXD HKA HKB HKD HAB HSD HSE
        obtain ⟨⟨x0, x1, x2, x3, x4, x5⟩, ⟨y0, y1, y2, y3, y4, y5⟩, z0, z1, z2, z3, z4, z5'⟩ := HKC.out _ HD0.out
        go_upto_region 15 with (fail)
        go_region_held3 (fun W => (W.cell? ⟨w.heap.size, 0, none⟩ = some (.int .i64 a.kind) ∧ W.cell? ⟨w.heap.size, 1, none⟩ = some (.int .u64 a.code) ∧ W.cell? ⟨w.heap.size, 2, none⟩ = some (.int .u64 a.lo) ∧ W.cell? ⟨w.heap.size, 3, none⟩ = some (.int .u64 a.hi) ∧ W.cell? ⟨w.heap.size, 4, none⟩ = some (.slice A1 a.tr.length c1) ∧ W.cell? ⟨w.heap.size, 5, none⟩ = some (.int .i64 a.st)) ∧ (W.cell? ⟨w.heap.size + 1, 0, none⟩ = some (.int .i64 b.kind) ∧ W.cell? ⟨w.heap.size + 1, 1, none⟩ = some (.int .u64 b.code) ∧ W.cell? ⟨w.heap.size + 1, 2, none⟩ = some (.int .u64 b.lo) ∧ W.cell? ⟨w.heap.size + 1, 3, none⟩ = some (.int .u64 b.hi) ∧ W.cell? ⟨w.heap.size + 1, 4, none⟩ = some (.slice A2 b.tr.length c2) ∧ W.cell? ⟨w.heap.size + 1, 5, none⟩ = some (.int .i64 b.st)) ∧ (W.cell? ⟨g7, 0, none⟩ = some (.int .i64 d.kind) ∧ W.cell? ⟨g7, 1, none⟩ = some (.int .u64 d.code) ∧ W.cell? ⟨g7, 2, none⟩ = some (.int .u64 d.lo) ∧ W.cell? ⟨g7, 3, none⟩ = some (.int .u64 d.hi) ∧ W.cell? ⟨g7, 4, none⟩ = some (.slice Ad d.tr.length cd) ∧ W.cell? ⟨g7, 5, none⟩ = some (.int .i64 d.st)))
          (first | exact HKC.out _ HA7.out | exact HKC.out _ HA6.out | exact HKC.out _ HA5.out | exact HKC.out _ HA4.out | exact HKC.out _ HA3.out | exact HKC.out _ HA2.out | exact HKC.out _ HA1.out | exact HKC.out _ HD0.out)
          (first
          | (go_at_call 21; (fail_if_success have X' := HA1); refine (HC1.out _ HD0.out).mono ?_; rintro e v1 ⟨rfl, bv1⟩; have HA1 := Lib.hid bv1; clear bv1)
          | (go_at_call 12; refine (HC2.out _ HA1.out).mono ?_; rintro e v2 ⟨rfl, bv2⟩; have HA2 := Lib.hid bv2; clear bv2)
          | (go_at_call 21; refine (HC3.out _ HA2.out).mono ?_; rintro e v3 ⟨rfl, bv3⟩; have HA3 := Lib.hid bv3; clear bv3)
          | (go_at_call 19; (fail_if_success have X' := HA4); refine (HC4.out _ HA3.out).mono ?_; rintro e v4 ⟨rfl, bv4⟩; have HA4 := Lib.hid bv4; clear bv4)
          | (go_at_call 20; (fail_if_success have X' := HA5); refine (HC5.out _ HA4.out).mono ?_; rintro e v5 ⟨rfl, bv5⟩; have HA5 := Lib.hid bv5; clear bv5)
          | (go_at_call 19; refine (HC6.out _ HA5.out).mono ?_; rintro e v6 ⟨rfl, bv6⟩; have HA6 := Lib.hid bv6; clear bv6)
          | (go_at_call 20; refine (HC7.out _ HA6.out).mono ?_; rintro e v7 ⟨rfl, bv7⟩; have HA7 := Lib.hid bv7; clear bv7))
        clear x0 x1 x2 x3 x4 x5 y0 y1 y2 y3 y4 y5 z0 z1 z2 z3 z4 z5' HC1 HC2 HC3 HC4 HC5 HC6 HC7
        go_wp2
        go_ret
        exact ⟨ret_bool (by simp), HBZ.out _ HA7.out⟩
end Go.Proofs.YtillopkcmpcokaaDoor.pm
