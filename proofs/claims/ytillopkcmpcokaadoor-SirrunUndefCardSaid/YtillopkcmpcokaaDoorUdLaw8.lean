/- SirrunUndef: the walk of the law. -/
import Derived.Test.YtillopkcmpcokaaDoorUdP8

namespace Go.Proofs.YtillopkcmpcokaaDoor.pm
open Go.RowKit
set_option linter.unusedVariables false
set_option maxRecDepth 10000
theorem info_ins8 : (Tryd.prog.info? 48).map (fun i => (i.zero, i.size, i.bytes)) = some (some (.agg #[.int .i64 0, .int .i64 0, .int .i64 0, .int .i64 0, .int .u64 0]), 5, 40) := by kernel_rfl
def preC (v : Nat) (again : Bool) : List Ins := if again = true then [⟨0, 2, 0, 0, v⟩, ⟨18, 0, 2, 0, 0⟩, ⟨22, 1, 0, 0, 0⟩, ⟨0, 3, 0, 0, 0⟩, ⟨18, 0, 3, 0, 0⟩, ⟨22, 1, 0, 0, 0⟩] else [⟨0, 2, 0, 0, v⟩, ⟨18, 0, 2, 0, 0⟩, ⟨22, 1, 0, 0, 0⟩]
theorem udP_eq (v : Nat) (again : Bool) : udP v again = [⟨0, [], preC v again ++ [⟨23, 0, 0, 0, 0⟩]⟩, udC] := by cases again <;> rfl
theorem preC_len (v : Nat) (again : Bool) : (preC v again).length ≤ 6 := by cases again <;> simp [preC]
set_option maxHeartbeats 8000000 in
theorem ud_law (v : Nat) (hv : v < 18446744073709551616) (again : Bool) (w : World) (hT : Tb w) :
    Calls Tryd.prog 5 #[.int .u64 v, .bool again] w fun e w' => e = .returned (.bool true) ∧ Below w.heap.size w w' := by
  obtain ⟨i0, hi0, hz0, hz1, hz2⟩ := info_parts info_ins8
  have HT := Lib.hid hT
  clear hT
  go_enter Tryd.func5, Tryd.ntmps5
  go_wp2_with fail
  refine (awake8 _ HT.out).mono ?_
  rintro e w1 ⟨rfl, b1⟩
  have HB1 := Lib.hid b1
  have HT1 := Lib.hid (HT.out.below b1)
  have hs1 := b1.size
  clear b1
  go_upto_if 28 with (fail)
  obtain ⟨W2, hW2⟩ : ∃ W2, W2 = ((w1.alloc (.cells #[.int .i64 8, .int .i64 8] 45)).alloc (.cells #[.int .i64 19, .int .i64 1, .int .i64 0, .int .i64 0, .int .u64 0, .int .i64 21, .int .i64 1, .int .i64 3, .int .i64 0, .int .u64 0, .int .i64 15, .int .i64 0, .int .i64 0, .int .i64 0, .int .u64 0, .int .i64 16, .int .i64 0, .int .i64 1, .int .i64 0, .int .u64 0, .int .i64 15, .int .i64 0, .int .i64 0, .int .i64 0, .int .u64 0, .int .i64 23, .int .i64 0, .int .i64 0, .int .i64 0, .int .u64 0] 48)).alloc (.cells #[.int .i64 1, .slice (some ⟨w1.heap.size, 0, none⟩) 1 1, .slice (some ⟨w1.heap.size + 1, 0, none⟩) 6 6] 51) := ⟨_, rfl⟩
  have hz2' : W2.heap.size = w1.heap.size + 1 + 1 + 1 := by rw [hW2]; simp
  have hB2 : Below w1.heap.size w1 W2 := by rw [hW2]; exact (((Below.refl _ _).alloc (Nat.le_refl _) _).alloc (by simp) _).alloc (by simp; omega) _
  have hk1 : Blk W2 w1.heap.size 45 #[.int .i64 8, .int .i64 8] := by rw [hW2]; exact ((Blk.new _ _ _).alloc _).alloc _
  have hk2 : Blk W2 (w1.heap.size + 1) 48 (inV udC.code).toArray := by rw [hW2]; exact (Blk.newAt (by simp)).alloc _
  have hk3 : Blk W2 (w1.heap.size + 1 + 1) 51 #[.int .i64 1, .slice (some ⟨w1.heap.size, 0, none⟩) 1 1, .slice (some ⟨w1.heap.size + 1, 0, none⟩) 6 6] := by rw [hW2]; exact Blk.newAt (by simp)
  obtain ⟨W3, hW3⟩ : ∃ W3, W3 = W2.alloc (.cells #[.int .i64 0, .int .i64 2, .int .i64 0, .int .i64 0, .int .u64 v, .int .i64 18, .int .i64 0, .int .i64 2, .int .i64 0, .int .u64 0, .int .i64 22, .int .i64 1, .int .i64 0, .int .i64 0, .int .u64 0] 48) := ⟨_, rfl⟩
  rw [← hW2, ← hW3]
  have hbW : W2.heap.size ≤ W2.heap.size := Nat.le_refl _
  have own3 : W3.ownsRow W2.heap.size 48 5 (.slice (some ⟨W2.heap.size, 0, none⟩) 3 3) 3 (inV (preC v false)) := by
    rw [hW3]
    exact World.ownsRow_lit (e := 48) (size := 5) W2 #[.int .i64 0, .int .i64 2, .int .i64 0, .int .i64 0, .int .u64 v, .int .i64 18, .int .i64 0, .int .i64 2, .int .i64 0, .int .u64 0, .int .i64 22, .int .i64 1, .int .i64 0, .int .i64 0, .int .u64 0] 3 hbW (by unfold maxLen; omega) rfl
  have HO3 := Lib.hid own3
  have HB23 : Hid (Below W2.heap.size W2 W3) := Lib.hid (by rw [hW3]; exact (Below.refl _ _).alloc (Nat.le_refl _) _)
  have HK1 := Lib.hid hk1
  have HK2 := Lib.hid hk2
  have HK5 := Lib.hid hk3
  have HB12 := Lib.hid hB2
  have hz2'' : w1.heap.size + 1 + 1 < W2.heap.size := by omega
  have hgz : W2.heap.size = w1.heap.size + 1 + 1 + 1 := hz2'
  rw [← hgz]
  obtain ⟨g6, hg6⟩ : ∃ g, g = W2.heap.size := ⟨_, rfl⟩
  rw [← hg6] at HO3 ⊢
  have hg6a : W2.heap.size ≤ g6 := by omega
  have hs23 := HB23.out.size
  clear hW2 hW3 own3 hk1 hk2 hk3 hB2 hz2' hgz hbW
  go_cut [6] (fun s6 wx => ∃ A c, s6 = .slice A (preC v again).length c ∧ Hid (wx.ownsRow g6 48 5 (.slice A (preC v again).length c) (preC v again).length (inV (preC v again))) ∧ Hid (Below W2.heap.size W2 wx))
  case first =>
    cases again with
    | false =>
      go_wp2_with fail
      go_meet
      exact ⟨some ⟨g6, 0, none⟩, 3, rfl, HO3, HB23⟩
    | true =>
      go_wp2_with (first
        | (at_builtin; refine wpList_append_any _ rfl (.tmp 29) (.tmp 33) _ rfl g6 48 i0 _ 5 40 Tryd.underlying49 hi0 hz0 hz1 hz2 rfl (by omega) _ 3 (inV (preC v false)) rfl (HO3.out.alloc _) (W3.heap.size + 1) (some ⟨W3.heap.size, 0, none⟩) 3 3 _ rfl (reads_new1 rfl) (by simp [Value.oneCell']) (by unfold maxLen; omega) (by omega) (by simp; omega) ?_; intro v6 w6 o6 gr6 t6; clear t6; obtain ⟨A6, c6, rfl, -⟩ := own_form o6; have HO6 := Lib.hid o6; have HB6 : Hid (Below W2.heap.size W2 w6) := Lib.hid ((HB23.out.alloc hs23 _).trans (below_of_grownR gr6 (fun q e => by have := (HO3.out.lt q e).1; omega) (by simp; omega))); clear o6 gr6))
      go_meet
      exact ⟨A6, c6, rfl, HO6, HB6⟩
  case rest =>
    obtain ⟨A, c, rfl, HOC, HBC⟩ := hcut
    obtain ⟨W4, hW4⟩ : ∃ W4, W4 = wc := ⟨_, rfl⟩
    subst hW4
    have hpl := preC_len v again
    obtain ⟨np, hnp⟩ : ∃ np, np = (preC v again).length := ⟨_, rfl⟩
    rw [← hnp] at HOC hpl ⊢
    have HNP := Lib.hid hnp
    have hs4 := HBC.out.size
    clear hnp
    go_upto_region 8 with (first
      | (at_builtin; refine wpList_append_any _ rfl (.tmp 35) (.tmp 37) _ rfl g6 48 i0 _ 5 40 Tryd.underlying49 hi0 hz0 hz1 hz2 rfl (by omega) _ np (inV (preC v again)) rfl (HOC.out.alloc _) (W4.heap.size + 1) (some ⟨W4.heap.size, 0, none⟩) 1 1 _ rfl (reads_new1 rfl) (by simp [Value.oneCell']) (by unfold maxLen; omega) (by omega) (by simp; omega) ?_; intro v7 w7 o7 gr7 t7; clear t7; obtain ⟨A7, c7, rfl, -⟩ := own_form o7; have HO7 := Lib.hid o7; have HB7 : Hid (Below W2.heap.size W2 w7) := Lib.hid ((HBC.out.alloc hs4 _).trans (below_of_grownR gr7 (fun q e => by have := (HOC.out.lt q e).1; omega) (by simp; omega))); clear o7 gr7))
    have HK57 := Lib.hid ((HK5.out.after HB7.out))
    have hs7 := HB7.out.size
    have hg57 : w1.heap.size + 1 + 1 < w7.heap.size := by omega
    obtain ⟨M, hM1, hM2, hRun⟩ := ud_run_any v hv again
    have HM1 := Lib.hid hM1
    have HM2 := Lib.hid hM2
    have HRUN := Lib.hid hRun
    clear hM1 hM2 hRun
    obtain ⟨W8, hW8⟩ : ∃ W8, W8 = w7.alloc (.cells #[.int .i64 0, .slice none 0 0, .slice A7 (np + 1) c7, .int .i64 1, .slice (some ⟨w1.heap.size, 0, none⟩) 1 1, .slice (some ⟨w1.heap.size + 1, 0, none⟩) 6 6] 51) := ⟨_, rfl⟩
    have hb8 : Below w7.heap.size w7 W8 := by rw [hW8]; exact (Below.refl _ _).alloc (Nat.le_refl _) _
    have HB28 : Hid (Below W2.heap.size W2 W8) := Lib.hid (HB7.out.trans (hb8.mono hs7))
    have hcl : (preC v again ++ [(⟨23, 0, 0, 0, 0⟩ : Ins)]).length = np + 1 := by rw [List.length_append, ← HNP.out]; rfl
    have HFX8 : Hid (Fx W8 0 W8.heap.size (some ⟨w7.heap.size, 0, none⟩) (udP v again)) := Lib.hid (by
      have hnx : Nx W8 0 W8.heap.size A7 (preC v again ++ [⟨23, 0, 0, 0, 0⟩]) := by
        have h := Rx.of_own HO7.out
        have h' : Rx W8 g6 w7.heap.size 5 A7 (np + 1) (inV (preC v again) ++ [.int .i64 23, .int .i64 0, .int .i64 0, .int .i64 0, .int .u64 0]) := Rx.keep h (Kp.of_below hb8 (Nat.le_refl _))
        unfold Nx
        rw [hcl, show inV (preC v again ++ [⟨23, 0, 0, 0, 0⟩]) = inV (preC v again) ++ [.int .i64 23, .int .i64 0, .int .i64 0, .int .i64 0, .int .u64 0] by unfold inV; rw [List.flatMap_append]; rfl]
        exact h'.more (Nat.zero_le _) hb8.size
      rw [udP_eq]
      refine fx_two (gs := w1.heap.size) (gc := w1.heap.size + 1) (c0 := c7) hnx (by rw [hcl]; unfold maxLen; omega) (by rw [hcl]; exact (own_cap HO7.out).2) ?_ (HK1.out.after HB28.out) (HK2.out.after HB28.out)
      rw [hcl, hW8]
      exact Blk.new _ _ _)
    have HT8 := Lib.hid ((HT1.out.below HB12.out).below HB28.out)
    have HB8w : Hid (Below w.heap.size w W8) := Lib.hid (HB1.out.trans ((HB12.out.trans (HB28.out.mono HB12.out.size)).mono hs1))
    have hs8 := HB8w.out.size
    have hs28 := HB28.out.size
    obtain ⟨k0, k1, k2, -, -, -, -⟩ := HK57.out.c3
    go_wp2_with fail
    rw [← hW8]
    refine (HRUN.out _ 2 W8 HT8.out HFX8.out).mono ?_
    rintro e w9 ⟨At, ct, rfl, b9, -⟩
    rw [show outV M At ct = .agg #[.int .i64 M.kind, .int .u64 M.code, .int .u64 M.res.1, .int .u64 M.res.2, .slice At M.trace.length ct, .int .i64 M.steps] from rfl]
    have HB9 : Hid (Below W2.heap.size W2 w9) := Lib.hid (HB28.out.trans (b9.mono hs28))
    have HB9w : Hid (Below w.heap.size w w9) := Lib.hid (HB8w.out.trans (b9.mono hs8))
    clear b9 k0 k1 k2 hW8 hb8
    go_upto_region 9 with (fail)
    obtain ⟨W9, hW9⟩ : ∃ W9, W9 = w9.alloc (.cells #[.int .i64 M.kind, .int .u64 M.code, .int .u64 M.res.1, .int .u64 M.res.2, .slice At M.trace.length ct, .int .i64 M.steps] 36) := ⟨_, rfl⟩
    rw [← hW9]
    have HKO : Hid (Blk W9 w9.heap.size 36 #[.int .i64 M.kind, .int .u64 M.code, .int .u64 M.res.1, .int .u64 M.res.2, .slice At M.trace.length ct, .int .i64 M.steps]) := Lib.hid (by rw [hW9]; exact Blk.new _ _ _)
    have hs9 := HB9.out.size
    have hs9w := HB9w.out.size
    have HB99 : Hid (Below W2.heap.size W2 W9) := Lib.hid (by rw [hW9]; exact HB9.out.alloc hs9 _)
    have HB99w : Hid (Below w.heap.size w W9) := Lib.hid (by rw [hW9]; exact HB9w.out.alloc hs9w _)
    obtain ⟨g7, hg7⟩ : ∃ g, g = w9.heap.size := ⟨_, rfl⟩
    rw [← hg7] at HKO ⊢
    have hg7l : g7 < W9.heap.size := HKO.out.lt
    clear hW9 hg7
    have hs99 := HB99.out.size
    have hg5l : w1.heap.size + 1 + 1 < W9.heap.size := by omega
    have HK59 := Lib.hid (HK5.out.after HB99.out)
    obtain ⟨k0, k1, k2, -, -, -, -⟩ := HK59.out.c3
    obtain ⟨WA, hWA⟩ : ∃ WA, WA = (W9.alloc (.cells #[.int .i64 22, .int .i64 1, .int .i64 0, .int .i64 0, .int .u64 0, .int .i64 23, .int .i64 0, .int .i64 0, .int .i64 0, .int .u64 0] 48)).alloc (.cells #[.int .i64 0, .slice none 0 0, .slice (some ⟨W9.heap.size, 0, none⟩) 2 2, .int .i64 1, .slice (some ⟨w1.heap.size, 0, none⟩) 1 1, .slice (some ⟨w1.heap.size + 1, 0, none⟩) 6 6] 51) := ⟨_, rfl⟩
    have hbA : Below W9.heap.size W9 WA := by rw [hWA]; exact ((Below.refl _ _).alloc (Nat.le_refl _) _).alloc (by simp) _
    have hkc : Blk WA W9.heap.size 48 (inV [⟨22, 1, 0, 0, 0⟩, ⟨23, 0, 0, 0, 0⟩]).toArray := by rw [hWA]; exact (Blk.new _ _ _).alloc _
    have HB2A : Hid (Below W2.heap.size W2 WA) := Lib.hid (HB99.out.trans (hbA.mono hs99))
    have HFXA : Hid (Fx WA 0 WA.heap.size (some ⟨W9.heap.size + 1, 0, none⟩) ud3) := Lib.hid (by
      have hnx : Nx WA 0 WA.heap.size (some ⟨W9.heap.size, 0, none⟩) [⟨22, 1, 0, 0, 0⟩, ⟨23, 0, 0, 0, 0⟩] := by
        have := reads_of_blk (n := 2) (size := 5) hkc rfl
        exact Rx.of_reads (by simpa using this)
      refine fx_two (gs := w1.heap.size) (gc := w1.heap.size + 1) (c0 := 2) hnx (by simp [maxLen]) (by simp) ?_ (HK1.out.after HB2A.out) (HK2.out.after HB2A.out)
      rw [hWA]
      exact Blk.newAt (by simp))
    have HTA := Lib.hid ((HT1.out.below HB12.out).below HB2A.out)
    have HBAw : Hid (Below w.heap.size w WA) := Lib.hid (HB99w.out.trans (hbA.mono HB99w.out.size))
    have hsAw := HBAw.out.size
    have HKOA := Lib.hid (HKO.out.after hbA)
    go_wp2_with fail
    rw [← hWA]
    refine (ud3_out _ 2 WA HTA.out HFXA.out).mono ?_
    rintro e wB ⟨At', ct', rfl, bB, -⟩
    rw [show outV ⟨List.replicate 8 (0, 0), [⟨0, 1, none, none⟩, ⟨1, 1, none, none⟩], [], 2, [], 3, 0, (0, 0), 2, [], true⟩ At' ct' = .agg #[.int .i64 3, .int .u64 0, .int .u64 0, .int .u64 0, .slice At' 0 ct', .int .i64 2] from rfl]
    have HBBw : Hid (Below w.heap.size w wB) := Lib.hid (HBAw.out.trans (bB.mono hsAw))
    have HKOB := Lib.hid (HKOA.out.after bB)
    have hsB := HBBw.out.size
    have hgBl : g7 < wB.heap.size := HKOB.out.lt
    clear bB k0 k1 k2 hWA hbA hkc
    obtain ⟨o0, -, o2, -, -, -, -⟩ := HKOB.out.c6
    by_cases hz : v = 0
    · have e0 : ((v : Int) == 0) = true := by simp [hz]
      have hk := HM1.out (.inl hz)
      rw [hk] at o0
      clear hz hk
      go_wp2
      go_ret
      exact ⟨ret_bool (by simp), HBBw.out.alloc hsB _⟩
    · have e0 : ((v : Int) == 0) = false := by rw [beq_eq_false_iff_ne]; omega
      rcases hag : again with _ | _
      · obtain ⟨hk, hr⟩ := HM2.out hz hag
        rw [hk] at o0
        rw [hr] at o2
        subst hag
        clear hz hk hr
        go_wp2
        go_ret
        exact ⟨ret_bool (by simp), HBBw.out.alloc hsB _⟩
      · have hk := HM1.out (.inr hag)
        rw [hk] at o0
        subst hag
        clear hz hk
        go_wp2
        go_ret
        exact ⟨ret_bool (by simp), HBBw.out.alloc hsB _⟩
end Go.Proofs.YtillopkcmpcokaaDoor.pm
