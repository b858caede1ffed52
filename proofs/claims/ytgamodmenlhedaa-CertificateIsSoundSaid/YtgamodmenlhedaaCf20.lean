/- The sanity check of chapter 30's statements. -/
import Derived.Test.YtgamodmenlhedaaCf19
import Derived.Test.YtgamodmenlhedaaCf15
namespace Go.Proofs.Ytgamodmenlhedaa.cf
open Go.RowKit
set_option linter.unusedVariables false
set_option maxRecDepth 10000

theorem reads_blk {w : World} {g : Nat} {t : TypeId} {cs : List Value} (h : Blk w g t cs.toArray) : Reads w w.heap.size 1 (some ⟨g, 0, none⟩) cs.length cs :=
  ⟨by simp, fun _ => ⟨_, rfl, h.lt, fun j u hu => by
    have := Blk.cell h j
    rw [show (⟨g, 0, none⟩ : Addr).add j = ⟨g, j, none⟩ by unfold Addr.add; by_cases hj : j = 0 <;> simp [hj], this]
    simpa using hu⟩⟩
theorem iz_blk {w : World} {g : Nat} {t : TypeId} {l : List Int} (h : Blk w g t (l.map (Value.int .i64)).toArray) : Iz w (some ⟨g, 0, none⟩) l.length l := by
  have := reads_blk h
  rw [List.length_map] at this
  exact this
theorem aw_right : Right [[1], []] [16, 32] := ⟨by unfold GrOk SetOk; decide, rfl, by unfold Bd; decide⟩
theorem aw_chk : chkV [[1], []] [16, 32] [60, 40] = 0 := by
  refine chkV_ok.2 ⟨⟨aw_right, rfl⟩, fun i hi => not_wrong.2 ?_⟩
  have : i = 0 ∨ i = 1 := by simp at hi; omega
  rcases this with rfl | rfl <;> exact ⟨by unfold Bd; decide, by decide⟩
theorem aw_tight1 : tightB [[1], []] [16, 32] [60, 40] = false := tightB_not fun h => by
  have := h.2 0 (by decide)
  revert this
  decide
theorem aw_chk2 : chkV [[1], []] [16, 32] [48, 32] = 0 := by
  refine chkV_ok.2 ⟨⟨aw_right, rfl⟩, fun i hi => not_wrong.2 ?_⟩
  have : i = 0 ∨ i = 1 := by simp at hi; omega
  rcases this with rfl | rfl <;> exact ⟨by unfold Bd; decide, by decide⟩
theorem aw_tight2 : tightB [[1], []] [16, 32] [48, 32] = true := tightB_iff.2 ⟨aw_chk2, fun i hi => by
  have : i = 0 ∨ i = 1 := by simp at hi; omega
  rcases this with rfl | rfl <;> decide⟩
set_option maxHeartbeats 2000000 in
theorem awake30 (w : World) : Calls Try.prog 13 #[] w fun e w' => e = .returned (.bool true) ∧ Below w.heap.size w w' := by
  obtain ⟨W1, hW1⟩ : ∃ W1, W1 = (((w.alloc (.cells #[.int .i64 1] 3)).alloc (.cells #[] 3)).alloc (.cells #[.slice (some ⟨w.heap.size, 0, none⟩) 1 1, .slice (some ⟨w.heap.size + 1, 0, none⟩) 0 0] 24)).alloc (.cells #[.int .i64 16, .int .i64 32] 3) := ⟨_, rfl⟩
  have hb : Below w.heap.size w W1 := by rw [hW1]; go_grown
  have b0 : Blk W1 w.heap.size 3 #[.int .i64 1] := by rw [hW1]; exact (((Blk.new w _ _).alloc _).alloc _).alloc _
  have b1 : Blk W1 (w.heap.size + 1) 3 #[] := by rw [hW1]; exact ((Blk.newAt (by simp)).alloc _).alloc _
  have b2 : Blk W1 (w.heap.size + 1 + 1) 24 #[.slice (some ⟨w.heap.size, 0, none⟩) 1 1, .slice (some ⟨w.heap.size + 1, 0, none⟩) 0 0] := by rw [hW1]; exact (Blk.newAt (by simp)).alloc _
  have b3 : Blk W1 (w.heap.size + 1 + 1 + 1) 3 #[.int .i64 16, .int .i64 32] := by rw [hW1]; exact Blk.newAt (by simp)
  have HG : Hid (Gz W1 (some ⟨w.heap.size + 1 + 1, 0, none⟩) 2 [[1], []]) := Lib.hid ⟨rfl, _, reads_blk (cs := [.slice (some ⟨w.heap.size, 0, none⟩) 1 1, .slice (some ⟨w.heap.size + 1, 0, none⟩) 0 0]) b2, fun i hi => by
    have : i = 0 ∨ i = 1 := by omega
    rcases this with rfl | rfl
    · exact ⟨_, _, _, rfl, iz_blk (l := [1]) b0, by unfold maxLen; omega, by omega⟩
    · exact ⟨_, _, _, rfl, iz_blk (l := []) b1, by unfold maxLen; omega, by omega⟩⟩
  have HV : Hid (Iz W1 (some ⟨w.heap.size + 1 + 1 + 1, 0, none⟩) 2 [16, 32]) := Lib.hid (iz_blk (l := [16, 32]) b3)
  have HZ1 : Hid (w.heap.size + 1 + 1 + 1 + 1 = W1.heap.size) := Lib.hid (by rw [hW1]; simp)
  have HB := Lib.hid hb
  have HW := Lib.hid hW1
  clear hW1 b0 b1 b2 b3 hb
  go_enter Try.func13, Try.ntmps13
  go_wp2_with fail
  rw [← HW.out]
  have hc1 := check_any (some ⟨w.heap.size + 1 + 1, 0, none⟩) (some ⟨w.heap.size + 1 + 1 + 1, 0, none⟩) (some ⟨w.heap.size + 1 + 1 + 1 + 1, 0, none⟩) 2 2 2 2 2 2 [[1], []] [16, 32] [60, 40] (W1.alloc (.cells #[.int .i64 60, .int .i64 40] 3)) (HG.out.alloc _) (HV.out.alloc _) (iz_blk (l := [60, 40]) (Blk.newAt HZ1.out)) (by unfold maxLen; omega) (by unfold maxLen; omega) (by unfold maxLen; omega)
  rw [aw_chk] at hc1
  have HC1 := Lib.hid hc1
  clear hc1
  (with_reducible refine HC1.out.mono ?_)
  rintro e w2 ⟨rfl, hb2⟩
  have hbw2 : Below W1.heap.size W1 w2 := ((Below.refl _ _).alloc (Nat.le_refl _) _).trans (hb2.mono (by simp))
  have HB2 := Lib.hid hbw2
  clear hb2 hbw2 HC1
  go_wp2_with fail
  have hc1 := tight_any (some ⟨w.heap.size + 1 + 1, 0, none⟩) (some ⟨w.heap.size + 1 + 1 + 1, 0, none⟩) (some ⟨w2.heap.size, 0, none⟩) 2 2 2 2 2 2 [[1], []] [16, 32] [60, 40] (w2.alloc (.cells #[.int .i64 60, .int .i64 40] 3)) ((HG.out.below HB2.out).alloc _) ((HV.out.below HB2.out).alloc _) (iz_blk (l := [60, 40]) (Blk.new w2 _ _)) (by unfold maxLen; omega) (by unfold maxLen; omega) (by unfold maxLen; omega)
  rw [aw_tight1] at hc1
  have HC1 := Lib.hid hc1
  clear hc1
  (with_reducible refine HC1.out.mono ?_)
  rintro e w3 ⟨rfl, hb3⟩
  have hbw3 : Below W1.heap.size W1 w3 := (HB2.out.alloc HB2.out.size _).trans (hb3.mono (by have := HB2.out.size; simp; omega))
  have HB3 := Lib.hid hbw3
  clear hb3 hbw3 HC1
  go_wp2_with fail
  have hc1 := tight_any (some ⟨w.heap.size + 1 + 1, 0, none⟩) (some ⟨w.heap.size + 1 + 1 + 1, 0, none⟩) (some ⟨w3.heap.size, 0, none⟩) 2 2 2 2 2 2 [[1], []] [16, 32] [48, 32] (w3.alloc (.cells #[.int .i64 48, .int .i64 32] 3)) ((HG.out.below HB3.out).alloc _) ((HV.out.below HB3.out).alloc _) (iz_blk (l := [48, 32]) (Blk.new w3 _ _)) (by unfold maxLen; omega) (by unfold maxLen; omega) (by unfold maxLen; omega)
  rw [aw_tight2] at hc1
  have HC1 := Lib.hid hc1
  clear hc1
  (with_reducible refine HC1.out.mono ?_)
  rintro e w4 ⟨rfl, hb4⟩
  have hbw4 : Below W1.heap.size W1 w4 := (HB3.out.alloc HB3.out.size _).trans (hb4.mono (by have := HB3.out.size; simp; omega))
  have HB4 := Lib.hid hbw4
  clear hb4 hbw4 HC1
  go_wp2
  go_ret
  exact ⟨rfl, HB.out.trans (HB4.out.mono HB.out.size)⟩
end Go.Proofs.Ytgamodmenlhedaa.cf
