/- SirrunRecursionIsDeep: the walk of the law. -/
import Derived.Test.YtillopkcmpcokaaDoorMa
namespace Go.Proofs.YtillopkcmpcokaaDoor.pm
open Go.RowKit
set_option linter.unusedVariables false
set_option maxRecDepth 10000
def rcP : List Fn := [⟨0, [], [⟨22, 0, 0, 0, 0⟩, ⟨23, 0, 0, 0, 0⟩]⟩]
def rcM (k : Nat) : Mx := ⟨List.replicate 8 (0, 0), List.replicate k ⟨0, 1, none, none⟩ ++ [⟨0, 0, none, none⟩], [], k + 1, [], 0, 0, (0, 0), k, [], false⟩
theorem rc_start : (Mx.start []).call 0 = rcM 0 := rfl
theorem rc_prog : progE rcP = 0 := by decide
theorem rc_top (k : Nat) : (rcM k).top = ⟨0, 0, none, none⟩ := by
  simp [Mx.top, rcM]
theorem rc_ins (k : Nat) : (rcM k).ins rcP = ⟨22, 0, 0, 0, 0⟩ := by
  unfold Mx.ins
  rw [rc_top]
  rfl
theorem rc_next (k : Nat) : (rcM k).next.acts = List.replicate (k + 1) ⟨0, 1, none, none⟩ := by
  unfold Mx.next
  rw [rc_top]
  unfold Mx.setTop
  simp only [rcM]
  rw [List.length_append, List.length_replicate, List.set_append_right _ _ (by simp)]
  simp [List.replicate_succ']
theorem rc_step (k : Nat) : stepM rcP (rcM k) = rcM (k + 1) := by
  unfold stepM
  rw [rc_ins]
  simp only [Int.toNat_zero]
  rw [if_neg (by decide), if_true]
  unfold Mx.call
  rw [rc_next, List.length_replicate]
  simp [Mx.next, Mx.setTop, rcM]
theorem rc_good (F : Nat) (hF : F ≤ 300) : ∀ m, (∃ k, m = rcM k) → m.ended = false → m.steps < F → Fit8 rcP m ∧ ∃ k, stepM rcP m = rcM k := by
  rintro m ⟨k, rfl⟩ _ hs
  have hk : k < F := hs
  have hmem : ∀ a ∈ (rcM k).acts, a = ⟨0, 1, none, none⟩ ∨ a = ⟨0, 0, none, none⟩ := fun a ha => by
    simp [rcM] at ha
    rcases ha with ⟨-, h⟩ | h
    · exact .inl h
    · exact .inr h
  refine ⟨⟨⟨rfl, fun a ha => ?_, by simp [rcM]⟩, ?_, by simp [rcM]; omega, fun a ha => ?_⟩, k + 1, rc_step k⟩
  · rcases hmem a ha with rfl | rfl <;> simp [rcP]
  · rw [rc_ins]; exact .inr (.inl ⟨rfl, by decide, by decide⟩)
  · rcases hmem a ha with rfl | rfl <;> simp
theorem rc_run (F : Nat) : ∀ j k, k + j = F → runM rcP F (j + 2) (rcM k) = (rcM F).stop 4 := by
  intro j
  induction j with
  | zero =>
    intro k hk
    obtain rfl : k = F := by omega
    unfold runM
    rw [if_neg (by simp [rcM]), if_pos (by simp [rcM])]
  | succ j ih =>
    intro k hk
    show runM rcP F ((j + 2) + 1) (rcM k) = _
    unfold runM
    rw [if_neg (by simp [rcM]), if_neg (by simp [rcM]; omega), rc_step]
    exact ih (k + 1) (by omega)
set_option maxHeartbeats 2000000 in
theorem rc_law (fu : Nat) (hfu : fu < 65536) (w : World) (hT : Tb w) :
    Calls Tryd.prog 6 #[.int .u16 fu] w fun e w' => e = .returned (.bool true) ∧ Below w.heap.size w w' := by
  obtain ⟨F, hF⟩ : ∃ F, F = fu % 300 := ⟨_, rfl⟩
  have hF3 : F < 300 := by omega
  have HT := Lib.hid hT
  have HFE := Lib.hid hF
  clear hT hF
  go_enter Tryd.func6, Tryd.ntmps6
  go_wp2_with fail
  refine (awake8 _ HT.out).mono ?_
  rintro e w1 ⟨rfl, b1⟩
  have HB1 := Lib.hid b1
  have HT1 := Lib.hid (HT.out.below b1)
  have hs1 := b1.size
  clear b1
  go_upto_region 5 with (fail)
  have eF : ((fu : Int) % 300) = (F : Int) := by have := HFE.out; omega
  rw [eF]
  obtain ⟨W2, hW2⟩ : ∃ W2, W2 = (w1.alloc (.cells #[.int .i64 22, .int .i64 0, .int .i64 0, .int .i64 0, .int .u64 0, .int .i64 23, .int .i64 0, .int .i64 0, .int .i64 0, .int .u64 0] 48)).alloc (.cells #[.int .i64 0, .slice none 0 0, .slice (some ⟨w1.heap.size, 0, none⟩) 2 2] 51) := ⟨_, rfl⟩
  have hB2 : Below w1.heap.size w1 W2 := by rw [hW2]; exact ((Below.refl _ _).alloc (Nat.le_refl _) _).alloc (by simp) _
  have h1 : Blk W2 w1.heap.size 48 (inV [⟨22, 0, 0, 0, 0⟩, ⟨23, 0, 0, 0, 0⟩]).toArray := by rw [hW2]; exact (Blk.new _ _ _).alloc _
  have h2 : Blk W2 (w1.heap.size + 1) 51 #[.int .i64 0, .slice none 0 0, .slice (some ⟨w1.heap.size, 0, none⟩) [(⟨22, 0, 0, 0, 0⟩ : Ins), ⟨23, 0, 0, 0, 0⟩].length 2] := by rw [hW2]; exact Blk.newAt (by simp)
  have hz2 : W2.heap.size = w1.heap.size + 1 + 1 := by rw [hW2]; simp
  have hf2 := fx_one h1 h2 (by simp [maxLen]) (by simp)
  obtain ⟨W3, hW3⟩ : ∃ W3, W3 = W2.alloc (.cells #[.slice (some ⟨w1.heap.size + 1, 0, none⟩) 1 1] 26) := ⟨_, rfl⟩
  rw [← hW2, ← hW3, ← hz2]
  have hB23 : Below W2.heap.size W2 W3 := by rw [hW3]; exact (Below.refl _ _).alloc (Nat.le_refl _) _
  have HK3 : Hid (Blk W3 W2.heap.size 26 #[.slice (some ⟨w1.heap.size + 1, 0, none⟩) 1 1]) := Lib.hid (by rw [hW3]; exact Blk.new _ _ _)
  have HF3 : Hid (Fx W3 0 W2.heap.size (some ⟨w1.heap.size + 1, 0, none⟩) rcP) := Lib.hid (hf2.keep (Kp.of_below hB23 (Nat.le_refl _)))
  have hB3 : Below w1.heap.size w1 W3 := hB2.trans (hB23.mono hB2.size)
  have HT3 := Lib.hid (HT1.out.below hB3)
  have HB3 : Hid (Below w.heap.size w W3) := Lib.hid (HB1.out.trans (hB3.mono hs1))
  have hs23 := hB23.size
  clear hW2 hW3 h1 h2 hf2 hB2 hB23 hB3 hz2 eF
  obtain ⟨ga, hga⟩ : ∃ ga : Addr, ga = ⟨w1.heap.size + 1, 0, none⟩ := ⟨_, rfl⟩
  rw [← hga] at HK3 HF3 ⊢
  clear hga
  have HC : Hid (∀ W, Below W3.heap.size W3 W → Calls Tryd.prog 11 #[.agg #[.slice (some ga) 1 1], .slice none 0 0, .int .i64 (F : Int)] W (OutD ((rcM F).stop 4) W)) := Lib.hid (fun W h => by
    have := out_any ga rcP 1 none 0 0 [] F (by omega) (fun m => ∃ k, m = rcM k) W (HT3.out.below h) ((HF3.out.keep (Kp.of_below h hs23)).more (Nat.le_refl _) (Nat.le_trans hs23 h.size)) (by simp [rcP, maxLen]) (fun i hi s hs => by
      have : i = 0 := by simpa [rcP] using hi
      subst this
      simp [rcP] at hs) rc_prog (by simp [rcP]) ⟨0, rfl⟩ (rc_good F (by omega))
    rw [rc_start, rc_run F F 0 (by omega)] at this
    exact this)
  have HD : Hid (∀ W, Below W3.heap.size W3 W → Calls Tryd.prog 14 #[.agg #[.slice (some ga) 1 1], .slice none 0 0, .int .i64 (F : Int)] W (DepD ((rcM F).stop 4) W)) := Lib.hid (fun W h => by
    have := depth_any ga rcP 1 none 0 0 [] F (by omega) (fun m => ∃ k, m = rcM k) W (HT3.out.below h) ((HF3.out.keep (Kp.of_below h hs23)).more (Nat.le_refl _) (Nat.le_trans hs23 h.size)) (by simp [rcP, maxLen]) (fun i hi s hs => by
      have : i = 0 := by simpa [rcP] using hi
      subst this
      simp [rcP] at hs) rc_prog (by simp [rcP]) ⟨0, rfl⟩ (rc_good F (by omega))
    rw [rc_start, rc_run F F 0 (by omega)] at this
    exact this)
  have hF0 : (0 : Int) ≤ (F : Int) := by omega
  have hF4 : (F : Int) < 300 := by omega
  have hs3 := HB3.out.size
  obtain ⟨q0, -, qz⟩ := blk_one HK3.out
  go_wp2_with fail
  refine (HC.out _ (Below.refl _ _)).mono ?_
  rintro e w4 ⟨At, ct, rfl, b4, -⟩
  have eo : outV ((rcM F).stop 4) At ct = .agg #[.int .i64 4, .int .u64 0, .int .u64 0, .int .u64 0, .slice At 0 ct, .int .i64 F] := rfl
  rw [eo]
  have HB4 := Lib.hid b4
  have hs4 := b4.size
  clear b4 eo q0 qz
  go_upto_region 6 with (fail)
  obtain ⟨W5, hW5⟩ : ∃ W5, W5 = w4.alloc (.cells #[.int .i64 4, .int .u64 0, .int .u64 0, .int .u64 0, .slice At 0 ct, .int .i64 F] 36) := ⟨_, rfl⟩
  rw [← hW5]
  have HKO : Hid (Blk W5 w4.heap.size 36 #[.int .i64 4, .int .u64 0, .int .u64 0, .int .u64 0, .slice At 0 ct, .int .i64 F]) := Lib.hid (by rw [hW5]; exact Blk.new _ _ _)
  have HB5 : Hid (Below W3.heap.size W3 W5) := Lib.hid (by rw [hW5]; exact HB4.out.alloc hs4 _)
  clear hW5
  have hs5 := HB5.out.size
  obtain ⟨q0, -, qz⟩ := blk_one (HK3.out.after HB5.out)
  go_wp2_with fail
  refine (HD.out _ HB5.out).mono ?_
  rintro e w6 ⟨rfl, b6⟩
  have ed : (((rcM F).stop 4).deep : Int) = (F : Int) + 1 := rfl
  rw [ed]
  have HKO6 := Lib.hid (HKO.out.after b6)
  have HB6 : Hid (Below w.heap.size w w6) := Lib.hid (HB3.out.trans ((HB5.out.trans (b6.mono hs5)).mono hs3))
  clear b6 ed q0 qz
  obtain ⟨o0, o1, o2, o3, o4, o5, f0, f1, f2, f3, f4, f5, oz⟩ := HKO6.out.c6
  go_wp2
  go_ret
  exact ⟨ret_bool (by simp), HB6.out⟩
end Go.Proofs.YtillopkcmpcokaaDoor.pm
