/- Small programs in memory; the sanity check of chapter 8. -/
import Derived.Test.YtillopkcmpcokaaDoorMo
namespace Go.Proofs.YtillopkcmpcokaaDoor.pm
open Go.RowKit
set_option linter.unusedVariables false
set_option maxRecDepth 10000
theorem reads_of_blk {w : World} {g : Nat} {t : TypeId} {cs : Array Value} {n size : Nat} (h : Blk w g t cs) (hl : cs.size = n * size) : Reads w w.heap.size size (some ⟨g, 0, none⟩) n cs.toList :=
  ⟨by rw [Array.length_toList, hl], fun _ => ⟨⟨g, 0, none⟩, rfl, h.lt, fun j u hu => by
    have e : (⟨g, 0, none⟩ : Addr).add j = ⟨g, j, none⟩ := by unfold Addr.add; by_cases hj : j = 0 <;> simp [hj]
    rw [e, Blk.cell h j]
    rw [Array.getElem?_toList] at hu
    exact hu⟩⟩
/-- a program of one function without slots -/
theorem fx_one {w : World} {g1 g2 ci : Nat} {prm : Int} {code : List Ins} (h1 : Blk w g1 48 (inV code).toArray) (h2 : Blk w g2 51 #[.int .i64 prm, .slice none 0 0, .slice (some ⟨g1, 0, none⟩) code.length ci]) (hl : code.length ≤ maxLen) (hc : code.length ≤ ci) :
    Fx w 0 w.heap.size (some ⟨g2, 0, none⟩) [⟨prm, [], code⟩] := by
  have hr := reads_of_blk (n := 1) (size := 3) h2 rfl
  have hn : Nx w 0 w.heap.size (some ⟨g1, 0, none⟩) code := by
    have := reads_of_blk (n := code.length) (size := 5) h1 (by rw [List.size_toArray]; exact flat_len icells_len code)
    exact Rx.of_reads (by simpa using this)
  refine ⟨_, Rx.of_reads hr, fun i hi => ?_⟩
  obtain rfl : i = 0 := by simpa using hi
  exact ⟨none, 0, some ⟨g1, 0, none⟩, ci, rfl, rfl, rfl, Rx.nil _ _ _ _, hn, ⟨by simp, by simp⟩, hl, hc⟩
def awP : List Fn := [⟨0, [], [⟨0, 0, 0, 0, 5⟩, ⟨23, 0, 0, 0, 0⟩]⟩]
def aw0 : Mx := ⟨List.replicate 8 (0, 0), [⟨0, 0, none, none⟩], [], 1, [], 0, 0, (0, 0), 0, [], false⟩
def aw1 : Mx := ⟨(5, 0) :: List.replicate 7 (0, 0), [⟨0, 1, none, none⟩], [], 1, [], 0, 0, (0, 0), 1, [], false⟩
def aw2 : Mx := ⟨(5, 0) :: List.replicate 7 (0, 0), [], [], 1, [], 0, 0, (5, 0), 2, [], true⟩
theorem aw_start : (Mx.start []).call 0 = aw0 := rfl
theorem aw_step0 : stepM awP aw0 = aw1 := rfl
theorem aw_step1 : stepM awP aw1 = aw2 := rfl
theorem aw_prog : progE awP = 0 := by decide
theorem aw_good : ∀ m, (m = aw0 ∨ m = aw1 ∨ m = aw2) → m.ended = false → m.steps < 9 → Fit8 awP m ∧ (stepM awP m = aw0 ∨ stepM awP m = aw1 ∨ stepM awP m = aw2) := by
  rintro m (rfl | rfl | rfl) he _
  · refine ⟨⟨⟨rfl, fun a ha => ?_, by decide⟩, .inl ⟨rfl, ⟨by decide, by decide⟩, by decide⟩, by decide, fun a ha => ?_⟩, .inr (.inl aw_step0)⟩
    all_goals
      simp [aw0] at ha
      subst ha
      simp [awP]
  · refine ⟨⟨⟨rfl, fun a ha => ?_, by decide⟩, .inr (.inr (.inl rfl)), by decide, fun a ha => ?_⟩, .inr (.inr aw_step1)⟩
    all_goals
      simp [aw1] at ha
      subst ha
      simp [awP]
  · cases he
theorem aw_out (At : Option Addr) (ct : Nat) : outV aw2 At ct = .agg #[.int .i64 0, .int .u64 0, .int .u64 5, .int .u64 0, .slice At 0 ct, .int .i64 2] := rfl
theorem aw_run : runM awP 9 (9 + 2) aw0 = aw2 := rfl
set_option maxHeartbeats 1000000 in
theorem awake8 (w : World) (hT : Tb w) : Calls Tryd.prog 9 #[] w fun e w' => e = .returned (.bool true) ∧ Below w.heap.size w w' := by
  obtain ⟨W1, hW1⟩ : ∃ W1, W1 = (w.alloc (.cells #[.int .i64 0, .int .i64 0, .int .i64 0, .int .i64 0, .int .u64 5, .int .i64 23, .int .i64 0, .int .i64 0, .int .i64 0, .int .u64 0] 48)).alloc (.cells #[.int .i64 0, .slice none 0 0, .slice (some ⟨w.heap.size, 0, none⟩) 2 2] 51) := ⟨_, rfl⟩
  have hB1 : Below w.heap.size w W1 := by rw [hW1]; exact ((Below.refl _ _).alloc (Nat.le_refl _) _).alloc (by simp) _
  have h1 : Blk W1 w.heap.size 48 (inV [⟨0, 0, 0, 0, 5⟩, ⟨23, 0, 0, 0, 0⟩]).toArray := by rw [hW1]; exact (Blk.new _ _ _).alloc _
  have h2 : Blk W1 (w.heap.size + 1) 51 #[.int .i64 0, .slice none 0 0, .slice (some ⟨w.heap.size, 0, none⟩) [(⟨0, 0, 0, 0, 5⟩ : Ins), ⟨23, 0, 0, 0, 0⟩].length 2] := by rw [hW1]; exact Blk.newAt (by simp)
  have hf := fx_one h1 h2 (by simp [maxLen]) (by simp)
  have HO := Lib.hid (out_any ⟨w.heap.size + 1, 0, none⟩ awP 1 none 0 0 [] 9 (by omega) (fun m => m = aw0 ∨ m = aw1 ∨ m = aw2) W1 (hT.below hB1) hf (by simp [awP, maxLen]) (fun i hi s hs => by
    have : i = 0 := by simpa [awP] using hi
    subst this
    simp [awP] at hs) aw_prog (by simp [awP]) (.inl rfl) aw_good)
  have HB1 := Lib.hid hB1
  have hs1 := hB1.size
  have HW1 := Lib.hid hW1
  clear hT h1 h2 hf hW1 hB1
  go_enter Tryd.func9, Tryd.ntmps9
  go_wp2_with fail
  rw [← HW1.out]
  refine HO.out.mono ?_
  rintro e w2 ⟨At, ct, rfl, b2, -⟩
  have HB2 : Hid (Below w.heap.size w w2) := Lib.hid (HB1.out.trans (b2.mono hs1))
  rw [aw_start, aw_run, aw_out]
  have hs2 := HB2.out.size
  clear b2 HO
  go_wp2
  go_ret
  exact ⟨ret_bool (by decide), HB2.out.alloc hs2 _⟩
end Go.Proofs.YtillopkcmpcokaaDoor.pm
