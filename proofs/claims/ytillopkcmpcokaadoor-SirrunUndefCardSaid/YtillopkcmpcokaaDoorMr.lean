/- A run of the machine. -/
import Derived.Test.YtillopkcmpcokaaDoorMt
import Derived.Test.YtillopkcmpcokaaDoorSc3
namespace Go.Proofs.YtillopkcmpcokaaDoor.pm
open Go.RowKit
set_option linter.unusedVariables false
set_option maxRecDepth 10000

/-- a run: fuel F; the first number: how many rounds may be left -/
def runM (p : List Fn) (F : Nat) : Nat → Mx → Mx
  | 0, m => m
  | k + 1, m => if m.ended = true then m else if F ≤ m.steps then m.stop 4 else runM p F k (stepM p m)
theorem steps_take (m : Mx) (r : Nat) (o : Option (Nat × Nat)) : (m.take r o).steps = m.steps := by
  unfold Mx.take; split <;> rfl
theorem steps_defS (m : Mx) (k : Int) (v : Nat × Nat) : (m.defS k v).steps = m.steps := by
  unfold Mx.defS; split <;> rfl
theorem steps_defA (m : Mx) (k : Int) (v : Nat × Nat) : (m.defA k v).steps = m.steps := by
  unfold Mx.defA; split <;> rfl
theorem steps_stepM (p : List Fn) (m : Mx) : (stepM p m).steps = m.steps + 1 := by
  have hn : m.next.steps = m.steps + 1 := rfl
  unfold stepM
  simp only []
  repeat' split
  all_goals first
    | rfl
    | (rw [steps_take]; rfl)
    | (rw [steps_defS]; rfl)
    | (rw [steps_defA]; rfl)
/-- what must hold ahead of a step -/
def Fit8 (p : List Fn) (m : Mx) : Prop := Wf p m ∧ OpOk p m (m.ins p) ∧ m.acts.length ≤ 1000000 ∧ ∀ a ∈ m.acts, a.pc ≤ 1000000
def stepsAt (w : World) (mb : Nat) : Nat :=
  match w.cell? ⟨mb, 25, none⟩ with
  | some (.int _ n) => n.toNat
  | _ => 0
section
variable {B n mb cs ct np cp : Nat} {ad : Addr} {iv : Value} {As At : Option Addr} {bl : List Nat} {m : Mx} {p : List Fn}
theorem MAt.stepsAt {w : World} {pv : Value} (h : MAt w B n mb ad pv iv As cs At ct bl m) : stepsAt w mb = m.steps := by
  obtain ⟨-, -, -, -, -, c25, -⟩ := h.cells
  unfold pm.stepsAt
  rw [c25]
  simp
def RunD (p : List Fn) (iv : Value) (inp : List Nat) (F : Nat) (w : World) (e : Ending) (w' : World) : Prop :=
  ∃ mb, e = .returned (.tuple #[.pointer (some ⟨mb, 0, none⟩), .int .i64 0]) ∧ Below w.heap.size w w' ∧ ∃ n ad pv As cs At ct bl, MAt w' w.heap.size n mb ad pv iv As cs At ct bl (runM p F (F + 2) ((Mx.start inp).call 0))
theorem start_at {w : World} {pv iv : Value} {inp : List Nat} {mb : Nat} (hB : B ≤ mb) (hb : Blk w mb 73 (mcs pv iv (.slice none 0 0) (.slice none 0 0) (Mx.start inp))) :
    MAt w B n mb ad pv iv none 0 none 0 [] (Mx.start inp) :=
  ⟨hb, hB, World.ownsRow_nil _ _ _ _, World.ownsRow_nil _ _ _ _, rfl, List.nodup_nil, fun i hi => by simp at hi⟩
set_option maxHeartbeats 2000000 in
theorem run_any (ad : Addr) (p : List Fn) (cp : Nat) (Ai : Option Addr) (ni ci : Nat) (inp : List Nat) (F : Nat) (hF : F ≤ 100000) (Good : Mx → Prop) (w : World) (hT : Tb w) (hf : Fx w 0 w.heap.size (some ad) p) (hm : p.length ≤ maxLen) (hr : ∀ i, i < p.length → FnR (p.getD i Fn.z)) (hE : progE p = 0) (hp1 : 0 < p.length)
    (hg0 : Good ((Mx.start inp).call 0)) (hg : ∀ m, Good m → m.ended = false → m.steps < F → Fit8 p m ∧ Good (stepM p m)) :
    Calls Tryd.prog 26 #[.agg #[.slice (some ad) p.length cp], .slice Ai ni ci, .int .i64 (F : Int)] w (RunD p (.slice Ai ni ci) inp F w) := by
  obtain ⟨W1, hW1⟩ : ∃ W1, W1 = w.alloc (.cells #[.slice (some ad) p.length cp] 26) := ⟨_, rfl⟩
  have hB1 : Below w.heap.size w W1 := by rw [hW1]; exact (Below.refl _ _).alloc (Nat.le_refl _) _
  have HKP : Hid (Blk W1 w.heap.size 26 #[.slice (some ad) p.length cp]) := Lib.hid (by rw [hW1]; exact Blk.new _ _ _)
  have HT1 := Lib.hid (hT.below hB1)
  have HF0 := Lib.hid hf
  have HF1 := Lib.hid (hf.keep (Kp.of_below hB1 (Nat.le_refl _)))
  have HB1 := Lib.hid hB1
  have HW1 := Lib.hid hW1
  have HR := Lib.hid hr
  have HG0 := Lib.hid hg0
  have HG := Lib.hid hg
  have hs1 := hB1.size
  have hF0 : (0 : Int) ≤ (F : Int) := by omega
  have hF1 : (F : Int) ≤ 100000 := by omega
  clear hT hf hW1 hB1 hr hg hg0
  obtain ⟨q0, -, qz⟩ := blk_one HKP.out
  go_enter Tryd.func26, Tryd.ntmps26
  go_upto_region 1 with (fail)
  rw [← HW1.out]
  go_wp2_with fail
  refine (check_any (some ad) p cp W1 _ _ HT1.out HF1.out hs1 hm HR.out).mono ?_
  rintro e w2 ⟨rfl, bel2⟩
  rw [hE]
  have HB2 : Hid (Below w.heap.size w w2) := Lib.hid (HB1.out.trans (bel2.mono hs1))
  have HKP2 := Lib.hid (HKP.out.after bel2)
  have hs2 : W1.heap.size ≤ w2.heap.size := bel2.size
  clear bel2 q0 qz
  obtain ⟨q0, -, qz⟩ := blk_one HKP2.out
  go_upto_region 7 with (fail)
  obtain ⟨mb, hmb⟩ : ∃ mb, mb = w2.heap.size := ⟨_, rfl⟩
  obtain ⟨W3, hW3⟩ : ∃ W3, W3 = w2.alloc (.cells (mcs (.slice (some ad) p.length cp) (.slice Ai ni ci) (.slice none 0 0) (.slice none 0 0) (Mx.start inp)) 73) := ⟨_, rfl⟩
  have hW3' : W3 = w2.alloc (.cells #[.slice (some ad) p.length cp, .slice Ai ni ci, .int .u64 0, .int .u64 0, .int .u64 0, .int .u64 0, .int .u64 0, .int .u64 0, .int .u64 0, .int .u64 0, .int .u64 0, .int .u64 0, .int .u64 0, .int .u64 0, .int .u64 0, .int .u64 0, .int .u64 0, .int .u64 0, .slice none 0 0, .int .i64 0, .int .i64 0, .int .u64 0, .int .u64 0, .int .u64 0, .slice none 0 0, .int .i64 0, .bool false] 73) := hW3
  have HM3 : Hid (MAt W3 w.heap.size 0 mb ad (.slice (some ad) p.length cp) (.slice Ai ni ci) none 0 none 0 [] (Mx.start inp)) := Lib.hid (start_at (by omega) (by rw [hW3]; exact Blk.newAt hmb))
  have HB3 : Hid (Below w.heap.size w W3) := Lib.hid (by rw [hW3]; exact HB2.out.alloc HB2.out.size _)
  rw [← hW3', ← hmb]
  have hBm : w.heap.size ≤ mb := by omega
  clear hW3 hW3' hmb q0 qz HKP HKP2
  go_wp2_with fail
  refine (call_any W3 p.length cp 0 hp1 hm (by simp [Mx.start]) HM3.out HB3.out.size).mono ?_
  rintro e w4 ⟨rfl, b4, As4, cs4, m4⟩
  have HM4 := Lib.hid m4
  have HB4 : Hid (Below w.heap.size w w4) := Lib.hid (HB3.out.trans b4)
  clear m4 b4 HM3 HB3
  go_wp2
  go_loopw [] (fun wr => ∃ M As cs At ct bl, Good M ∧ Hid (MAt wr w.heap.size M.steps mb ad (.slice (some ad) p.length cp) (.slice Ai ni ci) As cs At ct bl M) ∧ Hid (Below w.heap.size w wr) ∧ M.steps ≤ F ∧ Hid (runM p F (F + 2 - M.steps) M = runM p F (F + 2) ((Mx.start inp).call 0))) (fun wr => F + 1 - stepsAt wr mb)
  case atStart => exact ⟨_, _, _, _, _, _, HG0.out, HM4, HB4, by simp [Mx.start, Mx.call], Lib.hid (by simp [Mx.start, Mx.call])⟩
  case round =>
    obtain ⟨M, As, cs, At, ct, bl, hgM, HM, HB, hst, HQ⟩ := hrel
    obtain ⟨-, -, -, -, -, c25, c26, hlt⟩ := HM.out.cells
    have hsti : (M.steps : Int) ≤ (F : Int) := by omega
    have hsz := HB.out.size
    rcases hen : M.ended with _ | _
    · rw [hen] at c26
      by_cases hle : F ≤ M.steps
      · have hli : (F : Int) ≤ (M.steps : Int) := by omega
        have HE : Hid (runM p F (F + 2) ((Mx.start inp).call 0) = M.stop 4) := Lib.hid (by
          rw [← HQ.out, show F + 2 - M.steps = 1 + 1 by omega]
          unfold runM
          rw [hen, if_neg (by decide), if_pos hle])
        go_wp2_with fail
        refine (stop_any _ 4 HM.out).mono ?_
        rintro e w5 ⟨rfl, m5, b5⟩
        have HM5 := Lib.hid m5
        have HB5 := Lib.hid (HB.out.trans b5)
        clear m5 b5 c25 c26
        go_wp2
        go_ret2
        exact ⟨mb, rfl, HB5.out, _, _, _, _, _, _, _, _, by rw [HE.out]; exact HM5.out⟩
      · have hli : ¬ (F : Int) ≤ (M.steps : Int) := by omega
        have hli2 : (M.steps : Int) < (F : Int) := by omega
        obtain ⟨⟨h1, h2, h3, h4⟩, h5⟩ := HG.out M hgM hen (by omega)
        have HPRE : Hid (Pre wr w.heap.size M.steps mb ad p cp (.slice Ai ni ci) As cs At ct bl M) := Lib.hid ⟨HM.out, h1, HF0.out.keep (Kp.of_below HB.out (Nat.le_refl _)), hsz, hm, h3, by omega, h4, by omega⟩
        have HG5 := Lib.hid h5
        have HOK := Lib.hid h2
        have HE : Hid (runM p F (F + 2 - (M.steps + 1)) (stepM p M) = runM p F (F + 2) ((Mx.start inp).call 0)) := Lib.hid (by
          rw [← HQ.out, show F + 2 - M.steps = (F + 2 - (M.steps + 1)) + 1 by omega]
          conv => rhs; unfold runM
          rw [hen, if_neg (by decide), if_neg hle])
        clear h1 h2 h3 h4 h5
        go_wp2_with fail
        refine (step_any wr HPRE.out HOK.out).mono ?_
        rintro e w5 ⟨rfl, b5, As5, cs5, At5, ct5, bl5, m5⟩
        have HM5 : Hid (MAt w5 w.heap.size (stepM p M).steps mb ad (.slice (some ad) p.length cp) (.slice Ai ni ci) As5 cs5 At5 ct5 bl5 (stepM p M)) := Lib.hid (by rw [steps_stepM]; exact m5)
        have HB5 := Lib.hid (HB.out.trans b5)
        have HS0 := Lib.hid HM.out.stepsAt
        have HS5 := Lib.hid HM5.out.stepsAt
        clear m5 b5 c25 c26
        go_wp2
        go_roundw
        case rel => exact ⟨_, _, _, _, _, _, HG5.out, HM5, HB5, by rw [steps_stepM]; omega, Lib.hid (by rw [steps_stepM]; exact HE.out)⟩
        case measure => rw [HS0.out, HS5.out, steps_stepM]; omega
    · rw [hen] at c26
      have HE : Hid (runM p F (F + 2) ((Mx.start inp).call 0) = M) := Lib.hid (by
        rw [← HQ.out, show F + 2 - M.steps = (F + 1 - M.steps) + 1 by omega]
        unfold runM
        rw [hen, if_pos rfl])
      go_wp2
      go_ret2
      exact ⟨mb, rfl, HB.out, _, _, _, _, _, _, _, _, by rw [HE.out]; exact HM.out⟩
end
end Go.Proofs.YtillopkcmpcokaaDoor.pm
