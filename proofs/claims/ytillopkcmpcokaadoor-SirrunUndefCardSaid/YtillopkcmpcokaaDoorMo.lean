/- Run and Depth: what they give. -/
import Derived.Test.YtillopkcmpcokaaDoorMr
namespace Go.Proofs.YtillopkcmpcokaaDoor.pm
open Go.RowKit
set_option linter.unusedVariables false
set_option maxRecDepth 10000
/-- an outcome as a value -/
def outV (m : Mx) (At : Option Addr) (ct : Nat) : Value := .agg #[.int .i64 m.kind, .int .u64 m.code, .int .u64 m.res.1, .int .u64 m.res.2, .slice At m.trace.length ct, .int .i64 m.steps]
def OutD (m : Mx) (w : World) (e : Ending) (w' : World) : Prop :=
  ∃ At ct, e = .returned (.tuple #[outV m At ct, .int .i64 0]) ∧ Below w.heap.size w w' ∧ w'.ownsRow w.heap.size 33 2 (.slice At m.trace.length ct) m.trace.length (m.trace.flatMap vcl)
set_option maxHeartbeats 1000000 in
theorem out_any (ad : Addr) (p : List Fn) (cp : Nat) (Ai : Option Addr) (ni ci : Nat) (inp : List Nat) (F : Nat) (hF : F ≤ 100000) (Good : Mx → Prop) (w : World) (hT : Tb w) (hf : Fx w 0 w.heap.size (some ad) p) (hm : p.length ≤ maxLen) (hr : ∀ i, i < p.length → FnR (p.getD i Fn.z)) (hE : progE p = 0) (hp1 : 0 < p.length)
    (hg0 : Good ((Mx.start inp).call 0)) (hg : ∀ m, Good m → m.ended = false → m.steps < F → Fit8 p m ∧ Good (stepM p m)) :
    Calls Tryd.prog 11 #[.agg #[.slice (some ad) p.length cp], .slice Ai ni ci, .int .i64 (F : Int)] w (OutD (runM p F (F + 2) ((Mx.start inp).call 0)) w) := by
  obtain ⟨W1, hW1⟩ : ∃ W1, W1 = (w.alloc (.cells #[.slice (some ad) p.length cp] 26)).alloc (.cells #[.int .i64 0, .int .u64 0, .int .u64 0, .int .u64 0, .slice none 0 0, .int .i64 0] 36) := ⟨_, rfl⟩
  have hB1 : Below w.heap.size w W1 := by rw [hW1]; exact ((Below.refl _ _).alloc (Nat.le_refl _) _).alloc (by simp) _
  have HKP : Hid (Blk W1 w.heap.size 26 #[.slice (some ad) p.length cp]) := Lib.hid (by rw [hW1]; exact (Blk.new _ _ _).alloc _)
  have HKO : Hid (Blk W1 (w.heap.size + 1) 36 #[.int .i64 0, .int .u64 0, .int .u64 0, .int .u64 0, .slice none 0 0, .int .i64 0]) := Lib.hid (by rw [hW1]; exact Blk.newAt (by simp))
  have hs1 := hB1.size
  have HRUN := Lib.hid (run_any ad p cp Ai ni ci inp F hF Good W1 (hT.below hB1) ((hf.keep (Kp.of_below hB1 (Nat.le_refl _))).more (Nat.le_refl _) hs1) hm hr hE hp1 hg0 hg)
  have HB1 := Lib.hid hB1
  have HW1 := Lib.hid hW1
  clear hT hf hW1 hB1 hr hg hg0
  obtain ⟨q0, -, qz⟩ := blk_one HKP.out
  obtain ⟨M, hM⟩ : ∃ M, M = runM p F (F + 2) ((Mx.start inp).call 0) := ⟨_, rfl⟩
  rw [← hM]
  go_enter Tryd.func11, Tryd.ntmps11
  go_upto_region 1 with (fail)
  rw [← HW1.out]
  go_wp2_with fail
  refine HRUN.out.mono ?_
  rintro e w2 ⟨mb, rfl, b2, n, ad', pv, As, cs, At, ct, bl, hm2⟩
  rw [← hM] at hm2
  have HM2 := Lib.hid hm2
  have HB2 : Hid (Below w.heap.size w w2) := Lib.hid (HB1.out.trans (b2.mono hs1))
  have HKO2 := Lib.hid (HKO.out.after b2)
  clear b2 hm2 q0 qz hM HRUN
  have c20 : w2.cell? ⟨mb, 20, none⟩ = some (.int .i64 M.kind) := HM2.out.blk.cell 20
  have c21 : w2.cell? ⟨mb, 21, none⟩ = some (.int .u64 M.code) := HM2.out.blk.cell 21
  have c22 : w2.cell? ⟨mb, 22, none⟩ = some (.int .u64 M.res.1) := HM2.out.blk.cell 22
  have c23 : w2.cell? ⟨mb, 23, none⟩ = some (.int .u64 M.res.2) := HM2.out.blk.cell 23
  have c24 : w2.cell? ⟨mb, 24, none⟩ = some (.slice At M.trace.length ct) := HM2.out.blk.cell 24
  have c25 : w2.cell? ⟨mb, 25, none⟩ = some (.int .i64 M.steps) := HM2.out.blk.cell 25
  have hlt := HM2.out.blk.lt
  obtain ⟨o0, o1, o2, o3, o4, o5, f0, f1, f2, f3, f4, f5, oz⟩ := HKO2.out.c6
  go_wp2
  obtain ⟨W3, hW3⟩ : ∃ W3, W3 = (((((w2.setCell ⟨w.heap.size + 1, 0, none⟩ (.int .i64 M.kind)).setCell ⟨w.heap.size + 1, 1, none⟩ (.int .u64 M.code)).setCell ⟨w.heap.size + 1, 2, none⟩ (.int .u64 M.res.1)).setCell ⟨w.heap.size + 1, 3, none⟩ (.int .u64 M.res.2)).setCell ⟨w.heap.size + 1, 4, none⟩ (.slice At M.trace.length ct)).setCell ⟨w.heap.size + 1, 5, none⟩ (.int .i64 M.steps) := ⟨_, rfl⟩
  rw [← hW3]
  have hK : Blk W3 (w.heap.size + 1) 36 #[.int .i64 M.kind, .int .u64 M.code, .int .u64 M.res.1, .int .u64 M.res.2, .slice At M.trace.length ct, .int .i64 M.steps] := by
    rw [hW3]
    exact (((((HKO2.out.set_ 0 _).set_ 1 _).set_ 2 _).set_ 3 _).set_ 4 _).set_ 5 _
  have htr : W3.ownsRow w.heap.size 33 2 (.slice At M.trace.length ct) M.trace.length (M.trace.flatMap vcl) := by
    have hne : ∀ j, (Value.slice At M.trace.length ct).ownBlock = some j → j ≠ w.heap.size + 1 := fun j e e' => blk_own_ne (gb := 0) HKO2.out HM2.out.tr (by decide) (by rw [e, e'])
    rw [hW3]
    exact own_base (own_miss8 (own_miss8 (own_miss8 (own_miss8 (own_miss8 (own_miss8 HM2.out.tr _ hne _) _ hne _) _ hne _) _ hne _) _ hne _) _ hne _) hs1
  have hB3 : Below w.heap.size w W3 := by
    rw [hW3]
    exact (((((HB2.out.setCell (Nat.le_succ _) _).setCell (Nat.le_succ _) _).setCell (Nat.le_succ _) _).setCell (Nat.le_succ _) _).setCell (Nat.le_succ _) _).setCell (Nat.le_succ _) _
  clear hW3 o0 o1 o2 o3 o4 o5 f0 f1 f2 f3 f4 f5
  obtain ⟨o0, o1, o2, o3, o4, o5, -⟩ := hK.c6
  refine bodyPost_ret (v := .tuple #[outV M At ct, .int .i64 0]) (by simp [outV, results, Tryd.results11, go_sem, o0, o1, o2, o3, o4, o5]) rfl ?_
  exact ⟨At, ct, rfl, hB3, htr⟩
def DepD (m : Mx) (w : World) (e : Ending) (w' : World) : Prop := e = .returned (.tuple #[.int .i64 m.deep, .int .i64 0]) ∧ Below w.heap.size w w'
set_option maxHeartbeats 1000000 in
theorem depth_any (ad : Addr) (p : List Fn) (cp : Nat) (Ai : Option Addr) (ni ci : Nat) (inp : List Nat) (F : Nat) (hF : F ≤ 100000) (Good : Mx → Prop) (w : World) (hT : Tb w) (hf : Fx w 0 w.heap.size (some ad) p) (hm : p.length ≤ maxLen) (hr : ∀ i, i < p.length → FnR (p.getD i Fn.z)) (hE : progE p = 0) (hp1 : 0 < p.length)
    (hg0 : Good ((Mx.start inp).call 0)) (hg : ∀ m, Good m → m.ended = false → m.steps < F → Fit8 p m ∧ Good (stepM p m)) :
    Calls Tryd.prog 14 #[.agg #[.slice (some ad) p.length cp], .slice Ai ni ci, .int .i64 (F : Int)] w (DepD (runM p F (F + 2) ((Mx.start inp).call 0)) w) := by
  obtain ⟨W1, hW1⟩ : ∃ W1, W1 = w.alloc (.cells #[.slice (some ad) p.length cp] 26) := ⟨_, rfl⟩
  have hB1 : Below w.heap.size w W1 := by rw [hW1]; exact (Below.refl _ _).alloc (Nat.le_refl _) _
  have HKP : Hid (Blk W1 w.heap.size 26 #[.slice (some ad) p.length cp]) := Lib.hid (by rw [hW1]; exact Blk.new _ _ _)
  have hs1 := hB1.size
  have HRUN := Lib.hid (run_any ad p cp Ai ni ci inp F hF Good W1 (hT.below hB1) ((hf.keep (Kp.of_below hB1 (Nat.le_refl _))).more (Nat.le_refl _) hs1) hm hr hE hp1 hg0 hg)
  have HB1 := Lib.hid hB1
  have HW1 := Lib.hid hW1
  clear hT hf hW1 hB1 hr hg hg0
  obtain ⟨q0, -, qz⟩ := blk_one HKP.out
  obtain ⟨M, hM⟩ : ∃ M, M = runM p F (F + 2) ((Mx.start inp).call 0) := ⟨_, rfl⟩
  rw [← hM]
  go_enter Tryd.func14, Tryd.ntmps14
  go_upto_region 1 with (fail)
  rw [← HW1.out]
  go_wp2_with fail
  refine HRUN.out.mono ?_
  rintro e w2 ⟨mb, rfl, b2, n, ad', pv, As, cs, At, ct, bl, hm2⟩
  rw [← hM] at hm2
  have HM2 := Lib.hid hm2
  have HB2 : Hid (Below w.heap.size w w2) := Lib.hid (HB1.out.trans (b2.mono hs1))
  clear b2 hm2 q0 qz hM HRUN
  obtain ⟨-, -, -, c19, -, -, -, hlt⟩ := HM2.out.cells
  go_wp2
  go_ret2
  exact ⟨rfl, HB2.out⟩
end Go.Proofs.YtillopkcmpcokaaDoor.pm
