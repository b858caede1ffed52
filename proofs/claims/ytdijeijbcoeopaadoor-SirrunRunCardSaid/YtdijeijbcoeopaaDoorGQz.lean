/- Runs that are refused; Run and Depth of the reference. -/
import Derived.Test.YtdijeijbcoeopaaDoorGNa
import Derived.Test.YtdijeijbcoeopaaDoorGRq
import Derived.Test.YtdijeijbcoeopaaDoorQu
import Derived.Test.YtdijeijbcoeopaaDoorGNr
set_option linter.unusedVariables false
set_option maxRecDepth 10000
set_option maxHeartbeats 8000000
namespace Go.Proofs.YtdijeijbcoeopaaDoor.pm
open Go.RowKit
section
variable {ad : Addr} {p : List Fn}
def errR (p : List Fn) (n : Int) : Int := if progE p ≠ 0 then progE p else if n < 0 ∨ 100000 < n then 4 else 0
theorem srun_bad (Ap : Option Addr) (p : List Fn) (cp : Nat) (Ai : Option Addr) (ni ci : Nat) (n : Int) (h0 : -9223372036854775808 ≤ n) (h1 : n ≤ 9223372036854775807) (hne : errR p n ≠ 0) (w : World) (hT : Tb w) (hf : Fx w 0 w.heap.size Ap p) (hm : p.length ≤ maxLen) (hr : ∀ i, i < p.length → FnR (p.getD i Fn.z)) :
 Calls Tryd.prog 23 #[.agg #[.slice Ap p.length cp], .slice Ai ni ci, .int .i64 n] w fun e w' => e = .returned (.tuple #[.pointer none, .int .i64 (errR p n)]) ∧ Below w.heap.size w w' := by
 obtain ⟨W1, hW1⟩ : ∃ W1, W1 = w.alloc (.cells #[.slice Ap p.length cp] 26) := ⟨_, rfl⟩
 have hB1 : Below w.heap.size w W1 := by rw [hW1]; exact bR.alloc nL _
 have HKP : Hid (Blk W1 w.heap.size 26 #[.slice Ap p.length cp]) := hQ (by rw [hW1]; exact Blk.new _ _ _)
 have HT1 := hQ (hT.below hB1)
 have HF1 := hQ (hf.keep (Kp.of_below hB1 nL))
 have HB1 := hQ hB1
 have HW1 := hQ hW1
 have HR := hQ hr
 have hs1 := hB1.size
 clear hT hf hW1 hB1 hr
 obtain ⟨q0, -, qz⟩ := blk_one HKP.out
 obtain ⟨E, hE⟩ : ∃ E, E = progE p := ⟨_, rfl⟩
 obtain ⟨R, hR⟩ : ∃ R, R = errR p n := ⟨_, rfl⟩
 rw [← hR] at hne ⊢
 unfold errR at hR
 rw [← hE] at hR
 have HCK : Hid (Calls Tryd.prog 29 #[.agg #[.slice Ap p.length cp]] W1 fun e w' => e = .returned (.int .i64 E) ∧ Below W1.heap.size W1 w') := hQ (by rw [hE]; exact check_any Ap p cp W1 _ _ HT1.out HF1.out hs1 hm HR.out)
 clear hE
 go_enter Tryd.func23, Tryd.ntmps23
 go_upto_region 1 with (fail)
 rw [← HW1.out]
 go_wp2_with fail
 refine HCK.out.mono ?_
 rintro e w2 ⟨rfl, bel2⟩
 have HB2 : Hid (Below w.heap.size w w2) := hQ (HB1.out.trans (bel2.mono hs1))
 clear bel2 q0 qz HCK
 by_cases he : E = 0
 · subst he
   rw [if_neg (by simp)] at hR
   by_cases hb : n < 0 ∨ 100000 < n
   · rw [if_pos hb] at hR
     subst hR
     rcases hb with hb | hb
     · go_wp2
       go_ret2
       exact ⟨rfl, HB2.out⟩
     · by_cases hb0 : n < 0
       · omega
       go_wp2
       go_ret2
       exact ⟨rfl, HB2.out⟩
   · rw [if_neg hb] at hR
     exact absurd hR hne
 · rw [if_pos he] at hR
   subst hR
   go_wp2
   go_ret2
   exact ⟨rfl, HB2.out⟩
theorem sRun_bad (Ap : Option Addr) (p : List Fn) (cp : Nat) (Ai : Option Addr) (ni ci : Nat) (n : Int) (h0 : -9223372036854775808 ≤ n) (h1 : n ≤ 9223372036854775807) (hne : errR p n ≠ 0) (w : World) (hT : Tb w) (hf : Fx w 0 w.heap.size Ap p) (hm : p.length ≤ maxLen) (hr : ∀ i, i < p.length → FnR (p.getD i Fn.z)) :
 Calls Tryd.prog 8 #[.agg #[.slice Ap p.length cp], .slice Ai ni ci, .int .i64 n] w fun e w' => e = .returned (.tuple #[outV (Mx.start []) none 0, .int .i64 (errR p n)]) ∧ Below w.heap.size w w' := by
 obtain ⟨W1, hW1⟩ : ∃ W1, W1 = (w.alloc (.cells #[.slice Ap p.length cp] 26)).alloc (.cells #[.int .i64 0, .int .u64 0, .int .u64 0, .int .u64 0, .slice none 0 0, .int .i64 0] 40) := ⟨_, rfl⟩
 have hB1 : Below w.heap.size w W1 := by rw [hW1]; exact (bR.alloc nL _).alloc (by simp) _
 have HKP : Hid (Blk W1 w.heap.size 26 #[.slice Ap p.length cp]) := hQ (by rw [hW1]; exact (Blk.new _ _ _).alloc _)
 have HKO : Hid (Blk W1 (w.heap.size + 1) 40 #[.int .i64 0, .int .u64 0, .int .u64 0, .int .u64 0, .slice none 0 0, .int .i64 0]) := hQ (by rw [hW1]; exact Blk.newAt (by simp))
 have hs1 := hB1.size
 have HRUN := hQ (srun_bad Ap p cp Ai ni ci n h0 h1 hne W1 (hT.below hB1) ((hf.keep (Kp.of_below hB1 nL)).more nL hs1) hm hr)
 have HB1 := hQ hB1
 have HW1 := hQ hW1
 clear hT hf hW1 hB1 hr
 obtain ⟨q0, -, qz⟩ := blk_one HKP.out
 obtain ⟨R, hR⟩ : ∃ R, R = errR p n := ⟨_, rfl⟩
 rw [← hR] at hne HRUN ⊢
 clear hR
 go_enter Tryd.func8, Tryd.ntmps8
 go_upto_region 1 with (fail)
 rw [← HW1.out]
 go_wp2_with fail
 refine HRUN.out.mono ?_
 rintro e w2 ⟨rfl, b2⟩
 have HB2 : Hid (Below w.heap.size w w2) := hQ (HB1.out.trans (b2.mono hs1))
 have HKO2 := hQ (HKO.out.after b2)
 clear b2 q0 qz HRUN
 obtain ⟨o0, o1, o2, o3, o4, o5, f0, f1, f2, f3, f4, f5, oz⟩ := HKO2.out.c6
 go_wp2
 have hK := (((((HKO2.out.set_ 0 (.int .i64 0)).set_ 1 (.int .u64 0)).set_ 2 (.int .u64 0)).set_ 3 (.int .u64 0)).set_ 4 (.slice none 0 0)).set_ 5 (.int .i64 0)
 have hB3 : Below w.heap.size w ((((((w2.setCell ⟨w.heap.size + 1, 0, none⟩ (.int .i64 0)).setCell ⟨w.heap.size + 1, 1, none⟩ (.int .u64 0)).setCell ⟨w.heap.size + 1, 2, none⟩ (.int .u64 0)).setCell ⟨w.heap.size + 1, 3, none⟩ (.int .u64 0)).setCell ⟨w.heap.size + 1, 4, none⟩ (.slice none 0 0)).setCell ⟨w.heap.size + 1, 5, none⟩ (.int .i64 0)) :=
  (((((HB2.out.setCell (Nat.le_succ _) _).setCell (Nat.le_succ _) _).setCell (Nat.le_succ _) _).setCell (Nat.le_succ _) _).setCell (Nat.le_succ _) _).setCell (Nat.le_succ _) _
 clear o0 o1 o2 o3 o4 o5 f0 f1 f2 f3 f4 f5
 obtain ⟨o0, o1, o2, o3, o4, o5, -⟩ := Blk.c6 (show Blk _ _ _ #[.int .i64 0, .int .u64 0, .int .u64 0, .int .u64 0, .slice none 0 0, .int .i64 0] from hK)
 refine bodyPost_ret (v := .tuple #[outV (Mx.start []) none 0, .int .i64 R]) (by simp [outV, Mx.start, results, Tryd.results8, go_sem, o0, o1, o2, o3, o4, o5]) rfl ?_
 exact ⟨rfl, hB3⟩
theorem sDepth_bad (Ap : Option Addr) (p : List Fn) (cp : Nat) (Ai : Option Addr) (ni ci : Nat) (n : Int) (h0 : -9223372036854775808 ≤ n) (h1 : n ≤ 9223372036854775807) (hne : errR p n ≠ 0) (w : World) (hT : Tb w) (hf : Fx w 0 w.heap.size Ap p) (hm : p.length ≤ maxLen) (hr : ∀ i, i < p.length → FnR (p.getD i Fn.z)) :
 Calls Tryd.prog 10 #[.agg #[.slice Ap p.length cp], .slice Ai ni ci, .int .i64 n] w fun e w' => e = .returned (.tuple #[.int .i64 0, .int .i64 (errR p n)]) ∧ Below w.heap.size w w' := by
 obtain ⟨W1, hW1⟩ : ∃ W1, W1 = w.alloc (.cells #[.slice Ap p.length cp] 26) := ⟨_, rfl⟩
 have hB1 : Below w.heap.size w W1 := by rw [hW1]; exact bR.alloc nL _
 have HKP : Hid (Blk W1 w.heap.size 26 #[.slice Ap p.length cp]) := hQ (by rw [hW1]; exact Blk.new _ _ _)
 have hs1 := hB1.size
 have HRUN := hQ (srun_bad Ap p cp Ai ni ci n h0 h1 hne W1 (hT.below hB1) ((hf.keep (Kp.of_below hB1 nL)).more nL hs1) hm hr)
 have HB1 := hQ hB1
 have HW1 := hQ hW1
 clear hT hf hW1 hB1 hr
 obtain ⟨q0, -, qz⟩ := blk_one HKP.out
 obtain ⟨R, hR⟩ : ∃ R, R = errR p n := ⟨_, rfl⟩
 rw [← hR] at hne HRUN ⊢
 clear hR
 go_enter Tryd.func10, Tryd.ntmps10
 go_upto_region 1 with (fail)
 rw [← HW1.out]
 go_wp2_with fail
 refine HRUN.out.mono ?_
 rintro e w2 ⟨rfl, b2⟩
 have HB2 : Hid (Below w.heap.size w w2) := hQ (HB1.out.trans (b2.mono hs1))
 clear b2 q0 qz HRUN
 go_wp2
 go_ret2
 exact ⟨rfl, HB2.out⟩
def RunA (M : Mx) (err : Int) (w : World) (e : Ending) (w' : World) : Prop :=
 ∃ At ct, e = .returned (.tuple #[outV M At ct, .int .i64 M.deep, .int .i64 err]) ∧ Below w.heap.size w w' ∧ Rx w' w.heap.size w'.heap.size 2 At M.trace.length (M.trace.flatMap vcl) ∧ M.trace.length ≤ ct
theorem refrun_bad (Ap : Option Addr) (p : List Fn) (cp : Nat) (Ai : Option Addr) (ni ci : Nat) (n : Int) (h0 : -9223372036854775808 ≤ n) (h1 : n ≤ 9223372036854775807) (hne : errR p n ≠ 0) (w : World) (hf : Fx w 0 w.heap.size Ap p) (hm : p.length ≤ maxLen) (hr : ∀ i, i < p.length → FnR (p.getD i Fn.z)) :
 Calls Tryd.prog 24 #[.agg #[.slice Ap p.length cp], .slice Ai ni ci, .int .i64 n] w (RunA (Mx.start []) (errR p n) w) := by
 obtain ⟨W1, hW1⟩ : ∃ W1, W1 = (w.alloc (.cells #[.slice Ap p.length cp] 26)).alloc (.cells #[.int .i64 0, .int .u64 0, .int .u64 0, .int .u64 0, .slice none 0 0, .int .i64 0] 40) := ⟨_, rfl⟩
 have hB1 : Below w.heap.size w W1 := by rw [hW1]; exact (bR.alloc nL _).alloc (by simp) _
 have HKP : Hid (Blk W1 w.heap.size 26 #[.slice Ap p.length cp]) := hQ (by rw [hW1]; exact (Blk.new _ _ _).alloc _)
 have HKO : Hid (Blk W1 (w.heap.size + 1) 40 #[.int .i64 0, .int .u64 0, .int .u64 0, .int .u64 0, .slice none 0 0, .int .i64 0]) := hQ (by rw [hW1]; exact Blk.newAt (by simp))
 have hs1 := hB1.size
 have HF1 := hQ (hf.keep (Kp.of_below hB1 nL))
 have HB1 := hQ hB1
 have HW1 := hQ hW1
 have HR := hQ hr
 clear hf hW1 hB1 hr
 obtain ⟨q0, -, qz⟩ := blk_one HKP.out
 obtain ⟨E, hE⟩ : ∃ E, E = progE p := ⟨_, rfl⟩
 obtain ⟨R, hR⟩ : ∃ R, R = errR p n := ⟨_, rfl⟩
 rw [← hR] at hne ⊢
 unfold errR at hR
 rw [← hE] at hR
 have HCK : Hid (Calls Tryd.prog 33 #[.agg #[.slice Ap p.length cp]] W1 fun e w' => e = .returned (.int .i64 E) ∧ Below W1.heap.size W1 w') := hQ (by rw [hE]; exact refcheck_any Ap p cp W1 _ _ HF1.out hs1 hm HR.out)
 have HRQ := hQ hR
 have HNE := hQ hne
 clear hE hR hne
 go_enter Tryd.func24, Tryd.ntmps24
 go_upto_region 1 with (fail)
 rw [← HW1.out]
 go_wp2_with fail
 refine HCK.out.mono ?_
 rintro e w2 ⟨rfl, bel2⟩
 have HB2 : Hid (Below w.heap.size w w2) := hQ (HB1.out.trans (bel2.mono hs1))
 have HKO2 := hQ (HKO.out.after bel2)
 clear bel2 q0 qz HCK
 obtain ⟨o0, o1, o2, o3, o4, o5, f0, f1, f2, f3, f4, f5, oz⟩ := HKO2.out.c6
 have hK := (((((HKO2.out.set_ 0 (.int .i64 0)).set_ 1 (.int .u64 0)).set_ 2 (.int .u64 0)).set_ 3 (.int .u64 0)).set_ 4 (.slice none 0 0)).set_ 5 (.int .i64 0)
 have hB3 : Below w.heap.size w ((((((w2.setCell ⟨w.heap.size + 1, 0, none⟩ (.int .i64 0)).setCell ⟨w.heap.size + 1, 1, none⟩ (.int .u64 0)).setCell ⟨w.heap.size + 1, 2, none⟩ (.int .u64 0)).setCell ⟨w.heap.size + 1, 3, none⟩ (.int .u64 0)).setCell ⟨w.heap.size + 1, 4, none⟩ (.slice none 0 0)).setCell ⟨w.heap.size + 1, 5, none⟩ (.int .i64 0)) :=
  (((((HB2.out.setCell (Nat.le_succ _) _).setCell (Nat.le_succ _) _).setCell (Nat.le_succ _) _).setCell (Nat.le_succ _) _).setCell (Nat.le_succ _) _).setCell (Nat.le_succ _) _
 obtain ⟨z0, z1, z2, z3, z4, z5, -⟩ := Blk.c6 (show Blk _ _ _ #[.int .i64 0, .int .u64 0, .int .u64 0, .int .u64 0, .slice none 0 0, .int .i64 0] from hK)
 have Z0 := hQ z0
 have Z1 := hQ z1
 have Z2 := hQ z2
 have Z3 := hQ z3
 have Z4 := hQ z4
 have Z5 := hQ z5
 have HB3 := hQ hB3
 clear hK hB3 z0 z1 z2 z3 z4 z5
 have hR := HRQ.out
 have hne := HNE.out
 by_cases he : E = 0
 · subst he
   rw [if_neg (by simp)] at hR
   by_cases hb : n < 0 ∨ 100000 < n
   · rw [if_pos hb] at hR
     subst hR
     rcases hb with hb | hb
     · go_wp2
       refine bodyPost_ret (v := .tuple #[outV (Mx.start []) none 0, .int .i64 0, .int .i64 4]) (by simp [outV, Mx.start, results, Tryd.results24, go_sem, Z0.out, Z1.out, Z2.out, Z3.out, Z4.out, Z5.out]) rfl ?_
       exact ⟨none, 0, rfl, HB3.out, Rx.nil _ _ _ _, Nat.le_refl _⟩
     · by_cases hb0 : n < 0
       · omega
       go_wp2
       refine bodyPost_ret (v := .tuple #[outV (Mx.start []) none 0, .int .i64 0, .int .i64 4]) (by simp [outV, Mx.start, results, Tryd.results24, go_sem, Z0.out, Z1.out, Z2.out, Z3.out, Z4.out, Z5.out]) rfl ?_
       exact ⟨none, 0, rfl, HB3.out, Rx.nil _ _ _ _, Nat.le_refl _⟩
   · rw [if_neg hb] at hR
     exact absurd hR hne
 · rw [if_pos he] at hR
   subst hR
   have hEb : (R != 0) = true := by simpa using he
   have HHE := hQ he
   clear he hne HRQ HNE HF1 HR
   go_upto_region 3 with (fail)
   go_wp2
   refine bodyPost_ret (v := .tuple #[outV (Mx.start []) none 0, .int .i64 0, .int .i64 R]) (by simp [outV, Mx.start, results, Tryd.results24, go_sem, Z0.out, Z1.out, Z2.out, Z3.out, Z4.out, Z5.out]) rfl ?_
   exact ⟨none, 0, rfl, HB3.out, Rx.nil _ _ _ _, Nat.le_refl _⟩
end
def OutA (M : Mx) (err : Int) (w : World) (e : Ending) (w' : World) : Prop :=
 ∃ At ct, e = .returned (.tuple #[outV M At ct, .int .i64 err]) ∧ Below w.heap.size w w' ∧ Rx w' w.heap.size w'.heap.size 2 At M.trace.length (M.trace.flatMap vcl) ∧ M.trace.length ≤ ct
def DepA (M : Mx) (err : Int) (w : World) (e : Ending) (w' : World) : Prop := e = .returned (.tuple #[.int .i64 M.deep, .int .i64 err]) ∧ Below w.heap.size w w'
section
variable {p : List Fn}
theorem refRun_w (Ap : Option Addr) (p : List Fn) (cp : Nat) (Ai : Option Addr) (ni ci : Nat) (n : Int) (M : Mx) (R : Int) (w : World) (hrun : ∀ W, Below w.heap.size w W → Calls Tryd.prog 24 #[.agg #[.slice Ap p.length cp], .slice Ai ni ci, .int .i64 n] W (RunA M R W)) :
 Calls Tryd.prog 9 #[.agg #[.slice Ap p.length cp], .slice Ai ni ci, .int .i64 n] w (OutA M R w) := by
 obtain ⟨W1, hW1⟩ : ∃ W1, W1 = (w.alloc (.cells #[.slice Ap p.length cp] 26)).alloc (.cells #[.int .i64 0, .int .u64 0, .int .u64 0, .int .u64 0, .slice none 0 0, .int .i64 0] 40) := ⟨_, rfl⟩
 have hB1 : Below w.heap.size w W1 := by rw [hW1]; exact (bR.alloc nL _).alloc (by simp) _
 have HKP : Hid (Blk W1 w.heap.size 26 #[.slice Ap p.length cp]) := hQ (by rw [hW1]; exact (Blk.new _ _ _).alloc _)
 have HKO : Hid (Blk W1 (w.heap.size + 1) 40 #[.int .i64 0, .int .u64 0, .int .u64 0, .int .u64 0, .slice none 0 0, .int .i64 0]) := hQ (by rw [hW1]; exact Blk.newAt (by simp))
 have hs1 := hB1.size
 have HRUN := hQ (hrun W1 hB1)
 have HB1 := hQ hB1
 have HW1 := hQ hW1
 have hz1 : w.heap.size + 1 < W1.heap.size := HKO.out.lt
 clear hW1 hB1 hrun
 obtain ⟨q0, -, qz⟩ := blk_one HKP.out
 go_enter Tryd.func9, Tryd.ntmps9
 go_upto_region 1 with (fail)
 rw [← HW1.out]
 go_wp2_with fail
 refine HRUN.out.mono ?_
 rintro e w2 ⟨At, ct, rfl, b2, htr, hct⟩
 unfold outV
 obtain ⟨tl, htl⟩ : ∃ tl, tl = M.trace.length := ⟨_, rfl⟩
 rw [← htl]
 obtain ⟨W3, hW3⟩ : ∃ W, W = w2.alloc (.cells #[.int .i64 M.kind, .int .u64 M.code, .int .u64 M.res.1, .int .u64 M.res.2, .slice At tl ct, .int .i64 M.steps] 40) := ⟨_, rfl⟩
 obtain ⟨g8, hg8⟩ : ∃ g, g = w2.heap.size := ⟨_, rfl⟩
 have hb3 : Below w2.heap.size w2 W3 := by rw [hW3]; exact bR.alloc nL _
 have HK8 : Hid (Blk W3 g8 40 #[.int .i64 M.kind, .int .u64 M.code, .int .u64 M.res.1, .int .u64 M.res.2, .slice At tl ct, .int .i64 M.steps]) := hQ (by rw [hW3, hg8]; exact Blk.new _ _ _)
 have HKO3 := hQ ((HKO.out.after b2).after hb3)
 have HB3 : Hid (Below w.heap.size w W3) := hQ ((HB1.out.trans (b2.mono hs1)).trans (hb3.mono (Nat.le_trans hs1 b2.size)))
 have HTR : Hid (Rx W3 W1.heap.size w2.heap.size 2 At M.trace.length (M.trace.flatMap vcl)) := hQ (htr.keep (Kp.of_below hb3 nL))
 have HCT := hQ hct
 have HTL := hQ htl
 have hz2 : W1.heap.size ≤ w2.heap.size := b2.size
 have hg8z : w.heap.size + 1 < g8 := by omega
 have hz3 : w2.heap.size ≤ W3.heap.size := hb3.size
 have HW3 := hQ hW3
 have HG8 := hQ hg8
 clear hW3 hg8 hb3 htr hct htl b2 q0 qz HRUN
 go_upto_region 2 with (fail)
 rw [← HW3.out, ← HG8.out]
 obtain ⟨o0, o1, o2, o3, o4, o5, f0, f1, f2, f3, f4, f5, oz⟩ := HKO3.out.c6
 obtain ⟨x0, x1, x2, x3, x4, x5, -, -, -, -, -, -, xz⟩ := HK8.out.c6
 have hne8 : ¬ g8 = w.heap.size + 1 := by omega
 have hne9 : ¬ w.heap.size + 1 = g8 := by omega
 clear HW3 HG8
 go_wp2
 have hK := (((((HKO3.out.set_ 0 (.int .i64 M.kind)).set_ 1 (.int .u64 M.code)).set_ 2 (.int .u64 M.res.1)).set_ 3 (.int .u64 M.res.2)).set_ 4 (.slice At tl ct)).set_ 5 (.int .i64 M.steps)
 have hBz := (((((HB3.out.setCell (p := ⟨w.heap.size + 1, 0, none⟩) (Nat.le_succ _) (.int .i64 M.kind)).setCell (p := ⟨w.heap.size + 1, 1, none⟩) (Nat.le_succ _) (.int .u64 M.code)).setCell (p := ⟨w.heap.size + 1, 2, none⟩) (Nat.le_succ _) (.int .u64 M.res.1)).setCell (p := ⟨w.heap.size + 1, 3, none⟩) (Nat.le_succ _) (.int .u64 M.res.2)).setCell (p := ⟨w.heap.size + 1, 4, none⟩) (Nat.le_succ _) (.slice At tl ct)).setCell (p := ⟨w.heap.size + 1, 5, none⟩) (Nat.le_succ _) (.int .i64 M.steps)
 have hk9 := ((((((Kp.refl W1.heap.size w2.heap.size W3).set (p := ⟨w.heap.size + 1, 0, none⟩) (.inl hz1) (.int .i64 M.kind)).set (p := ⟨w.heap.size + 1, 1, none⟩) (.inl hz1) (.int .u64 M.code)).set (p := ⟨w.heap.size + 1, 2, none⟩) (.inl hz1) (.int .u64 M.res.1)).set (p := ⟨w.heap.size + 1, 3, none⟩) (.inl hz1) (.int .u64 M.res.2)).set (p := ⟨w.heap.size + 1, 4, none⟩) (.inl hz1) (.slice At tl ct)).set (p := ⟨w.heap.size + 1, 5, none⟩) (.inl hz1) (.int .i64 M.steps)
 generalize hW9 : (((((W3.setCell ⟨w.heap.size + 1, 0, none⟩ (.int .i64 M.kind)).setCell ⟨w.heap.size + 1, 1, none⟩ (.int .u64 M.code)).setCell ⟨w.heap.size + 1, 2, none⟩ (.int .u64 M.res.1)).setCell ⟨w.heap.size + 1, 3, none⟩ (.int .u64 M.res.2)).setCell ⟨w.heap.size + 1, 4, none⟩ (.slice At tl ct)).setCell ⟨w.heap.size + 1, 5, none⟩ (.int .i64 M.steps) = W9 at hK hBz hk9 ⊢
 have hz9 : W9.heap.size = W3.heap.size := by rw [← hW9]; simp [World.setCell]
 clear o0 o1 o2 o3 o4 o5 f0 f1 f2 f3 f4 f5 x0 x1 x2 x3 x4 x5 hW9
 obtain ⟨o0, o1, o2, o3, o4, o5, -⟩ := Blk.c6 (show Blk W9 _ _ #[.int .i64 M.kind, .int .u64 M.code, .int .u64 M.res.1, .int .u64 M.res.2, .slice At tl ct, .int .i64 M.steps] from hK)
 refine bodyPost_ret (v := .tuple #[.agg #[.int .i64 M.kind, .int .u64 M.code, .int .u64 M.res.1, .int .u64 M.res.2, .slice At tl ct, .int .i64 M.steps], .int .i64 R]) (by simp [results, Tryd.results9, go_sem, o0, o1, o2, o3, o4, o5]) rfl ?_
 refine ⟨At, ct, by unfold outV; rw [HTL.out], hBz, ?_, HCT.out⟩
 exact (HTR.out.keep hk9).more hs1 (by omega)
theorem refDepth_w (Ap : Option Addr) (p : List Fn) (cp : Nat) (Ai : Option Addr) (ni ci : Nat) (n : Int) (M : Mx) (R : Int) (w : World) (hrun : ∀ W, Below w.heap.size w W → Calls Tryd.prog 24 #[.agg #[.slice Ap p.length cp], .slice Ai ni ci, .int .i64 n] W (RunA M R W)) :
 Calls Tryd.prog 11 #[.agg #[.slice Ap p.length cp], .slice Ai ni ci, .int .i64 n] w (DepA M R w) := by
 obtain ⟨W1, hW1⟩ : ∃ W1, W1 = w.alloc (.cells #[.slice Ap p.length cp] 26) := ⟨_, rfl⟩
 have hB1 : Below w.heap.size w W1 := by rw [hW1]; exact bR.alloc nL _
 have HKP : Hid (Blk W1 w.heap.size 26 #[.slice Ap p.length cp]) := hQ (by rw [hW1]; exact Blk.new _ _ _)
 have hs1 := hB1.size
 have HRUN := hQ (hrun W1 hB1)
 have HB1 := hQ hB1
 have HW1 := hQ hW1
 clear hW1 hB1 hrun
 obtain ⟨q0, -, qz⟩ := blk_one HKP.out
 go_enter Tryd.func11, Tryd.ntmps11
 go_upto_region 1 with (fail)
 rw [← HW1.out]
 go_wp2_with fail
 refine HRUN.out.mono ?_
 rintro e w2 ⟨At, ct, rfl, b2, htr, hct⟩
 unfold outV
 have HB2 : Hid (Below w.heap.size w w2) := hQ (HB1.out.trans (b2.mono hs1))
 have hs2 := b2.size
 clear htr hct b2 q0 qz HRUN
 go_wp2
 go_ret2
 exact ⟨rfl, Below.al HB2.out _⟩
end
section
variable {mb ca ct cp : Nat} {pv iv : Value} {As At : Option Addr} {p : List Fn} {ad : Addr} {s : Sx8}
theorem sstart_at {w : World} {inp : List Nat} (hb : Blk w mb 83 (rcs pv iv (.slice none 0 0) (.slice none 0 0) (Sx8.start inp))) : SAt w mb pv iv none 0 none 0 (Sx8.start inp) :=
 ⟨hb, ⟨[], Rx.nil _ _ _ _, fun i hi => absurd hi (Nat.not_lt_zero i)⟩, Rx.nil _ _ _ _, ⟨Nat.le_refl _, Nat.le_refl _⟩⟩
theorem start_eq (p : List Fn) (inp : List Nat) : (Sx8.start inp).enter p 0 = toS p ((Mx.start inp).call 0) := by
 rw [toS_call]
 rfl
def sstepsAt (w : World) (mb : Nat) : Nat :=
 match w.cell? ⟨mb, 26, none⟩ with
 | some (.int _ n) => n.toNat
 | _ => 0
theorem SAt.stepsAt {w : World} (h : SAt w mb pv iv As ca At ct s) : sstepsAt w mb = s.steps := by
 obtain ⟨-, -, -, -, -, -, c26, -⟩ := h.cells
 unfold sstepsAt
 rw [c26]
 simp
def RunS (M : Mx) (w : World) (e : Ending) (w' : World) : Prop :=
 ∃ At ct, e = .returned (.tuple #[outV M At ct, .int .i64 M.deep, .int .i64 0]) ∧ Below w.heap.size w w' ∧ Rx w' w.heap.size w'.heap.size 2 At M.trace.length (M.trace.flatMap vcl) ∧ M.trace.length ≤ ct
theorem refrun_x (ad : Addr) (p : List Fn) (cp : Nat) (iv0 : Value) (inp : List Nat) (F : Nat) (hF : F ≤ 100000) (w : World) (hf : Fx w 0 w.heap.size (some ad) p) (hm : p.length ≤ maxLen) (hr : ∀ i, i < p.length → FnR (p.getD i Fn.z)) (hE : progE p = 0) (hin : InX w w.heap.size iv0 inp)
 (hp : GP p) (hi64 : ∀ v ∈ inp, v < 18446744073709551616) :
 Calls Tryd.prog 24 #[.agg #[.slice (some ad) p.length cp], iv0, .int .i64 (F : Int)] w (RunS (runX p F (F + 2) ((Mx.start inp).call 0)) w) := by
 obtain ⟨Ai, ci, rfl, hi1, hi2, hi3⟩ := hin
 obtain ⟨ni, hni⟩ : ∃ ni, ni = inp.length := ⟨_, rfl⟩
 have HIN : Hid (InX w w.heap.size (.slice Ai ni ci) inp) := hQ (by rw [hni]; exact ⟨Ai, ci, rfl, hi1, hi2, hi3⟩)
 rw [← hni]
 clear hi1 hi2 hi3 hni
 have hp1 : 0 < p.length := hp.len.1
 have hp8 : p.length ≤ 80 := hp.len.2
 obtain ⟨W1, hW1⟩ : ∃ W1, W1 = (w.alloc (.cells #[.slice (some ad) p.length cp] 26)).alloc (.cells #[.int .i64 0, .int .u64 0, .int .u64 0, .int .u64 0, .slice none 0 0, .int .i64 0] 40) := ⟨_, rfl⟩
 have hB1 : Below w.heap.size w W1 := by rw [hW1]; exact (bR.alloc nL _).alloc (by simp) _
 have HKP : Hid (Blk W1 w.heap.size 26 #[.slice (some ad) p.length cp]) := hQ (by rw [hW1]; exact (Blk.new _ _ _).alloc _)
 have HKO : Hid (Blk W1 (w.heap.size + 1) 40 #[.int .i64 0, .int .u64 0, .int .u64 0, .int .u64 0, .slice none 0 0, .int .i64 0]) := hQ (by rw [hW1]; exact Blk.newAt (by simp))
 have HF0 := hQ hf
 have HF1 := hQ (hf.keep (Kp.of_below hB1 nL))
 have HB1 := hQ hB1
 have HW1 := hQ hW1
 have HR := hQ hr
 have HP := hQ hp
 have HG0 := hQ (good_start hp hi64)
 have hs1 := hB1.size
 have hF0 : (0 : Int) ≤ (F : Int) := by omega
 have hF1 : (F : Int) ≤ 100000 := by omega
 clear hf hW1 hB1 hr hp
 obtain ⟨q0, -, qz⟩ := blk_one HKP.out
 obtain ⟨RR, hRR⟩ : ∃ R, R = runX p F (F + 2) ((Mx.start inp).call 0) := ⟨_, rfl⟩
 rw [← hRR]
 have HRR := hQ hRR
 clear hRR
 go_enter Tryd.func24, Tryd.ntmps24
 go_upto_region 1 with (fail)
 rw [← HW1.out]
 go_wp2_with fail
 refine (refcheck_any (some ad) p cp W1 _ _ HF1.out hs1 hm HR.out).mono ?_
 rintro e w2 ⟨rfl, bel2⟩
 rw [hE]
 have HB2 : Hid (Below w.heap.size w w2) := hQ (HB1.out.trans (bel2.mono hs1))
 have HKP2 := hQ (HKP.out.after bel2)
 have HKO2 := hQ (HKO.out.after bel2)
 have hs2 : W1.heap.size ≤ w2.heap.size := bel2.size
 have hgo : w.heap.size + 1 < W1.heap.size := HKO.out.lt
 clear bel2 q0 qz
 obtain ⟨q0, -, qz⟩ := blk_one HKP2.out
 go_upto_region 7 with (fail)
 obtain ⟨W3, hW3⟩ : ∃ W3, W3 = w2.alloc (.cells (rcs (.slice (some ad) p.length cp) (.slice Ai ni ci) (.slice none 0 0) (.slice none 0 0) (Sx8.start inp)) 83) := ⟨_, rfl⟩
 have hW3' : W3 = w2.alloc (.cells #[.slice (some ad) p.length cp, .int .u64 0, .int .u64 0, .int .u64 0, .int .u64 0, .int .u64 0, .int .u64 0, .int .u64 0, .int .u64 0, .int .u64 0, .int .u64 0, .int .u64 0, .int .u64 0, .int .u64 0, .int .u64 0, .int .u64 0, .int .u64 0, .slice none 0 0, .slice Ai ni ci, .int .i64 0, .bool false, .int .i64 0, .int .u64 0, .int .u64 0, .int .u64 0, .slice none 0 0, .int .i64 0] 83) := hW3
 obtain ⟨mb, hmb⟩ : ∃ mb, mb = w2.heap.size := ⟨_, rfl⟩
 have HM3 : Hid (SAt W3 mb (.slice (some ad) p.length cp) (.slice Ai ni ci) none 0 none 0 (Sx8.start inp)) := hQ (sstart_at (by rw [hW3]; exact Blk.newAt hmb))
 have HB3 : Hid (Below w.heap.size w W3) := hQ (by rw [hW3]; exact HB2.out.alloc HB2.out.size _)
 have HKO3 : Hid (Blk W3 (w.heap.size + 1) 40 #[.int .i64 0, .int .u64 0, .int .u64 0, .int .u64 0, .slice none 0 0, .int .i64 0]) := hQ (by rw [hW3]; exact HKO2.out.alloc _)
 rw [← hW3', ← hmb]
 have hBm : w.heap.size ≤ mb := by omega
 have hgm : w.heap.size + 1 < mb := by omega
 have HFM : Hid (∀ W, Below w.heap.size w W → Fx W 0 mb (some ad) p) := hQ (fun W h => (HF0.out.keep (Kp.of_below h nL)).more nL hBm)
 have HEN := hQ (senter_any (p := p) W3 0 hp1 HM3.out (HFM.out W3 HB3.out) (by simp [Sx8.start]) (by have := (HP.out.fns 0 hp1).ns; omega) (by omega))
 clear hW3 hW3' hmb q0 qz HKP HKP2 HKO HKO2
 go_wp2_with fail
 refine HEN.out.mono ?_
 rintro e w4 ⟨rfl, g4, As4, cs4, m4⟩
 rw [start_eq p inp] at m4
 have HM4 := hQ m4
 have HKO4 := hQ (HKO3.out.grown g4 (some_ne (by omega)))
 have HB4 : Hid (Below w.heap.size w w4) := hQ (HB3.out.trans (below_of_grownR g4 (fun k hk => by injection hk; omega) HB3.out.size))
 clear m4 g4 HM3 HB3 HKO3 HEN
 go_wp2
 go_loopw [] (fun wr => ∃ M iv As ca At ct, Good p M ∧ Hid (M.ended = false → NA M.acts) ∧ Hid (SAt wr mb (.slice (some ad) p.length cp) iv As ca At ct (toS p M)) ∧ Hid (InX wr mb iv M.inp) ∧ Hid (Below w.heap.size w wr) ∧ Hid (Blk wr (w.heap.size + 1) 40 #[.int .i64 0, .int .u64 0, .int .u64 0, .int .u64 0, .slice none 0 0, .int .i64 0]) ∧ M.steps ≤ F ∧ Hid (runX p F (F + 2 - M.steps) M = RR)) (fun wr => F + 1 - sstepsAt wr mb)
 case atStart => exact ⟨_, _, _, _, _, _, HG0.out, hQ (fun _ => NA.one), HM4, hQ ((HIN.out.after HB4.out).more hBm), HB4, HKO4, by simp [Mx.start, Mx.call], hQ (by rw [HRR.out]; simp [Mx.start, Mx.call])⟩
 case round =>
  obtain ⟨M, iv, As, ca, At, ct, hgM, HNA, HM, HI, HB, HK, hst, HQ⟩ := hrel
  have hlt := HM.out.blk.lt
  have hsti : (M.steps : Int) ≤ (F : Int) := by omega
  have c26 : wr.cell? ⟨mb, 26, none⟩ = some (.int .i64 M.steps) := HM.out.blk.cell 26
  have c20 : wr.cell? ⟨mb, 20, none⟩ = some (.bool M.ended) := HM.out.blk.cell 20
  rcases hen : M.ended with _ | _
  · rw [hen] at c20
    by_cases hle : F ≤ M.steps
    · have hli : (F : Int) ≤ (M.steps : Int) := by omega
      have HE : Hid (RR = M.stop 4) := hQ (by
       rw [← HQ.out, show F + 2 - M.steps = 1 + 1 by omega]
       unfold runX
       rw [hen, if_neg (by decide), if_pos hle])
      have HSE := hQ (send_any wr 4 HM.out)
      go_wp2_with fail
      refine HSE.out.mono ?_
      rintro e w5 ⟨rfl, m5, g5⟩
      have m5' : SAt w5 mb (.slice (some ad) p.length cp) iv As ca At ct (toS p (M.stop 4)) := m5
      have HMf := hQ m5'
      have HKf := hQ (HK.out.grown g5 (some_ne (by omega)))
      have HBf : Hid (Below w.heap.size w w5) := hQ (HB.out.trans (below_of_grownR g5 (fun k hk => by injection hk; omega) HB.out.size))
      clear m5 m5' g5 c20 c26 HSE HM HK HB
      generalize M.stop 4 = MM at *
      have c21 : w5.cell? ⟨mb, 21, none⟩ = some (.int .i64 MM.kind) := HMf.out.blk.cell 21
      have c22 : w5.cell? ⟨mb, 22, none⟩ = some (.int .u64 MM.code) := HMf.out.blk.cell 22
      have c23 : w5.cell? ⟨mb, 23, none⟩ = some (.int .u64 MM.res.1) := HMf.out.blk.cell 23
      have c24 : w5.cell? ⟨mb, 24, none⟩ = some (.int .u64 MM.res.2) := HMf.out.blk.cell 24
      have c25 : w5.cell? ⟨mb, 25, none⟩ = some (.slice At MM.trace.length ct) := HMf.out.blk.cell 25
      have c26 : w5.cell? ⟨mb, 26, none⟩ = some (.int .i64 MM.steps) := HMf.out.blk.cell 26
      have c19 : w5.cell? ⟨mb, 19, none⟩ = some (.int .i64 MM.deep) := HMf.out.blk.cell 19
      have hltf := HMf.out.blk.lt
      obtain ⟨o0, o1, o2, o3, o4, o5, f0, f1, f2, f3, f4, f5, oz⟩ := HKf.out.c6
      have hmo : ¬ mb = w.heap.size + 1 := by omega
      have hom : ¬ w.heap.size + 1 = mb := by omega
      have hog : w.heap.size + 1 < mb + 1 := by omega
      go_upto_region 12 with (fail)
      go_region
      go_wp2
      obtain ⟨W9, hW9⟩ : ∃ W, W = (((((w5.setCell ⟨w.heap.size + 1, 0, none⟩ (.int .i64 MM.kind)).setCell ⟨w.heap.size + 1, 1, none⟩ (.int .u64 MM.code)).setCell ⟨w.heap.size + 1, 2, none⟩ (.int .u64 MM.res.1)).setCell ⟨w.heap.size + 1, 3, none⟩ (.int .u64 MM.res.2)).setCell ⟨w.heap.size + 1, 4, none⟩ (.slice At MM.trace.length ct)).setCell ⟨w.heap.size + 1, 5, none⟩ (.int .i64 MM.steps) := ⟨_, rfl⟩
      rw [← hW9]
      have hKo : Blk W9 (w.heap.size + 1) 40 #[.int .i64 MM.kind, .int .u64 MM.code, .int .u64 MM.res.1, .int .u64 MM.res.2, .slice At MM.trace.length ct, .int .i64 MM.steps] := by
       rw [hW9]
       exact (((((HKf.out.set_ 0 _).set_ 1 _).set_ 2 _).set_ 3 _).set_ 4 _).set_ 5 _
      have hB9 : Below w.heap.size w W9 := by
       rw [hW9]
       exact (((((HBf.out.setCell (Nat.le_succ _) _).setCell (Nat.le_succ _) _).setCell (Nat.le_succ _) _).setCell (Nat.le_succ _) _).setCell (Nat.le_succ _) _).setCell (Nat.le_succ _) _
      have hk9 : Kp (mb + 1) w5.heap.size w5 W9 := by
       rw [hW9]
       exact ((((((Kp.refl _ _ _).set (.inl hog) _).set (.inl hog) _).set (.inl hog) _).set (.inl hog) _).set (.inl hog) _).set (.inl hog) _
      have hz9 : W9.heap.size = w5.heap.size := by rw [hW9]; simp [World.setCell]
      have htr : Rx W9 w.heap.size W9.heap.size 2 At MM.trace.length (MM.trace.flatMap vcl) := by
       rw [hz9]
       exact (HMf.out.tr.keep hk9).more (by omega) nL
      have hcp : MM.trace.length ≤ ct := HMf.out.caps.2
      clear hW9 o0 o1 o2 o3 o4 o5 f0 f1 f2 f3 f4 f5
      obtain ⟨o0, o1, o2, o3, o4, o5, -⟩ := (show Blk W9.drew _ _ _ from hKo.drew).c6
      refine bodyPost_ret (v := .tuple #[outV MM At ct, .int .i64 MM.deep, .int .i64 0]) (by simp [outV, results, Tryd.results24, go_sem, o0, o1, o2, o3, o4, o5]) rfl ?_
      exact ⟨At, ct, by rw [HE.out], hB9.drew, by rw [HE.out]; exact htr, by rw [HE.out]; exact hcp⟩
    · have hli : ¬ (F : Int) ≤ (M.steps : Int) := by omega
      have hgi : GI p M := by
       rcases hgM.1 with h | h
       · rw [hen] at h; cases h
       · exact h
      have hgs := good_step HP.out hgM hen (by omega)
      have hacts := hgM.2.1
      have htrl := hgM.2.2
      have HST := hQ (sstep_x wr HP.out hgi (HNA.out hen) (by omega) (by omega) (by omega) hen HM.out (HFM.out wr HB.out) HI.out)
      have HG5 := hQ hgs.2
      have HN5 : Hid ((stepX p M).ended = false → NA (stepX p M).acts) := hQ (fun _ => (sim_step HP.out hgi (HNA.out hen) (by omega)).2)
      have HE : Hid (runX p F (F + 2 - (M.steps + 1)) (stepX p M) = RR) := hQ (by
       rw [← HQ.out, show F + 2 - M.steps = (F + 2 - (M.steps + 1)) + 1 by omega]
       conv => rhs; unfold runX
       rw [hen, if_neg (by decide), if_neg hle])
      clear hgi hgs hacts htrl
      go_wp2_with fail
      refine HST.out.mono ?_
      rintro e w5 ⟨rfl, g5, iv5, As5, cs5, At5, ct5, m5, i5⟩
      have HM5 := hQ m5
      have HI5 : Hid (InX w5 mb iv5 (stepX p M).inp) := hQ i5
      have HK5 := hQ (HK.out.grown g5 (some_ne (by omega)))
      have HB5 : Hid (Below w.heap.size w w5) := hQ (HB.out.trans (below_of_grownR g5 (fun k hk => by injection hk; omega) HB.out.size))
      have HS0 : Hid (sstepsAt wr mb = M.steps) := hQ HM.out.stepsAt
      have HS5 : Hid (sstepsAt w5 mb = (stepX p M).steps) := hQ HM5.out.stepsAt
      clear m5 g5 i5 c20 c26 HST
      go_wp2
      go_roundw
      case rel => exact ⟨_, _, _, _, _, _, HG5.out, HN5, HM5, HI5, HB5, HK5, by rw [steps_stepX]; omega, hQ (by rw [steps_stepX]; exact HE.out)⟩
      case measure => rw [HS0.out, HS5.out, steps_stepX]; omega
  · rw [hen] at c20
    have HE : Hid (RR = M) := hQ (by
     rw [← HQ.out, show F + 2 - M.steps = (F + 1 - M.steps) + 1 by omega]
     unfold runX
     rw [hen, if_pos rfl])
    have HMf := HM
    have HKf := HK
    have HBf := HB
    clear c26 HM HK HB
    generalize M = MM at *
    have c21 : wr.cell? ⟨mb, 21, none⟩ = some (.int .i64 MM.kind) := HMf.out.blk.cell 21
    have c22 : wr.cell? ⟨mb, 22, none⟩ = some (.int .u64 MM.code) := HMf.out.blk.cell 22
    have c23 : wr.cell? ⟨mb, 23, none⟩ = some (.int .u64 MM.res.1) := HMf.out.blk.cell 23
    have c24 : wr.cell? ⟨mb, 24, none⟩ = some (.int .u64 MM.res.2) := HMf.out.blk.cell 24
    have c25 : wr.cell? ⟨mb, 25, none⟩ = some (.slice At MM.trace.length ct) := HMf.out.blk.cell 25
    have c26 : wr.cell? ⟨mb, 26, none⟩ = some (.int .i64 MM.steps) := HMf.out.blk.cell 26
    have c19 : wr.cell? ⟨mb, 19, none⟩ = some (.int .i64 MM.deep) := HMf.out.blk.cell 19
    have hltf := HMf.out.blk.lt
    obtain ⟨o0, o1, o2, o3, o4, o5, f0, f1, f2, f3, f4, f5, oz⟩ := HKf.out.c6
    have hmo : ¬ mb = w.heap.size + 1 := by omega
    have hom : ¬ w.heap.size + 1 = mb := by omega
    have hog : w.heap.size + 1 < mb + 1 := by omega
    go_upto_region 12 with (fail)
    go_region
    go_wp2
    obtain ⟨W9, hW9⟩ : ∃ W, W = (((((wr.setCell ⟨w.heap.size + 1, 0, none⟩ (.int .i64 MM.kind)).setCell ⟨w.heap.size + 1, 1, none⟩ (.int .u64 MM.code)).setCell ⟨w.heap.size + 1, 2, none⟩ (.int .u64 MM.res.1)).setCell ⟨w.heap.size + 1, 3, none⟩ (.int .u64 MM.res.2)).setCell ⟨w.heap.size + 1, 4, none⟩ (.slice At MM.trace.length ct)).setCell ⟨w.heap.size + 1, 5, none⟩ (.int .i64 MM.steps) := ⟨_, rfl⟩
    rw [← hW9]
    have hKo : Blk W9 (w.heap.size + 1) 40 #[.int .i64 MM.kind, .int .u64 MM.code, .int .u64 MM.res.1, .int .u64 MM.res.2, .slice At MM.trace.length ct, .int .i64 MM.steps] := by
     rw [hW9]
     exact (((((HKf.out.set_ 0 _).set_ 1 _).set_ 2 _).set_ 3 _).set_ 4 _).set_ 5 _
    have hB9 : Below w.heap.size w W9 := by
     rw [hW9]
     exact (((((HBf.out.setCell (Nat.le_succ _) _).setCell (Nat.le_succ _) _).setCell (Nat.le_succ _) _).setCell (Nat.le_succ _) _).setCell (Nat.le_succ _) _).setCell (Nat.le_succ _) _
    have hk9 : Kp (mb + 1) wr.heap.size wr W9 := by
     rw [hW9]
     exact ((((((Kp.refl _ _ _).set (.inl hog) _).set (.inl hog) _).set (.inl hog) _).set (.inl hog) _).set (.inl hog) _).set (.inl hog) _
    have hz9 : W9.heap.size = wr.heap.size := by rw [hW9]; simp [World.setCell]
    have htr : Rx W9 w.heap.size W9.heap.size 2 At MM.trace.length (MM.trace.flatMap vcl) := by
     rw [hz9]
     exact (HMf.out.tr.keep hk9).more (by omega) nL
    have hcp : MM.trace.length ≤ ct := HMf.out.caps.2
    clear hW9 o0 o1 o2 o3 o4 o5 f0 f1 f2 f3 f4 f5
    obtain ⟨o0, o1, o2, o3, o4, o5, -⟩ := (show Blk W9.drew _ _ _ from hKo.drew).c6
    refine bodyPost_ret (v := .tuple #[outV MM At ct, .int .i64 MM.deep, .int .i64 0]) (by simp [outV, results, Tryd.results24, go_sem, o0, o1, o2, o3, o4, o5]) rfl ?_
    exact ⟨At, ct, by rw [HE.out], hB9.drew, by rw [HE.out]; exact htr, by rw [HE.out]; exact hcp⟩
end
theorem errR_zero {p : List Fn} {n : Int} (h : ¬ errR p n ≠ 0) : progE p = 0 ∧ 0 ≤ n ∧ n ≤ 100000 := by
 have h := Decidable.not_not.1 h
 unfold errR at h
 split at h
 · exact absurd h ‹_›
 · rename_i g
   split at h
   · cases h
   · rename_i g2
     exact ⟨Decidable.not_not.1 g, by omega, by omega⟩
def Four (Ap : Option Addr) (p : List Fn) (cp : Nat) (iv : Value) (n : Int) (M : Mx) (R : Int) (W : World) : Prop :=
 (Calls Tryd.prog 8 #[.agg #[.slice Ap p.length cp], iv, .int .i64 n] W fun e w' => OutA M R W e w' ∧ M.trace.length ≤ maxLen) ∧
 Calls Tryd.prog 9 #[.agg #[.slice Ap p.length cp], iv, .int .i64 n] W (OutA M R W) ∧
 Calls Tryd.prog 10 #[.agg #[.slice Ap p.length cp], iv, .int .i64 n] W (DepA M R W) ∧
 Calls Tryd.prog 11 #[.agg #[.slice Ap p.length cp], iv, .int .i64 n] W (DepA M R W)
theorem four_any (Ap : Option Addr) (p : List Fn) (cp : Nat) (iv : Value) (inp : List Nat) (n : Int) (h0 : -9223372036854775808 ≤ n) (h1 : n ≤ 9223372036854775807) (hm : p.length ≤ maxLen) (hr : ∀ i, i < p.length → FnR (p.getD i Fn.z)) (him : ∀ i, i < p.length → ∀ x ∈ (p.getD i Fn.z).code, 0 ≤ x.imm ∧ x.imm < 18446744073709551616) (hi64 : ∀ v ∈ inp, v < 18446744073709551616) :
 ∃ M R, ∀ W, Tb W → Fx W 0 W.heap.size Ap p → InX W W.heap.size iv inp → Four Ap p cp iv n M R W := by
 by_cases hb : errR p n ≠ 0
 · refine ⟨Mx.start [], errR p n, fun W hT hf hin => ?_⟩
   obtain ⟨Ai, ci, rfl, -⟩ := hin
   have hrun := fun (W' : World) (h : Below W.heap.size W W') => refrun_bad Ap p cp Ai inp.length ci n h0 h1 hb W' ((hf.keep (Kp.of_below h nL)).more nL h.size) hm hr
   refine ⟨(sRun_bad Ap p cp Ai inp.length ci n h0 h1 hb W hT hf hm hr).mono ?_, refRun_w Ap p cp Ai inp.length ci n _ _ W hrun, (sDepth_bad Ap p cp Ai inp.length ci n h0 h1 hb W hT hf hm hr).mono ?_, refDepth_w Ap p cp Ai inp.length ci n _ _ W hrun⟩
   · rintro e w' ⟨rfl, h⟩
     exact ⟨⟨none, 0, rfl, h, Rx.nil _ _ _ _, Nat.le_refl _⟩, Nat.zero_le _⟩
   · rintro e w' ⟨rfl, h⟩
     exact ⟨rfl, h⟩
 · obtain ⟨hE, n0, n1⟩ := errR_zero hb
   obtain ⟨F, rfl⟩ := Int.eq_ofNat_of_zero_le n0
   have hp := progE_gp hE hr him
   have hF : F ≤ 100000 := by omega
   have hg0 := good_start hp hi64
   have hg := fun m (h1 : Good p m) (h2 : m.ended = false) (h3 : m.steps < F) => good_step hp h1 h2 (by omega)
   refine ⟨runX p F (F + 2) ((Mx.start inp).call 0), 0, fun W hT hf hin => ?_⟩
   obtain ⟨ad, -, -, -, -, rfl, -⟩ := hf.at_ hp.len.1
   have hin0 := hin
   obtain ⟨Ai, ci, rfl, -⟩ := hin0
   have hrun := fun (W' : World) (h : Below W.heap.size W W') => refrun_x ad p cp (.slice Ai inp.length ci) inp F hF W' ((hf.keep (Kp.of_below h nL)).more nL h.size) hm hr hE ((hin.after h).more h.size) hp hi64
   refine ⟨(out_x ad p cp (.slice Ai inp.length ci) inp F hF (Good p) W hT hf hm hr hE hin hp.len.1 hg0 hg).mono ?_, refRun_w (some ad) p cp Ai inp.length ci F _ _ W hrun, depth_x ad p cp (.slice Ai inp.length ci) inp F hF (Good p) W hT hf hm hr hE hin hp.len.1 hg0 hg, refDepth_w (some ad) p cp Ai inp.length ci F _ _ W hrun⟩
   rintro e w' ⟨At, ct, rfl, hbl, own⟩
   exact ⟨⟨At, ct, rfl, hbl, Rx.of_own own, (own_cap own).2⟩, (own_cap own).1⟩
theorem InX.codes {w w' : World} {B cb n c p0 : Nat} {A : Option Addr} {l : List Nat} {iv : Value} {inp : List Nat} (h : InX w w.heap.size iv inp) (hc : CodesAt w B cb A n c l p0) (hg : w.grownBy w' (some cb)) : InX w' w'.heap.size iv inp := by
 obtain ⟨Ai, ci, rfl, h2, h3, h4, h5⟩ := h
 refine ⟨Ai, ci, rfl, h2, h3, ?_⟩
 by_cases h0 : inp.length = 0
 · obtain rfl : inp = [] := List.length_eq_zero_iff.1 h0
   exact ⟨⟨rfl, fun h => absurd h (by simp)⟩, fun _ _ _ => Nat.zero_le _⟩
 · obtain ⟨ad, e, hb, hcl⟩ := h4.2 (by omega)
   obtain ⟨v, r, rfl⟩ : ∃ v r, inp = v :: r := by
    cases inp with
    | nil => simp at h0
    | cons v r => exact ⟨v, r, rfl⟩
   have hne : ad.block ≠ cb := by
    intro heq
    have h6 := hcl 0 (.int .u64 (v : Int)) rfl
    have e0 : ad.add 0 = ad := by unfold Addr.add; simp
    rw [e0] at h6
    have h7 : w.heap[cb]? = some (.cells #[.slice A n c, .int .i64 p0] 64 (0, 0)) := hc.1
    obtain ⟨b, o, f⟩ := ad
    have hq : b = cb := heq
    subst hq
    unfold World.cell? at h6
    simp only [h7] at h6
    cases f with
    | some _ => simp at h6
    | none =>
     match o, h6 with
     | 0, h6 => simp at h6
     | 1, h6 => simp at h6
     | o + 2, h6 => simp at h6
   have hk : Kp ad.block (ad.block + 1) w w' := fun b h1 h2 => hg.block b (by omega) (fun q => hne (by injection q; omega))
   have hx : Rx w ad.block (ad.block + 1) 1 Ai (v :: r).length (inV8 (v :: r)) := ⟨⟨h4.1, fun _ => ⟨ad, e, Nat.lt_succ_self _, hcl⟩⟩, fun ad' e' _ => by rw [e] at e'; injection e' with e'; rw [e']; exact Nat.le_refl _⟩
   exact (hx.keep hk).more (Nat.zero_le _) (Nat.lt_of_lt_of_le hb hg.size)
end Go.Proofs.YtdijeijbcoeopaaDoor.pm
