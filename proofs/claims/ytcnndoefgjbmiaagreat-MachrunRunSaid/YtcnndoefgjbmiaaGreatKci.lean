/- Contracts: an instruction's check, every class of operations by one script. Printed by mkkc2.py. -/
import Derived.Test.YtcnndoefgjbmiaaGreatGKb
set_option linter.unusedVariables false
set_option maxRecDepth 10000
set_option maxHeartbeats 8000000
namespace Go.Proofs.YtcnndoefgjbmiaaGreat.pm
open Go.RowKit
theorem instr_in (prm sz al : Int) (nf nc ci : Nat) (Ai : Option Addr) (op a b c im : Int) (e25 : inB op 25 = true) (e18 : (op == 18) = false) (e19 : (op == 19) = false) (p0 : 0 ≤ prm) (p1 : prm ≤ 8) (z0 : 0 ≤ sz) (z1 : sz < 2147483520) (hr : InR ⟨op, a, b, c, im⟩) (hni : (nc : Int) ≤ 9223372036854775807) (w : World) :
 Calls Tryz.prog 64 #[.agg #[.int .i64 prm, .int .i64 sz, .slice Ai nc ci, .int .i64 al, .int .i64 (nf : Int)], .agg #[.int .i64 op, .int .i64 a, .int .i64 b, .int .i64 c, .int .u64 im]] w fun e w' =>
  e = .returned (.int .i64 (inE nf prm sz nc ⟨op, a, b, c, im⟩)) ∧ Below w.heap.size w w' := by
 have hcls : ∃ m r w t u v : Bool, memB op = m ∧ rdB op = r ∧ wrB op = w ∧ (op == 20) = t ∧ (op == 21) = u ∧ (op == 22) = v ∧ ((m, r, w, t, u, v) = (true, true, false, false, false, false) ∨ (m, r, w, t, u, v) = (true, false, true, false, false, false) ∨ (m, r, w, t, u, v) = (true, true, true, false, false, false) ∨ (m, r, w, t, u, v) = (false, false, false, true, false, false) ∨ (m, r, w, t, u, v) = (false, false, false, false, true, false) ∨ (m, r, w, t, u, v) = (false, false, false, false, false, true) ∨ (m, r, w, t, u, v) = (false, false, false, false, false, false)) := by
  refine ⟨_, _, _, _, _, _, rfl, rfl, rfl, rfl, rfl, rfl, ?_⟩
  by_cases h : op = 15 ∨ op = 16 ∨ op = 17 ∨ op = 20 ∨ op = 21 ∨ op = 22
  · rcases h with rfl | rfl | rfl | rfl | rfl | rfl <;> simp [memB, rdB, wrB]
  · have h1 : ∀ k : Int, (k = 15 ∨ k = 16 ∨ k = 17 ∨ k = 20 ∨ k = 21 ∨ k = 22) → (op == k) = false := fun k hk => by rw [beq_eq_false_iff_ne]; omega
    simp [memB, rdB, wrB, h1]
 obtain ⟨m, r, wb, t, u, v, hm, hrd, hwr, h20, h21, h22, hcls⟩ := hcls
 have HO : Hid (inB op 25 = true) := hQ e25
 have HO1 : Hid ((!inB op 25 || op == 18 || op == 19) = false) := hQ (by rw [e25, e18, e19]; rfl)
 obtain ⟨ro, rs, hr5⟩ : ∃ ro rs, rdP ⟨op, a, b, c, im⟩ = (ro, rs, r) ∧ (r = true → ro = b ∧ rs = c) := by
  rw [← hrd]
  unfold rdP rdB
  by_cases h : op = 15 ∨ op = 17
  · exact ⟨b, c, by rw [if_pos h]; rcases h with rfl | rfl <;> rfl, fun _ => ⟨rfl, rfl⟩⟩
  · exact ⟨0, 0, by rw [if_neg h]; simp at h ⊢; simp [h], fun h' => by simp at h'; exact absurd h' h⟩
 obtain ⟨wo, ws, hw5⟩ : ∃ wo ws, wrP ⟨op, a, b, c, im⟩ = (wo, ws, wb) ∧ (wb = true → wo = a ∧ ws = c) := by
  rw [← hwr]
  unfold wrP wrB
  by_cases h : op = 16 ∨ op = 17
  · exact ⟨a, c, by rw [if_pos h]; rcases h with rfl | rfl <;> rfl, fun _ => ⟨rfl, rfl⟩⟩
  · exact ⟨0, 0, by rw [if_neg h]; simp at h ⊢; simp [h], fun h' => by simp at h'; exact absurd h' h⟩
 have HRD : Hid (∀ W : World, Calls Tryz.prog 96 #[.agg #[.int .i64 prm, .int .i64 sz, .slice Ai nc ci], .agg #[.int .i64 op, .int .i64 a, .int .i64 b, .int .i64 c, .int .u64 im]] W fun e w' => e = .returned (.tuple #[.agg #[.int .i64 ro, .int .i64 rs], .bool r]) ∧ Below W.heap.size W w') := hQ (fun W => by have h := mreads_any (.int .i64 prm) (.int .i64 sz) (.slice Ai nc ci) ⟨op, a, b, c, im⟩ W; rw [hr5.1] at h; exact h)
 have HWR : Hid (∀ W : World, Calls Tryz.prog 97 #[.agg #[.int .i64 prm, .int .i64 sz, .slice Ai nc ci], .agg #[.int .i64 op, .int .i64 a, .int .i64 b, .int .i64 c, .int .u64 im]] W fun e w' => e = .returned (.tuple #[.agg #[.int .i64 wo, .int .i64 ws], .bool wb]) ∧ Below W.heap.size W w') := hQ (fun W => by have h := mwrites_any (.int .i64 prm) (.int .i64 sz) (.slice Ai nc ci) ⟨op, a, b, c, im⟩ W; rw [hw5.1] at h; exact h)
 have HR5 := hQ hr5.2
 have HW5 := hQ hw5.2
 have HMB := hQ hm
 have HRB := hQ hrd
 have HWB := hQ hwr
 have H20 := hQ h20
 have H21 := hQ h21
 have HSZ : Hid (∀ W : World, Calls Tryz.prog 70 #[.int .i64 c] W fun e w' => e = .returned (.bool (sizeB c)) ∧ W = w') := hQ (fun W => size_any c hr.2.2.2.1 hr.2.2.2.2 W)
 obtain ⟨W2, hW2⟩ : ∃ W2, W2 = (w.alloc (.cells #[.int .i64 prm, .int .i64 sz, .slice Ai nc ci, .int .i64 al, .int .i64 (nf : Int)] 109)).alloc (.cells #[.int .i64 op, .int .i64 a, .int .i64 b, .int .i64 c, .int .u64 im] 50) := ⟨_, rfl⟩
 have HKF : Hid (Blk W2 w.heap.size 109 #[.int .i64 prm, .int .i64 sz, .slice Ai nc ci, .int .i64 al, .int .i64 (nf : Int)]) := hQ (by rw [hW2]; exact (Blk.new _ _ _).alloc _)
 have HKX : Hid (Blk W2 (w.heap.size + 1) 50 #[.int .i64 op, .int .i64 a, .int .i64 b, .int .i64 c, .int .u64 im]) := hQ (by rw [hW2]; exact Blk.newAt (by simp))
 have HB : Hid (Below w.heap.size w W2) := hQ (by rw [hW2]; exact (bR.alloc nL _).alloc (by simp) _)
 have HW2 := hQ hW2
 clear hW2 hr e25 hr5 hw5 hm hrd hwr
 go_enter Tryz.func64, Tryz.ntmps64
 go_upto_region 1 with (fail)
 rw [← HW2.out]
 clear HW2
 obtain ⟨x0, x1, x2, x3, x4, -, -, -, -, -, xz⟩ := HKX.out.c5
 obtain ⟨f0, f1, f2, f3, f4, -, -, -, -, -, fz⟩ := HKF.out.c5
 go_wp2_with fail
 refine (mwithin_any _ _ _).mono ?_
 rintro e w1 ⟨rfl, rfl⟩
 rw [HO.out]
 go_wp2_with fail
 refine (unused_any ⟨op, a, b, c, im⟩ _).mono ?_
 rintro e W3 ⟨rfl, bel⟩
 replace HB := hQ (HB.out.trans (bel.mono HB.out.size))
 replace HKF := hQ (HKF.out.after bel)
 replace HKX := hQ (HKX.out.after bel)
 clear x0 x1 x2 x3 x4 xz f0 f1 f2 f3 f4 fz bel
 obtain ⟨x0, x1, x2, x3, x4, -, -, -, -, -, xz⟩ := HKX.out.c5
 obtain ⟨f0, f1, f2, f3, f4, -, -, -, -, -, fz⟩ := HKF.out.c5
 rcases hu : unB ⟨op, a, b, c, im⟩ with _ | _
 case true =>
  have HE : Hid (inE nf prm sz nc ⟨op, a, b, c, im⟩ = 2) := hQ (by unfold inE; rw [if_neg (by rw [HO1.out]; simp), if_pos hu])
  clear hu
  go_wp2
  go_ret
  exact ⟨ret_int (by rw [HE.out]), HB.out⟩
 have HU := hQ hu
 clear hu
 go_wp2_with fail
 refine (registers_any ⟨op, a, b, c, im⟩ _).mono ?_
 rintro e W4 ⟨Ar, nr, cr, rfl, hrd, hln, bel⟩
 have HC := hQ (contains_ints Ar nr cr _ W4 hrd hln (by rw [← hln]; exact regL_len _))
 clear hrd hln
 replace HB := hQ (HB.out.trans (bel.mono HB.out.size))
 replace HKF := hQ (HKF.out.after bel)
 replace HKX := hQ (HKX.out.after bel)
 clear x0 x1 x2 x3 x4 xz f0 f1 f2 f3 f4 fz bel
 obtain ⟨x0, x1, x2, x3, x4, -, -, -, -, -, xz⟩ := HKX.out.c5
 obtain ⟨f0, f1, f2, f3, f4, -, -, -, -, -, fz⟩ := HKF.out.c5
 go_wp2_with fail
 refine HC.out.mono ?_
 rintro e w1 ⟨rfl, rfl⟩
 clear HC
 rcases ho : outB (regL ⟨op, a, b, c, im⟩) with _ | _
 case true =>
  have HE : Hid (inE nf prm sz nc ⟨op, a, b, c, im⟩ = 4) := hQ (by unfold inE; rw [if_neg (by rw [HO1.out]; simp), if_neg (by rw [HU.out]; simp), if_pos (by rw [ho]; rfl)])
  clear ho
  go_wp2
  go_ret
  exact ⟨ret_int (by rw [HE.out]), HB.out⟩
 have HR := hQ ho
 clear ho
 have H22 := hQ h22
 rcases hcls with hc | hc | hc | hc | hc | hc | hc
 all_goals
  injection hc with k1 hc
  injection hc with k2 hc
  injection hc with k3 hc
  injection hc with k4 hc
  injection hc with k5 k6
  subst k1 k2 k3 k4 k5 k6
 all_goals first
  | (have hg : (op == 22) = true := H22.out
     clear hg
     go_wp2_with fail
     refine (mwithin_any _ _ _).mono ?_
     rintro e w1 ⟨rfl, rfl⟩
     rcases ha : inB a (nf : Int) with _ | _
     case false =>
      have HE : Hid (inE nf prm sz nc ⟨op, a, b, c, im⟩ = 4) := hQ (by unfold inE; rw [if_neg (by rw [HO1.out]; simp), if_neg (by rw [HU.out]; simp), if_pos (by simp only; rw [H22.out, ha]; simp)])
      clear ha
      go_wp2
      go_ret
      exact ⟨ret_int (by rw [HE.out]), HB.out⟩
     have HA : Hid ((outB (regL ⟨op, a, b, c, im⟩) || (op == 22 && !inB a nf)) = false) := hQ (by rw [HR.out, ha]; simp)
     clear ha)
  | (have HA : Hid ((outB (regL ⟨op, a, b, c, im⟩) || (op == 22 && !inB a nf)) = false) := hQ (by rw [HR.out, H22.out]; rfl))
 all_goals
  go_wp2_with fail
  refine (memory_any _ _).mono ?_
  rintro e w1 ⟨rfl, rfl⟩
  rw [HMB.out]
 all_goals first
  | (have hg : memB op = true := HMB.out
     clear hg
     go_wp2_with fail
     refine (HSZ.out _).mono ?_
     rintro e w1 ⟨rfl, rfl⟩
     rcases hz : sizeB c with _ | _
     case false =>
      have HE : Hid (inE nf prm sz nc ⟨op, a, b, c, im⟩ = 5) := hQ (by unfold inE; rw [if_neg (by rw [HO1.out]; simp), if_neg (by rw [HU.out]; simp), if_neg (by rw [HA.out]; simp), if_pos (by simp only; rw [HMB.out, hz]; rfl)])
      clear hz
      go_wp2
      go_ret
      exact ⟨ret_int (by rw [HE.out]), HB.out⟩
     have HM : Hid ((memB op && !sizeB c) = false) := hQ (by rw [hz]; simp)
     clear hz)
  | (have HM : Hid ((memB op && !sizeB c) = false) := hQ (by rw [HMB.out]; rfl))
 all_goals
  clear HSZ
  go_wp2_with fail
  refine (HRD.out _).mono ?_
  rintro e W5 ⟨rfl, bel⟩
  replace HB := hQ (HB.out.trans (bel.mono HB.out.size))
  replace HKF := hQ (HKF.out.after bel)
  replace HKX := hQ (HKX.out.after bel)
  clear x0 x1 x2 x3 x4 xz f0 f1 f2 f3 f4 fz bel
  obtain ⟨x0, x1, x2, x3, x4, -, -, -, -, -, xz⟩ := HKX.out.c5
  obtain ⟨f0, f1, f2, f3, f4, -, -, -, -, -, fz⟩ := HKF.out.c5
  go_upto_region 10 with (fail)
  obtain ⟨W6, hW6⟩ : ∃ W6, W6 = W5.alloc (.cells #[.int .i64 ro, .int .i64 rs] 139) := ⟨_, rfl⟩
  rw [← hW6]
  have HK5 : Hid (Blk W6 W5.heap.size 139 #[.int .i64 ro, .int .i64 rs]) := hQ (by rw [hW6]; exact Blk.new _ _ _)
  have bel : Below W5.heap.size W5 W6 := by rw [hW6]; exact bR.alloc nL _
  clear hW6
  replace HB := hQ (HB.out.trans (bel.mono HB.out.size))
  replace HKF := hQ (HKF.out.after bel)
  replace HKX := hQ (HKX.out.after bel)
  clear x0 x1 x2 x3 x4 xz f0 f1 f2 f3 f4 fz bel
  obtain ⟨x0, x1, x2, x3, x4, -, -, -, -, -, xz⟩ := HKX.out.c5
  obtain ⟨f0, f1, f2, f3, f4, -, -, -, -, -, fz⟩ := HKF.out.c5
  generalize W5.heap.size = g5 at *
  go_wp2_with fail
  refine (HWR.out _).mono ?_
  rintro e W5 ⟨rfl, bel⟩
  replace HB := hQ (HB.out.trans (bel.mono HB.out.size))
  replace HKF := hQ (HKF.out.after bel)
  replace HKX := hQ (HKX.out.after bel)
  replace HK5 := hQ (HK5.out.after bel)
  clear x0 x1 x2 x3 x4 xz f0 f1 f2 f3 f4 fz bel
  obtain ⟨x0, x1, x2, x3, x4, -, -, -, -, -, xz⟩ := HKX.out.c5
  obtain ⟨f0, f1, f2, f3, f4, -, -, -, -, -, fz⟩ := HKF.out.c5
  go_upto_region 11 with (fail)
  obtain ⟨W6, hW6⟩ : ∃ W6, W6 = W5.alloc (.cells #[.int .i64 wo, .int .i64 ws] 139) := ⟨_, rfl⟩
  rw [← hW6]
  have HK7 : Hid (Blk W6 W5.heap.size 139 #[.int .i64 wo, .int .i64 ws]) := hQ (by rw [hW6]; exact Blk.new _ _ _)
  have bel : Below W5.heap.size W5 W6 := by rw [hW6]; exact bR.alloc nL _
  clear hW6
  replace HB := hQ (HB.out.trans (bel.mono HB.out.size))
  replace HKF := hQ (HKF.out.after bel)
  replace HKX := hQ (HKX.out.after bel)
  replace HK5 := hQ (HK5.out.after bel)
  clear x0 x1 x2 x3 x4 xz f0 f1 f2 f3 f4 fz bel
  obtain ⟨x0, x1, x2, x3, x4, -, -, -, -, -, xz⟩ := HKX.out.c5
  obtain ⟨f0, f1, f2, f3, f4, -, -, -, -, -, fz⟩ := HKF.out.c5
  generalize W5.heap.size = g7 at *
  clear HRD HWR
 all_goals first
  | (have hg : rdB op = true := HRB.out
     clear hg
     obtain ⟨i0, i1, -, -, iz⟩ := HK5.out.c2
     go_wp2_with fail
     refine (inside_any ro rs (sz + 16 * prm) _).mono ?_
     rintro e W7 ⟨rfl, bel⟩
     clear i0 i1 iz
     replace HB := hQ (HB.out.trans (bel.mono HB.out.size))
     replace HKF := hQ (HKF.out.after bel)
     replace HKX := hQ (HKX.out.after bel)
     replace HK5 := hQ (HK5.out.after bel)
     replace HK7 := hQ (HK7.out.after bel)
     clear x0 x1 x2 x3 x4 xz f0 f1 f2 f3 f4 fz bel
     obtain ⟨x0, x1, x2, x3, x4, -, -, -, -, -, xz⟩ := HKX.out.c5
     obtain ⟨f0, f1, f2, f3, f4, -, -, -, -, -, fz⟩ := HKF.out.c5
     rcases hi : insB ro rs (sz + 16 * prm) with _ | _
     case false =>
      have HE : Hid (inE nf prm sz nc ⟨op, a, b, c, im⟩ = 4) := hQ (by unfold inE; rw [if_neg (by rw [HO1.out]; simp), if_neg (by rw [HU.out]; simp), if_neg (by rw [HA.out]; simp), if_neg (by rw [HM.out]; simp), if_pos (by unfold wildB; simp only; obtain ⟨q1, q2⟩ := HR5.out (by simp); rw [q1, q2] at hi; rw [HRB.out, hi]; simp)])
      clear hi
      go_wp2
      go_ret
      exact ⟨ret_int (by rw [HE.out]), HB.out⟩
     have HI5 : Hid ((rdB op && !insB b c (sz + 16 * prm)) = false) := hQ (by obtain ⟨q1, q2⟩ := HR5.out (by simp); rw [q1, q2] at hi; rw [HRB.out, hi]; rfl)
     clear hi)
  | (have HI5 : Hid ((rdB op && !insB b c (sz + 16 * prm)) = false) := hQ (by rw [HRB.out]; rfl))
 all_goals first
  | (have hg : wrB op = true := HWB.out
     clear hg
     obtain ⟨i0, i1, -, -, iz⟩ := HK7.out.c2
     go_wp2_with fail
     refine (inside_any wo ws sz _).mono ?_
     rintro e W7 ⟨rfl, bel⟩
     clear i0 i1 iz
     replace HB := hQ (HB.out.trans (bel.mono HB.out.size))
     replace HKF := hQ (HKF.out.after bel)
     replace HKX := hQ (HKX.out.after bel)
     replace HK5 := hQ (HK5.out.after bel)
     replace HK7 := hQ (HK7.out.after bel)
     clear x0 x1 x2 x3 x4 xz f0 f1 f2 f3 f4 fz bel
     obtain ⟨x0, x1, x2, x3, x4, -, -, -, -, -, xz⟩ := HKX.out.c5
     obtain ⟨f0, f1, f2, f3, f4, -, -, -, -, -, fz⟩ := HKF.out.c5
     rcases hi : insB wo ws sz with _ | _
     case false =>
      have HE : Hid (inE nf prm sz nc ⟨op, a, b, c, im⟩ = 4) := hQ (by unfold inE; rw [if_neg (by rw [HO1.out]; simp), if_neg (by rw [HU.out]; simp), if_neg (by rw [HA.out]; simp), if_neg (by rw [HM.out]; simp), if_pos (by unfold wildB; simp only; obtain ⟨q1, q2⟩ := HW5.out (by simp); rw [q1, q2] at hi; rw [HWB.out, hi]; simp)])
      clear hi
      go_wp2
      go_ret
      exact ⟨ret_int (by rw [HE.out]), HB.out⟩
     have HI7 : Hid ((wrB op && !insB a c sz) = false) := hQ (by obtain ⟨q1, q2⟩ := HW5.out (by simp); rw [q1, q2] at hi; rw [HWB.out, hi]; rfl)
     clear hi)
  | (have HI7 : Hid ((wrB op && !insB a c sz) = false) := hQ (by rw [HWB.out]; rfl))
 all_goals
  have HWL : Hid (wildB prm sz ⟨op, a, b, c, im⟩ = false) := hQ (by unfold wildB; simp only; rw [HI5.out, HI7.out]; rfl)
 all_goals first
  | (have hg : (op == 20) = true := H20.out
     clear hg
     go_wp2_with fail
     refine (mwithin_any a (nc : Int) _).mono ?_
     rintro e w1 ⟨rfl, rfl⟩
     rcases ht : inB a (nc : Int) with _ | _
     case false =>
      have HE : Hid (inE nf prm sz nc ⟨op, a, b, c, im⟩ = 6) := hQ (by unfold inE; rw [if_neg (by rw [HO1.out]; simp), if_neg (by rw [HU.out]; simp), if_neg (by rw [HA.out]; simp), if_neg (by rw [HM.out]; simp), if_neg (by rw [HWL.out]; simp), if_pos (by unfold tgtB; simp only; rw [H20.out, H21.out, ht]; rfl)])
      clear ht
      go_wp2
      go_ret
      exact ⟨ret_int (by rw [HE.out]), HB.out⟩
     have HT : Hid (tgtB nc ⟨op, a, b, c, im⟩ = false) := hQ (by unfold tgtB; simp only; rw [H20.out, H21.out, ht]; rfl)
     clear ht)
  | (skip)
 all_goals first
  | (have HN : Hid (tgtB nc ⟨op, a, b, c, im⟩ = false) := HT)
  | (have hg : (op == 21) = true := H21.out
     clear hg
     go_wp2_with fail
     refine (mwithin_any b (nc : Int) _).mono ?_
     rintro e w1 ⟨rfl, rfl⟩
     rcases ht : inB b (nc : Int) with _ | _
     case false =>
      have HE : Hid (inE nf prm sz nc ⟨op, a, b, c, im⟩ = 6) := hQ (by unfold inE; rw [if_neg (by rw [HO1.out]; simp), if_neg (by rw [HU.out]; simp), if_neg (by rw [HA.out]; simp), if_neg (by rw [HM.out]; simp), if_neg (by rw [HWL.out]; simp), if_pos (by unfold tgtB; simp only; rw [H20.out, H21.out, ht]; rfl)])
      clear ht
      go_wp2
      go_ret
      exact ⟨ret_int (by rw [HE.out]), HB.out⟩
     have HT : Hid (tgtB nc ⟨op, a, b, c, im⟩ = false) := hQ (by unfold tgtB; simp only; rw [H20.out, H21.out, ht]; rfl)
     clear ht)
  | (have HT : Hid (tgtB nc ⟨op, a, b, c, im⟩ = false) := hQ (by unfold tgtB; simp only; rw [H20.out, H21.out]; rfl))
 all_goals
  have HE : Hid (inE nf prm sz nc ⟨op, a, b, c, im⟩ = 0) := hQ (by unfold inE; rw [if_neg (by rw [HO1.out]; simp), if_neg (by rw [HU.out]; simp), if_neg (by rw [HA.out]; simp), if_neg (by rw [HM.out]; simp), if_neg (by rw [HWL.out]; simp), if_neg (by rw [HT.out]; simp)])
  go_wp2
  go_ret
  exact ⟨ret_int (by rw [HE.out]), HB.out⟩
end Go.Proofs.YtcnndoefgjbmiaaGreat.pm
