/- Contracts: an instruction's check: 15, 16. -/
import Derived.Test.YtmeoabpigibaoaaKc
import Derived.Deep.CutBlock
namespace Go.Proofs.Ytmeoabpigibaoaa.pm
open Go.RowKit
set_option linter.unusedVariables false
set_option maxRecDepth 10000

set_option maxHeartbeats 8000000 in
theorem instr_l15 (prm sz al : Int) (nf nc ci : Nat) (Ai : Option Addr) (op a b c im : Int) (hop : op = 15) (p0 : 0 ≤ prm) (p1 : prm ≤ 8) (z0 : 0 ≤ sz) (z1 : sz < 2147483520) (hr : InR ⟨op, a, b, c, im⟩) (hni : (nc : Int) ≤ 9223372036854775807) (w : World) :
    Calls Try.prog 32 #[.agg #[.int .i64 prm, .int .i64 sz, .slice Ai nc ci, .int .i64 al, .int .i64 (nf : Int)], .agg #[.int .i64 op, .int .i64 a, .int .i64 b, .int .i64 c, .int .u64 im]] w fun e w' =>
      e = .returned (.int .i64 (inE nf prm sz nc ⟨op, a, b, c, im⟩)) ∧ Below w.heap.size w w' := by
  subst hop
  have HO : Hid (inB 15 25 = true) := Lib.hid rfl
  have HO1 : Hid ((!inB 15 25 || (15 : Int) == 18 || (15 : Int) == 19) = false) := Lib.hid rfl
  have HRD : Hid (∀ W : World, Calls Try.prog 10 #[.agg #[.int .i64 prm, .int .i64 sz, .slice Ai nc ci], .agg #[.int .i64 15, .int .i64 a, .int .i64 b, .int .i64 c, .int .u64 im]] W fun e w' => e = .returned (.tuple #[.agg #[.int .i64 b, .int .i64 c], .bool true]) ∧ Below W.heap.size W w') := Lib.hid (fun W => (mreads_any _ _ _ ⟨15, a, b, c, im⟩ W).mono (fun e w' h => ⟨h.1.trans (by rfl), h.2⟩))
  have HWR : Hid (∀ W : World, Calls Try.prog 11 #[.agg #[.int .i64 prm, .int .i64 sz, .slice Ai nc ci], .agg #[.int .i64 15, .int .i64 a, .int .i64 b, .int .i64 c, .int .u64 im]] W fun e w' => e = .returned (.tuple #[.agg #[.int .i64 0, .int .i64 0], .bool false]) ∧ Below W.heap.size W w') := Lib.hid (fun W => (mwrites_any _ _ _ ⟨15, a, b, c, im⟩ W).mono (fun e w' h => ⟨h.1.trans (by rfl), h.2⟩))
  have HMB : Hid (memB 15 = true) := Lib.hid (by rfl)
  have HSZ : Hid (∀ W : World, Calls Try.prog 53 #[.int .i64 c] W fun e w' => e = .returned (.bool (sizeB c)) ∧ W = w') := Lib.hid (fun W => size_any c hr.2.2.2.1 hr.2.2.2.2 W)
  obtain ⟨W2, hW2⟩ : ∃ W2, W2 = (w.alloc (.cells #[.int .i64 prm, .int .i64 sz, .slice Ai nc ci, .int .i64 al, .int .i64 (nf : Int)] 62)).alloc (.cells #[.int .i64 15, .int .i64 a, .int .i64 b, .int .i64 c, .int .u64 im] 42) := ⟨_, rfl⟩
  have HKF : Hid (Blk W2 w.heap.size 62 #[.int .i64 prm, .int .i64 sz, .slice Ai nc ci, .int .i64 al, .int .i64 (nf : Int)]) := Lib.hid (by rw [hW2]; exact (Blk.new _ _ _).alloc _)
  have HKX : Hid (Blk W2 (w.heap.size + 1) 42 #[.int .i64 15, .int .i64 a, .int .i64 b, .int .i64 c, .int .u64 im]) := Lib.hid (by rw [hW2]; exact Blk.newAt (by simp))
  have HB : Hid (Below w.heap.size w W2) := Lib.hid (by rw [hW2]; exact ((Below.refl _ _).alloc (Nat.le_refl _) _).alloc (by simp) _)
  have HW2 := Lib.hid hW2
  clear hW2 hr
  go_enter Try.func32, Try.ntmps32
  go_upto_region 1 with (fail)
  rw [← HW2.out]
  clear HW2
  obtain ⟨x0, x1, x2, x3, x4, -, -, -, -, -, xz⟩ := HKX.out.c5
  obtain ⟨f0, f1, f2, f3, f4, -, -, -, -, -, fz⟩ := HKF.out.c5
  go_wp2_with fail
  refine (mwithin_any _ _ _).mono ?_
  rintro e w1 ⟨rfl, rfl⟩
  rw [HO.out]
  go_wp2_with fail
  refine (unused_any ⟨15, a, b, c, im⟩ _).mono ?_
  rintro e W3 ⟨rfl, bel⟩
  have HB' := Lib.hid (HB.out.trans (bel.mono HB.out.size))
  have HKF' := Lib.hid (HKF.out.after bel)
  have HKX' := Lib.hid (HKX.out.after bel)
  clear bel HB HKF HKX   x0 x1 x2 x3 x4 xz f0 f1 f2 f3 f4 fz
  have HB := HB'
  have HKF := HKF'
  have HKX := HKX'
  clear HB' HKF' HKX'
  obtain ⟨x0, x1, x2, x3, x4, -, -, -, -, -, xz⟩ := HKX.out.c5
  obtain ⟨f0, f1, f2, f3, f4, -, -, -, -, -, fz⟩ := HKF.out.c5
  rcases hu : unB ⟨15, a, b, c, im⟩ with _ | _
  case true =>
    have HE : Hid (inE nf prm sz nc ⟨15, a, b, c, im⟩ = 2) := Lib.hid (by unfold inE; rw [if_neg (by rw [HO1.out]; simp), if_pos hu])
    clear hu
    go_wp2
    go_ret
    exact ⟨ret_int (by rw [HE.out]), HB.out⟩
  have HU := Lib.hid hu
  clear hu
  go_wp2_with fail
  refine (registers_any ⟨15, a, b, c, im⟩ _).mono ?_
  rintro e W4 ⟨Ar, nr, cr, rfl, hrd, hln, bel⟩
  have HC := Lib.hid (contains_ints Ar nr cr _ W4 hrd hln (by rw [← hln]; exact regL_len _))
  clear hrd
  have HB' := Lib.hid (HB.out.trans (bel.mono HB.out.size))
  have HKF' := Lib.hid (HKF.out.after bel)
  have HKX' := Lib.hid (HKX.out.after bel)
  clear bel HB HKF HKX   x0 x1 x2 x3 x4 xz f0 f1 f2 f3 f4 fz
  have HB := HB'
  have HKF := HKF'
  have HKX := HKX'
  clear HB' HKF' HKX'
  obtain ⟨x0, x1, x2, x3, x4, -, -, -, -, -, xz⟩ := HKX.out.c5
  obtain ⟨f0, f1, f2, f3, f4, -, -, -, -, -, fz⟩ := HKF.out.c5
  clear hln
  go_wp2_with fail
  refine HC.out.mono ?_
  rintro e w1 ⟨rfl, rfl⟩
  clear HC
  rcases ho : outB (regL ⟨15, a, b, c, im⟩) with _ | _
  case true =>
    have HE : Hid (inE nf prm sz nc ⟨15, a, b, c, im⟩ = 4) := Lib.hid (by unfold inE; rw [if_neg (by rw [HO1.out]; simp), if_neg (by rw [HU.out]; simp), if_pos (by rw [ho]; rfl)])
    clear ho
    go_wp2
    go_ret
    exact ⟨ret_int (by rw [HE.out]), HB.out⟩
  have HR := Lib.hid ho
  clear ho
  have HA : Hid ((outB (regL ⟨15, a, b, c, im⟩) || ((15 : Int) == 22 && !inB a nf)) = false) := Lib.hid (by rw [HR.out, show ((15 : Int) == 22) = false from rfl]; rfl)
  clear HR
  go_wp2_with fail
  refine (memory_any _ _).mono ?_
  rintro e w1 ⟨rfl, rfl⟩
  rw [HMB.out]
  go_wp2_with fail
  refine (HSZ.out _).mono ?_
  rintro e w1 ⟨rfl, rfl⟩
  rcases hz : sizeB c with _ | _
  case false =>
    have HE : Hid (inE nf prm sz nc ⟨15, a, b, c, im⟩ = 5) := Lib.hid (by unfold inE; rw [if_neg (by rw [HO1.out]; simp), if_neg (by rw [HU.out]; simp), if_neg (by rw [HA.out]; simp), if_pos (by rw [HMB.out, hz]; rfl)])
    clear hz
    go_wp2
    go_ret
    exact ⟨ret_int (by rw [HE.out]), HB.out⟩
  have HM : Hid ((memB 15 && !sizeB c) = false) := Lib.hid (by rw [HMB.out, hz]; rfl)
  clear hz
  clear HSZ
  go_wp2_with fail
  refine (HRD.out _).mono ?_
  rintro e W5 ⟨rfl, bel⟩
  have HB' := Lib.hid (HB.out.trans (bel.mono HB.out.size))
  have HKF' := Lib.hid (HKF.out.after bel)
  have HKX' := Lib.hid (HKX.out.after bel)
  clear bel HB HKF HKX   x0 x1 x2 x3 x4 xz f0 f1 f2 f3 f4 fz
  have HB := HB'
  have HKF := HKF'
  have HKX := HKX'
  clear HB' HKF' HKX'
  obtain ⟨x0, x1, x2, x3, x4, -, -, -, -, -, xz⟩ := HKX.out.c5
  obtain ⟨f0, f1, f2, f3, f4, -, -, -, -, -, fz⟩ := HKF.out.c5
  go_upto_region 10 with (fail)
  obtain ⟨W6, hW6⟩ : ∃ W6, W6 = W5.alloc (.cells #[.int .i64 b, .int .i64 c] 37) := ⟨_, rfl⟩
  rw [← hW6]
  have HK5 : Hid (Blk W6 W5.heap.size 37 #[.int .i64 b, .int .i64 c]) := Lib.hid (by rw [hW6]; exact Blk.new _ _ _)
  have bel : Below W5.heap.size W5 W6 := by rw [hW6]; exact (Below.refl _ _).alloc (Nat.le_refl _) _
  clear hW6
  have HB' := Lib.hid (HB.out.trans (bel.mono HB.out.size))
  have HKF' := Lib.hid (HKF.out.after bel)
  have HKX' := Lib.hid (HKX.out.after bel)
  clear bel HB HKF HKX   x0 x1 x2 x3 x4 xz f0 f1 f2 f3 f4 fz
  have HB := HB'
  have HKF := HKF'
  have HKX := HKX'
  clear HB' HKF' HKX'
  obtain ⟨x0, x1, x2, x3, x4, -, -, -, -, -, xz⟩ := HKX.out.c5
  obtain ⟨f0, f1, f2, f3, f4, -, -, -, -, -, fz⟩ := HKF.out.c5
  generalize W5.heap.size = g5 at *
  go_wp2_with fail
  refine (HWR.out _).mono ?_
  rintro e W5 ⟨rfl, bel⟩
  have HB' := Lib.hid (HB.out.trans (bel.mono HB.out.size))
  have HKF' := Lib.hid (HKF.out.after bel)
  have HKX' := Lib.hid (HKX.out.after bel)
  have HK5' := Lib.hid (HK5.out.after bel)
  clear bel HB HKF HKX HK5  x0 x1 x2 x3 x4 xz f0 f1 f2 f3 f4 fz
  have HB := HB'
  have HKF := HKF'
  have HKX := HKX'
  clear HB' HKF' HKX'
  have HK5 := HK5'
  clear HK5'
  obtain ⟨x0, x1, x2, x3, x4, -, -, -, -, -, xz⟩ := HKX.out.c5
  obtain ⟨f0, f1, f2, f3, f4, -, -, -, -, -, fz⟩ := HKF.out.c5
  go_upto_region 11 with (fail)
  obtain ⟨W6, hW6⟩ : ∃ W6, W6 = W5.alloc (.cells #[.int .i64 0, .int .i64 0] 37) := ⟨_, rfl⟩
  rw [← hW6]
  have HK7 : Hid (Blk W6 W5.heap.size 37 #[.int .i64 0, .int .i64 0]) := Lib.hid (by rw [hW6]; exact Blk.new _ _ _)
  have bel : Below W5.heap.size W5 W6 := by rw [hW6]; exact (Below.refl _ _).alloc (Nat.le_refl _) _
  clear hW6
  have HB' := Lib.hid (HB.out.trans (bel.mono HB.out.size))
  have HKF' := Lib.hid (HKF.out.after bel)
  have HKX' := Lib.hid (HKX.out.after bel)
  have HK5' := Lib.hid (HK5.out.after bel)
  clear bel HB HKF HKX HK5  x0 x1 x2 x3 x4 xz f0 f1 f2 f3 f4 fz
  have HB := HB'
  have HKF := HKF'
  have HKX := HKX'
  clear HB' HKF' HKX'
  have HK5 := HK5'
  clear HK5'
  obtain ⟨x0, x1, x2, x3, x4, -, -, -, -, -, xz⟩ := HKX.out.c5
  obtain ⟨f0, f1, f2, f3, f4, -, -, -, -, -, fz⟩ := HKF.out.c5
  generalize W5.heap.size = g7 at *
  clear HRD HWR
  obtain ⟨i0, i1, -, -, iz⟩ := HK5.out.c2
  go_wp2_with fail
  refine (inside_any _ _ _ _).mono ?_
  rintro e W7 ⟨rfl, bel⟩
  clear i0 i1 iz
  have HB' := Lib.hid (HB.out.trans (bel.mono HB.out.size))
  have HKF' := Lib.hid (HKF.out.after bel)
  have HKX' := Lib.hid (HKX.out.after bel)
  have HK7' := Lib.hid (HK7.out.after bel)
  clear bel HB HKF HKX HK7 HK5 x0 x1 x2 x3 x4 xz f0 f1 f2 f3 f4 fz
  have HB := HB'
  have HKF := HKF'
  have HKX := HKX'
  clear HB' HKF' HKX'
  have HK7 := HK7'
  clear HK7'
  obtain ⟨x0, x1, x2, x3, x4, -, -, -, -, -, xz⟩ := HKX.out.c5
  obtain ⟨f0, f1, f2, f3, f4, -, -, -, -, -, fz⟩ := HKF.out.c5
  rcases hi : insB b c (sz + 16 * prm) with _ | _
  case false =>
    have HE : Hid (inE nf prm sz nc ⟨15, a, b, c, im⟩ = 4) := Lib.hid (by unfold inE; rw [if_neg (by rw [HO1.out]; simp), if_neg (by rw [HU.out]; simp), if_neg (by rw [HA.out]; simp), if_neg (by rw [HM.out]; simp), if_pos (by unfold wildB; simp only; rw [hi]; rfl)])
    clear hi
    go_wp2
    go_ret
    exact ⟨ret_int (by rw [HE.out]), HB.out⟩
  have HI5 := Lib.hid hi
  clear hi
  have HWL : Hid (wildB prm sz ⟨15, a, b, c, im⟩ = false) := Lib.hid (by unfold wildB; simp only; rw [HI5.out]; rfl)
  have HT : Hid (tgtB nc ⟨15, a, b, c, im⟩ = false) := Lib.hid rfl
  have HE : Hid (inE nf prm sz nc ⟨15, a, b, c, im⟩ = 0) := Lib.hid (by unfold inE; rw [if_neg (by rw [HO1.out]; simp), if_neg (by rw [HU.out]; simp), if_neg (by rw [HA.out]; simp), if_neg (by rw [HM.out]; simp), if_neg (by rw [HWL.out]; simp), if_neg (by rw [HT.out]; simp)])
  go_wp2
  go_ret
  exact ⟨ret_int (by rw [HE.out]), HB.out⟩
set_option maxHeartbeats 8000000 in
theorem instr_l16 (prm sz al : Int) (nf nc ci : Nat) (Ai : Option Addr) (op a b c im : Int) (hop : op = 16) (p0 : 0 ≤ prm) (p1 : prm ≤ 8) (z0 : 0 ≤ sz) (z1 : sz < 2147483520) (hr : InR ⟨op, a, b, c, im⟩) (hni : (nc : Int) ≤ 9223372036854775807) (w : World) :
    Calls Try.prog 32 #[.agg #[.int .i64 prm, .int .i64 sz, .slice Ai nc ci, .int .i64 al, .int .i64 (nf : Int)], .agg #[.int .i64 op, .int .i64 a, .int .i64 b, .int .i64 c, .int .u64 im]] w fun e w' =>
      e = .returned (.int .i64 (inE nf prm sz nc ⟨op, a, b, c, im⟩)) ∧ Below w.heap.size w w' := by
  subst hop
  have HO : Hid (inB 16 25 = true) := Lib.hid rfl
  have HO1 : Hid ((!inB 16 25 || (16 : Int) == 18 || (16 : Int) == 19) = false) := Lib.hid rfl
  have HRD : Hid (∀ W : World, Calls Try.prog 10 #[.agg #[.int .i64 prm, .int .i64 sz, .slice Ai nc ci], .agg #[.int .i64 16, .int .i64 a, .int .i64 b, .int .i64 c, .int .u64 im]] W fun e w' => e = .returned (.tuple #[.agg #[.int .i64 0, .int .i64 0], .bool false]) ∧ Below W.heap.size W w') := Lib.hid (fun W => (mreads_any _ _ _ ⟨16, a, b, c, im⟩ W).mono (fun e w' h => ⟨h.1.trans (by rfl), h.2⟩))
  have HWR : Hid (∀ W : World, Calls Try.prog 11 #[.agg #[.int .i64 prm, .int .i64 sz, .slice Ai nc ci], .agg #[.int .i64 16, .int .i64 a, .int .i64 b, .int .i64 c, .int .u64 im]] W fun e w' => e = .returned (.tuple #[.agg #[.int .i64 a, .int .i64 c], .bool true]) ∧ Below W.heap.size W w') := Lib.hid (fun W => (mwrites_any _ _ _ ⟨16, a, b, c, im⟩ W).mono (fun e w' h => ⟨h.1.trans (by rfl), h.2⟩))
  have HMB : Hid (memB 16 = true) := Lib.hid (by rfl)
  have HSZ : Hid (∀ W : World, Calls Try.prog 53 #[.int .i64 c] W fun e w' => e = .returned (.bool (sizeB c)) ∧ W = w') := Lib.hid (fun W => size_any c hr.2.2.2.1 hr.2.2.2.2 W)
  obtain ⟨W2, hW2⟩ : ∃ W2, W2 = (w.alloc (.cells #[.int .i64 prm, .int .i64 sz, .slice Ai nc ci, .int .i64 al, .int .i64 (nf : Int)] 62)).alloc (.cells #[.int .i64 16, .int .i64 a, .int .i64 b, .int .i64 c, .int .u64 im] 42) := ⟨_, rfl⟩
  have HKF : Hid (Blk W2 w.heap.size 62 #[.int .i64 prm, .int .i64 sz, .slice Ai nc ci, .int .i64 al, .int .i64 (nf : Int)]) := Lib.hid (by rw [hW2]; exact (Blk.new _ _ _).alloc _)
  have HKX : Hid (Blk W2 (w.heap.size + 1) 42 #[.int .i64 16, .int .i64 a, .int .i64 b, .int .i64 c, .int .u64 im]) := Lib.hid (by rw [hW2]; exact Blk.newAt (by simp))
  have HB : Hid (Below w.heap.size w W2) := Lib.hid (by rw [hW2]; exact ((Below.refl _ _).alloc (Nat.le_refl _) _).alloc (by simp) _)
  have HW2 := Lib.hid hW2
  clear hW2 hr
  go_enter Try.func32, Try.ntmps32
  go_upto_region 1 with (fail)
  rw [← HW2.out]
  clear HW2
  obtain ⟨x0, x1, x2, x3, x4, -, -, -, -, -, xz⟩ := HKX.out.c5
  obtain ⟨f0, f1, f2, f3, f4, -, -, -, -, -, fz⟩ := HKF.out.c5
  go_wp2_with fail
  refine (mwithin_any _ _ _).mono ?_
  rintro e w1 ⟨rfl, rfl⟩
  rw [HO.out]
  go_wp2_with fail
  refine (unused_any ⟨16, a, b, c, im⟩ _).mono ?_
  rintro e W3 ⟨rfl, bel⟩
  have HB' := Lib.hid (HB.out.trans (bel.mono HB.out.size))
  have HKF' := Lib.hid (HKF.out.after bel)
  have HKX' := Lib.hid (HKX.out.after bel)
  clear bel HB HKF HKX   x0 x1 x2 x3 x4 xz f0 f1 f2 f3 f4 fz
  have HB := HB'
  have HKF := HKF'
  have HKX := HKX'
  clear HB' HKF' HKX'
  obtain ⟨x0, x1, x2, x3, x4, -, -, -, -, -, xz⟩ := HKX.out.c5
  obtain ⟨f0, f1, f2, f3, f4, -, -, -, -, -, fz⟩ := HKF.out.c5
  rcases hu : unB ⟨16, a, b, c, im⟩ with _ | _
  case true =>
    have HE : Hid (inE nf prm sz nc ⟨16, a, b, c, im⟩ = 2) := Lib.hid (by unfold inE; rw [if_neg (by rw [HO1.out]; simp), if_pos hu])
    clear hu
    go_wp2
    go_ret
    exact ⟨ret_int (by rw [HE.out]), HB.out⟩
  have HU := Lib.hid hu
  clear hu
  go_wp2_with fail
  refine (registers_any ⟨16, a, b, c, im⟩ _).mono ?_
  rintro e W4 ⟨Ar, nr, cr, rfl, hrd, hln, bel⟩
  have HC := Lib.hid (contains_ints Ar nr cr _ W4 hrd hln (by rw [← hln]; exact regL_len _))
  clear hrd
  have HB' := Lib.hid (HB.out.trans (bel.mono HB.out.size))
  have HKF' := Lib.hid (HKF.out.after bel)
  have HKX' := Lib.hid (HKX.out.after bel)
  clear bel HB HKF HKX   x0 x1 x2 x3 x4 xz f0 f1 f2 f3 f4 fz
  have HB := HB'
  have HKF := HKF'
  have HKX := HKX'
  clear HB' HKF' HKX'
  obtain ⟨x0, x1, x2, x3, x4, -, -, -, -, -, xz⟩ := HKX.out.c5
  obtain ⟨f0, f1, f2, f3, f4, -, -, -, -, -, fz⟩ := HKF.out.c5
  clear hln
  go_wp2_with fail
  refine HC.out.mono ?_
  rintro e w1 ⟨rfl, rfl⟩
  clear HC
  rcases ho : outB (regL ⟨16, a, b, c, im⟩) with _ | _
  case true =>
    have HE : Hid (inE nf prm sz nc ⟨16, a, b, c, im⟩ = 4) := Lib.hid (by unfold inE; rw [if_neg (by rw [HO1.out]; simp), if_neg (by rw [HU.out]; simp), if_pos (by rw [ho]; rfl)])
    clear ho
    go_wp2
    go_ret
    exact ⟨ret_int (by rw [HE.out]), HB.out⟩
  have HR := Lib.hid ho
  clear ho
  have HA : Hid ((outB (regL ⟨16, a, b, c, im⟩) || ((16 : Int) == 22 && !inB a nf)) = false) := Lib.hid (by rw [HR.out, show ((16 : Int) == 22) = false from rfl]; rfl)
  clear HR
  go_wp2_with fail
  refine (memory_any _ _).mono ?_
  rintro e w1 ⟨rfl, rfl⟩
  rw [HMB.out]
  go_wp2_with fail
  refine (HSZ.out _).mono ?_
  rintro e w1 ⟨rfl, rfl⟩
  rcases hz : sizeB c with _ | _
  case false =>
    have HE : Hid (inE nf prm sz nc ⟨16, a, b, c, im⟩ = 5) := Lib.hid (by unfold inE; rw [if_neg (by rw [HO1.out]; simp), if_neg (by rw [HU.out]; simp), if_neg (by rw [HA.out]; simp), if_pos (by rw [HMB.out, hz]; rfl)])
    clear hz
    go_wp2
    go_ret
    exact ⟨ret_int (by rw [HE.out]), HB.out⟩
  have HM : Hid ((memB 16 && !sizeB c) = false) := Lib.hid (by rw [HMB.out, hz]; rfl)
  clear hz
  clear HSZ
  go_wp2_with fail
  refine (HRD.out _).mono ?_
  rintro e W5 ⟨rfl, bel⟩
  have HB' := Lib.hid (HB.out.trans (bel.mono HB.out.size))
  have HKF' := Lib.hid (HKF.out.after bel)
  have HKX' := Lib.hid (HKX.out.after bel)
  clear bel HB HKF HKX   x0 x1 x2 x3 x4 xz f0 f1 f2 f3 f4 fz
  have HB := HB'
  have HKF := HKF'
  have HKX := HKX'
  clear HB' HKF' HKX'
  obtain ⟨x0, x1, x2, x3, x4, -, -, -, -, -, xz⟩ := HKX.out.c5
  obtain ⟨f0, f1, f2, f3, f4, -, -, -, -, -, fz⟩ := HKF.out.c5
  go_upto_region 10 with (fail)
  obtain ⟨W6, hW6⟩ : ∃ W6, W6 = W5.alloc (.cells #[.int .i64 0, .int .i64 0] 37) := ⟨_, rfl⟩
  rw [← hW6]
  have HK5 : Hid (Blk W6 W5.heap.size 37 #[.int .i64 0, .int .i64 0]) := Lib.hid (by rw [hW6]; exact Blk.new _ _ _)
  have bel : Below W5.heap.size W5 W6 := by rw [hW6]; exact (Below.refl _ _).alloc (Nat.le_refl _) _
  clear hW6
  have HB' := Lib.hid (HB.out.trans (bel.mono HB.out.size))
  have HKF' := Lib.hid (HKF.out.after bel)
  have HKX' := Lib.hid (HKX.out.after bel)
  clear bel HB HKF HKX   x0 x1 x2 x3 x4 xz f0 f1 f2 f3 f4 fz
  have HB := HB'
  have HKF := HKF'
  have HKX := HKX'
  clear HB' HKF' HKX'
  obtain ⟨x0, x1, x2, x3, x4, -, -, -, -, -, xz⟩ := HKX.out.c5
  obtain ⟨f0, f1, f2, f3, f4, -, -, -, -, -, fz⟩ := HKF.out.c5
  generalize W5.heap.size = g5 at *
  go_wp2_with fail
  refine (HWR.out _).mono ?_
  rintro e W5 ⟨rfl, bel⟩
  have HB' := Lib.hid (HB.out.trans (bel.mono HB.out.size))
  have HKF' := Lib.hid (HKF.out.after bel)
  have HKX' := Lib.hid (HKX.out.after bel)
  have HK5' := Lib.hid (HK5.out.after bel)
  clear bel HB HKF HKX HK5  x0 x1 x2 x3 x4 xz f0 f1 f2 f3 f4 fz
  have HB := HB'
  have HKF := HKF'
  have HKX := HKX'
  clear HB' HKF' HKX'
  have HK5 := HK5'
  clear HK5'
  obtain ⟨x0, x1, x2, x3, x4, -, -, -, -, -, xz⟩ := HKX.out.c5
  obtain ⟨f0, f1, f2, f3, f4, -, -, -, -, -, fz⟩ := HKF.out.c5
  go_upto_region 11 with (fail)
  obtain ⟨W6, hW6⟩ : ∃ W6, W6 = W5.alloc (.cells #[.int .i64 a, .int .i64 c] 37) := ⟨_, rfl⟩
  rw [← hW6]
  have HK7 : Hid (Blk W6 W5.heap.size 37 #[.int .i64 a, .int .i64 c]) := Lib.hid (by rw [hW6]; exact Blk.new _ _ _)
  have bel : Below W5.heap.size W5 W6 := by rw [hW6]; exact (Below.refl _ _).alloc (Nat.le_refl _) _
  clear hW6
  have HB' := Lib.hid (HB.out.trans (bel.mono HB.out.size))
  have HKF' := Lib.hid (HKF.out.after bel)
  have HKX' := Lib.hid (HKX.out.after bel)
  have HK5' := Lib.hid (HK5.out.after bel)
  clear bel HB HKF HKX HK5  x0 x1 x2 x3 x4 xz f0 f1 f2 f3 f4 fz
  have HB := HB'
  have HKF := HKF'
  have HKX := HKX'
  clear HB' HKF' HKX'
  have HK5 := HK5'
  clear HK5'
  obtain ⟨x0, x1, x2, x3, x4, -, -, -, -, -, xz⟩ := HKX.out.c5
  obtain ⟨f0, f1, f2, f3, f4, -, -, -, -, -, fz⟩ := HKF.out.c5
  generalize W5.heap.size = g7 at *
  clear HRD HWR
  obtain ⟨i0, i1, -, -, iz⟩ := HK7.out.c2
  go_wp2_with fail
  refine (inside_any _ _ _ _).mono ?_
  rintro e W7 ⟨rfl, bel⟩
  clear i0 i1 iz
  have HB' := Lib.hid (HB.out.trans (bel.mono HB.out.size))
  have HKF' := Lib.hid (HKF.out.after bel)
  have HKX' := Lib.hid (HKX.out.after bel)
  clear bel HB HKF HKX  HK7 x0 x1 x2 x3 x4 xz f0 f1 f2 f3 f4 fz
  have HB := HB'
  have HKF := HKF'
  have HKX := HKX'
  clear HB' HKF' HKX'
  obtain ⟨x0, x1, x2, x3, x4, -, -, -, -, -, xz⟩ := HKX.out.c5
  obtain ⟨f0, f1, f2, f3, f4, -, -, -, -, -, fz⟩ := HKF.out.c5
  rcases hi : insB a c sz with _ | _
  case false =>
    have HE : Hid (inE nf prm sz nc ⟨16, a, b, c, im⟩ = 4) := Lib.hid (by unfold inE; rw [if_neg (by rw [HO1.out]; simp), if_neg (by rw [HU.out]; simp), if_neg (by rw [HA.out]; simp), if_neg (by rw [HM.out]; simp), if_pos (by unfold wildB; simp only; rw [hi]; simp [wrB])])
    clear hi
    go_wp2
    go_ret
    exact ⟨ret_int (by rw [HE.out]), HB.out⟩
  have HI7 := Lib.hid hi
  clear hi
  have HWL : Hid (wildB prm sz ⟨16, a, b, c, im⟩ = false) := Lib.hid (by unfold wildB; simp only; rw [HI7.out]; rfl)
  have HT : Hid (tgtB nc ⟨16, a, b, c, im⟩ = false) := Lib.hid rfl
  have HE : Hid (inE nf prm sz nc ⟨16, a, b, c, im⟩ = 0) := Lib.hid (by unfold inE; rw [if_neg (by rw [HO1.out]; simp), if_neg (by rw [HU.out]; simp), if_neg (by rw [HA.out]; simp), if_neg (by rw [HM.out]; simp), if_neg (by rw [HWL.out]; simp), if_neg (by rw [HT.out]; simp)])
  go_wp2
  go_ret
  exact ⟨ret_int (by rw [HE.out]), HB.out⟩
end Go.Proofs.Ytmeoabpigibaoaa.pm
