/- Contracts: mach.Reads, Writes; extent.Inside; an instruction's check. -/
import Derived.Test.YtinfeglhjmnlaaaDoorGKb
import Derived.Deep.CutBlock
namespace Go.Proofs.YtinfeglhjmnlaaaDoor.pm
open Go.RowKit
set_option linter.unusedVariables false
set_option maxRecDepth 10000

def rdP (x : Ins) : Int × Int × Bool := if x.op = 15 ∨ x.op = 17 then (x.b, x.c, true) else (0, 0, false)
def wrP (x : Ins) : Int × Int × Bool := if x.op = 16 ∨ x.op = 17 then (x.a, x.c, true) else (0, 0, false)
abbrev retP (r : Int × Int × Bool) : Ending := .returned (.tuple #[.agg #[.int .i64 r.1, .int .i64 r.2.1], .bool r.2.2])
theorem mreads_any (fp fs fc : Value) (x : Ins) (w : World) :
    Calls Tryd.prog 143 #[.agg #[fp, fs, fc], insV x] w fun e w' => e = retP (rdP x) ∧ Below w.heap.size w w' := by
  obtain ⟨op, a, b, c, im⟩ := x
  have R : Hid (rdP ⟨op, a, b, c, im⟩ = if op = 15 ∨ op = 17 then (b, c, true) else (0, 0, false)) := Lib.hid rfl
  unfold insV
  go_enter Tryd.func143, Tryd.ntmps143
  go_wp2
  all_goals go_returns
  all_goals (refine ⟨?_, by go_grown⟩; rw [R.out]; simp_all [retP])
theorem mwrites_any (fp fs fc : Value) (x : Ins) (w : World) :
    Calls Tryd.prog 144 #[.agg #[fp, fs, fc], insV x] w fun e w' => e = retP (wrP x) ∧ Below w.heap.size w w' := by
  obtain ⟨op, a, b, c, im⟩ := x
  have R : Hid (wrP ⟨op, a, b, c, im⟩ = if op = 16 ∨ op = 17 then (a, c, true) else (0, 0, false)) := Lib.hid rfl
  unfold insV
  go_enter Tryd.func144, Tryd.ntmps144
  go_wp2
  all_goals go_returns
  all_goals (refine ⟨?_, by go_grown⟩; rw [R.out]; simp_all [retP])
theorem bound_any (n : Int) (w : World) : Calls Tryd.prog 156 #[.int .i64 n] w fun e w' => e = .returned (.bool (bndB n)) ∧ w = w' := by
  by_cases h0 : 0 ≤ n
  · have HI : Hid (bndB n = decide (n ≤ 2147483647)) := Lib.hid (by unfold bndB inB; rw [Bool.eq_iff_iff]; simp; omega)
    go_enter Tryd.func156, Tryd.ntmps156
    go_wp2
    go_ret
    exact ⟨ret_bool (by rw [HI.out]), rfl⟩
  · have HI : Hid (bndB n = false) := Lib.hid (inB_f.2 (by omega))
    go_enter Tryd.func156, Tryd.ntmps156
    go_wp2
    go_ret
    exact ⟨ret_bool (by rw [HI.out]), rfl⟩
/-- an interval that is right -/
def rgtB (o s : Int) : Bool := bndB o && bndB s && decide (o + s ≤ 2147483647)
theorem rgtB_t {o s : Int} (h : rgtB o s = true) : 0 ≤ o ∧ o ≤ 2147483647 ∧ 0 ≤ s ∧ s ≤ 2147483647 := by
  unfold rgtB bndB inB at h
  simp at h
  omega
theorem right_ext (o s : Int) (w : World) : Calls Tryd.prog 153 #[.agg #[.int .i64 o, .int .i64 s]] w fun e w' => e = .returned (.bool (rgtB o s)) ∧ Below w.heap.size w w' := by
  have HI : Hid (rgtB o s = (bndB o && bndB s && decide (o + s ≤ 2147483647))) := Lib.hid rfl
  rcases ho : bndB o with _ | _
  · have HO := Lib.hid ho
    clear ho
    go_enter Tryd.func153, Tryd.ntmps153
    go_wp2_with fail
    refine (bound_any _ _).mono ?_
    rintro e w1 ⟨rfl, rfl⟩
    rw [HO.out]
    go_wp2
    go_ret
    exact ⟨ret_bool (by rw [HI.out, HO.out]; rfl), (Below.refl _ _).alloc (Nat.le_refl _) _⟩
  · rcases hs : bndB s with _ | _
    · have HO := Lib.hid ho
      have HS := Lib.hid hs
      clear ho hs
      go_enter Tryd.func153, Tryd.ntmps153
      go_wp2_with fail
      refine (bound_any _ _).mono ?_
      rintro e w1 ⟨rfl, rfl⟩
      rw [HO.out]
      go_wp2_with fail
      refine (bound_any _ _).mono ?_
      rintro e w1 ⟨rfl, rfl⟩
      rw [HS.out]
      go_wp2
      go_ret
      exact ⟨ret_bool (by rw [HI.out, HO.out, HS.out]; rfl), (Below.refl _ _).alloc (Nat.le_refl _) _⟩
    · have ho1 := inB_t.1 ho
      have hs1 := inB_t.1 hs
      obtain ⟨n1, n2⟩ := ho1
      obtain ⟨n3, n4⟩ := hs1
      have HO := Lib.hid ho
      have HS := Lib.hid hs
      clear ho hs
      go_enter Tryd.func153, Tryd.ntmps153
      go_wp2_with fail
      refine (bound_any _ _).mono ?_
      rintro e w1 ⟨rfl, rfl⟩
      rw [HO.out]
      go_wp2_with fail
      refine (bound_any _ _).mono ?_
      rintro e w1 ⟨rfl, rfl⟩
      rw [HS.out]
      go_wp2
      go_ret
      exact ⟨ret_bool (by rw [HI.out, HO.out, HS.out]; rfl), (Below.refl _ _).alloc (Nat.le_refl _) _⟩
theorem inside_any (o s size : Int) (w : World) : Calls Tryd.prog 145 #[.agg #[.int .i64 o, .int .i64 s], .int .i64 size] w fun e w' => e = .returned (.bool (insB o s size)) ∧ Below w.heap.size w w' := by
  have HI : Hid (insB o s size = (rgtB o s && decide (o + s ≤ size))) := Lib.hid rfl
  rcases hr : rgtB o s with _ | _
  · have HO := Lib.hid hr
    clear hr
    go_enter Tryd.func145, Tryd.ntmps145
    go_wp2_with fail
    refine (right_ext _ _ _).mono ?_
    rintro e w1 ⟨rfl, bel⟩
    have HB := Lib.hid (((Below.refl w.heap.size w).alloc (Nat.le_refl _) _).trans (bel.mono (by simp)))
    clear bel
    rw [HO.out]
    go_wp2
    go_ret
    exact ⟨ret_bool (by rw [HI.out, HO.out]; rfl), HB.out⟩
  · obtain ⟨n1, n2, n3, n4⟩ := rgtB_t hr
    have HO := Lib.hid hr
    clear hr
    go_enter Tryd.func145, Tryd.ntmps145
    go_wp2_with fail
    refine (right_ext _ _ _).mono ?_
    rintro e w1 ⟨rfl, bel⟩
    have HB := Lib.hid (((Below.refl w.heap.size w).alloc (Nat.le_refl _) _).trans (bel.mono (by simp)))
    have hk := Lib.hid ((Blk.new w 152 #[.int .i64 o, .int .i64 s]).after bel)
    clear bel
    obtain ⟨c0, c1, -, -, cz⟩ := hk.out.c2
    rw [HO.out]
    go_wp2
    go_ret
    exact ⟨ret_bool (by rw [HI.out, HO.out]; rfl), HB.out⟩
theorem regL_len (x : Ins) : (regL x).length ≤ 3 := by
  unfold regL
  split
  · simp
  · split
    · simp
    · split
      · simp
      · split <;> simp
end Go.Proofs.YtinfeglhjmnlaaaDoor.pm
namespace Go.Proofs.YtinfeglhjmnlaaaDoor.pm
open Go.RowKit
set_option linter.unusedVariables false
set_option maxRecDepth 10000

set_option maxHeartbeats 8000000 in
theorem instr_l15 (prm sz al : Int) (nf nc ci : Nat) (Ai : Option Addr) (op a b c im : Int) (hop : op = 15) (p0 : 0 ≤ prm) (p1 : prm ≤ 8) (z0 : 0 ≤ sz) (z1 : sz < 2147483520) (hr : InR ⟨op, a, b, c, im⟩) (hni : (nc : Int) ≤ 9223372036854775807) (w : World) :
    Calls Tryd.prog 116 #[.agg #[.int .i64 prm, .int .i64 sz, .slice Ai nc ci, .int .i64 al, .int .i64 (nf : Int)], .agg #[.int .i64 op, .int .i64 a, .int .i64 b, .int .i64 c, .int .u64 im]] w fun e w' =>
      e = .returned (.int .i64 (inE nf prm sz nc ⟨op, a, b, c, im⟩)) ∧ Below w.heap.size w w' := by
  subst hop
  have HO : Hid (inB 15 25 = true) := Lib.hid rfl
  have HO1 : Hid ((!inB 15 25 || (15 : Int) == 18 || (15 : Int) == 19) = false) := Lib.hid rfl
  have HRD : Hid (∀ W : World, Calls Tryd.prog 143 #[.agg #[.int .i64 prm, .int .i64 sz, .slice Ai nc ci], .agg #[.int .i64 15, .int .i64 a, .int .i64 b, .int .i64 c, .int .u64 im]] W fun e w' => e = .returned (.tuple #[.agg #[.int .i64 b, .int .i64 c], .bool true]) ∧ Below W.heap.size W w') := Lib.hid (fun W => (mreads_any _ _ _ ⟨15, a, b, c, im⟩ W).mono (fun e w' h => ⟨h.1.trans (by rfl), h.2⟩))
  have HWR : Hid (∀ W : World, Calls Tryd.prog 144 #[.agg #[.int .i64 prm, .int .i64 sz, .slice Ai nc ci], .agg #[.int .i64 15, .int .i64 a, .int .i64 b, .int .i64 c, .int .u64 im]] W fun e w' => e = .returned (.tuple #[.agg #[.int .i64 0, .int .i64 0], .bool false]) ∧ Below W.heap.size W w') := Lib.hid (fun W => (mwrites_any _ _ _ ⟨15, a, b, c, im⟩ W).mono (fun e w' h => ⟨h.1.trans (by rfl), h.2⟩))
  have HMB : Hid (memB 15 = true) := Lib.hid (by rfl)
  have HSZ : Hid (∀ W : World, Calls Tryd.prog 142 #[.int .i64 c] W fun e w' => e = .returned (.bool (sizeB c)) ∧ W = w') := Lib.hid (fun W => size_any c hr.2.2.2.1 hr.2.2.2.2 W)
  obtain ⟨W2, hW2⟩ : ∃ W2, W2 = (w.alloc (.cells #[.int .i64 prm, .int .i64 sz, .slice Ai nc ci, .int .i64 al, .int .i64 (nf : Int)] 125)).alloc (.cells #[.int .i64 15, .int .i64 a, .int .i64 b, .int .i64 c, .int .u64 im] 58) := ⟨_, rfl⟩
  have HKF : Hid (Blk W2 w.heap.size 125 #[.int .i64 prm, .int .i64 sz, .slice Ai nc ci, .int .i64 al, .int .i64 (nf : Int)]) := Lib.hid (by rw [hW2]; exact (Blk.new _ _ _).alloc _)
  have HKX : Hid (Blk W2 (w.heap.size + 1) 58 #[.int .i64 15, .int .i64 a, .int .i64 b, .int .i64 c, .int .u64 im]) := Lib.hid (by rw [hW2]; exact Blk.newAt (by simp))
  have HB : Hid (Below w.heap.size w W2) := Lib.hid (by rw [hW2]; exact ((Below.refl _ _).alloc (Nat.le_refl _) _).alloc (by simp) _)
  have HW2 := Lib.hid hW2
  clear hW2 hr
  go_enter Tryd.func116, Tryd.ntmps116
  go_upto_region 1 with (fail)
  rw [← HW2.out]
  clear HW2
  obtain ⟨x0, x1, x2, x3, x4, -, -, -, -, -, xz⟩ := HKX.out.c5
  obtain ⟨f0, f1, f2, f3, f4, -, -, -, -, -, fz⟩ := HKF.out.c5
  go_wp2_with fail
  refine (mwithin_any _ _ _).mono ?_
  rintro e w1 ⟨rfl, rfl⟩
  rw [HO.out]
  go_wp2_with fail
  refine (unused_any ⟨15, a, b, c, im⟩ _).mono ?_
  rintro e W3 ⟨rfl, bel⟩
  have HB' := Lib.hid (HB.out.trans (bel.mono HB.out.size))
  have HKF' := Lib.hid (HKF.out.after bel)
  have HKX' := Lib.hid (HKX.out.after bel)
  clear bel HB HKF HKX   x0 x1 x2 x3 x4 xz f0 f1 f2 f3 f4 fz
  have HB := HB'
  have HKF := HKF'
  have HKX := HKX'
  clear HB' HKF' HKX'
  obtain ⟨x0, x1, x2, x3, x4, -, -, -, -, -, xz⟩ := HKX.out.c5
  obtain ⟨f0, f1, f2, f3, f4, -, -, -, -, -, fz⟩ := HKF.out.c5
  rcases hu : unB ⟨15, a, b, c, im⟩ with _ | _
  case true =>
    have HE : Hid (inE nf prm sz nc ⟨15, a, b, c, im⟩ = 2) := Lib.hid (by unfold inE; rw [if_neg (by rw [HO1.out]; simp), if_pos hu])
    clear hu
    go_wp2
    go_ret
    exact ⟨ret_int (by rw [HE.out]), HB.out⟩
  have HU := Lib.hid hu
  clear hu
  go_wp2_with fail
  refine (registers_any ⟨15, a, b, c, im⟩ _).mono ?_
  rintro e W4 ⟨Ar, nr, cr, rfl, hrd, hln, bel⟩
  have HC := Lib.hid (contains_ints Ar nr cr _ W4 hrd hln (by rw [← hln]; exact regL_len _))
  clear hrd
  have HB' := Lib.hid (HB.out.trans (bel.mono HB.out.size))
  have HKF' := Lib.hid (HKF.out.after bel)
  have HKX' := Lib.hid (HKX.out.after bel)
  clear bel HB HKF HKX   x0 x1 x2 x3 x4 xz f0 f1 f2 f3 f4 fz
  have HB := HB'
  have HKF := HKF'
  have HKX := HKX'
  clear HB' HKF' HKX'
  obtain ⟨x0, x1, x2, x3, x4, -, -, -, -, -, xz⟩ := HKX.out.c5
  obtain ⟨f0, f1, f2, f3, f4, -, -, -, -, -, fz⟩ := HKF.out.c5
  clear hln
  go_wp2_with fail
  refine HC.out.mono ?_
  rintro e w1 ⟨rfl, rfl⟩
  clear HC
  rcases ho : outB (regL ⟨15, a, b, c, im⟩) with _ | _
  case true =>
    have HE : Hid (inE nf prm sz nc ⟨15, a, b, c, im⟩ = 4) := Lib.hid (by unfold inE; rw [if_neg (by rw [HO1.out]; simp), if_neg (by rw [HU.out]; simp), if_pos (by rw [ho]; rfl)])
    clear ho
    go_wp2
    go_ret
    exact ⟨ret_int (by rw [HE.out]), HB.out⟩
  have HR := Lib.hid ho
  clear ho
  have HA : Hid ((outB (regL ⟨15, a, b, c, im⟩) || ((15 : Int) == 22 && !inB a nf)) = false) := Lib.hid (by rw [HR.out, show ((15 : Int) == 22) = false from rfl]; rfl)
  clear HR
  go_wp2_with fail
  refine (memory_any _ _).mono ?_
  rintro e w1 ⟨rfl, rfl⟩
  rw [HMB.out]
  go_wp2_with fail
  refine (HSZ.out _).mono ?_
  rintro e w1 ⟨rfl, rfl⟩
  rcases hz : sizeB c with _ | _
  case false =>
    have HE : Hid (inE nf prm sz nc ⟨15, a, b, c, im⟩ = 5) := Lib.hid (by unfold inE; rw [if_neg (by rw [HO1.out]; simp), if_neg (by rw [HU.out]; simp), if_neg (by rw [HA.out]; simp), if_pos (by rw [HMB.out, hz]; rfl)])
    clear hz
    go_wp2
    go_ret
    exact ⟨ret_int (by rw [HE.out]), HB.out⟩
  have HM : Hid ((memB 15 && !sizeB c) = false) := Lib.hid (by rw [HMB.out, hz]; rfl)
  clear hz
  clear HSZ
  go_wp2_with fail
  refine (HRD.out _).mono ?_
  rintro e W5 ⟨rfl, bel⟩
  have HB' := Lib.hid (HB.out.trans (bel.mono HB.out.size))
  have HKF' := Lib.hid (HKF.out.after bel)
  have HKX' := Lib.hid (HKX.out.after bel)
  clear bel HB HKF HKX   x0 x1 x2 x3 x4 xz f0 f1 f2 f3 f4 fz
  have HB := HB'
  have HKF := HKF'
  have HKX := HKX'
  clear HB' HKF' HKX'
  obtain ⟨x0, x1, x2, x3, x4, -, -, -, -, -, xz⟩ := HKX.out.c5
  obtain ⟨f0, f1, f2, f3, f4, -, -, -, -, -, fz⟩ := HKF.out.c5
  go_upto_region 10 with (fail)
  obtain ⟨W6, hW6⟩ : ∃ W6, W6 = W5.alloc (.cells #[.int .i64 b, .int .i64 c] 152) := ⟨_, rfl⟩
  rw [← hW6]
  have HK5 : Hid (Blk W6 W5.heap.size 152 #[.int .i64 b, .int .i64 c]) := Lib.hid (by rw [hW6]; exact Blk.new _ _ _)
  have bel : Below W5.heap.size W5 W6 := by rw [hW6]; exact (Below.refl _ _).alloc (Nat.le_refl _) _
  clear hW6
  have HB' := Lib.hid (HB.out.trans (bel.mono HB.out.size))
  have HKF' := Lib.hid (HKF.out.after bel)
  have HKX' := Lib.hid (HKX.out.after bel)
  clear bel HB HKF HKX   x0 x1 x2 x3 x4 xz f0 f1 f2 f3 f4 fz
  have HB := HB'
  have HKF := HKF'
  have HKX := HKX'
  clear HB' HKF' HKX'
  obtain ⟨x0, x1, x2, x3, x4, -, -, -, -, -, xz⟩ := HKX.out.c5
  obtain ⟨f0, f1, f2, f3, f4, -, -, -, -, -, fz⟩ := HKF.out.c5
  generalize W5.heap.size = g5 at *
  go_wp2_with fail
  refine (HWR.out _).mono ?_
  rintro e W5 ⟨rfl, bel⟩
  have HB' := Lib.hid (HB.out.trans (bel.mono HB.out.size))
  have HKF' := Lib.hid (HKF.out.after bel)
  have HKX' := Lib.hid (HKX.out.after bel)
  have HK5' := Lib.hid (HK5.out.after bel)
  clear bel HB HKF HKX HK5  x0 x1 x2 x3 x4 xz f0 f1 f2 f3 f4 fz
  have HB := HB'
  have HKF := HKF'
  have HKX := HKX'
  clear HB' HKF' HKX'
  have HK5 := HK5'
  clear HK5'
  obtain ⟨x0, x1, x2, x3, x4, -, -, -, -, -, xz⟩ := HKX.out.c5
  obtain ⟨f0, f1, f2, f3, f4, -, -, -, -, -, fz⟩ := HKF.out.c5
  go_upto_region 11 with (fail)
  obtain ⟨W6, hW6⟩ : ∃ W6, W6 = W5.alloc (.cells #[.int .i64 0, .int .i64 0] 152) := ⟨_, rfl⟩
  rw [← hW6]
  have HK7 : Hid (Blk W6 W5.heap.size 152 #[.int .i64 0, .int .i64 0]) := Lib.hid (by rw [hW6]; exact Blk.new _ _ _)
  have bel : Below W5.heap.size W5 W6 := by rw [hW6]; exact (Below.refl _ _).alloc (Nat.le_refl _) _
  clear hW6
  have HB' := Lib.hid (HB.out.trans (bel.mono HB.out.size))
  have HKF' := Lib.hid (HKF.out.after bel)
  have HKX' := Lib.hid (HKX.out.after bel)
  have HK5' := Lib.hid (HK5.out.after bel)
  clear bel HB HKF HKX HK5  x0 x1 x2 x3 x4 xz f0 f1 f2 f3 f4 fz
  have HB := HB'
  have HKF := HKF'
  have HKX := HKX'
  clear HB' HKF' HKX'
  have HK5 := HK5'
  clear HK5'
  obtain ⟨x0, x1, x2, x3, x4, -, -, -, -, -, xz⟩ := HKX.out.c5
  obtain ⟨f0, f1, f2, f3, f4, -, -, -, -, -, fz⟩ := HKF.out.c5
  generalize W5.heap.size = g7 at *
  clear HRD HWR
  obtain ⟨i0, i1, -, -, iz⟩ := HK5.out.c2
  go_wp2_with fail
  refine (inside_any _ _ _ _).mono ?_
  rintro e W7 ⟨rfl, bel⟩
  clear i0 i1 iz
  have HB' := Lib.hid (HB.out.trans (bel.mono HB.out.size))
  have HKF' := Lib.hid (HKF.out.after bel)
  have HKX' := Lib.hid (HKX.out.after bel)
  have HK7' := Lib.hid (HK7.out.after bel)
  clear bel HB HKF HKX HK7 HK5 x0 x1 x2 x3 x4 xz f0 f1 f2 f3 f4 fz
  have HB := HB'
  have HKF := HKF'
  have HKX := HKX'
  clear HB' HKF' HKX'
  have HK7 := HK7'
  clear HK7'
  obtain ⟨x0, x1, x2, x3, x4, -, -, -, -, -, xz⟩ := HKX.out.c5
  obtain ⟨f0, f1, f2, f3, f4, -, -, -, -, -, fz⟩ := HKF.out.c5
  rcases hi : insB b c (sz + 16 * prm) with _ | _
  case false =>
    have HE : Hid (inE nf prm sz nc ⟨15, a, b, c, im⟩ = 4) := Lib.hid (by unfold inE; rw [if_neg (by rw [HO1.out]; simp), if_neg (by rw [HU.out]; simp), if_neg (by rw [HA.out]; simp), if_neg (by rw [HM.out]; simp), if_pos (by unfold wildB; simp only; rw [hi]; rfl)])
    clear hi
    go_wp2
    go_ret
    exact ⟨ret_int (by rw [HE.out]), HB.out⟩
  have HI5 := Lib.hid hi
  clear hi
  have HWL : Hid (wildB prm sz ⟨15, a, b, c, im⟩ = false) := Lib.hid (by unfold wildB; simp only; rw [HI5.out]; rfl)
  have HT : Hid (tgtB nc ⟨15, a, b, c, im⟩ = false) := Lib.hid rfl
  have HE : Hid (inE nf prm sz nc ⟨15, a, b, c, im⟩ = 0) := Lib.hid (by unfold inE; rw [if_neg (by rw [HO1.out]; simp), if_neg (by rw [HU.out]; simp), if_neg (by rw [HA.out]; simp), if_neg (by rw [HM.out]; simp), if_neg (by rw [HWL.out]; simp), if_neg (by rw [HT.out]; simp)])
  go_wp2
  go_ret
  exact ⟨ret_int (by rw [HE.out]), HB.out⟩
set_option maxHeartbeats 8000000 in
theorem instr_l16 (prm sz al : Int) (nf nc ci : Nat) (Ai : Option Addr) (op a b c im : Int) (hop : op = 16) (p0 : 0 ≤ prm) (p1 : prm ≤ 8) (z0 : 0 ≤ sz) (z1 : sz < 2147483520) (hr : InR ⟨op, a, b, c, im⟩) (hni : (nc : Int) ≤ 9223372036854775807) (w : World) :
    Calls Tryd.prog 116 #[.agg #[.int .i64 prm, .int .i64 sz, .slice Ai nc ci, .int .i64 al, .int .i64 (nf : Int)], .agg #[.int .i64 op, .int .i64 a, .int .i64 b, .int .i64 c, .int .u64 im]] w fun e w' =>
      e = .returned (.int .i64 (inE nf prm sz nc ⟨op, a, b, c, im⟩)) ∧ Below w.heap.size w w' := by
  subst hop
  have HO : Hid (inB 16 25 = true) := Lib.hid rfl
  have HO1 : Hid ((!inB 16 25 || (16 : Int) == 18 || (16 : Int) == 19) = false) := Lib.hid rfl
  have HRD : Hid (∀ W : World, Calls Tryd.prog 143 #[.agg #[.int .i64 prm, .int .i64 sz, .slice Ai nc ci], .agg #[.int .i64 16, .int .i64 a, .int .i64 b, .int .i64 c, .int .u64 im]] W fun e w' => e = .returned (.tuple #[.agg #[.int .i64 0, .int .i64 0], .bool false]) ∧ Below W.heap.size W w') := Lib.hid (fun W => (mreads_any _ _ _ ⟨16, a, b, c, im⟩ W).mono (fun e w' h => ⟨h.1.trans (by rfl), h.2⟩))
  have HWR : Hid (∀ W : World, Calls Tryd.prog 144 #[.agg #[.int .i64 prm, .int .i64 sz, .slice Ai nc ci], .agg #[.int .i64 16, .int .i64 a, .int .i64 b, .int .i64 c, .int .u64 im]] W fun e w' => e = .returned (.tuple #[.agg #[.int .i64 a, .int .i64 c], .bool true]) ∧ Below W.heap.size W w') := Lib.hid (fun W => (mwrites_any _ _ _ ⟨16, a, b, c, im⟩ W).mono (fun e w' h => ⟨h.1.trans (by rfl), h.2⟩))
  have HMB : Hid (memB 16 = true) := Lib.hid (by rfl)
  have HSZ : Hid (∀ W : World, Calls Tryd.prog 142 #[.int .i64 c] W fun e w' => e = .returned (.bool (sizeB c)) ∧ W = w') := Lib.hid (fun W => size_any c hr.2.2.2.1 hr.2.2.2.2 W)
  obtain ⟨W2, hW2⟩ : ∃ W2, W2 = (w.alloc (.cells #[.int .i64 prm, .int .i64 sz, .slice Ai nc ci, .int .i64 al, .int .i64 (nf : Int)] 125)).alloc (.cells #[.int .i64 16, .int .i64 a, .int .i64 b, .int .i64 c, .int .u64 im] 58) := ⟨_, rfl⟩
  have HKF : Hid (Blk W2 w.heap.size 125 #[.int .i64 prm, .int .i64 sz, .slice Ai nc ci, .int .i64 al, .int .i64 (nf : Int)]) := Lib.hid (by rw [hW2]; exact (Blk.new _ _ _).alloc _)
  have HKX : Hid (Blk W2 (w.heap.size + 1) 58 #[.int .i64 16, .int .i64 a, .int .i64 b, .int .i64 c, .int .u64 im]) := Lib.hid (by rw [hW2]; exact Blk.newAt (by simp))
  have HB : Hid (Below w.heap.size w W2) := Lib.hid (by rw [hW2]; exact ((Below.refl _ _).alloc (Nat.le_refl _) _).alloc (by simp) _)
  have HW2 := Lib.hid hW2
  clear hW2 hr
  go_enter Tryd.func116, Tryd.ntmps116
  go_upto_region 1 with (fail)
  rw [← HW2.out]
  clear HW2
  obtain ⟨x0, x1, x2, x3, x4, -, -, -, -, -, xz⟩ := HKX.out.c5
  obtain ⟨f0, f1, f2, f3, f4, -, -, -, -, -, fz⟩ := HKF.out.c5
  go_wp2_with fail
  refine (mwithin_any _ _ _).mono ?_
  rintro e w1 ⟨rfl, rfl⟩
  rw [HO.out]
  go_wp2_with fail
  refine (unused_any ⟨16, a, b, c, im⟩ _).mono ?_
  rintro e W3 ⟨rfl, bel⟩
  have HB' := Lib.hid (HB.out.trans (bel.mono HB.out.size))
  have HKF' := Lib.hid (HKF.out.after bel)
  have HKX' := Lib.hid (HKX.out.after bel)
  clear bel HB HKF HKX   x0 x1 x2 x3 x4 xz f0 f1 f2 f3 f4 fz
  have HB := HB'
  have HKF := HKF'
  have HKX := HKX'
  clear HB' HKF' HKX'
  obtain ⟨x0, x1, x2, x3, x4, -, -, -, -, -, xz⟩ := HKX.out.c5
  obtain ⟨f0, f1, f2, f3, f4, -, -, -, -, -, fz⟩ := HKF.out.c5
  rcases hu : unB ⟨16, a, b, c, im⟩ with _ | _
  case true =>
    have HE : Hid (inE nf prm sz nc ⟨16, a, b, c, im⟩ = 2) := Lib.hid (by unfold inE; rw [if_neg (by rw [HO1.out]; simp), if_pos hu])
    clear hu
    go_wp2
    go_ret
    exact ⟨ret_int (by rw [HE.out]), HB.out⟩
  have HU := Lib.hid hu
  clear hu
  go_wp2_with fail
  refine (registers_any ⟨16, a, b, c, im⟩ _).mono ?_
  rintro e W4 ⟨Ar, nr, cr, rfl, hrd, hln, bel⟩
  have HC := Lib.hid (contains_ints Ar nr cr _ W4 hrd hln (by rw [← hln]; exact regL_len _))
  clear hrd
  have HB' := Lib.hid (HB.out.trans (bel.mono HB.out.size))
  have HKF' := Lib.hid (HKF.out.after bel)
  have HKX' := Lib.hid (HKX.out.after bel)
  clear bel HB HKF HKX   x0 x1 x2 x3 x4 xz f0 f1 f2 f3 f4 fz
  have HB := HB'
  have HKF := HKF'
  have HKX := HKX'
  clear HB' HKF' HKX'
  obtain ⟨x0, x1, x2, x3, x4, -, -, -, -, -, xz⟩ := HKX.out.c5
  obtain ⟨f0, f1, f2, f3, f4, -, -, -, -, -, fz⟩ := HKF.out.c5
  clear hln
  go_wp2_with fail
  refine HC.out.mono ?_
  rintro e w1 ⟨rfl, rfl⟩
  clear HC
  rcases ho : outB (regL ⟨16, a, b, c, im⟩) with _ | _
  case true =>
    have HE : Hid (inE nf prm sz nc ⟨16, a, b, c, im⟩ = 4) := Lib.hid (by unfold inE; rw [if_neg (by rw [HO1.out]; simp), if_neg (by rw [HU.out]; simp), if_pos (by rw [ho]; rfl)])
    clear ho
    go_wp2
    go_ret
    exact ⟨ret_int (by rw [HE.out]), HB.out⟩
  have HR := Lib.hid ho
  clear ho
  have HA : Hid ((outB (regL ⟨16, a, b, c, im⟩) || ((16 : Int) == 22 && !inB a nf)) = false) := Lib.hid (by rw [HR.out, show ((16 : Int) == 22) = false from rfl]; rfl)
  clear HR
  go_wp2_with fail
  refine (memory_any _ _).mono ?_
  rintro e w1 ⟨rfl, rfl⟩
  rw [HMB.out]
  go_wp2_with fail
  refine (HSZ.out _).mono ?_
  rintro e w1 ⟨rfl, rfl⟩
  rcases hz : sizeB c with _ | _
  case false =>
    have HE : Hid (inE nf prm sz nc ⟨16, a, b, c, im⟩ = 5) := Lib.hid (by unfold inE; rw [if_neg (by rw [HO1.out]; simp), if_neg (by rw [HU.out]; simp), if_neg (by rw [HA.out]; simp), if_pos (by rw [HMB.out, hz]; rfl)])
    clear hz
    go_wp2
    go_ret
    exact ⟨ret_int (by rw [HE.out]), HB.out⟩
  have HM : Hid ((memB 16 && !sizeB c) = false) := Lib.hid (by rw [HMB.out, hz]; rfl)
  clear hz
  clear HSZ
  go_wp2_with fail
  refine (HRD.out _).mono ?_
  rintro e W5 ⟨rfl, bel⟩
  have HB' := Lib.hid (HB.out.trans (bel.mono HB.out.size))
  have HKF' := Lib.hid (HKF.out.after bel)
  have HKX' := Lib.hid (HKX.out.after bel)
  clear bel HB HKF HKX   x0 x1 x2 x3 x4 xz f0 f1 f2 f3 f4 fz
  have HB := HB'
  have HKF := HKF'
  have HKX := HKX'
  clear HB' HKF' HKX'
  obtain ⟨x0, x1, x2, x3, x4, -, -, -, -, -, xz⟩ := HKX.out.c5
  obtain ⟨f0, f1, f2, f3, f4, -, -, -, -, -, fz⟩ := HKF.out.c5
  go_upto_region 10 with (fail)
  obtain ⟨W6, hW6⟩ : ∃ W6, W6 = W5.alloc (.cells #[.int .i64 0, .int .i64 0] 152) := ⟨_, rfl⟩
  rw [← hW6]
  have HK5 : Hid (Blk W6 W5.heap.size 152 #[.int .i64 0, .int .i64 0]) := Lib.hid (by rw [hW6]; exact Blk.new _ _ _)
  have bel : Below W5.heap.size W5 W6 := by rw [hW6]; exact (Below.refl _ _).alloc (Nat.le_refl _) _
  clear hW6
  have HB' := Lib.hid (HB.out.trans (bel.mono HB.out.size))
  have HKF' := Lib.hid (HKF.out.after bel)
  have HKX' := Lib.hid (HKX.out.after bel)
  clear bel HB HKF HKX   x0 x1 x2 x3 x4 xz f0 f1 f2 f3 f4 fz
  have HB := HB'
  have HKF := HKF'
  have HKX := HKX'
  clear HB' HKF' HKX'
  obtain ⟨x0, x1, x2, x3, x4, -, -, -, -, -, xz⟩ := HKX.out.c5
  obtain ⟨f0, f1, f2, f3, f4, -, -, -, -, -, fz⟩ := HKF.out.c5
  generalize W5.heap.size = g5 at *
  go_wp2_with fail
  refine (HWR.out _).mono ?_
  rintro e W5 ⟨rfl, bel⟩
  have HB' := Lib.hid (HB.out.trans (bel.mono HB.out.size))
  have HKF' := Lib.hid (HKF.out.after bel)
  have HKX' := Lib.hid (HKX.out.after bel)
  have HK5' := Lib.hid (HK5.out.after bel)
  clear bel HB HKF HKX HK5  x0 x1 x2 x3 x4 xz f0 f1 f2 f3 f4 fz
  have HB := HB'
  have HKF := HKF'
  have HKX := HKX'
  clear HB' HKF' HKX'
  have HK5 := HK5'
  clear HK5'
  obtain ⟨x0, x1, x2, x3, x4, -, -, -, -, -, xz⟩ := HKX.out.c5
  obtain ⟨f0, f1, f2, f3, f4, -, -, -, -, -, fz⟩ := HKF.out.c5
  go_upto_region 11 with (fail)
  obtain ⟨W6, hW6⟩ : ∃ W6, W6 = W5.alloc (.cells #[.int .i64 a, .int .i64 c] 152) := ⟨_, rfl⟩
  rw [← hW6]
  have HK7 : Hid (Blk W6 W5.heap.size 152 #[.int .i64 a, .int .i64 c]) := Lib.hid (by rw [hW6]; exact Blk.new _ _ _)
  have bel : Below W5.heap.size W5 W6 := by rw [hW6]; exact (Below.refl _ _).alloc (Nat.le_refl _) _
  clear hW6
  have HB' := Lib.hid (HB.out.trans (bel.mono HB.out.size))
  have HKF' := Lib.hid (HKF.out.after bel)
  have HKX' := Lib.hid (HKX.out.after bel)
  have HK5' := Lib.hid (HK5.out.after bel)
  clear bel HB HKF HKX HK5  x0 x1 x2 x3 x4 xz f0 f1 f2 f3 f4 fz
  have HB := HB'
  have HKF := HKF'
  have HKX := HKX'
  clear HB' HKF' HKX'
  have HK5 := HK5'
  clear HK5'
  obtain ⟨x0, x1, x2, x3, x4, -, -, -, -, -, xz⟩ := HKX.out.c5
  obtain ⟨f0, f1, f2, f3, f4, -, -, -, -, -, fz⟩ := HKF.out.c5
  generalize W5.heap.size = g7 at *
  clear HRD HWR
  obtain ⟨i0, i1, -, -, iz⟩ := HK7.out.c2
  go_wp2_with fail
  refine (inside_any _ _ _ _).mono ?_
  rintro e W7 ⟨rfl, bel⟩
  clear i0 i1 iz
  have HB' := Lib.hid (HB.out.trans (bel.mono HB.out.size))
  have HKF' := Lib.hid (HKF.out.after bel)
  have HKX' := Lib.hid (HKX.out.after bel)
  clear bel HB HKF HKX  HK7 x0 x1 x2 x3 x4 xz f0 f1 f2 f3 f4 fz
  have HB := HB'
  have HKF := HKF'
  have HKX := HKX'
  clear HB' HKF' HKX'
  obtain ⟨x0, x1, x2, x3, x4, -, -, -, -, -, xz⟩ := HKX.out.c5
  obtain ⟨f0, f1, f2, f3, f4, -, -, -, -, -, fz⟩ := HKF.out.c5
  rcases hi : insB a c sz with _ | _
  case false =>
    have HE : Hid (inE nf prm sz nc ⟨16, a, b, c, im⟩ = 4) := Lib.hid (by unfold inE; rw [if_neg (by rw [HO1.out]; simp), if_neg (by rw [HU.out]; simp), if_neg (by rw [HA.out]; simp), if_neg (by rw [HM.out]; simp), if_pos (by unfold wildB; simp only; rw [hi]; simp [wrB])])
    clear hi
    go_wp2
    go_ret
    exact ⟨ret_int (by rw [HE.out]), HB.out⟩
  have HI7 := Lib.hid hi
  clear hi
  have HWL : Hid (wildB prm sz ⟨16, a, b, c, im⟩ = false) := Lib.hid (by unfold wildB; simp only; rw [HI7.out]; rfl)
  have HT : Hid (tgtB nc ⟨16, a, b, c, im⟩ = false) := Lib.hid rfl
  have HE : Hid (inE nf prm sz nc ⟨16, a, b, c, im⟩ = 0) := Lib.hid (by unfold inE; rw [if_neg (by rw [HO1.out]; simp), if_neg (by rw [HU.out]; simp), if_neg (by rw [HA.out]; simp), if_neg (by rw [HM.out]; simp), if_neg (by rw [HWL.out]; simp), if_neg (by rw [HT.out]; simp)])
  go_wp2
  go_ret
  exact ⟨ret_int (by rw [HE.out]), HB.out⟩
end Go.Proofs.YtinfeglhjmnlaaaDoor.pm
namespace Go.Proofs.YtinfeglhjmnlaaaDoor.pm
open Go.RowKit
set_option linter.unusedVariables false
set_option maxRecDepth 10000

set_option maxHeartbeats 8000000 in
theorem instr_l17 (prm sz al : Int) (nf nc ci : Nat) (Ai : Option Addr) (op a b c im : Int) (hop : op = 17) (p0 : 0 ≤ prm) (p1 : prm ≤ 8) (z0 : 0 ≤ sz) (z1 : sz < 2147483520) (hr : InR ⟨op, a, b, c, im⟩) (hni : (nc : Int) ≤ 9223372036854775807) (w : World) :
    Calls Tryd.prog 116 #[.agg #[.int .i64 prm, .int .i64 sz, .slice Ai nc ci, .int .i64 al, .int .i64 (nf : Int)], .agg #[.int .i64 op, .int .i64 a, .int .i64 b, .int .i64 c, .int .u64 im]] w fun e w' =>
      e = .returned (.int .i64 (inE nf prm sz nc ⟨op, a, b, c, im⟩)) ∧ Below w.heap.size w w' := by
  subst hop
  have HO : Hid (inB 17 25 = true) := Lib.hid rfl
  have HO1 : Hid ((!inB 17 25 || (17 : Int) == 18 || (17 : Int) == 19) = false) := Lib.hid rfl
  have HRD : Hid (∀ W : World, Calls Tryd.prog 143 #[.agg #[.int .i64 prm, .int .i64 sz, .slice Ai nc ci], .agg #[.int .i64 17, .int .i64 a, .int .i64 b, .int .i64 c, .int .u64 im]] W fun e w' => e = .returned (.tuple #[.agg #[.int .i64 b, .int .i64 c], .bool true]) ∧ Below W.heap.size W w') := Lib.hid (fun W => (mreads_any _ _ _ ⟨17, a, b, c, im⟩ W).mono (fun e w' h => ⟨h.1.trans (by rfl), h.2⟩))
  have HWR : Hid (∀ W : World, Calls Tryd.prog 144 #[.agg #[.int .i64 prm, .int .i64 sz, .slice Ai nc ci], .agg #[.int .i64 17, .int .i64 a, .int .i64 b, .int .i64 c, .int .u64 im]] W fun e w' => e = .returned (.tuple #[.agg #[.int .i64 a, .int .i64 c], .bool true]) ∧ Below W.heap.size W w') := Lib.hid (fun W => (mwrites_any _ _ _ ⟨17, a, b, c, im⟩ W).mono (fun e w' h => ⟨h.1.trans (by rfl), h.2⟩))
  have HMB : Hid (memB 17 = true) := Lib.hid (by rfl)
  have HSZ : Hid (∀ W : World, Calls Tryd.prog 142 #[.int .i64 c] W fun e w' => e = .returned (.bool (sizeB c)) ∧ W = w') := Lib.hid (fun W => size_any c hr.2.2.2.1 hr.2.2.2.2 W)
  obtain ⟨W2, hW2⟩ : ∃ W2, W2 = (w.alloc (.cells #[.int .i64 prm, .int .i64 sz, .slice Ai nc ci, .int .i64 al, .int .i64 (nf : Int)] 125)).alloc (.cells #[.int .i64 17, .int .i64 a, .int .i64 b, .int .i64 c, .int .u64 im] 58) := ⟨_, rfl⟩
  have HKF : Hid (Blk W2 w.heap.size 125 #[.int .i64 prm, .int .i64 sz, .slice Ai nc ci, .int .i64 al, .int .i64 (nf : Int)]) := Lib.hid (by rw [hW2]; exact (Blk.new _ _ _).alloc _)
  have HKX : Hid (Blk W2 (w.heap.size + 1) 58 #[.int .i64 17, .int .i64 a, .int .i64 b, .int .i64 c, .int .u64 im]) := Lib.hid (by rw [hW2]; exact Blk.newAt (by simp))
  have HB : Hid (Below w.heap.size w W2) := Lib.hid (by rw [hW2]; exact ((Below.refl _ _).alloc (Nat.le_refl _) _).alloc (by simp) _)
  have HW2 := Lib.hid hW2
  clear hW2 hr
  go_enter Tryd.func116, Tryd.ntmps116
  go_upto_region 1 with (fail)
  rw [← HW2.out]
  clear HW2
  obtain ⟨x0, x1, x2, x3, x4, -, -, -, -, -, xz⟩ := HKX.out.c5
  obtain ⟨f0, f1, f2, f3, f4, -, -, -, -, -, fz⟩ := HKF.out.c5
  go_wp2_with fail
  refine (mwithin_any _ _ _).mono ?_
  rintro e w1 ⟨rfl, rfl⟩
  rw [HO.out]
  go_wp2_with fail
  refine (unused_any ⟨17, a, b, c, im⟩ _).mono ?_
  rintro e W3 ⟨rfl, bel⟩
  have HB' := Lib.hid (HB.out.trans (bel.mono HB.out.size))
  have HKF' := Lib.hid (HKF.out.after bel)
  have HKX' := Lib.hid (HKX.out.after bel)
  clear bel HB HKF HKX   x0 x1 x2 x3 x4 xz f0 f1 f2 f3 f4 fz
  have HB := HB'
  have HKF := HKF'
  have HKX := HKX'
  clear HB' HKF' HKX'
  obtain ⟨x0, x1, x2, x3, x4, -, -, -, -, -, xz⟩ := HKX.out.c5
  obtain ⟨f0, f1, f2, f3, f4, -, -, -, -, -, fz⟩ := HKF.out.c5
  rcases hu : unB ⟨17, a, b, c, im⟩ with _ | _
  case true =>
    have HE : Hid (inE nf prm sz nc ⟨17, a, b, c, im⟩ = 2) := Lib.hid (by unfold inE; rw [if_neg (by rw [HO1.out]; simp), if_pos hu])
    clear hu
    go_wp2
    go_ret
    exact ⟨ret_int (by rw [HE.out]), HB.out⟩
  have HU := Lib.hid hu
  clear hu
  go_wp2_with fail
  refine (registers_any ⟨17, a, b, c, im⟩ _).mono ?_
  rintro e W4 ⟨Ar, nr, cr, rfl, hrd, hln, bel⟩
  have HC := Lib.hid (contains_ints Ar nr cr _ W4 hrd hln (by rw [← hln]; exact regL_len _))
  clear hrd
  have HB' := Lib.hid (HB.out.trans (bel.mono HB.out.size))
  have HKF' := Lib.hid (HKF.out.after bel)
  have HKX' := Lib.hid (HKX.out.after bel)
  clear bel HB HKF HKX   x0 x1 x2 x3 x4 xz f0 f1 f2 f3 f4 fz
  have HB := HB'
  have HKF := HKF'
  have HKX := HKX'
  clear HB' HKF' HKX'
  obtain ⟨x0, x1, x2, x3, x4, -, -, -, -, -, xz⟩ := HKX.out.c5
  obtain ⟨f0, f1, f2, f3, f4, -, -, -, -, -, fz⟩ := HKF.out.c5
  clear hln
  go_wp2_with fail
  refine HC.out.mono ?_
  rintro e w1 ⟨rfl, rfl⟩
  clear HC
  rcases ho : outB (regL ⟨17, a, b, c, im⟩) with _ | _
  case true =>
    have HE : Hid (inE nf prm sz nc ⟨17, a, b, c, im⟩ = 4) := Lib.hid (by unfold inE; rw [if_neg (by rw [HO1.out]; simp), if_neg (by rw [HU.out]; simp), if_pos (by rw [ho]; rfl)])
    clear ho
    go_wp2
    go_ret
    exact ⟨ret_int (by rw [HE.out]), HB.out⟩
  have HR := Lib.hid ho
  clear ho
  have HA : Hid ((outB (regL ⟨17, a, b, c, im⟩) || ((17 : Int) == 22 && !inB a nf)) = false) := Lib.hid (by rw [HR.out, show ((17 : Int) == 22) = false from rfl]; rfl)
  clear HR
  go_wp2_with fail
  refine (memory_any _ _).mono ?_
  rintro e w1 ⟨rfl, rfl⟩
  rw [HMB.out]
  go_wp2_with fail
  refine (HSZ.out _).mono ?_
  rintro e w1 ⟨rfl, rfl⟩
  rcases hz : sizeB c with _ | _
  case false =>
    have HE : Hid (inE nf prm sz nc ⟨17, a, b, c, im⟩ = 5) := Lib.hid (by unfold inE; rw [if_neg (by rw [HO1.out]; simp), if_neg (by rw [HU.out]; simp), if_neg (by rw [HA.out]; simp), if_pos (by rw [HMB.out, hz]; rfl)])
    clear hz
    go_wp2
    go_ret
    exact ⟨ret_int (by rw [HE.out]), HB.out⟩
  have HM : Hid ((memB 17 && !sizeB c) = false) := Lib.hid (by rw [HMB.out, hz]; rfl)
  clear hz
  clear HSZ
  go_wp2_with fail
  refine (HRD.out _).mono ?_
  rintro e W5 ⟨rfl, bel⟩
  have HB' := Lib.hid (HB.out.trans (bel.mono HB.out.size))
  have HKF' := Lib.hid (HKF.out.after bel)
  have HKX' := Lib.hid (HKX.out.after bel)
  clear bel HB HKF HKX   x0 x1 x2 x3 x4 xz f0 f1 f2 f3 f4 fz
  have HB := HB'
  have HKF := HKF'
  have HKX := HKX'
  clear HB' HKF' HKX'
  obtain ⟨x0, x1, x2, x3, x4, -, -, -, -, -, xz⟩ := HKX.out.c5
  obtain ⟨f0, f1, f2, f3, f4, -, -, -, -, -, fz⟩ := HKF.out.c5
  go_upto_region 10 with (fail)
  obtain ⟨W6, hW6⟩ : ∃ W6, W6 = W5.alloc (.cells #[.int .i64 b, .int .i64 c] 152) := ⟨_, rfl⟩
  rw [← hW6]
  have HK5 : Hid (Blk W6 W5.heap.size 152 #[.int .i64 b, .int .i64 c]) := Lib.hid (by rw [hW6]; exact Blk.new _ _ _)
  have bel : Below W5.heap.size W5 W6 := by rw [hW6]; exact (Below.refl _ _).alloc (Nat.le_refl _) _
  clear hW6
  have HB' := Lib.hid (HB.out.trans (bel.mono HB.out.size))
  have HKF' := Lib.hid (HKF.out.after bel)
  have HKX' := Lib.hid (HKX.out.after bel)
  clear bel HB HKF HKX   x0 x1 x2 x3 x4 xz f0 f1 f2 f3 f4 fz
  have HB := HB'
  have HKF := HKF'
  have HKX := HKX'
  clear HB' HKF' HKX'
  obtain ⟨x0, x1, x2, x3, x4, -, -, -, -, -, xz⟩ := HKX.out.c5
  obtain ⟨f0, f1, f2, f3, f4, -, -, -, -, -, fz⟩ := HKF.out.c5
  generalize W5.heap.size = g5 at *
  go_wp2_with fail
  refine (HWR.out _).mono ?_
  rintro e W5 ⟨rfl, bel⟩
  have HB' := Lib.hid (HB.out.trans (bel.mono HB.out.size))
  have HKF' := Lib.hid (HKF.out.after bel)
  have HKX' := Lib.hid (HKX.out.after bel)
  have HK5' := Lib.hid (HK5.out.after bel)
  clear bel HB HKF HKX HK5  x0 x1 x2 x3 x4 xz f0 f1 f2 f3 f4 fz
  have HB := HB'
  have HKF := HKF'
  have HKX := HKX'
  clear HB' HKF' HKX'
  have HK5 := HK5'
  clear HK5'
  obtain ⟨x0, x1, x2, x3, x4, -, -, -, -, -, xz⟩ := HKX.out.c5
  obtain ⟨f0, f1, f2, f3, f4, -, -, -, -, -, fz⟩ := HKF.out.c5
  go_upto_region 11 with (fail)
  obtain ⟨W6, hW6⟩ : ∃ W6, W6 = W5.alloc (.cells #[.int .i64 a, .int .i64 c] 152) := ⟨_, rfl⟩
  rw [← hW6]
  have HK7 : Hid (Blk W6 W5.heap.size 152 #[.int .i64 a, .int .i64 c]) := Lib.hid (by rw [hW6]; exact Blk.new _ _ _)
  have bel : Below W5.heap.size W5 W6 := by rw [hW6]; exact (Below.refl _ _).alloc (Nat.le_refl _) _
  clear hW6
  have HB' := Lib.hid (HB.out.trans (bel.mono HB.out.size))
  have HKF' := Lib.hid (HKF.out.after bel)
  have HKX' := Lib.hid (HKX.out.after bel)
  have HK5' := Lib.hid (HK5.out.after bel)
  clear bel HB HKF HKX HK5  x0 x1 x2 x3 x4 xz f0 f1 f2 f3 f4 fz
  have HB := HB'
  have HKF := HKF'
  have HKX := HKX'
  clear HB' HKF' HKX'
  have HK5 := HK5'
  clear HK5'
  obtain ⟨x0, x1, x2, x3, x4, -, -, -, -, -, xz⟩ := HKX.out.c5
  obtain ⟨f0, f1, f2, f3, f4, -, -, -, -, -, fz⟩ := HKF.out.c5
  generalize W5.heap.size = g7 at *
  clear HRD HWR
  obtain ⟨i0, i1, -, -, iz⟩ := HK5.out.c2
  go_wp2_with fail
  refine (inside_any _ _ _ _).mono ?_
  rintro e W7 ⟨rfl, bel⟩
  clear i0 i1 iz
  have HB' := Lib.hid (HB.out.trans (bel.mono HB.out.size))
  have HKF' := Lib.hid (HKF.out.after bel)
  have HKX' := Lib.hid (HKX.out.after bel)
  have HK7' := Lib.hid (HK7.out.after bel)
  clear bel HB HKF HKX HK7 HK5 x0 x1 x2 x3 x4 xz f0 f1 f2 f3 f4 fz
  have HB := HB'
  have HKF := HKF'
  have HKX := HKX'
  clear HB' HKF' HKX'
  have HK7 := HK7'
  clear HK7'
  obtain ⟨x0, x1, x2, x3, x4, -, -, -, -, -, xz⟩ := HKX.out.c5
  obtain ⟨f0, f1, f2, f3, f4, -, -, -, -, -, fz⟩ := HKF.out.c5
  rcases hi : insB b c (sz + 16 * prm) with _ | _
  case false =>
    have HE : Hid (inE nf prm sz nc ⟨17, a, b, c, im⟩ = 4) := Lib.hid (by unfold inE; rw [if_neg (by rw [HO1.out]; simp), if_neg (by rw [HU.out]; simp), if_neg (by rw [HA.out]; simp), if_neg (by rw [HM.out]; simp), if_pos (by unfold wildB; simp only; rw [hi]; rfl)])
    clear hi
    go_wp2
    go_ret
    exact ⟨ret_int (by rw [HE.out]), HB.out⟩
  have HI5 := Lib.hid hi
  clear hi
  obtain ⟨i0, i1, -, -, iz⟩ := HK7.out.c2
  go_wp2_with fail
  refine (inside_any _ _ _ _).mono ?_
  rintro e W7 ⟨rfl, bel⟩
  clear i0 i1 iz
  have HB' := Lib.hid (HB.out.trans (bel.mono HB.out.size))
  have HKF' := Lib.hid (HKF.out.after bel)
  have HKX' := Lib.hid (HKX.out.after bel)
  clear bel HB HKF HKX  HK7 x0 x1 x2 x3 x4 xz f0 f1 f2 f3 f4 fz
  have HB := HB'
  have HKF := HKF'
  have HKX := HKX'
  clear HB' HKF' HKX'
  obtain ⟨x0, x1, x2, x3, x4, -, -, -, -, -, xz⟩ := HKX.out.c5
  obtain ⟨f0, f1, f2, f3, f4, -, -, -, -, -, fz⟩ := HKF.out.c5
  rcases hi : insB a c sz with _ | _
  case false =>
    have HE : Hid (inE nf prm sz nc ⟨17, a, b, c, im⟩ = 4) := Lib.hid (by unfold inE; rw [if_neg (by rw [HO1.out]; simp), if_neg (by rw [HU.out]; simp), if_neg (by rw [HA.out]; simp), if_neg (by rw [HM.out]; simp), if_pos (by unfold wildB; simp only; rw [hi]; simp [wrB])])
    clear hi
    go_wp2
    go_ret
    exact ⟨ret_int (by rw [HE.out]), HB.out⟩
  have HI7 := Lib.hid hi
  clear hi
  have HWL : Hid (wildB prm sz ⟨17, a, b, c, im⟩ = false) := Lib.hid (by unfold wildB; simp only; rw [HI5.out, HI7.out]; rfl)
  have HT : Hid (tgtB nc ⟨17, a, b, c, im⟩ = false) := Lib.hid rfl
  have HE : Hid (inE nf prm sz nc ⟨17, a, b, c, im⟩ = 0) := Lib.hid (by unfold inE; rw [if_neg (by rw [HO1.out]; simp), if_neg (by rw [HU.out]; simp), if_neg (by rw [HA.out]; simp), if_neg (by rw [HM.out]; simp), if_neg (by rw [HWL.out]; simp), if_neg (by rw [HT.out]; simp)])
  go_wp2
  go_ret
  exact ⟨ret_int (by rw [HE.out]), HB.out⟩
set_option maxHeartbeats 8000000 in
theorem instr_l20 (prm sz al : Int) (nf nc ci : Nat) (Ai : Option Addr) (op a b c im : Int) (hop : op = 20) (p0 : 0 ≤ prm) (p1 : prm ≤ 8) (z0 : 0 ≤ sz) (z1 : sz < 2147483520) (hr : InR ⟨op, a, b, c, im⟩) (hni : (nc : Int) ≤ 9223372036854775807) (w : World) :
    Calls Tryd.prog 116 #[.agg #[.int .i64 prm, .int .i64 sz, .slice Ai nc ci, .int .i64 al, .int .i64 (nf : Int)], .agg #[.int .i64 op, .int .i64 a, .int .i64 b, .int .i64 c, .int .u64 im]] w fun e w' =>
      e = .returned (.int .i64 (inE nf prm sz nc ⟨op, a, b, c, im⟩)) ∧ Below w.heap.size w w' := by
  subst hop
  have HO : Hid (inB 20 25 = true) := Lib.hid rfl
  have HO1 : Hid ((!inB 20 25 || (20 : Int) == 18 || (20 : Int) == 19) = false) := Lib.hid rfl
  have HRD : Hid (∀ W : World, Calls Tryd.prog 143 #[.agg #[.int .i64 prm, .int .i64 sz, .slice Ai nc ci], .agg #[.int .i64 20, .int .i64 a, .int .i64 b, .int .i64 c, .int .u64 im]] W fun e w' => e = .returned (.tuple #[.agg #[.int .i64 0, .int .i64 0], .bool false]) ∧ Below W.heap.size W w') := Lib.hid (fun W => (mreads_any _ _ _ ⟨20, a, b, c, im⟩ W).mono (fun e w' h => ⟨h.1.trans (by rfl), h.2⟩))
  have HWR : Hid (∀ W : World, Calls Tryd.prog 144 #[.agg #[.int .i64 prm, .int .i64 sz, .slice Ai nc ci], .agg #[.int .i64 20, .int .i64 a, .int .i64 b, .int .i64 c, .int .u64 im]] W fun e w' => e = .returned (.tuple #[.agg #[.int .i64 0, .int .i64 0], .bool false]) ∧ Below W.heap.size W w') := Lib.hid (fun W => (mwrites_any _ _ _ ⟨20, a, b, c, im⟩ W).mono (fun e w' h => ⟨h.1.trans (by rfl), h.2⟩))
  have HMB : Hid (memB 20 = false) := Lib.hid (by rfl)
  have HSZ : Hid (∀ W : World, Calls Tryd.prog 142 #[.int .i64 c] W fun e w' => e = .returned (.bool (sizeB c)) ∧ W = w') := Lib.hid (fun W => size_any c hr.2.2.2.1 hr.2.2.2.2 W)
  obtain ⟨W2, hW2⟩ : ∃ W2, W2 = (w.alloc (.cells #[.int .i64 prm, .int .i64 sz, .slice Ai nc ci, .int .i64 al, .int .i64 (nf : Int)] 125)).alloc (.cells #[.int .i64 20, .int .i64 a, .int .i64 b, .int .i64 c, .int .u64 im] 58) := ⟨_, rfl⟩
  have HKF : Hid (Blk W2 w.heap.size 125 #[.int .i64 prm, .int .i64 sz, .slice Ai nc ci, .int .i64 al, .int .i64 (nf : Int)]) := Lib.hid (by rw [hW2]; exact (Blk.new _ _ _).alloc _)
  have HKX : Hid (Blk W2 (w.heap.size + 1) 58 #[.int .i64 20, .int .i64 a, .int .i64 b, .int .i64 c, .int .u64 im]) := Lib.hid (by rw [hW2]; exact Blk.newAt (by simp))
  have HB : Hid (Below w.heap.size w W2) := Lib.hid (by rw [hW2]; exact ((Below.refl _ _).alloc (Nat.le_refl _) _).alloc (by simp) _)
  have HW2 := Lib.hid hW2
  clear hW2 hr
  go_enter Tryd.func116, Tryd.ntmps116
  go_upto_region 1 with (fail)
  rw [← HW2.out]
  clear HW2
  obtain ⟨x0, x1, x2, x3, x4, -, -, -, -, -, xz⟩ := HKX.out.c5
  obtain ⟨f0, f1, f2, f3, f4, -, -, -, -, -, fz⟩ := HKF.out.c5
  go_wp2_with fail
  refine (mwithin_any _ _ _).mono ?_
  rintro e w1 ⟨rfl, rfl⟩
  rw [HO.out]
  go_wp2_with fail
  refine (unused_any ⟨20, a, b, c, im⟩ _).mono ?_
  rintro e W3 ⟨rfl, bel⟩
  have HB' := Lib.hid (HB.out.trans (bel.mono HB.out.size))
  have HKF' := Lib.hid (HKF.out.after bel)
  have HKX' := Lib.hid (HKX.out.after bel)
  clear bel HB HKF HKX   x0 x1 x2 x3 x4 xz f0 f1 f2 f3 f4 fz
  have HB := HB'
  have HKF := HKF'
  have HKX := HKX'
  clear HB' HKF' HKX'
  obtain ⟨x0, x1, x2, x3, x4, -, -, -, -, -, xz⟩ := HKX.out.c5
  obtain ⟨f0, f1, f2, f3, f4, -, -, -, -, -, fz⟩ := HKF.out.c5
  rcases hu : unB ⟨20, a, b, c, im⟩ with _ | _
  case true =>
    have HE : Hid (inE nf prm sz nc ⟨20, a, b, c, im⟩ = 2) := Lib.hid (by unfold inE; rw [if_neg (by rw [HO1.out]; simp), if_pos hu])
    clear hu
    go_wp2
    go_ret
    exact ⟨ret_int (by rw [HE.out]), HB.out⟩
  have HU := Lib.hid hu
  clear hu
  go_wp2_with fail
  refine (registers_any ⟨20, a, b, c, im⟩ _).mono ?_
  rintro e W4 ⟨Ar, nr, cr, rfl, hrd, hln, bel⟩
  have HC := Lib.hid (contains_ints Ar nr cr _ W4 hrd hln (by rw [← hln]; exact regL_len _))
  clear hrd
  have HB' := Lib.hid (HB.out.trans (bel.mono HB.out.size))
  have HKF' := Lib.hid (HKF.out.after bel)
  have HKX' := Lib.hid (HKX.out.after bel)
  clear bel HB HKF HKX   x0 x1 x2 x3 x4 xz f0 f1 f2 f3 f4 fz
  have HB := HB'
  have HKF := HKF'
  have HKX := HKX'
  clear HB' HKF' HKX'
  obtain ⟨x0, x1, x2, x3, x4, -, -, -, -, -, xz⟩ := HKX.out.c5
  obtain ⟨f0, f1, f2, f3, f4, -, -, -, -, -, fz⟩ := HKF.out.c5
  clear hln
  go_wp2_with fail
  refine HC.out.mono ?_
  rintro e w1 ⟨rfl, rfl⟩
  clear HC
  rcases ho : outB (regL ⟨20, a, b, c, im⟩) with _ | _
  case true =>
    have HE : Hid (inE nf prm sz nc ⟨20, a, b, c, im⟩ = 4) := Lib.hid (by unfold inE; rw [if_neg (by rw [HO1.out]; simp), if_neg (by rw [HU.out]; simp), if_pos (by rw [ho]; rfl)])
    clear ho
    go_wp2
    go_ret
    exact ⟨ret_int (by rw [HE.out]), HB.out⟩
  have HR := Lib.hid ho
  clear ho
  have HA : Hid ((outB (regL ⟨20, a, b, c, im⟩) || ((20 : Int) == 22 && !inB a nf)) = false) := Lib.hid (by rw [HR.out, show ((20 : Int) == 22) = false from rfl]; rfl)
  clear HR
  go_wp2_with fail
  refine (memory_any _ _).mono ?_
  rintro e w1 ⟨rfl, rfl⟩
  rw [HMB.out]
  have HM : Hid ((memB 20 && !sizeB c) = false) := Lib.hid (by rw [HMB.out]; rfl)
  clear HSZ
  go_wp2_with fail
  refine (HRD.out _).mono ?_
  rintro e W5 ⟨rfl, bel⟩
  have HB' := Lib.hid (HB.out.trans (bel.mono HB.out.size))
  have HKF' := Lib.hid (HKF.out.after bel)
  have HKX' := Lib.hid (HKX.out.after bel)
  clear bel HB HKF HKX   x0 x1 x2 x3 x4 xz f0 f1 f2 f3 f4 fz
  have HB := HB'
  have HKF := HKF'
  have HKX := HKX'
  clear HB' HKF' HKX'
  obtain ⟨x0, x1, x2, x3, x4, -, -, -, -, -, xz⟩ := HKX.out.c5
  obtain ⟨f0, f1, f2, f3, f4, -, -, -, -, -, fz⟩ := HKF.out.c5
  go_upto_region 10 with (fail)
  obtain ⟨W6, hW6⟩ : ∃ W6, W6 = W5.alloc (.cells #[.int .i64 0, .int .i64 0] 152) := ⟨_, rfl⟩
  rw [← hW6]
  have HK5 : Hid (Blk W6 W5.heap.size 152 #[.int .i64 0, .int .i64 0]) := Lib.hid (by rw [hW6]; exact Blk.new _ _ _)
  have bel : Below W5.heap.size W5 W6 := by rw [hW6]; exact (Below.refl _ _).alloc (Nat.le_refl _) _
  clear hW6
  have HB' := Lib.hid (HB.out.trans (bel.mono HB.out.size))
  have HKF' := Lib.hid (HKF.out.after bel)
  have HKX' := Lib.hid (HKX.out.after bel)
  clear bel HB HKF HKX   x0 x1 x2 x3 x4 xz f0 f1 f2 f3 f4 fz
  have HB := HB'
  have HKF := HKF'
  have HKX := HKX'
  clear HB' HKF' HKX'
  obtain ⟨x0, x1, x2, x3, x4, -, -, -, -, -, xz⟩ := HKX.out.c5
  obtain ⟨f0, f1, f2, f3, f4, -, -, -, -, -, fz⟩ := HKF.out.c5
  generalize W5.heap.size = g5 at *
  go_wp2_with fail
  refine (HWR.out _).mono ?_
  rintro e W5 ⟨rfl, bel⟩
  have HB' := Lib.hid (HB.out.trans (bel.mono HB.out.size))
  have HKF' := Lib.hid (HKF.out.after bel)
  have HKX' := Lib.hid (HKX.out.after bel)
  have HK5' := Lib.hid (HK5.out.after bel)
  clear bel HB HKF HKX HK5  x0 x1 x2 x3 x4 xz f0 f1 f2 f3 f4 fz
  have HB := HB'
  have HKF := HKF'
  have HKX := HKX'
  clear HB' HKF' HKX'
  have HK5 := HK5'
  clear HK5'
  obtain ⟨x0, x1, x2, x3, x4, -, -, -, -, -, xz⟩ := HKX.out.c5
  obtain ⟨f0, f1, f2, f3, f4, -, -, -, -, -, fz⟩ := HKF.out.c5
  go_upto_region 11 with (fail)
  obtain ⟨W6, hW6⟩ : ∃ W6, W6 = W5.alloc (.cells #[.int .i64 0, .int .i64 0] 152) := ⟨_, rfl⟩
  rw [← hW6]
  have HK7 : Hid (Blk W6 W5.heap.size 152 #[.int .i64 0, .int .i64 0]) := Lib.hid (by rw [hW6]; exact Blk.new _ _ _)
  have bel : Below W5.heap.size W5 W6 := by rw [hW6]; exact (Below.refl _ _).alloc (Nat.le_refl _) _
  clear hW6
  have HB' := Lib.hid (HB.out.trans (bel.mono HB.out.size))
  have HKF' := Lib.hid (HKF.out.after bel)
  have HKX' := Lib.hid (HKX.out.after bel)
  have HK5' := Lib.hid (HK5.out.after bel)
  clear bel HB HKF HKX HK5  x0 x1 x2 x3 x4 xz f0 f1 f2 f3 f4 fz
  have HB := HB'
  have HKF := HKF'
  have HKX := HKX'
  clear HB' HKF' HKX'
  have HK5 := HK5'
  clear HK5'
  obtain ⟨x0, x1, x2, x3, x4, -, -, -, -, -, xz⟩ := HKX.out.c5
  obtain ⟨f0, f1, f2, f3, f4, -, -, -, -, -, fz⟩ := HKF.out.c5
  generalize W5.heap.size = g7 at *
  clear HRD HWR
  have HWL : Hid (wildB prm sz ⟨20, a, b, c, im⟩ = false) := Lib.hid (by rfl)
  go_wp2_with fail
  refine (mwithin_any _ _ _).mono ?_
  rintro e w1 ⟨rfl, rfl⟩
  rcases ht : inB a (nc : Int) with _ | _
  case false =>
    have HE : Hid (inE nf prm sz nc ⟨20, a, b, c, im⟩ = 6) := Lib.hid (by unfold inE; rw [if_neg (by rw [HO1.out]; simp), if_neg (by rw [HU.out]; simp), if_neg (by rw [HA.out]; simp), if_neg (by rw [HM.out]; simp), if_neg (by rw [HWL.out]; simp), if_pos (by unfold tgtB; simp only; rw [ht]; rfl)])
    clear ht
    go_wp2
    go_ret
    exact ⟨ret_int (by rw [HE.out]), HB.out⟩
  have HT : Hid (tgtB nc ⟨20, a, b, c, im⟩ = false) := Lib.hid (by unfold tgtB; simp only; rw [ht]; rfl)
  clear ht
  have HE : Hid (inE nf prm sz nc ⟨20, a, b, c, im⟩ = 0) := Lib.hid (by unfold inE; rw [if_neg (by rw [HO1.out]; simp), if_neg (by rw [HU.out]; simp), if_neg (by rw [HA.out]; simp), if_neg (by rw [HM.out]; simp), if_neg (by rw [HWL.out]; simp), if_neg (by rw [HT.out]; simp)])
  go_wp2
  go_ret
  exact ⟨ret_int (by rw [HE.out]), HB.out⟩
end Go.Proofs.YtinfeglhjmnlaaaDoor.pm
namespace Go.Proofs.YtinfeglhjmnlaaaDoor.pm
open Go.RowKit
set_option linter.unusedVariables false
set_option maxRecDepth 10000

set_option maxHeartbeats 8000000 in
theorem instr_l21 (prm sz al : Int) (nf nc ci : Nat) (Ai : Option Addr) (op a b c im : Int) (hop : op = 21) (p0 : 0 ≤ prm) (p1 : prm ≤ 8) (z0 : 0 ≤ sz) (z1 : sz < 2147483520) (hr : InR ⟨op, a, b, c, im⟩) (hni : (nc : Int) ≤ 9223372036854775807) (w : World) :
    Calls Tryd.prog 116 #[.agg #[.int .i64 prm, .int .i64 sz, .slice Ai nc ci, .int .i64 al, .int .i64 (nf : Int)], .agg #[.int .i64 op, .int .i64 a, .int .i64 b, .int .i64 c, .int .u64 im]] w fun e w' =>
      e = .returned (.int .i64 (inE nf prm sz nc ⟨op, a, b, c, im⟩)) ∧ Below w.heap.size w w' := by
  subst hop
  have HO : Hid (inB 21 25 = true) := Lib.hid rfl
  have HO1 : Hid ((!inB 21 25 || (21 : Int) == 18 || (21 : Int) == 19) = false) := Lib.hid rfl
  have HRD : Hid (∀ W : World, Calls Tryd.prog 143 #[.agg #[.int .i64 prm, .int .i64 sz, .slice Ai nc ci], .agg #[.int .i64 21, .int .i64 a, .int .i64 b, .int .i64 c, .int .u64 im]] W fun e w' => e = .returned (.tuple #[.agg #[.int .i64 0, .int .i64 0], .bool false]) ∧ Below W.heap.size W w') := Lib.hid (fun W => (mreads_any _ _ _ ⟨21, a, b, c, im⟩ W).mono (fun e w' h => ⟨h.1.trans (by rfl), h.2⟩))
  have HWR : Hid (∀ W : World, Calls Tryd.prog 144 #[.agg #[.int .i64 prm, .int .i64 sz, .slice Ai nc ci], .agg #[.int .i64 21, .int .i64 a, .int .i64 b, .int .i64 c, .int .u64 im]] W fun e w' => e = .returned (.tuple #[.agg #[.int .i64 0, .int .i64 0], .bool false]) ∧ Below W.heap.size W w') := Lib.hid (fun W => (mwrites_any _ _ _ ⟨21, a, b, c, im⟩ W).mono (fun e w' h => ⟨h.1.trans (by rfl), h.2⟩))
  have HMB : Hid (memB 21 = false) := Lib.hid (by rfl)
  have HSZ : Hid (∀ W : World, Calls Tryd.prog 142 #[.int .i64 c] W fun e w' => e = .returned (.bool (sizeB c)) ∧ W = w') := Lib.hid (fun W => size_any c hr.2.2.2.1 hr.2.2.2.2 W)
  obtain ⟨W2, hW2⟩ : ∃ W2, W2 = (w.alloc (.cells #[.int .i64 prm, .int .i64 sz, .slice Ai nc ci, .int .i64 al, .int .i64 (nf : Int)] 125)).alloc (.cells #[.int .i64 21, .int .i64 a, .int .i64 b, .int .i64 c, .int .u64 im] 58) := ⟨_, rfl⟩
  have HKF : Hid (Blk W2 w.heap.size 125 #[.int .i64 prm, .int .i64 sz, .slice Ai nc ci, .int .i64 al, .int .i64 (nf : Int)]) := Lib.hid (by rw [hW2]; exact (Blk.new _ _ _).alloc _)
  have HKX : Hid (Blk W2 (w.heap.size + 1) 58 #[.int .i64 21, .int .i64 a, .int .i64 b, .int .i64 c, .int .u64 im]) := Lib.hid (by rw [hW2]; exact Blk.newAt (by simp))
  have HB : Hid (Below w.heap.size w W2) := Lib.hid (by rw [hW2]; exact ((Below.refl _ _).alloc (Nat.le_refl _) _).alloc (by simp) _)
  have HW2 := Lib.hid hW2
  clear hW2 hr
  go_enter Tryd.func116, Tryd.ntmps116
  go_upto_region 1 with (fail)
  rw [← HW2.out]
  clear HW2
  obtain ⟨x0, x1, x2, x3, x4, -, -, -, -, -, xz⟩ := HKX.out.c5
  obtain ⟨f0, f1, f2, f3, f4, -, -, -, -, -, fz⟩ := HKF.out.c5
  go_wp2_with fail
  refine (mwithin_any _ _ _).mono ?_
  rintro e w1 ⟨rfl, rfl⟩
  rw [HO.out]
  go_wp2_with fail
  refine (unused_any ⟨21, a, b, c, im⟩ _).mono ?_
  rintro e W3 ⟨rfl, bel⟩
  have HB' := Lib.hid (HB.out.trans (bel.mono HB.out.size))
  have HKF' := Lib.hid (HKF.out.after bel)
  have HKX' := Lib.hid (HKX.out.after bel)
  clear bel HB HKF HKX   x0 x1 x2 x3 x4 xz f0 f1 f2 f3 f4 fz
  have HB := HB'
  have HKF := HKF'
  have HKX := HKX'
  clear HB' HKF' HKX'
  obtain ⟨x0, x1, x2, x3, x4, -, -, -, -, -, xz⟩ := HKX.out.c5
  obtain ⟨f0, f1, f2, f3, f4, -, -, -, -, -, fz⟩ := HKF.out.c5
  rcases hu : unB ⟨21, a, b, c, im⟩ with _ | _
  case true =>
    have HE : Hid (inE nf prm sz nc ⟨21, a, b, c, im⟩ = 2) := Lib.hid (by unfold inE; rw [if_neg (by rw [HO1.out]; simp), if_pos hu])
    clear hu
    go_wp2
    go_ret
    exact ⟨ret_int (by rw [HE.out]), HB.out⟩
  have HU := Lib.hid hu
  clear hu
  go_wp2_with fail
  refine (registers_any ⟨21, a, b, c, im⟩ _).mono ?_
  rintro e W4 ⟨Ar, nr, cr, rfl, hrd, hln, bel⟩
  have HC := Lib.hid (contains_ints Ar nr cr _ W4 hrd hln (by rw [← hln]; exact regL_len _))
  clear hrd
  have HB' := Lib.hid (HB.out.trans (bel.mono HB.out.size))
  have HKF' := Lib.hid (HKF.out.after bel)
  have HKX' := Lib.hid (HKX.out.after bel)
  clear bel HB HKF HKX   x0 x1 x2 x3 x4 xz f0 f1 f2 f3 f4 fz
  have HB := HB'
  have HKF := HKF'
  have HKX := HKX'
  clear HB' HKF' HKX'
  obtain ⟨x0, x1, x2, x3, x4, -, -, -, -, -, xz⟩ := HKX.out.c5
  obtain ⟨f0, f1, f2, f3, f4, -, -, -, -, -, fz⟩ := HKF.out.c5
  clear hln
  go_wp2_with fail
  refine HC.out.mono ?_
  rintro e w1 ⟨rfl, rfl⟩
  clear HC
  rcases ho : outB (regL ⟨21, a, b, c, im⟩) with _ | _
  case true =>
    have HE : Hid (inE nf prm sz nc ⟨21, a, b, c, im⟩ = 4) := Lib.hid (by unfold inE; rw [if_neg (by rw [HO1.out]; simp), if_neg (by rw [HU.out]; simp), if_pos (by rw [ho]; rfl)])
    clear ho
    go_wp2
    go_ret
    exact ⟨ret_int (by rw [HE.out]), HB.out⟩
  have HR := Lib.hid ho
  clear ho
  have HA : Hid ((outB (regL ⟨21, a, b, c, im⟩) || ((21 : Int) == 22 && !inB a nf)) = false) := Lib.hid (by rw [HR.out, show ((21 : Int) == 22) = false from rfl]; rfl)
  clear HR
  go_wp2_with fail
  refine (memory_any _ _).mono ?_
  rintro e w1 ⟨rfl, rfl⟩
  rw [HMB.out]
  have HM : Hid ((memB 21 && !sizeB c) = false) := Lib.hid (by rw [HMB.out]; rfl)
  clear HSZ
  go_wp2_with fail
  refine (HRD.out _).mono ?_
  rintro e W5 ⟨rfl, bel⟩
  have HB' := Lib.hid (HB.out.trans (bel.mono HB.out.size))
  have HKF' := Lib.hid (HKF.out.after bel)
  have HKX' := Lib.hid (HKX.out.after bel)
  clear bel HB HKF HKX   x0 x1 x2 x3 x4 xz f0 f1 f2 f3 f4 fz
  have HB := HB'
  have HKF := HKF'
  have HKX := HKX'
  clear HB' HKF' HKX'
  obtain ⟨x0, x1, x2, x3, x4, -, -, -, -, -, xz⟩ := HKX.out.c5
  obtain ⟨f0, f1, f2, f3, f4, -, -, -, -, -, fz⟩ := HKF.out.c5
  go_upto_region 10 with (fail)
  obtain ⟨W6, hW6⟩ : ∃ W6, W6 = W5.alloc (.cells #[.int .i64 0, .int .i64 0] 152) := ⟨_, rfl⟩
  rw [← hW6]
  have HK5 : Hid (Blk W6 W5.heap.size 152 #[.int .i64 0, .int .i64 0]) := Lib.hid (by rw [hW6]; exact Blk.new _ _ _)
  have bel : Below W5.heap.size W5 W6 := by rw [hW6]; exact (Below.refl _ _).alloc (Nat.le_refl _) _
  clear hW6
  have HB' := Lib.hid (HB.out.trans (bel.mono HB.out.size))
  have HKF' := Lib.hid (HKF.out.after bel)
  have HKX' := Lib.hid (HKX.out.after bel)
  clear bel HB HKF HKX   x0 x1 x2 x3 x4 xz f0 f1 f2 f3 f4 fz
  have HB := HB'
  have HKF := HKF'
  have HKX := HKX'
  clear HB' HKF' HKX'
  obtain ⟨x0, x1, x2, x3, x4, -, -, -, -, -, xz⟩ := HKX.out.c5
  obtain ⟨f0, f1, f2, f3, f4, -, -, -, -, -, fz⟩ := HKF.out.c5
  generalize W5.heap.size = g5 at *
  go_wp2_with fail
  refine (HWR.out _).mono ?_
  rintro e W5 ⟨rfl, bel⟩
  have HB' := Lib.hid (HB.out.trans (bel.mono HB.out.size))
  have HKF' := Lib.hid (HKF.out.after bel)
  have HKX' := Lib.hid (HKX.out.after bel)
  have HK5' := Lib.hid (HK5.out.after bel)
  clear bel HB HKF HKX HK5  x0 x1 x2 x3 x4 xz f0 f1 f2 f3 f4 fz
  have HB := HB'
  have HKF := HKF'
  have HKX := HKX'
  clear HB' HKF' HKX'
  have HK5 := HK5'
  clear HK5'
  obtain ⟨x0, x1, x2, x3, x4, -, -, -, -, -, xz⟩ := HKX.out.c5
  obtain ⟨f0, f1, f2, f3, f4, -, -, -, -, -, fz⟩ := HKF.out.c5
  go_upto_region 11 with (fail)
  obtain ⟨W6, hW6⟩ : ∃ W6, W6 = W5.alloc (.cells #[.int .i64 0, .int .i64 0] 152) := ⟨_, rfl⟩
  rw [← hW6]
  have HK7 : Hid (Blk W6 W5.heap.size 152 #[.int .i64 0, .int .i64 0]) := Lib.hid (by rw [hW6]; exact Blk.new _ _ _)
  have bel : Below W5.heap.size W5 W6 := by rw [hW6]; exact (Below.refl _ _).alloc (Nat.le_refl _) _
  clear hW6
  have HB' := Lib.hid (HB.out.trans (bel.mono HB.out.size))
  have HKF' := Lib.hid (HKF.out.after bel)
  have HKX' := Lib.hid (HKX.out.after bel)
  have HK5' := Lib.hid (HK5.out.after bel)
  clear bel HB HKF HKX HK5  x0 x1 x2 x3 x4 xz f0 f1 f2 f3 f4 fz
  have HB := HB'
  have HKF := HKF'
  have HKX := HKX'
  clear HB' HKF' HKX'
  have HK5 := HK5'
  clear HK5'
  obtain ⟨x0, x1, x2, x3, x4, -, -, -, -, -, xz⟩ := HKX.out.c5
  obtain ⟨f0, f1, f2, f3, f4, -, -, -, -, -, fz⟩ := HKF.out.c5
  generalize W5.heap.size = g7 at *
  clear HRD HWR
  have HWL : Hid (wildB prm sz ⟨21, a, b, c, im⟩ = false) := Lib.hid (by rfl)
  go_wp2_with fail
  refine (mwithin_any _ _ _).mono ?_
  rintro e w1 ⟨rfl, rfl⟩
  rcases ht : inB b (nc : Int) with _ | _
  case false =>
    have HE : Hid (inE nf prm sz nc ⟨21, a, b, c, im⟩ = 6) := Lib.hid (by unfold inE; rw [if_neg (by rw [HO1.out]; simp), if_neg (by rw [HU.out]; simp), if_neg (by rw [HA.out]; simp), if_neg (by rw [HM.out]; simp), if_neg (by rw [HWL.out]; simp), if_pos (by unfold tgtB; simp only; rw [ht]; rfl)])
    clear ht
    go_wp2
    go_ret
    exact ⟨ret_int (by rw [HE.out]), HB.out⟩
  have HT : Hid (tgtB nc ⟨21, a, b, c, im⟩ = false) := Lib.hid (by unfold tgtB; simp only; rw [ht]; rfl)
  clear ht
  have HE : Hid (inE nf prm sz nc ⟨21, a, b, c, im⟩ = 0) := Lib.hid (by unfold inE; rw [if_neg (by rw [HO1.out]; simp), if_neg (by rw [HU.out]; simp), if_neg (by rw [HA.out]; simp), if_neg (by rw [HM.out]; simp), if_neg (by rw [HWL.out]; simp), if_neg (by rw [HT.out]; simp)])
  go_wp2
  go_ret
  exact ⟨ret_int (by rw [HE.out]), HB.out⟩
set_option maxHeartbeats 8000000 in
theorem instr_l22 (prm sz al : Int) (nf nc ci : Nat) (Ai : Option Addr) (op a b c im : Int) (hop : op = 22) (p0 : 0 ≤ prm) (p1 : prm ≤ 8) (z0 : 0 ≤ sz) (z1 : sz < 2147483520) (hr : InR ⟨op, a, b, c, im⟩) (hni : (nc : Int) ≤ 9223372036854775807) (w : World) :
    Calls Tryd.prog 116 #[.agg #[.int .i64 prm, .int .i64 sz, .slice Ai nc ci, .int .i64 al, .int .i64 (nf : Int)], .agg #[.int .i64 op, .int .i64 a, .int .i64 b, .int .i64 c, .int .u64 im]] w fun e w' =>
      e = .returned (.int .i64 (inE nf prm sz nc ⟨op, a, b, c, im⟩)) ∧ Below w.heap.size w w' := by
  subst hop
  have HO : Hid (inB 22 25 = true) := Lib.hid rfl
  have HO1 : Hid ((!inB 22 25 || (22 : Int) == 18 || (22 : Int) == 19) = false) := Lib.hid rfl
  have HRD : Hid (∀ W : World, Calls Tryd.prog 143 #[.agg #[.int .i64 prm, .int .i64 sz, .slice Ai nc ci], .agg #[.int .i64 22, .int .i64 a, .int .i64 b, .int .i64 c, .int .u64 im]] W fun e w' => e = .returned (.tuple #[.agg #[.int .i64 0, .int .i64 0], .bool false]) ∧ Below W.heap.size W w') := Lib.hid (fun W => (mreads_any _ _ _ ⟨22, a, b, c, im⟩ W).mono (fun e w' h => ⟨h.1.trans (by rfl), h.2⟩))
  have HWR : Hid (∀ W : World, Calls Tryd.prog 144 #[.agg #[.int .i64 prm, .int .i64 sz, .slice Ai nc ci], .agg #[.int .i64 22, .int .i64 a, .int .i64 b, .int .i64 c, .int .u64 im]] W fun e w' => e = .returned (.tuple #[.agg #[.int .i64 0, .int .i64 0], .bool false]) ∧ Below W.heap.size W w') := Lib.hid (fun W => (mwrites_any _ _ _ ⟨22, a, b, c, im⟩ W).mono (fun e w' h => ⟨h.1.trans (by rfl), h.2⟩))
  have HMB : Hid (memB 22 = false) := Lib.hid (by rfl)
  have HSZ : Hid (∀ W : World, Calls Tryd.prog 142 #[.int .i64 c] W fun e w' => e = .returned (.bool (sizeB c)) ∧ W = w') := Lib.hid (fun W => size_any c hr.2.2.2.1 hr.2.2.2.2 W)
  obtain ⟨W2, hW2⟩ : ∃ W2, W2 = (w.alloc (.cells #[.int .i64 prm, .int .i64 sz, .slice Ai nc ci, .int .i64 al, .int .i64 (nf : Int)] 125)).alloc (.cells #[.int .i64 22, .int .i64 a, .int .i64 b, .int .i64 c, .int .u64 im] 58) := ⟨_, rfl⟩
  have HKF : Hid (Blk W2 w.heap.size 125 #[.int .i64 prm, .int .i64 sz, .slice Ai nc ci, .int .i64 al, .int .i64 (nf : Int)]) := Lib.hid (by rw [hW2]; exact (Blk.new _ _ _).alloc _)
  have HKX : Hid (Blk W2 (w.heap.size + 1) 58 #[.int .i64 22, .int .i64 a, .int .i64 b, .int .i64 c, .int .u64 im]) := Lib.hid (by rw [hW2]; exact Blk.newAt (by simp))
  have HB : Hid (Below w.heap.size w W2) := Lib.hid (by rw [hW2]; exact ((Below.refl _ _).alloc (Nat.le_refl _) _).alloc (by simp) _)
  have HW2 := Lib.hid hW2
  clear hW2 hr
  go_enter Tryd.func116, Tryd.ntmps116
  go_upto_region 1 with (fail)
  rw [← HW2.out]
  clear HW2
  obtain ⟨x0, x1, x2, x3, x4, -, -, -, -, -, xz⟩ := HKX.out.c5
  obtain ⟨f0, f1, f2, f3, f4, -, -, -, -, -, fz⟩ := HKF.out.c5
  go_wp2_with fail
  refine (mwithin_any _ _ _).mono ?_
  rintro e w1 ⟨rfl, rfl⟩
  rw [HO.out]
  go_wp2_with fail
  refine (unused_any ⟨22, a, b, c, im⟩ _).mono ?_
  rintro e W3 ⟨rfl, bel⟩
  have HB' := Lib.hid (HB.out.trans (bel.mono HB.out.size))
  have HKF' := Lib.hid (HKF.out.after bel)
  have HKX' := Lib.hid (HKX.out.after bel)
  clear bel HB HKF HKX   x0 x1 x2 x3 x4 xz f0 f1 f2 f3 f4 fz
  have HB := HB'
  have HKF := HKF'
  have HKX := HKX'
  clear HB' HKF' HKX'
  obtain ⟨x0, x1, x2, x3, x4, -, -, -, -, -, xz⟩ := HKX.out.c5
  obtain ⟨f0, f1, f2, f3, f4, -, -, -, -, -, fz⟩ := HKF.out.c5
  rcases hu : unB ⟨22, a, b, c, im⟩ with _ | _
  case true =>
    have HE : Hid (inE nf prm sz nc ⟨22, a, b, c, im⟩ = 2) := Lib.hid (by unfold inE; rw [if_neg (by rw [HO1.out]; simp), if_pos hu])
    clear hu
    go_wp2
    go_ret
    exact ⟨ret_int (by rw [HE.out]), HB.out⟩
  have HU := Lib.hid hu
  clear hu
  go_wp2_with fail
  refine (registers_any ⟨22, a, b, c, im⟩ _).mono ?_
  rintro e W4 ⟨Ar, nr, cr, rfl, hrd, hln, bel⟩
  have HC := Lib.hid (contains_ints Ar nr cr _ W4 hrd hln (by rw [← hln]; exact regL_len _))
  clear hrd
  have HB' := Lib.hid (HB.out.trans (bel.mono HB.out.size))
  have HKF' := Lib.hid (HKF.out.after bel)
  have HKX' := Lib.hid (HKX.out.after bel)
  clear bel HB HKF HKX   x0 x1 x2 x3 x4 xz f0 f1 f2 f3 f4 fz
  have HB := HB'
  have HKF := HKF'
  have HKX := HKX'
  clear HB' HKF' HKX'
  obtain ⟨x0, x1, x2, x3, x4, -, -, -, -, -, xz⟩ := HKX.out.c5
  obtain ⟨f0, f1, f2, f3, f4, -, -, -, -, -, fz⟩ := HKF.out.c5
  clear hln
  go_wp2_with fail
  refine HC.out.mono ?_
  rintro e w1 ⟨rfl, rfl⟩
  clear HC
  rcases ho : outB (regL ⟨22, a, b, c, im⟩) with _ | _
  case true =>
    have HE : Hid (inE nf prm sz nc ⟨22, a, b, c, im⟩ = 4) := Lib.hid (by unfold inE; rw [if_neg (by rw [HO1.out]; simp), if_neg (by rw [HU.out]; simp), if_pos (by rw [ho]; rfl)])
    clear ho
    go_wp2
    go_ret
    exact ⟨ret_int (by rw [HE.out]), HB.out⟩
  have HR := Lib.hid ho
  clear ho
  go_wp2_with fail
  refine (mwithin_any _ _ _).mono ?_
  rintro e w1 ⟨rfl, rfl⟩
  rcases ha : inB a (nf : Int) with _ | _
  case false =>
    have HE : Hid (inE nf prm sz nc ⟨22, a, b, c, im⟩ = 4) := Lib.hid (by unfold inE; rw [if_neg (by rw [HO1.out]; simp), if_neg (by rw [HU.out]; simp), if_pos (by rw [ha]; simp)])
    clear ha
    go_wp2
    go_ret
    exact ⟨ret_int (by rw [HE.out]), HB.out⟩
  have HA : Hid ((outB (regL ⟨22, a, b, c, im⟩) || ((22 : Int) == 22 && !inB a nf)) = false) := Lib.hid (by rw [HR.out, ha]; rfl)
  clear ha
  clear HR
  go_wp2_with fail
  refine (memory_any _ _).mono ?_
  rintro e w1 ⟨rfl, rfl⟩
  rw [HMB.out]
  have HM : Hid ((memB 22 && !sizeB c) = false) := Lib.hid (by rw [HMB.out]; rfl)
  clear HSZ
  go_wp2_with fail
  refine (HRD.out _).mono ?_
  rintro e W5 ⟨rfl, bel⟩
  have HB' := Lib.hid (HB.out.trans (bel.mono HB.out.size))
  have HKF' := Lib.hid (HKF.out.after bel)
  have HKX' := Lib.hid (HKX.out.after bel)
  clear bel HB HKF HKX   x0 x1 x2 x3 x4 xz f0 f1 f2 f3 f4 fz
  have HB := HB'
  have HKF := HKF'
  have HKX := HKX'
  clear HB' HKF' HKX'
  obtain ⟨x0, x1, x2, x3, x4, -, -, -, -, -, xz⟩ := HKX.out.c5
  obtain ⟨f0, f1, f2, f3, f4, -, -, -, -, -, fz⟩ := HKF.out.c5
  go_upto_region 10 with (fail)
  obtain ⟨W6, hW6⟩ : ∃ W6, W6 = W5.alloc (.cells #[.int .i64 0, .int .i64 0] 152) := ⟨_, rfl⟩
  rw [← hW6]
  have HK5 : Hid (Blk W6 W5.heap.size 152 #[.int .i64 0, .int .i64 0]) := Lib.hid (by rw [hW6]; exact Blk.new _ _ _)
  have bel : Below W5.heap.size W5 W6 := by rw [hW6]; exact (Below.refl _ _).alloc (Nat.le_refl _) _
  clear hW6
  have HB' := Lib.hid (HB.out.trans (bel.mono HB.out.size))
  have HKF' := Lib.hid (HKF.out.after bel)
  have HKX' := Lib.hid (HKX.out.after bel)
  clear bel HB HKF HKX   x0 x1 x2 x3 x4 xz f0 f1 f2 f3 f4 fz
  have HB := HB'
  have HKF := HKF'
  have HKX := HKX'
  clear HB' HKF' HKX'
  obtain ⟨x0, x1, x2, x3, x4, -, -, -, -, -, xz⟩ := HKX.out.c5
  obtain ⟨f0, f1, f2, f3, f4, -, -, -, -, -, fz⟩ := HKF.out.c5
  generalize W5.heap.size = g5 at *
  go_wp2_with fail
  refine (HWR.out _).mono ?_
  rintro e W5 ⟨rfl, bel⟩
  have HB' := Lib.hid (HB.out.trans (bel.mono HB.out.size))
  have HKF' := Lib.hid (HKF.out.after bel)
  have HKX' := Lib.hid (HKX.out.after bel)
  have HK5' := Lib.hid (HK5.out.after bel)
  clear bel HB HKF HKX HK5  x0 x1 x2 x3 x4 xz f0 f1 f2 f3 f4 fz
  have HB := HB'
  have HKF := HKF'
  have HKX := HKX'
  clear HB' HKF' HKX'
  have HK5 := HK5'
  clear HK5'
  obtain ⟨x0, x1, x2, x3, x4, -, -, -, -, -, xz⟩ := HKX.out.c5
  obtain ⟨f0, f1, f2, f3, f4, -, -, -, -, -, fz⟩ := HKF.out.c5
  go_upto_region 11 with (fail)
  obtain ⟨W6, hW6⟩ : ∃ W6, W6 = W5.alloc (.cells #[.int .i64 0, .int .i64 0] 152) := ⟨_, rfl⟩
  rw [← hW6]
  have HK7 : Hid (Blk W6 W5.heap.size 152 #[.int .i64 0, .int .i64 0]) := Lib.hid (by rw [hW6]; exact Blk.new _ _ _)
  have bel : Below W5.heap.size W5 W6 := by rw [hW6]; exact (Below.refl _ _).alloc (Nat.le_refl _) _
  clear hW6
  have HB' := Lib.hid (HB.out.trans (bel.mono HB.out.size))
  have HKF' := Lib.hid (HKF.out.after bel)
  have HKX' := Lib.hid (HKX.out.after bel)
  have HK5' := Lib.hid (HK5.out.after bel)
  clear bel HB HKF HKX HK5  x0 x1 x2 x3 x4 xz f0 f1 f2 f3 f4 fz
  have HB := HB'
  have HKF := HKF'
  have HKX := HKX'
  clear HB' HKF' HKX'
  have HK5 := HK5'
  clear HK5'
  obtain ⟨x0, x1, x2, x3, x4, -, -, -, -, -, xz⟩ := HKX.out.c5
  obtain ⟨f0, f1, f2, f3, f4, -, -, -, -, -, fz⟩ := HKF.out.c5
  generalize W5.heap.size = g7 at *
  clear HRD HWR
  have HWL : Hid (wildB prm sz ⟨22, a, b, c, im⟩ = false) := Lib.hid (by rfl)
  have HT : Hid (tgtB nc ⟨22, a, b, c, im⟩ = false) := Lib.hid rfl
  have HE : Hid (inE nf prm sz nc ⟨22, a, b, c, im⟩ = 0) := Lib.hid (by unfold inE; rw [if_neg (by rw [HO1.out]; simp), if_neg (by rw [HU.out]; simp), if_neg (by rw [HA.out]; simp), if_neg (by rw [HM.out]; simp), if_neg (by rw [HWL.out]; simp), if_neg (by rw [HT.out]; simp)])
  go_wp2
  go_ret
  exact ⟨ret_int (by rw [HE.out]), HB.out⟩
end Go.Proofs.YtinfeglhjmnlaaaDoor.pm
namespace Go.Proofs.YtinfeglhjmnlaaaDoor.pm
open Go.RowKit
set_option linter.unusedVariables false
set_option maxRecDepth 10000

set_option maxHeartbeats 8000000 in
theorem instr_other (prm sz al : Int) (nf nc ci : Nat) (Ai : Option Addr) (op a b c im : Int) (hop : inB op 25 = true ∧ (op < 15 ∨ 22 < op)) (p0 : 0 ≤ prm) (p1 : prm ≤ 8) (z0 : 0 ≤ sz) (z1 : sz < 2147483520) (hr : InR ⟨op, a, b, c, im⟩) (hni : (nc : Int) ≤ 9223372036854775807) (w : World) :
    Calls Tryd.prog 116 #[.agg #[.int .i64 prm, .int .i64 sz, .slice Ai nc ci, .int .i64 al, .int .i64 (nf : Int)], .agg #[.int .i64 op, .int .i64 a, .int .i64 b, .int .i64 c, .int .u64 im]] w fun e w' =>
      e = .returned (.int .i64 (inE nf prm sz nc ⟨op, a, b, c, im⟩)) ∧ Below w.heap.size w w' := by
  have HO : Hid (inB op 25 = true) := Lib.hid hop.1
  have E22 : Hid ((op == 22) = false) := Lib.hid (by rw [beq_eq_false_iff_ne]; omega)
  have e15 : (op == 15) = false := by rw [beq_eq_false_iff_ne]; omega
  have e16 : (op == 16) = false := by rw [beq_eq_false_iff_ne]; omega
  have e17 : (op == 17) = false := by rw [beq_eq_false_iff_ne]; omega
  have e18 : (op == 18) = false := by rw [beq_eq_false_iff_ne]; omega
  have e19 : (op == 19) = false := by rw [beq_eq_false_iff_ne]; omega
  have e20 : (op == 20) = false := by rw [beq_eq_false_iff_ne]; omega
  have e21 : (op == 21) = false := by rw [beq_eq_false_iff_ne]; omega
  have e22 : (op == 22) = false := by rw [beq_eq_false_iff_ne]; omega
  have HO1 : Hid ((!inB op 25 || op == 18 || op == 19) = false) := Lib.hid (by rw [hop.1, e18, e19]; rfl)
  have HRD : Hid (∀ W : World, Calls Tryd.prog 143 #[.agg #[.int .i64 prm, .int .i64 sz, .slice Ai nc ci], .agg #[.int .i64 op, .int .i64 a, .int .i64 b, .int .i64 c, .int .u64 im]] W fun e w' => e = .returned (.tuple #[.agg #[.int .i64 0, .int .i64 0], .bool false]) ∧ Below W.heap.size W w') := Lib.hid (fun W => (mreads_any _ _ _ ⟨op, a, b, c, im⟩ W).mono (fun e w' h => ⟨h.1.trans (by unfold rdP; rw [if_neg (by simp only; omega)]), h.2⟩))
  have HWR : Hid (∀ W : World, Calls Tryd.prog 144 #[.agg #[.int .i64 prm, .int .i64 sz, .slice Ai nc ci], .agg #[.int .i64 op, .int .i64 a, .int .i64 b, .int .i64 c, .int .u64 im]] W fun e w' => e = .returned (.tuple #[.agg #[.int .i64 0, .int .i64 0], .bool false]) ∧ Below W.heap.size W w') := Lib.hid (fun W => (mwrites_any _ _ _ ⟨op, a, b, c, im⟩ W).mono (fun e w' h => ⟨h.1.trans (by unfold wrP; rw [if_neg (by simp only; omega)]), h.2⟩))
  have HMB : Hid (memB op = false) := Lib.hid (by unfold memB; simp; omega)
  have HSZ : Hid (∀ W : World, Calls Tryd.prog 142 #[.int .i64 c] W fun e w' => e = .returned (.bool (sizeB c)) ∧ W = w') := Lib.hid (fun W => size_any c hr.2.2.2.1 hr.2.2.2.2 W)
  obtain ⟨W2, hW2⟩ : ∃ W2, W2 = (w.alloc (.cells #[.int .i64 prm, .int .i64 sz, .slice Ai nc ci, .int .i64 al, .int .i64 (nf : Int)] 125)).alloc (.cells #[.int .i64 op, .int .i64 a, .int .i64 b, .int .i64 c, .int .u64 im] 58) := ⟨_, rfl⟩
  have HKF : Hid (Blk W2 w.heap.size 125 #[.int .i64 prm, .int .i64 sz, .slice Ai nc ci, .int .i64 al, .int .i64 (nf : Int)]) := Lib.hid (by rw [hW2]; exact (Blk.new _ _ _).alloc _)
  have HKX : Hid (Blk W2 (w.heap.size + 1) 58 #[.int .i64 op, .int .i64 a, .int .i64 b, .int .i64 c, .int .u64 im]) := Lib.hid (by rw [hW2]; exact Blk.newAt (by simp))
  have HB : Hid (Below w.heap.size w W2) := Lib.hid (by rw [hW2]; exact ((Below.refl _ _).alloc (Nat.le_refl _) _).alloc (by simp) _)
  have HW2 := Lib.hid hW2
  clear hW2 hr
  go_enter Tryd.func116, Tryd.ntmps116
  go_upto_region 1 with (fail)
  rw [← HW2.out]
  clear HW2
  obtain ⟨x0, x1, x2, x3, x4, -, -, -, -, -, xz⟩ := HKX.out.c5
  obtain ⟨f0, f1, f2, f3, f4, -, -, -, -, -, fz⟩ := HKF.out.c5
  go_wp2_with fail
  refine (mwithin_any _ _ _).mono ?_
  rintro e w1 ⟨rfl, rfl⟩
  rw [HO.out]
  go_wp2_with fail
  refine (unused_any ⟨op, a, b, c, im⟩ _).mono ?_
  rintro e W3 ⟨rfl, bel⟩
  have HB' := Lib.hid (HB.out.trans (bel.mono HB.out.size))
  have HKF' := Lib.hid (HKF.out.after bel)
  have HKX' := Lib.hid (HKX.out.after bel)
  clear bel HB HKF HKX   x0 x1 x2 x3 x4 xz f0 f1 f2 f3 f4 fz
  have HB := HB'
  have HKF := HKF'
  have HKX := HKX'
  clear HB' HKF' HKX'
  obtain ⟨x0, x1, x2, x3, x4, -, -, -, -, -, xz⟩ := HKX.out.c5
  obtain ⟨f0, f1, f2, f3, f4, -, -, -, -, -, fz⟩ := HKF.out.c5
  rcases hu : unB ⟨op, a, b, c, im⟩ with _ | _
  case true =>
    have HE : Hid (inE nf prm sz nc ⟨op, a, b, c, im⟩ = 2) := Lib.hid (by unfold inE; rw [if_neg (by rw [HO1.out]; simp), if_pos hu])
    clear hu
    go_wp2
    go_ret
    exact ⟨ret_int (by rw [HE.out]), HB.out⟩
  have HU := Lib.hid hu
  clear hu
  go_wp2_with fail
  refine (registers_any ⟨op, a, b, c, im⟩ _).mono ?_
  rintro e W4 ⟨Ar, nr, cr, rfl, hrd, hln, bel⟩
  have HC := Lib.hid (contains_ints Ar nr cr _ W4 hrd hln (by rw [← hln]; exact regL_len _))
  clear hrd
  have HB' := Lib.hid (HB.out.trans (bel.mono HB.out.size))
  have HKF' := Lib.hid (HKF.out.after bel)
  have HKX' := Lib.hid (HKX.out.after bel)
  clear bel HB HKF HKX   x0 x1 x2 x3 x4 xz f0 f1 f2 f3 f4 fz
  have HB := HB'
  have HKF := HKF'
  have HKX := HKX'
  clear HB' HKF' HKX'
  obtain ⟨x0, x1, x2, x3, x4, -, -, -, -, -, xz⟩ := HKX.out.c5
  obtain ⟨f0, f1, f2, f3, f4, -, -, -, -, -, fz⟩ := HKF.out.c5
  clear hln
  go_wp2_with fail
  refine HC.out.mono ?_
  rintro e w1 ⟨rfl, rfl⟩
  clear HC
  rcases ho : outB (regL ⟨op, a, b, c, im⟩) with _ | _
  case true =>
    have HE : Hid (inE nf prm sz nc ⟨op, a, b, c, im⟩ = 4) := Lib.hid (by unfold inE; rw [if_neg (by rw [HO1.out]; simp), if_neg (by rw [HU.out]; simp), if_pos (by rw [ho]; rfl)])
    clear ho
    go_wp2
    go_ret
    exact ⟨ret_int (by rw [HE.out]), HB.out⟩
  have HR := Lib.hid ho
  clear ho
  have HA : Hid ((outB (regL ⟨op, a, b, c, im⟩) || ((op : Int) == 22 && !inB a nf)) = false) := Lib.hid (by rw [HR.out, E22.out]; rfl)
  clear HR
  go_wp2_with fail
  refine (memory_any _ _).mono ?_
  rintro e w1 ⟨rfl, rfl⟩
  rw [HMB.out]
  have HM : Hid ((memB op && !sizeB c) = false) := Lib.hid (by rw [HMB.out]; rfl)
  clear HSZ
  go_wp2_with fail
  refine (HRD.out _).mono ?_
  rintro e W5 ⟨rfl, bel⟩
  have HB' := Lib.hid (HB.out.trans (bel.mono HB.out.size))
  have HKF' := Lib.hid (HKF.out.after bel)
  have HKX' := Lib.hid (HKX.out.after bel)
  clear bel HB HKF HKX   x0 x1 x2 x3 x4 xz f0 f1 f2 f3 f4 fz
  have HB := HB'
  have HKF := HKF'
  have HKX := HKX'
  clear HB' HKF' HKX'
  obtain ⟨x0, x1, x2, x3, x4, -, -, -, -, -, xz⟩ := HKX.out.c5
  obtain ⟨f0, f1, f2, f3, f4, -, -, -, -, -, fz⟩ := HKF.out.c5
  go_upto_region 10 with (fail)
  obtain ⟨W6, hW6⟩ : ∃ W6, W6 = W5.alloc (.cells #[.int .i64 0, .int .i64 0] 152) := ⟨_, rfl⟩
  rw [← hW6]
  have HK5 : Hid (Blk W6 W5.heap.size 152 #[.int .i64 0, .int .i64 0]) := Lib.hid (by rw [hW6]; exact Blk.new _ _ _)
  have bel : Below W5.heap.size W5 W6 := by rw [hW6]; exact (Below.refl _ _).alloc (Nat.le_refl _) _
  clear hW6
  have HB' := Lib.hid (HB.out.trans (bel.mono HB.out.size))
  have HKF' := Lib.hid (HKF.out.after bel)
  have HKX' := Lib.hid (HKX.out.after bel)
  clear bel HB HKF HKX   x0 x1 x2 x3 x4 xz f0 f1 f2 f3 f4 fz
  have HB := HB'
  have HKF := HKF'
  have HKX := HKX'
  clear HB' HKF' HKX'
  obtain ⟨x0, x1, x2, x3, x4, -, -, -, -, -, xz⟩ := HKX.out.c5
  obtain ⟨f0, f1, f2, f3, f4, -, -, -, -, -, fz⟩ := HKF.out.c5
  generalize W5.heap.size = g5 at *
  go_wp2_with fail
  refine (HWR.out _).mono ?_
  rintro e W5 ⟨rfl, bel⟩
  have HB' := Lib.hid (HB.out.trans (bel.mono HB.out.size))
  have HKF' := Lib.hid (HKF.out.after bel)
  have HKX' := Lib.hid (HKX.out.after bel)
  have HK5' := Lib.hid (HK5.out.after bel)
  clear bel HB HKF HKX HK5  x0 x1 x2 x3 x4 xz f0 f1 f2 f3 f4 fz
  have HB := HB'
  have HKF := HKF'
  have HKX := HKX'
  clear HB' HKF' HKX'
  have HK5 := HK5'
  clear HK5'
  obtain ⟨x0, x1, x2, x3, x4, -, -, -, -, -, xz⟩ := HKX.out.c5
  obtain ⟨f0, f1, f2, f3, f4, -, -, -, -, -, fz⟩ := HKF.out.c5
  go_upto_region 11 with (fail)
  obtain ⟨W6, hW6⟩ : ∃ W6, W6 = W5.alloc (.cells #[.int .i64 0, .int .i64 0] 152) := ⟨_, rfl⟩
  rw [← hW6]
  have HK7 : Hid (Blk W6 W5.heap.size 152 #[.int .i64 0, .int .i64 0]) := Lib.hid (by rw [hW6]; exact Blk.new _ _ _)
  have bel : Below W5.heap.size W5 W6 := by rw [hW6]; exact (Below.refl _ _).alloc (Nat.le_refl _) _
  clear hW6
  have HB' := Lib.hid (HB.out.trans (bel.mono HB.out.size))
  have HKF' := Lib.hid (HKF.out.after bel)
  have HKX' := Lib.hid (HKX.out.after bel)
  have HK5' := Lib.hid (HK5.out.after bel)
  clear bel HB HKF HKX HK5  x0 x1 x2 x3 x4 xz f0 f1 f2 f3 f4 fz
  have HB := HB'
  have HKF := HKF'
  have HKX := HKX'
  clear HB' HKF' HKX'
  have HK5 := HK5'
  clear HK5'
  obtain ⟨x0, x1, x2, x3, x4, -, -, -, -, -, xz⟩ := HKX.out.c5
  obtain ⟨f0, f1, f2, f3, f4, -, -, -, -, -, fz⟩ := HKF.out.c5
  generalize W5.heap.size = g7 at *
  clear HRD HWR
  have HWL : Hid (wildB prm sz ⟨op, a, b, c, im⟩ = false) := Lib.hid (by unfold wildB rdB wrB; simp only; rw [e15, e16, e17]; rfl)
  have HT : Hid (tgtB nc ⟨op, a, b, c, im⟩ = false) := Lib.hid (by unfold tgtB; simp only; rw [e20, e21]; rfl)
  have HE : Hid (inE nf prm sz nc ⟨op, a, b, c, im⟩ = 0) := Lib.hid (by unfold inE; rw [if_neg (by rw [HO1.out]; simp), if_neg (by rw [HU.out]; simp), if_neg (by rw [HA.out]; simp), if_neg (by rw [HM.out]; simp), if_neg (by rw [HWL.out]; simp), if_neg (by rw [HT.out]; simp)])
  go_wp2
  go_ret
  exact ⟨ret_int (by rw [HE.out]), HB.out⟩
end Go.Proofs.YtinfeglhjmnlaaaDoor.pm
