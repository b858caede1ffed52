/- StackUndefByte: the walk of the law. -/
import Derived.Test.YtgamodmenlhedaaL9
namespace Go.Proofs.Ytgamodmenlhedaa.un
open Go.RowKit
set_option linter.unusedVariables false
set_option maxRecDepth 10000

/-- which bytes are used after i rounds: those before i, without k -/
def urow (k i : Nat) : List Bool := (List.range 64).map fun j => decide (j < i ∧ j ≠ k)
theorem urow_zero (k : Nat) : List.replicate 64 false = urow k 0 := by
  unfold urow
  simp only [Nat.not_lt_zero, false_and, decide_false]
  rw [List.map_const']; rfl
theorem urow_hole (k : Nat) : urow k (k + 1) = urow k k := by
  unfold urow
  apply List.map_congr_left
  intro j _
  rw [decide_eq_decide]
  omega
theorem urow_step : ∀ k, k < 8 → ∀ i, i < 8 → i ≠ k → splice (urow k i) i [true] = urow k (i + 1) := by decide +kernel
theorem urow_used : ∀ k, k < 8 → usedV (urow k 8) 0 8 = false := by decide +kernel
theorem urow_full : ∀ k, k < 8 → usedV (splice (urow k 8) k [true]) 0 8 = true := by decide +kernel
theorem push64 : pushV (List.replicate 64 0) (List.replicate 64 false) 64 64 = (0, List.replicate 64 0, List.replicate 64 false, 0) := by decide +kernel
theorem ok1 (i : Nat) (h : i < 64) : okV 64 0 (i : Int) 1 = true := by rw [okV_iff]; exact ⟨rfl, by omega, by omega⟩
theorem ok8 (i : Nat) (h : i ≤ 56) : okV 64 0 (i : Int) 8 = true := by rw [okV_iff]; exact ⟨rfl, by omega, by omega⟩

set_option maxHeartbeats 8000000 in
theorem law (x : Nat) (hx : x < 256) (y : Nat) (hy : y < 256) (a b : Nat) (ha : a < 18446744073709551616) (hb : b < 18446744073709551616) (w : World) :
    Calls Try.prog 10 #[.int .u8 x, .int .u8 y, .agg #[.int .u64 a, .int .u64 b]] w fun e w' => e = .returned (.bool true) ∧ Below w.heap.size w w' := by
  obtain ⟨k, hk, hk8⟩ : ∃ k : Nat, (y : Int) % 8 = (k : Int) ∧ k < 8 := ⟨y % 8, by omega, by omega⟩
  obtain ⟨t, ht, ht48⟩ : ∃ t : Nat, (x : Int) % 48 = (t : Int) ∧ t < 48 := ⟨x % 48, by omega, by omega⟩
  have hy0 : (0 : Int) ≤ (y : Int) := by omega
  have hx0 : (0 : Int) ≤ (x : Int) := by omega
  have HA := Lib.hid ha
  have HB := Lib.hid hb
  clear ha hb
  go_enter Try.func10, Try.ntmps10
  have H_0 := Lib.hid (Below.refl w.heap.size w)
  go_wp2_with fail
  refine Calls.mono (awake09 _) ?_
  rintro e w1 ⟨rfl, bel⟩
  have mv : w.heap.size ≤ w.heap.size := by have := H_0.out.size; omega
  have Kv_1 := Lib.hid (Blk.after (show Blk _ (w.heap.size) 52 #[.int .u64 a, .int .u64 b] from Blk.newAt (by simp [putStk, World.setCell])) bel)
  have H_1 := Lib.hid (Below.step (Below.al H_0.out _) bel)
  clear H_0 bel
  have C1 := fun W : World => new_stk 64 (by omega) W
  rw [show 64 - 64 % 16 = 64 from rfl] at C1
  unfold StkR at C1
  obtain ⟨pv0, pv1, fv0, fv1, zv⟩ := Blk.two Kv_1.out
  go_wp2_with fail
  refine Calls.mono (C1 _) ?_
  rintro e w2 ⟨A2, c2, U2, d2, rfl, b2, t2, j2, i2, bel⟩
  have Kv_2 := Lib.hid (Blk.after Kv_1.out bel)
  have H_2 := Lib.hid (Below.step H_1.out bel)
  clear Kv_1 H_1 pv0 pv1 fv0 fv1 zv bel
  have Rsb_2 := Lib.hid (show BsZ _ _ _ _ from b2)
  clear b2
  have Rsu_2 := Lib.hid (show SlZ _ _ _ _ from t2)
  clear t2
  have PU := fun (W : World) (A U : Option Addr) (c d : Nat) (h : BsZ W A 64 (List.replicate 64 0)) (h' : SlZ W U 64 (List.replicate 64 false)) (hc : 64 ≤ c) (hd : 64 ≤ d) => push_any A U 64 c d 64 _ _ 64 (by omega) (by omega) W h h' (by omega) (by omega) hc hd
  simp only [StkR, push64] at PU
  obtain ⟨pv0, pv1, fv0, fv1, zv⟩ := Blk.two Kv_2.out
  go_wp2_with fail
  refine Calls.mono (PU _ _ _ _ _ (BsZ.alloc Rsb_2.out _) (SlZ.alloc Rsu_2.out _) j2 i2) ?_
  rintro e w3 ⟨A3, c3, U3, d3, rfl, b3, t3, j3, i3, bel⟩
  have nv_s : w.heap.size < w2.heap.size := by have := Blk.lt Kv_2.out; omega
  have ms : w.heap.size ≤ w2.heap.size := by have := H_2.out.size; omega
  have Kv_3 := Lib.hid (Blk.after (Blk.alloc Kv_2.out _) bel)
  have Ks_3 := Lib.hid (Blk.after (show Blk _ (w2.heap.size) 55 #[.slice A2 64 c2, .slice U2 64 d2, .int .i64 64] from Blk.newAt (by simp [putStk, World.setCell])) bel)
  have H_3 := Lib.hid (Below.step (Below.al H_2.out _) bel)
  clear Kv_2 Rsb_2 Rsu_2 H_2 pv0 pv1 fv0 fv1 zv bel
  have Rsb_3 := Lib.hid (show BsZ _ _ _ _ from b3)
  clear b3
  have Rsu_3 := Lib.hid (show SlZ _ _ _ _ from t3)
  clear t3
  obtain ⟨pv0, pv1, fv0, fv1, zv⟩ := Blk.two Kv_3.out
  obtain ⟨ps0, ps1, ps2, fs0, fs1, fs2, zs⟩ := StkB.three Ks_3.out
  clear C1 PU
  go_wp2_with fail
  simp only [hk]
  go_loopw [9, 11] (fun e i wr => ∃ (q : Nat) (A : Option Addr) (c : Nat) (U : Option Addr) (d : Nat) (lb : List Nat), q ≤ 8 ∧ i = .int .i64 q ∧ e = .int .i64 0 ∧ 64 ≤ c ∧ 64 ≤ d ∧ Hid (Below w.heap.size w wr) ∧ Hid (Blk wr w.heap.size 52 #[.int .u64 a, .int .u64 b]) ∧ Hid (StkB wr w2.heap.size A 64 c U 64 d 0) ∧ Hid (BsZ wr A 64 lb) ∧ Hid (SlZ wr U 64 (urow k q))) (fun _ i _ => 8 - (intOf i).toNat)
  case atStart => exact ⟨0, A3, c3, U3, d3, _, by omega, rfl, rfl, j3, i3, Lib.hid (Below.put H_3.out ms), Lib.hid (Blk.putFar Kv_3.out (Nat.ne_of_lt nv_s)), Lib.hid (StkB.put Ks_3.out), Lib.hid (BsZ.put Rsb_3.out Ks_3.out), Lib.hid (by rw [← urow_zero]; exact (SlZ.put Rsu_3.out Ks_3.out))⟩
  case round =>
    clear Kv_3 Ks_3 Rsb_3 Rsu_3 H_3 pv0 pv1 fv0 fv1 zv ps0 ps1 ps2 fs0 fs1 fs2 zs j2 i2 j3 i3
    obtain ⟨q, A, c, U, d, lb, hq, rfl, rfl, hc, hd, H_9, Kv_9, Ks_9, Rsb_9, Rsu_9⟩ := hrel
    by_cases hq8 : q < 8
    · have hqi : (q : Int) < 8 := by omega
      by_cases hqk : q = k
      · subst hqk
        obtain ⟨pv0, pv1, fv0, fv1, zv⟩ := Blk.two Kv_9.out
        obtain ⟨ps0, ps1, ps2, fs0, fs1, fs2, zs⟩ := StkB.three Ks_9.out
        go_wp2
        go_roundw
        case rel => exact ⟨q + 1, A, c, U, d, lb, by omega, by go_num, rfl, hc, hd, H_9, Kv_9, Ks_9, Rsb_9, Lib.hid (by rw [urow_hole]; exact Rsu_9.out)⟩
        case measure => simp [intOf]; omega
      · have hqk' : ¬ ((q : Int) = (k : Int)) := by omega
        have ST := fun (W : World) (h : BsZ W A 64 lb) (h' : SlZ W U 64 (urow k q)) => store_any A U 64 c d 0 lb (urow k q) q 1 (by omega) (by omega) (by omega) (by omega) a b HA.out HB.out W h h' (by omega) (by omega) hc hd
        have hst : storeV 64 0 lb (urow k q) a b q 1 = (0, splice lb q (bytesV a b 1), urow k (q + 1), 0) := by
          unfold storeV; rw [if_pos (ok1 q (by omega))]
          have := urow_step k hk8 q hq8 hqk
          simp [← this]
        simp only [StkR, hst] at ST
        generalize splice lb q (bytesV a b 1) = lb' at *
        obtain ⟨pv0, pv1, fv0, fv1, zv⟩ := Blk.two Kv_9.out
        obtain ⟨ps0, ps1, ps2, fs0, fs1, fs2, zs⟩ := StkB.three Ks_9.out
        go_wp2_with fail
        refine Calls.mono (ST _ Rsb_9.out Rsu_9.out) ?_
        rintro e w10 ⟨A3, c3, U3, d3, rfl, b3, t3, j3, i3, bel⟩
        have Kv_10 := Lib.hid (Blk.after Kv_9.out bel)
        have Ks_10 := Lib.hid (Blk.after Ks_9.out bel)
        have H_10 := Lib.hid (Below.step H_9.out bel)
        clear Kv_9 Ks_9 Rsb_9 Rsu_9 H_9 pv0 pv1 fv0 fv1 zv ps0 ps1 ps2 fs0 fs1 fs2 zs bel
        have Rsb_10 := Lib.hid (show BsZ _ _ _ _ from b3)
        clear b3
        have Rsu_10 := Lib.hid (show SlZ _ _ _ _ from t3)
        clear t3
        obtain ⟨pv0, pv1, fv0, fv1, zv⟩ := Blk.two Kv_10.out
        obtain ⟨ps0, ps1, ps2, fs0, fs1, fs2, zs⟩ := StkB.three Ks_10.out
        clear ST hst
        go_wp2
        go_roundw
        case rel => exact ⟨q + 1, A3, c3, U3, d3, lb', by omega, by go_num, rfl, j3, i3, Lib.hid (Below.put H_10.out ms), Lib.hid (Blk.putFar Kv_10.out (Nat.ne_of_lt nv_s)), Lib.hid (StkB.put Ks_10.out), Lib.hid (BsZ.put Rsb_10.out Ks_10.out), Lib.hid (SlZ.put Rsu_10.out Ks_10.out)⟩
        case measure => simp [intOf]; omega
    · have hq88 : q = 8 := by omega
      subst hq88
      have LO := fun (W : World) (h : BsZ W A 64 lb) (h' : SlZ W U 64 (urow k 8)) => load_any A U 64 c d 0 lb (urow k 8) 0 8 (by omega) (by omega) (by omega) (by omega) W h h' (by omega) (by omega) hc hd
      have hlo : loadV 64 0 lb (urow k 8) 0 8 = ((0, 0), false, 0) := by
        unfold loadV; rw [if_pos (show okV 64 0 0 8 = true from ok8 0 (by omega))]
        have := urow_used k hk8
        simp [this]
      simp only [LoadR, hlo] at LO
      have MO := fun (W : World) (h : BsZ W A 64 lb) (h' : SlZ W U 64 (urow k 8)) => move_any A U 64 c d 0 lb (urow k 8) (8 + (t : Int)) 0 8 (by omega) (by omega) (by omega) (by omega) (by omega) (by omega) W h h' (by omega) (by omega) hc hd
      have hmo : moveV 64 0 lb (urow k 8) (8 + (t : Int)) 0 8 = (0, false, lb, urow k 8, 0) := by
        rw [show (8 + (t : Int)) = ((8 + t : Nat) : Int) by omega]
        unfold moveV; rw [ok8 _ (by omega), show okV 64 0 0 8 = true from ok8 0 (by omega)]
        have := urow_used k hk8
        simp [this]
      simp only [MoveR, hmo] at MO
      have ST := fun (W : World) (h : BsZ W A 64 lb) (h' : SlZ W U 64 (urow k 8)) => store_any A U 64 c d 0 lb (urow k 8) k 1 (by omega) (by omega) (by omega) (by omega) a b HA.out HB.out W h h' (by omega) (by omega) hc hd
      have hst : storeV 64 0 lb (urow k 8) a b k 1 = (0, splice lb k (bytesV a b 1), splice (urow k 8) k [true], 0) := by
        unfold storeV; rw [if_pos (ok1 k (by omega))]
        simp
      simp only [StkR, hst] at ST
      generalize splice lb k (bytesV a b 1) = lb' at *
      have huf := urow_full k hk8
      generalize splice (urow k 8) k [true] = lu' at *
      have LF := fun (W : World) (A U : Option Addr) (c d : Nat) (hc : 64 ≤ c) (hd : 64 ≤ d) (h : BsZ W A 64 lb') (h' : SlZ W U 64 lu') => load_any A U 64 c d 0 lb' lu' 0 8 (by omega) (by omega) (by omega) (by omega) W h h' (by omega) (by omega) hc hd
      obtain ⟨z1, z2, hlf⟩ : ∃ z1 z2 : Nat, loadV 64 0 lb' lu' 0 8 = ((z1, z2), true, 0) := by
        unfold loadV; rw [if_pos (show okV 64 0 0 8 = true from ok8 0 (by omega))]
        simp [huf]
      simp only [LoadR, hlf] at LF
      clear hlo hmo hst hlf huf hq
      obtain ⟨pv0, pv1, fv0, fv1, zv⟩ := Blk.two Kv_9.out
      obtain ⟨ps0, ps1, ps2, fs0, fs1, fs2, zs⟩ := StkB.three Ks_9.out
      go_wp2_with fail
      refine Calls.mono (LO _ Rsb_9.out Rsu_9.out) ?_
      rintro e w10 ⟨rfl, bel⟩
      have Rsb_10 := Lib.hid (BsZ.below Rsb_9.out bel)
      have Rsu_10 := Lib.hid (SlZ.below Rsu_9.out bel)
      have Kv_10 := Lib.hid (Blk.after Kv_9.out bel)
      have Ks_10 := Lib.hid (Blk.after Ks_9.out bel)
      have H_10 := Lib.hid (Below.step H_9.out bel)
      clear Kv_9 Ks_9 Rsb_9 Rsu_9 H_9 pv0 pv1 fv0 fv1 zv ps0 ps1 ps2 fs0 fs1 fs2 zs bel
      obtain ⟨pv0, pv1, fv0, fv1, zv⟩ := Blk.two Kv_10.out
      obtain ⟨ps0, ps1, ps2, fs0, fs1, fs2, zs⟩ := StkB.three Ks_10.out
      go_wp2_with fail
      refine Calls.mono (MO _ (BsZ.alloc Rsb_10.out _) (SlZ.alloc Rsu_10.out _)) ?_
      rintro e w11 ⟨A4, c4, U4, d4, rfl, b4, t4, j4, i4, bel⟩
      have nv_bl : w.heap.size < w10.heap.size := by have := Blk.lt Kv_10.out; omega
      have ns_bl : w2.heap.size < w10.heap.size := by have := Blk.lt Ks_10.out; omega
      have mbl : w.heap.size ≤ w10.heap.size := by have := H_10.out.size; omega
      have Rsb_11 := Lib.hid (BsZ.below (BsZ.alloc Rsb_10.out _) bel)
      have Rsu_11 := Lib.hid (SlZ.below (SlZ.alloc Rsu_10.out _) bel)
      have Kv_11 := Lib.hid (Blk.after (Blk.alloc Kv_10.out _) bel)
      have Ks_11 := Lib.hid (Blk.after (Blk.alloc Ks_10.out _) bel)
      have Kbl_11 := Lib.hid (Blk.after (show Blk _ (w10.heap.size) 52 #[.int .u64 0, .int .u64 0] from Blk.newAt (by simp [putStk, World.setCell])) bel)
      have H_11 := Lib.hid (Below.step (Below.al H_10.out _) bel)
      clear Kv_10 Ks_10 Rsb_10 Rsu_10 H_10 pv0 pv1 fv0 fv1 zv ps0 ps1 ps2 fs0 fs1 fs2 zs bel
      have Rtb_11 := Lib.hid (show BsZ _ _ _ _ from b4)
      clear b4
      have Rtu_11 := Lib.hid (show SlZ _ _ _ _ from t4)
      clear t4
      obtain ⟨pv0, pv1, fv0, fv1, zv⟩ := Blk.two Kv_11.out
      obtain ⟨ps0, ps1, ps2, fs0, fs1, fs2, zs⟩ := StkB.three Ks_11.out
      obtain ⟨pbl0, pbl1, fbl0, fbl1, zbl⟩ := Blk.two Kbl_11.out
      go_wp2_with fail
      refine Calls.mono (ST _ (BsZ.alloc Rsb_11.out _) (SlZ.alloc Rsu_11.out _)) ?_
      rintro e w12 ⟨A5, c5, U5, d5, rfl, b5, t5, j5, i5, bel⟩
      have nv_t : w.heap.size < w11.heap.size := by have := Blk.lt Kv_11.out; omega
      have ns_t : w2.heap.size < w11.heap.size := by have := Blk.lt Ks_11.out; omega
      have nbl_t : w10.heap.size < w11.heap.size := by have := Blk.lt Kbl_11.out; omega
      have mt : w.heap.size ≤ w11.heap.size := by have := H_11.out.size; omega
      have Rsb_12 := Lib.hid (BsZ.below (BsZ.alloc Rsb_11.out _) bel)
      have Rsu_12 := Lib.hid (SlZ.below (SlZ.alloc Rsu_11.out _) bel)
      have Rtb_12 := Lib.hid (BsZ.below (BsZ.alloc Rtb_11.out _) bel)
      have Rtu_12 := Lib.hid (SlZ.below (SlZ.alloc Rtu_11.out _) bel)
      have Kv_12 := Lib.hid (Blk.after (Blk.alloc Kv_11.out _) bel)
      have Ks_12 := Lib.hid (Blk.after (Blk.alloc Ks_11.out _) bel)
      have Kbl_12 := Lib.hid (Blk.after (Blk.alloc Kbl_11.out _) bel)
      have Kt_12 := Lib.hid (Blk.after (show Blk _ (w11.heap.size) 55 #[.slice A4 64 c4, .slice U4 64 d4, .int .i64 0] from Blk.newAt (by simp [putStk, World.setCell])) bel)
      have H_12 := Lib.hid (Below.step (Below.al H_11.out _) bel)
      clear Kv_11 Ks_11 Kbl_11 Rsb_11 Rsu_11 Rtb_11 Rtu_11 H_11 pv0 pv1 fv0 fv1 zv ps0 ps1 ps2 fs0 fs1 fs2 zs pbl0 pbl1 fbl0 fbl1 zbl bel
      have Rfb_12 := Lib.hid (show BsZ _ _ _ _ from b5)
      clear b5
      have Rfu_12 := Lib.hid (show SlZ _ _ _ _ from t5)
      clear t5
      obtain ⟨pv0, pv1, fv0, fv1, zv⟩ := Blk.two Kv_12.out
      obtain ⟨ps0, ps1, ps2, fs0, fs1, fs2, zs⟩ := StkB.three Ks_12.out
      obtain ⟨pbl0, pbl1, fbl0, fbl1, zbl⟩ := Blk.two Kbl_12.out
      obtain ⟨pt0, pt1, pt2, ft0, ft1, ft2, zt⟩ := StkB.three Kt_12.out
      go_wp2_with fail
      refine Calls.mono (LF _ _ _ _ _ j5 i5 (BsZ.alloc Rfb_12.out _) (SlZ.alloc Rfu_12.out _)) ?_
      rintro e w13 ⟨rfl, bel⟩
      have nv_f : w.heap.size < w12.heap.size := by have := Blk.lt Kv_12.out; omega
      have ns_f : w2.heap.size < w12.heap.size := by have := Blk.lt Ks_12.out; omega
      have nbl_f : w10.heap.size < w12.heap.size := by have := Blk.lt Kbl_12.out; omega
      have nt_f : w11.heap.size < w12.heap.size := by have := Blk.lt Kt_12.out; omega
      have mf : w.heap.size ≤ w12.heap.size := by have := H_12.out.size; omega
      have Rsb_13 := Lib.hid (BsZ.below (BsZ.alloc Rsb_12.out _) bel)
      have Rsu_13 := Lib.hid (SlZ.below (SlZ.alloc Rsu_12.out _) bel)
      have Rtb_13 := Lib.hid (BsZ.below (BsZ.alloc Rtb_12.out _) bel)
      have Rtu_13 := Lib.hid (SlZ.below (SlZ.alloc Rtu_12.out _) bel)
      have Kv_13 := Lib.hid (Blk.after (Blk.alloc Kv_12.out _) bel)
      have Ks_13 := Lib.hid (Blk.after (Blk.alloc Ks_12.out _) bel)
      have Kbl_13 := Lib.hid (Blk.after (Blk.alloc Kbl_12.out _) bel)
      have Kt_13 := Lib.hid (Blk.after (Blk.alloc Kt_12.out _) bel)
      have Kf_13 := Lib.hid (Blk.after (show Blk _ (w12.heap.size) 55 #[.slice A5 64 c5, .slice U5 64 d5, .int .i64 0] from Blk.newAt (by simp [putStk, World.setCell])) bel)
      have H_13 := Lib.hid (Below.step (Below.al H_12.out _) bel)
      clear Kv_12 Ks_12 Kbl_12 Kt_12 Rsb_12 Rsu_12 Rtb_12 Rtu_12 Rfb_12 Rfu_12 H_12 pv0 pv1 fv0 fv1 zv ps0 ps1 ps2 fs0 fs1 fs2 zs pbl0 pbl1 fbl0 fbl1 zbl pt0 pt1 pt2 ft0 ft1 ft2 zt bel
      clear LO MO ST LF
      obtain ⟨pv0, pv1, fv0, fv1, zv⟩ := Blk.two Kv_13.out
      obtain ⟨ps0, ps1, ps2, fs0, fs1, fs2, zs⟩ := StkB.three Ks_13.out
      obtain ⟨pbl0, pbl1, fbl0, fbl1, zbl⟩ := Blk.two Kbl_13.out
      obtain ⟨pt0, pt1, pt2, ft0, ft1, ft2, zt⟩ := StkB.three Kt_13.out
      obtain ⟨pf0, pf1, pf2, ff0, ff1, ff2, zf⟩ := StkB.three Kf_13.out
      go_wp2_with fail
      refine Calls.mono (stk_same A A4 U U4 64 c c4 64 d d4 0 lb (urow k 8) _ _ (BsZ.alloc Rsb_13.out _) (BsZ.alloc Rtb_13.out _) (SlZ.alloc Rsu_13.out _) (SlZ.alloc Rtu_13.out _) (Nat.le_refl _) (by unfold maxLen; omega) (by unfold maxLen; omega)) ?_
      rintro e w14 ⟨rfl, bel⟩
      have nv_bm : w.heap.size < w13.heap.size := by have := Blk.lt Kv_13.out; omega
      have ns_bm : w2.heap.size < w13.heap.size := by have := Blk.lt Ks_13.out; omega
      have nbl_bm : w10.heap.size < w13.heap.size := by have := Blk.lt Kbl_13.out; omega
      have nt_bm : w11.heap.size < w13.heap.size := by have := Blk.lt Kt_13.out; omega
      have nf_bm : w12.heap.size < w13.heap.size := by have := Blk.lt Kf_13.out; omega
      have mbm : w.heap.size ≤ w13.heap.size := by have := H_13.out.size; omega
      have Rsb_14 := Lib.hid (BsZ.below (BsZ.alloc Rsb_13.out _) bel)
      have Rsu_14 := Lib.hid (SlZ.below (SlZ.alloc Rsu_13.out _) bel)
      have Rtb_14 := Lib.hid (BsZ.below (BsZ.alloc Rtb_13.out _) bel)
      have Rtu_14 := Lib.hid (SlZ.below (SlZ.alloc Rtu_13.out _) bel)
      have Kv_14 := Lib.hid (Blk.after (Blk.alloc Kv_13.out _) bel)
      have Ks_14 := Lib.hid (Blk.after (Blk.alloc Ks_13.out _) bel)
      have Kbl_14 := Lib.hid (Blk.after (Blk.alloc Kbl_13.out _) bel)
      have Kt_14 := Lib.hid (Blk.after (Blk.alloc Kt_13.out _) bel)
      have Kf_14 := Lib.hid (Blk.after (Blk.alloc Kf_13.out _) bel)
      have Kbm_14 := Lib.hid (Blk.after (show Blk _ (w13.heap.size) 52 #[.int .u64 (z1 : Nat), .int .u64 (z2 : Nat)] from Blk.newAt (by simp [putStk, World.setCell])) bel)
      have H_14 := Lib.hid (Below.step (Below.al H_13.out _) bel)
      clear Kv_13 Ks_13 Kbl_13 Kt_13 Kf_13 Rsb_13 Rsu_13 Rtb_13 Rtu_13 H_13 pv0 pv1 fv0 fv1 zv ps0 ps1 ps2 fs0 fs1 fs2 zs pbl0 pbl1 fbl0 fbl1 zbl pt0 pt1 pt2 ft0 ft1 ft2 zt pf0 pf1 pf2 ff0 ff1 ff2 zf bel
      go_wp2
      go_ret
      exact ⟨rfl, H_14.out⟩
end Go.Proofs.Ytgamodmenlhedaa.un
