/- StackOperations: the walk of the law. -/
import Derived.Test.YtgamodmenlhedaaStp
import Derived.Test.YtgamodmenlhedaaSck
namespace Go.Proofs.Ytgamodmenlhedaa.so
open Go.RowKit
set_option linter.unusedVariables false
set_option maxRecDepth 100000

theorem undrew' {B k : Nat} {w w2 : World} (h : Below B (w.drewN k) w2) : Below B w w2 := ⟨h.os, h.tape, h.output, h.size, h.block⟩

set_option maxHeartbeats 8000000 in
theorem law (A : Option Addr) (n c : Nat) (l : List Nat) (off : Int) (h0 : -9223372036854775808 ≤ off) (h1 : off ≤ 9223372036854775807) (size : Int) (s0 : -9223372036854775808 ≤ size) (s1 : size ≤ 9223372036854775807) (w : World)
    (hb : Bs w w.heap.size A n l) (hn : n ≤ maxLen) (hcap : n ≤ c) :
    Calls Try.prog 11 #[.slice A n c, .int .i64 off, .int .i64 size] w fun e w' => e = .returned (.bool true) ∧ Below w.heap.size w w' := by
  have Rc_0 := Lib.hid (show BsZ w A n l from hb)
  clear hb
  go_enter Try.func11, Try.ntmps11
  have H_0 := Lib.hid (Below.refl w.heap.size w)
  go_wp2_with fail
  refine Calls.mono (awake09 _) ?_
  rintro e w1 ⟨rfl, bel⟩
  have Rc_1 := Lib.hid (BsZ.below Rc_0.out bel)
  have H_1 := Lib.hid (Below.step H_0.out bel)
  clear Rc_0 H_0 bel
  go_wp2_with fail
  refine (newcodes_any A n c l 200 w1 hn hcap (by omega)).mono ?_
  rintro e w2 ⟨rfl, rfl⟩
  have hco := codes_new (c := c) (Bs.more (Rc_1.out : Bs _ _ _ _ _) (Nat.le_refl _)) 200 (by omega)
  have C_2 := Lib.hid hco
  have mcc : w.heap.size ≤ w1.heap.size := H_1.out.size
  have H_2 := Lib.hid (Below.al H_1.out (.cells #[.slice A (min n 200) c, .int .i64 0] 100))
  obtain ⟨N, hN⟩ : ∃ N, N = min n 200 := ⟨_, rfl⟩
  rw [← hN] at C_2 H_2
  have HNN := Lib.hid hN
  clear hco Rc_1 H_1 hN
  rw [← HNN.out]
  have C_2 : Hid (CodesAt _ w1.heap.size w1.heap.size A N c (List.take N l) 0) := C_2
  go_wp2_with fail
  refine Calls.mono (next_m _ _ _ _ _ _ _ 120 _ C_2.out (by omega) (by omega)) ?_
  rintro e w3 ⟨v, p3, hv, rfl, cc, gr, le3, mo3⟩
  have H_3 := Lib.hid (Below.stepG H_2.out gr mcc)
  clear H_2 C_2 gr
  have C_3 := Lib.hid cc
  have hv120 : v ≤ 1048576 := by omega
  clear cc hv le3 mo3
  have C1 := fun W : World => new_stk v hv120 W
  have C2 := fun W : World => refnew_stk v hv120 W
  unfold StkR at C1 C2
  obtain ⟨sp0, hsp0⟩ : ∃ sp0, sp0 = v - v % 16 := ⟨_, rfl⟩
  have hsp0v : sp0 ≤ v := by omega
  rw [← hsp0] at C1 C2
  clear hsp0
  go_wp2_with fail
  refine Calls.mono (C1 _) ?_
  rintro e w4 ⟨A3, c3, U3, d3, rfl, b3, t3, j3, i3, bel⟩
  have H_4 := Lib.hid (Below.step H_3.out bel)
  have C_4 := Lib.hid (CodesAt.after C_3.out bel)
  clear H_3 C_3 bel
  have Rab_4 := Lib.hid (show BsZ _ _ _ _ from b3)
  clear b3
  have Rau_4 := Lib.hid (show SlZ _ _ _ _ from t3)
  clear t3
  go_wp2_with fail
  refine Calls.mono (C2 _) ?_
  rintro e w5 ⟨A4, c4, U4, d4, rfl, b4, t4, j4, i4, bel⟩
  have ncc_a : w1.heap.size < w4.heap.size := by have := Blk.lt C_4.out.1; omega
  have ma : w.heap.size ≤ w4.heap.size := by have := H_4.out.size; omega
  have Rab_5 := Lib.hid (BsZ.below (BsZ.alloc Rab_4.out _) bel)
  have Rau_5 := Lib.hid (SlZ.below (SlZ.alloc Rau_4.out _) bel)
  have Ka_5 := Lib.hid (Blk.after (show Blk _ (w4.heap.size) 55 #[.slice A3 v c3, .slice U3 v d3, .int .i64 sp0] from Blk.newAt (by simp [putStk, World.setCell])) bel)
  have H_5 := Lib.hid (Below.step (Below.al H_4.out _) bel)
  have C_5 := Lib.hid (CodesAt.after (CodesAt.alloc C_4.out _) bel)
  clear Rab_4 Rau_4 H_4 C_4 bel
  have Rbb_5 := Lib.hid (show BsZ _ _ _ _ from b4)
  clear b4
  have Rbu_5 := Lib.hid (show SlZ _ _ _ _ from t4)
  clear t4
  clear C1 C2
  obtain ⟨pa0, pa1, pa2, fa0, fa1, fa2, za⟩ := StkB.three Ka_5.out
  go_wp2_with fail
  have na_b : w4.heap.size < w5.heap.size := by have := Blk.lt Ka_5.out; omega
  have ncc_b : w1.heap.size < w5.heap.size := by have := Blk.lt C_5.out.1; omega
  have mb : w.heap.size ≤ w5.heap.size := by have := H_5.out.size; omega
  go_loopw [13] (fun x wr => ∃ (Aa : Option Addr) (ca : Nat) (Ua : Option Addr) (da : Nat) (Ab : Option Addr) (cb : Nat) (Ub : Option Addr) (db sp p : Nat) (lb : List Nat) (lu : List Bool), (v ≤ ca ∧ v ≤ da ∧ v ≤ cb ∧ v ≤ db ∧ sp ≤ v) ∧ Hid (Below w.heap.size w wr) ∧ Hid (StkB wr w4.heap.size Aa v ca Ua v da sp) ∧ Hid (StkB wr w5.heap.size Ab v cb Ub v db sp) ∧ Hid (BsZ wr Aa v lb) ∧ Hid (SlZ wr Ua v lu) ∧ Hid (BsZ wr Ab v lb) ∧ Hid (SlZ wr Ub v lu) ∧ Hid (CodesAt wr w1.heap.size w1.heap.size A N c (List.take N l) p)) (fun x wr => N - (intOf ((wr.cell? ⟨w1.heap.size, 1, none⟩).getD undef)).toNat)
  case atStart => exact ⟨A3, c3, U3, d3, A4, c4, U4, d4, sp0, p3, _, _, ⟨j3, i3, j4, i4, hsp0v⟩, Lib.hid (Below.al H_5.out _), Lib.hid (Blk.alloc Ka_5.out _), Lib.hid (show Blk _ (w5.heap.size) 55 #[.slice A4 v c4, .slice U4 v d4, .int .i64 sp0] from Blk.newAt (by simp [putStk, World.setCell])), Lib.hid (BsZ.alloc Rab_5.out _), Lib.hid (SlZ.alloc Rau_5.out _), Lib.hid (BsZ.alloc Rbb_5.out _), Lib.hid (SlZ.alloc Rbu_5.out _), Lib.hid (CodesAt.alloc C_5.out _)⟩
  case round =>
    clear Ka_5 Rab_5 Rau_5 Rbb_5 Rbu_5 H_5 C_5 pa0 pa1 pa2 fa0 fa1 fa2 za
    obtain ⟨Aa, ca, Ua, da, Ab, cb, Ub, db, sp, p, lb, lu, ⟨q1, q2, q3, q4, hsp⟩, H_9, Ka_9, Kb_9, Rab_9, Rau_9, Rbb_9, Rbu_9, C_9⟩ := hrel
    have hcell := Blk.cell C_9.out.1 1
    simp at hcell
    have HCL := Lib.hid hcell
    have HBC := Lib.hid C_9.out.1
    clear hcell
    obtain ⟨pa0, pa1, pa2, fa0, fa1, fa2, za⟩ := StkB.three Ka_9.out
    obtain ⟨pb0, pb1, pb2, fb0, fb1, fb2, zb⟩ := StkB.three Kb_9.out
    by_cases hp : p < N
    · go_wp2_with fail
      refine (left_any w1.heap.size A N c p _ HBC.out).mono ?_
      rintro e w10 ⟨rfl, k, rfl⟩
      rw [show decide (p < N) = true by simpa using hp]
      go_wp2_with fail
      refine Calls.mono (step_any w1.heap.size w1.heap.size A N c (List.take N l) p Aa Ua Ab Ub v ca da cb db sp lb lu off size h0 h1 s0 s1 (by omega) hsp q1 q2 q3 q4 _ C_9.out Rab_9.out Rau_9.out Rbb_9.out Rbu_9.out) ?_
      rintro e w11 ⟨A5, c5, U5, d5, A6, c6, U6, d6, sp5, p5, lb5, lu5, rfl, ⟨r1, r2, r3, r4, r5⟩, x1, x2, x3, x4, cc, gr, le, mo⟩
      have gr' : wr.grownBy w11 (some w1.heap.size) := grownBy_trans (grownBy_drewN' _ _ _) gr
      have Ka_11 := Lib.hid (Blk.grown Ka_9.out gr' (by intro e; injection e with e; omega))
      have Kb_11 := Lib.hid (Blk.grown Kb_9.out gr' (by intro e; injection e with e; omega))
      have H_11 := Lib.hid (Below.stepG H_9.out gr' mcc)
      have C_11 := Lib.hid cc
      have R1 := Lib.hid (show BsZ w11 _ _ _ from x1)
      have R2 := Lib.hid (show SlZ w11 _ _ _ from x2)
      have R3 := Lib.hid (show BsZ w11 _ _ _ from x3)
      have R4 := Lib.hid (show SlZ w11 _ _ _ from x4)
      have hpp : p < p5 := mo hp
      have hpn : p5 ≤ N := cc.2.2.1
      clear cc gr gr' x1 x2 x3 x4 le mo Ka_9 Kb_9 H_9 C_9 Rab_9 Rau_9 Rbb_9 Rbu_9 pa0 pa1 pa2 fa0 fa1 fa2 za pb0 pb1 pb2 fb0 fb1 fb2 zb
      obtain ⟨pa0, pa1, pa2, fa0, fa1, fa2, za⟩ := StkB.three Ka_11.out
      obtain ⟨pb0, pb1, pb2, fb0, fb1, fb2, zb⟩ := StkB.three Kb_11.out
      go_wp2_with fail
      have KB := Blk.putFar (A' := A5) (n' := v) (c' := c5) (U' := U5) (m' := v) (d' := d5) (sp' := sp5) Kb_11.out (Nat.ne_of_gt na_b)
      have HC := CodesAt.put (A' := A6) (n' := v) (c' := c6) (U' := U6) (m' := v) (d' := d6) (sp' := sp5) (CodesAt.put (A' := A5) (n' := v) (c' := c5) (U' := U5) (m' := v) (d' := d5) (sp' := sp5) C_11.out (Nat.ne_of_lt ncc_a) (Nat.le_of_lt ncc_a)) (Nat.ne_of_lt ncc_b) (Nat.le_of_lt ncc_b)
      have hc2 := Blk.cell HC.1 1
      simp at hc2
      go_roundw
      case rel => exact ⟨A5, c5, U5, d5, A6, c6, U6, d6, sp5, p5, lb5, lu5, ⟨r1, r2, r3, r4, r5⟩, Lib.hid (Below.put (Below.put H_11.out ma) mb), Lib.hid (Blk.putFar (StkB.put Ka_11.out) (Nat.ne_of_lt na_b)), Lib.hid (StkB.put KB), Lib.hid (BsZ.put (BsZ.put R1.out Ka_11.out) KB), Lib.hid (SlZ.put (SlZ.put R2.out Ka_11.out) KB), Lib.hid (BsZ.put (BsZ.put R3.out Ka_11.out) KB), Lib.hid (SlZ.put (SlZ.put R4.out Ka_11.out) KB), Lib.hid HC⟩
      case measure =>
        simp only [putStk] at hc2
        rw [hc2, HCL.out]
        simp [intOf]
        omega
    · go_wp2_with fail
      refine (left_any w1.heap.size A N c p _ HBC.out).mono ?_
      rintro e w10 ⟨rfl, k, rfl⟩
      rw [show decide (p < N) = false by simpa using hp]
      go_wp2_with fail
      refine Calls.mono (check_any Aa Ua v ca v da sp _) ?_
      rintro e w11 ⟨rfl, bel⟩
      rw [show chkV v v (sp : Int) = true by unfold chkV; rw [decide_eq_true_iff]; omega]
      go_wp2
      go_ret
      exact ⟨rfl, Below.step H_9.out (undrew' bel)⟩
end Go.Proofs.Ytgamodmenlhedaa.so
