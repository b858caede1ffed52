/- ValueDividesWithRest: the walk of the law. -/
import Derived.Test.YtcpmlcdeddmdmaaVq
namespace Go.Proofs.Ytcpmlcdeddmdmaa.vw
open Go.RowKit
set_option linter.unusedVariables false
theorem ap_div (a b c d : Nat) (ha : a < 18446744073709551616) (hb : b < 18446744073709551616) (hc : c < 18446744073709551616) (hd : d < 18446744073709551616) (h0 : ¬ (c = 0 ∧ d = 0)) (w : World) :
    Calls Try.prog 56 #[.int .i64 5, .agg #[.int .u64 (a : Int), .int .u64 (b : Int)], .agg #[.int .u64 (c : Int), .int .u64 (d : Int)]] w (apR w ((loN (vN a b / vN c d), hiN (vN a b / vN c d)), true)) := by
  rcases Nat.eq_zero_or_pos d with h | h
  · subst h
    exact ap_div_s a b c ha hb hc (by omega) w
  · exact ap_div_l a b c d ha hb hc hd h w
/-- what the calls give, in terms of one another -/
theorem facts (a b c d : Nat) (ha : a < 18446744073709551616) (hb : b < 18446744073709551616) (hc : c < 18446744073709551616) (hd : d < 18446744073709551616) (h0 : ¬ (c = 0 ∧ d = 0)) :
    ∃ q0 q1 p0 p1 r0 r1 : Nat, (q0 < 18446744073709551616 ∧ q1 < 18446744073709551616) ∧ (p0 < 18446744073709551616 ∧ p1 < 18446744073709551616) ∧ (r0 < 18446744073709551616 ∧ r1 < 18446744073709551616) ∧
    (loN (vN a b / vN c d) = q0 ∧ hiN (vN a b / vN c d) = q1) ∧
    (loN (vN q0 q1 * vN c d) = p0 ∧ hiN (vN q0 q1 * vN c d) = p1) ∧
    (loN (vN a b + (M128 - vN p0 p1)) = r0 ∧ hiN (vN a b + (M128 - vN p0 p1)) = r1) ∧
    lessN r0 r1 c d = true ∧ lessN a b p0 p1 = false := by
  have hX := vN_lt ha hb
  have hY := vN_lt hc hd
  have hY0 : 0 < vN c d := by unfold vN; omega
  have hm := Nat.mod_lt (vN a b) hY0
  have hd := Nat.div_add_mod' (vN a b) (vN c d)
  refine ⟨_, _, _, _, _, _, ⟨loN_lt _, hiN_lt _⟩, ⟨loN_lt _, hiN_lt _⟩, ⟨loN_lt _, hiN_lt _⟩, ⟨rfl, rfl⟩, ⟨rfl, rfl⟩, ⟨rfl, rfl⟩, ?_, ?_⟩
  all_goals
    unfold lessN
    have hq : vN (loN (vN a b / vN c d)) (hiN (vN a b / vN c d)) = vN a b / vN c d := by
      rw [vN_lohi, Nat.mod_eq_of_lt (Nat.lt_of_le_of_lt (Nat.div_le_self _ _) hX)]
    rw [hq]
    have hp : vN (loN (vN a b / vN c d * vN c d)) (hiN (vN a b / vN c d * vN c d)) = vN a b / vN c d * vN c d := by
      rw [vN_lohi, Nat.mod_eq_of_lt (by omega)]
    rw [hp]
  · rw [vN_lohi]
    generalize vN a b / vN c d * vN c d = p at *
    generalize vN a b % vN c d = m at *
    rw [decide_eq_true_iff]
    have e : (vN a b + (M128 - p)) % M128 = m := by
      unfold M128 at *
      omega
    rw [e]
    exact hm
  · generalize vN a b / vN c d * vN c d = p at *
    rw [decide_eq_false_iff_not]
    omega

set_option maxHeartbeats 8000000 in
set_option maxRecDepth 10000 in
theorem law0 (x0 x1 : Nat) (w : World) :
    Calls Try.prog 13 #[.agg #[.int .u64 (x0 : Nat), .int .u64 (x1 : Nat)], .agg #[.int .u64 0, .int .u64 0]] w fun e w' => e = .returned (.bool true) ∧ Below w.heap.size w w' := by
  have C1 := Lib.hid (fun W : World => ap_div_0 x0 x1 W)
  unfold apR at C1
  go_enter Try.func13, Try.ntmps13
  go_wp2_with fail
  refine (awake02 _).mono ?_
  rintro e w0 ⟨rfl, hw0⟩
  have HB0 : Hid (Below w.heap.size w w0) := Lib.hid (by rw [← hw0]; exact ((Below.refl w.heap.size w).alloc (Nat.le_refl _) _).alloc (by simp) _)
  have Kx : Hid (Blk w0 w.heap.size 58 #[.int .u64 (x0 : Nat), .int .u64 (x1 : Nat)]) := Lib.hid (by rw [← hw0]; exact (Blk.new w _ _).alloc _)
  have Ky : Hid (Blk w0 (w.heap.size + 1) 58 #[.int .u64 0, .int .u64 0]) := Lib.hid (by rw [← hw0]; exact Blk.newAt (by simp))
  clear hw0
  obtain ⟨pKx0, pKx1, -, -, zKx⟩ := Kx.out.two
  obtain ⟨pKy0, pKy1, -, -, zKy⟩ := Ky.out.two
  go_wp2_with fail
  refine (C1.out _).mono ?_
  rintro e w1 ⟨rfl, bel⟩
  clear pKx0 pKx1 zKx pKy0 pKy1 zKy
  have Kx := Lib.hid ((Kx.out).after bel)
  have Ky := Lib.hid ((Ky.out).after bel)
  have HB1 := Lib.hid (HB0.out.trans (bel.mono (HB0.out.size)))
  clear bel HB0
  obtain ⟨pKx0, pKx1, -, -, zKx⟩ := Kx.out.two
  obtain ⟨pKy0, pKy1, -, -, zKy⟩ := Ky.out.two
  go_wp2
  go_ret
  exact ⟨rfl, HB1.out.alloc HB1.out.size _⟩

set_option maxHeartbeats 8000000 in
set_option maxRecDepth 10000 in
theorem law1 (x0 x1 y0 y1 : Nat) (hx0 : x0 < 18446744073709551616) (hx1 : x1 < 18446744073709551616) (hy0 : y0 < 18446744073709551616) (hy1 : y1 < 18446744073709551616) (hn : ¬ y0 = 0) (w : World) :
    Calls Try.prog 13 #[.agg #[.int .u64 (x0 : Nat), .int .u64 (x1 : Nat)], .agg #[.int .u64 (y0 : Nat), .int .u64 (y1 : Nat)]] w fun e w' => e = .returned (.bool true) ∧ Below w.heap.size w w' := by
  have h0 : ¬ (y0 = 0 ∧ y1 = 0) := fun h => hn h.1
  have n0 : ¬ ((y0 : Int) = 0) := by omega
  obtain ⟨q0, q1, p0, p1, r0, r1, ⟨hq0, hq1⟩, ⟨hp0, hp1⟩, ⟨hr0, hr1⟩, f1, f2, f3, f4, f5⟩ := facts x0 x1 y0 y1 hx0 hx1 hy0 hy1 h0
  have C1 := fun W : World => ap_div x0 x1 y0 y1 hx0 hx1 hy0 hy1 h0 W
  have C2 := fun W : World => apply4_any q0 q1 y0 y1 hq0 hq1 hy0 hy1 W
  have C3 := fun W : World => apply3_any x0 x1 p0 p1 hx0 hx1 hp0 hp1 W
  have C4 := fun W : World => ap_less r0 r1 y0 y1 hr0 hr1 hy0 hy1 W
  have C5 := fun W : World => ap_less x0 x1 p0 p1 hx0 hx1 hp0 hp1 W
  unfold apR at C1 C4 C5
  simp only [f1.1, f1.2] at C1
  simp only [f2.1, f2.2] at C2
  simp only [f3.1, f3.2] at C3
  simp only [f4, if_true] at C4
  simp only [f5, Bool.false_eq_true, if_false] at C5
  have C1 := Lib.hid C1
  have C2 := Lib.hid C2
  have C3 := Lib.hid C3
  have C4 := Lib.hid C4
  have C5 := Lib.hid C5
  clear f1 f2 f3 f4 f5 hq0 hq1 hp0 hp1 hr0 hr1 hx0 hx1 hy0 hy1 h0
  go_enter Try.func13, Try.ntmps13
  go_wp2_with fail
  refine (awake02 _).mono ?_
  rintro e w0 ⟨rfl, hw0⟩
  have HB0 : Hid (Below w.heap.size w w0) := Lib.hid (by rw [← hw0]; exact ((Below.refl w.heap.size w).alloc (Nat.le_refl _) _).alloc (by simp) _)
  have Kx : Hid (Blk w0 w.heap.size 58 #[.int .u64 (x0 : Nat), .int .u64 (x1 : Nat)]) := Lib.hid (by rw [← hw0]; exact (Blk.new w _ _).alloc _)
  have Ky : Hid (Blk w0 (w.heap.size + 1) 58 #[.int .u64 (y0 : Nat), .int .u64 (y1 : Nat)]) := Lib.hid (by rw [← hw0]; exact Blk.newAt (by simp))
  clear hw0
  obtain ⟨pKx0, pKx1, -, -, zKx⟩ := Kx.out.two
  obtain ⟨pKy0, pKy1, -, -, zKy⟩ := Ky.out.two
  go_wp2_with fail
  refine (C1.out _).mono ?_
  rintro e w1 ⟨rfl, bel⟩
  clear pKx0 pKx1 zKx pKy0 pKy1 zKy
  have Kx := Lib.hid ((Kx.out).after bel)
  have Ky := Lib.hid ((Ky.out).after bel)
  have HB1 := Lib.hid (HB0.out.trans (bel.mono (HB0.out.size)))
  clear bel HB0
  obtain ⟨pKx0, pKx1, -, -, zKx⟩ := Kx.out.two
  obtain ⟨pKy0, pKy1, -, -, zKy⟩ := Ky.out.two
  go_wp2_with fail
  refine (C2.out _).mono ?_
  rintro e w2 ⟨rfl, bel⟩
  clear pKx0 pKx1 zKx pKy0 pKy1 zKy
  have Kx := Lib.hid ((Kx.out.alloc _).after bel)
  have Ky := Lib.hid ((Ky.out.alloc _).after bel)
  have K2 := Lib.hid ((Blk.new w1 58 #[.int .u64 (q0 : Nat), .int .u64 (q1 : Nat)]).after bel)
  have HB2 := Lib.hid ((HB1.out.alloc (HB1.out.size) _).trans (bel.mono ((HB1.out.alloc (HB1.out.size) _).size)))
  clear bel HB1
  obtain ⟨pKx0, pKx1, -, -, zKx⟩ := Kx.out.two
  obtain ⟨pKy0, pKy1, -, -, zKy⟩ := Ky.out.two
  obtain ⟨pK20, pK21, -, -, zK2⟩ := K2.out.two
  go_wp2_with fail
  refine (C3.out _).mono ?_
  rintro e w3 ⟨rfl, bel⟩
  clear pKx0 pKx1 zKx pKy0 pKy1 zKy pK20 pK21 zK2
  have Kx := Lib.hid ((Kx.out.alloc _).after bel)
  have Ky := Lib.hid ((Ky.out.alloc _).after bel)
  have K2 := Lib.hid ((K2.out.alloc _).after bel)
  have K3 := Lib.hid ((Blk.new w2 58 #[.int .u64 (p0 : Nat), .int .u64 (p1 : Nat)]).after bel)
  have HB3 := Lib.hid ((HB2.out.alloc (HB2.out.size) _).trans (bel.mono ((HB2.out.alloc (HB2.out.size) _).size)))
  clear bel HB2
  obtain ⟨pKx0, pKx1, -, -, zKx⟩ := Kx.out.two
  obtain ⟨pKy0, pKy1, -, -, zKy⟩ := Ky.out.two
  obtain ⟨pK20, pK21, -, -, zK2⟩ := K2.out.two
  obtain ⟨pK30, pK31, -, -, zK3⟩ := K3.out.two
  go_wp2_with fail
  refine (C4.out _).mono ?_
  rintro e w4 ⟨rfl, bel⟩
  clear pKx0 pKx1 zKx pKy0 pKy1 zKy pK20 pK21 zK2 pK30 pK31 zK3
  have Kx := Lib.hid ((Kx.out.alloc _).after bel)
  have Ky := Lib.hid ((Ky.out.alloc _).after bel)
  have K2 := Lib.hid ((K2.out.alloc _).after bel)
  have K3 := Lib.hid ((K3.out.alloc _).after bel)
  have K4 := Lib.hid ((Blk.new w3 58 #[.int .u64 (r0 : Nat), .int .u64 (r1 : Nat)]).after bel)
  have HB4 := Lib.hid ((HB3.out.alloc (HB3.out.size) _).trans (bel.mono ((HB3.out.alloc (HB3.out.size) _).size)))
  clear bel HB3
  obtain ⟨pKx0, pKx1, -, -, zKx⟩ := Kx.out.two
  obtain ⟨pKy0, pKy1, -, -, zKy⟩ := Ky.out.two
  obtain ⟨pK20, pK21, -, -, zK2⟩ := K2.out.two
  obtain ⟨pK30, pK31, -, -, zK3⟩ := K3.out.two
  obtain ⟨pK40, pK41, -, -, zK4⟩ := K4.out.two
  go_wp2_with fail
  refine (C5.out _).mono ?_
  rintro e w5 ⟨rfl, bel⟩
  clear pKx0 pKx1 zKx pKy0 pKy1 zKy pK20 pK21 zK2 pK30 pK31 zK3 pK40 pK41 zK4
  have Kx := Lib.hid ((Kx.out.alloc _).after bel)
  have Ky := Lib.hid ((Ky.out.alloc _).after bel)
  have K2 := Lib.hid ((K2.out.alloc _).after bel)
  have K3 := Lib.hid ((K3.out.alloc _).after bel)
  have K4 := Lib.hid ((K4.out.alloc _).after bel)
  have K5 := Lib.hid ((Blk.new w4 58 #[.int .u64 (1 : Nat), .int .u64 (0 : Nat)]).after bel)
  have HB5 := Lib.hid ((HB4.out.alloc (HB4.out.size) _).trans (bel.mono ((HB4.out.alloc (HB4.out.size) _).size)))
  clear bel HB4
  obtain ⟨pKx0, pKx1, -, -, zKx⟩ := Kx.out.two
  obtain ⟨pKy0, pKy1, -, -, zKy⟩ := Ky.out.two
  obtain ⟨pK20, pK21, -, -, zK2⟩ := K2.out.two
  obtain ⟨pK30, pK31, -, -, zK3⟩ := K3.out.two
  obtain ⟨pK40, pK41, -, -, zK4⟩ := K4.out.two
  obtain ⟨pK50, pK51, -, -, zK5⟩ := K5.out.two
  go_wp2
  go_ret
  exact ⟨rfl, HB5.out.alloc HB5.out.size _⟩

set_option maxHeartbeats 8000000 in
set_option maxRecDepth 10000 in
theorem law2 (x0 x1 y1 : Nat) (hx0 : x0 < 18446744073709551616) (hx1 : x1 < 18446744073709551616) (hy1 : y1 < 18446744073709551616) (hn : ¬ y1 = 0) (w : World) :
    Calls Try.prog 13 #[.agg #[.int .u64 (x0 : Nat), .int .u64 (x1 : Nat)], .agg #[.int .u64 0, .int .u64 (y1 : Nat)]] w fun e w' => e = .returned (.bool true) ∧ Below w.heap.size w w' := by
  have h0 : ¬ (0 = 0 ∧ y1 = 0) := fun h => hn h.2
  have n0 : ¬ ((y1 : Int) = 0) := by omega
  have hy0 : 0 < 18446744073709551616 := by omega
  obtain ⟨q0, q1, p0, p1, r0, r1, ⟨hq0, hq1⟩, ⟨hp0, hp1⟩, ⟨hr0, hr1⟩, f1, f2, f3, f4, f5⟩ := facts x0 x1 0 y1 hx0 hx1 hy0 hy1 h0
  have C1 := fun W : World => ap_div x0 x1 0 y1 hx0 hx1 hy0 hy1 h0 W
  have C2 := fun W : World => apply4_any q0 q1 0 y1 hq0 hq1 hy0 hy1 W
  have C3 := fun W : World => apply3_any x0 x1 p0 p1 hx0 hx1 hp0 hp1 W
  have C4 := fun W : World => ap_less r0 r1 0 y1 hr0 hr1 hy0 hy1 W
  have C5 := fun W : World => ap_less x0 x1 p0 p1 hx0 hx1 hp0 hp1 W
  unfold apR at C1 C4 C5
  simp only [f1.1, f1.2] at C1
  simp only [f2.1, f2.2] at C2
  simp only [f3.1, f3.2] at C3
  simp only [f4, if_true] at C4
  simp only [f5, Bool.false_eq_true, if_false] at C5
  have C1 := Lib.hid C1
  have C2 := Lib.hid C2
  have C3 := Lib.hid C3
  have C4 := Lib.hid C4
  have C5 := Lib.hid C5
  clear f1 f2 f3 f4 f5 hq0 hq1 hp0 hp1 hr0 hr1 hx0 hx1 hy0 hy1 h0
  go_enter Try.func13, Try.ntmps13
  go_wp2_with fail
  refine (awake02 _).mono ?_
  rintro e w0 ⟨rfl, hw0⟩
  have HB0 : Hid (Below w.heap.size w w0) := Lib.hid (by rw [← hw0]; exact ((Below.refl w.heap.size w).alloc (Nat.le_refl _) _).alloc (by simp) _)
  have Kx : Hid (Blk w0 w.heap.size 58 #[.int .u64 (x0 : Nat), .int .u64 (x1 : Nat)]) := Lib.hid (by rw [← hw0]; exact (Blk.new w _ _).alloc _)
  have Ky : Hid (Blk w0 (w.heap.size + 1) 58 #[.int .u64 0, .int .u64 (y1 : Nat)]) := Lib.hid (by rw [← hw0]; exact Blk.newAt (by simp))
  clear hw0
  obtain ⟨pKx0, pKx1, -, -, zKx⟩ := Kx.out.two
  obtain ⟨pKy0, pKy1, -, -, zKy⟩ := Ky.out.two
  go_wp2_with fail
  refine (C1.out _).mono ?_
  rintro e w1 ⟨rfl, bel⟩
  clear pKx0 pKx1 zKx pKy0 pKy1 zKy
  have Kx := Lib.hid ((Kx.out).after bel)
  have Ky := Lib.hid ((Ky.out).after bel)
  have HB1 := Lib.hid (HB0.out.trans (bel.mono (HB0.out.size)))
  clear bel HB0
  obtain ⟨pKx0, pKx1, -, -, zKx⟩ := Kx.out.two
  obtain ⟨pKy0, pKy1, -, -, zKy⟩ := Ky.out.two
  go_wp2_with fail
  refine (C2.out _).mono ?_
  rintro e w2 ⟨rfl, bel⟩
  clear pKx0 pKx1 zKx pKy0 pKy1 zKy
  have Kx := Lib.hid ((Kx.out.alloc _).after bel)
  have Ky := Lib.hid ((Ky.out.alloc _).after bel)
  have K2 := Lib.hid ((Blk.new w1 58 #[.int .u64 (q0 : Nat), .int .u64 (q1 : Nat)]).after bel)
  have HB2 := Lib.hid ((HB1.out.alloc (HB1.out.size) _).trans (bel.mono ((HB1.out.alloc (HB1.out.size) _).size)))
  clear bel HB1
  obtain ⟨pKx0, pKx1, -, -, zKx⟩ := Kx.out.two
  obtain ⟨pKy0, pKy1, -, -, zKy⟩ := Ky.out.two
  obtain ⟨pK20, pK21, -, -, zK2⟩ := K2.out.two
  go_wp2_with fail
  refine (C3.out _).mono ?_
  rintro e w3 ⟨rfl, bel⟩
  clear pKx0 pKx1 zKx pKy0 pKy1 zKy pK20 pK21 zK2
  have Kx := Lib.hid ((Kx.out.alloc _).after bel)
  have Ky := Lib.hid ((Ky.out.alloc _).after bel)
  have K2 := Lib.hid ((K2.out.alloc _).after bel)
  have K3 := Lib.hid ((Blk.new w2 58 #[.int .u64 (p0 : Nat), .int .u64 (p1 : Nat)]).after bel)
  have HB3 := Lib.hid ((HB2.out.alloc (HB2.out.size) _).trans (bel.mono ((HB2.out.alloc (HB2.out.size) _).size)))
  clear bel HB2
  obtain ⟨pKx0, pKx1, -, -, zKx⟩ := Kx.out.two
  obtain ⟨pKy0, pKy1, -, -, zKy⟩ := Ky.out.two
  obtain ⟨pK20, pK21, -, -, zK2⟩ := K2.out.two
  obtain ⟨pK30, pK31, -, -, zK3⟩ := K3.out.two
  go_wp2_with fail
  refine (C4.out _).mono ?_
  rintro e w4 ⟨rfl, bel⟩
  clear pKx0 pKx1 zKx pKy0 pKy1 zKy pK20 pK21 zK2 pK30 pK31 zK3
  have Kx := Lib.hid ((Kx.out.alloc _).after bel)
  have Ky := Lib.hid ((Ky.out.alloc _).after bel)
  have K2 := Lib.hid ((K2.out.alloc _).after bel)
  have K3 := Lib.hid ((K3.out.alloc _).after bel)
  have K4 := Lib.hid ((Blk.new w3 58 #[.int .u64 (r0 : Nat), .int .u64 (r1 : Nat)]).after bel)
  have HB4 := Lib.hid ((HB3.out.alloc (HB3.out.size) _).trans (bel.mono ((HB3.out.alloc (HB3.out.size) _).size)))
  clear bel HB3
  obtain ⟨pKx0, pKx1, -, -, zKx⟩ := Kx.out.two
  obtain ⟨pKy0, pKy1, -, -, zKy⟩ := Ky.out.two
  obtain ⟨pK20, pK21, -, -, zK2⟩ := K2.out.two
  obtain ⟨pK30, pK31, -, -, zK3⟩ := K3.out.two
  obtain ⟨pK40, pK41, -, -, zK4⟩ := K4.out.two
  go_wp2_with fail
  refine (C5.out _).mono ?_
  rintro e w5 ⟨rfl, bel⟩
  clear pKx0 pKx1 zKx pKy0 pKy1 zKy pK20 pK21 zK2 pK30 pK31 zK3 pK40 pK41 zK4
  have Kx := Lib.hid ((Kx.out.alloc _).after bel)
  have Ky := Lib.hid ((Ky.out.alloc _).after bel)
  have K2 := Lib.hid ((K2.out.alloc _).after bel)
  have K3 := Lib.hid ((K3.out.alloc _).after bel)
  have K4 := Lib.hid ((K4.out.alloc _).after bel)
  have K5 := Lib.hid ((Blk.new w4 58 #[.int .u64 (1 : Nat), .int .u64 (0 : Nat)]).after bel)
  have HB5 := Lib.hid ((HB4.out.alloc (HB4.out.size) _).trans (bel.mono ((HB4.out.alloc (HB4.out.size) _).size)))
  clear bel HB4
  obtain ⟨pKx0, pKx1, -, -, zKx⟩ := Kx.out.two
  obtain ⟨pKy0, pKy1, -, -, zKy⟩ := Ky.out.two
  obtain ⟨pK20, pK21, -, -, zK2⟩ := K2.out.two
  obtain ⟨pK30, pK31, -, -, zK3⟩ := K3.out.two
  obtain ⟨pK40, pK41, -, -, zK4⟩ := K4.out.two
  obtain ⟨pK50, pK51, -, -, zK5⟩ := K5.out.two
  go_wp2
  go_ret
  exact ⟨rfl, HB5.out.alloc HB5.out.size _⟩

theorem law (x0 x1 : Nat) (hx0 : x0 < 18446744073709551616) (hx1 : x1 < 18446744073709551616) (y0 y1 : Nat) (hy0 : y0 < 18446744073709551616) (hy1 : y1 < 18446744073709551616) (w : World) :
    Calls Try.prog 13 #[.agg #[.int .u64 (x0 : Nat), .int .u64 (x1 : Nat)], .agg #[.int .u64 (y0 : Nat), .int .u64 (y1 : Nat)]] w fun e w' => e = .returned (.bool true) ∧ Below w.heap.size w w' := by
  by_cases h : y0 = 0
  · subst h
    by_cases h' : y1 = 0
    · subst h'
      exact law0 x0 x1 w
    · exact law2 x0 x1 y1 hx0 hx1 hy1 h' w
  · exact law1 x0 x1 y0 y1 hx0 hx1 hy0 hy1 h w
end Go.Proofs.Ytcpmlcdeddmdmaa.vw
