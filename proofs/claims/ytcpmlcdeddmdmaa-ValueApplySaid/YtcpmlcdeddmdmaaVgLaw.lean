/- ValueRing: the walk of the law. -/
import Derived.Test.YtcpmlcdeddmdmaaAp2
namespace Go.Proofs.Ytcpmlcdeddmdmaa
open Go.RowKit
set_option linter.unusedVariables false
theorem Blk.after {w w' : World} {g : Nat} {t : TypeId} {cs : Array Value} (h : Blk w g t cs) (hb : Below w.heap.size w w') : Blk w' g t cs := h.below hb h.lt
theorem Blk.newAt {w : World} {g : Nat} {t : TypeId} {cs : Array Value} (h : g = w.heap.size) : Blk (w.alloc (.cells cs t)) g t cs := by subst h; exact Blk.new w t cs
theorem Blk.two {w : World} {g : Nat} {t : TypeId} {a b : Value} (h : Blk w g t #[a, b]) : w.cell? ⟨g, 0, none⟩ = some a ∧ w.cell? ⟨g, 1, none⟩ = some b ∧ w.frozen? ⟨g, 0, none⟩ = false ∧ w.frozen? ⟨g, 1, none⟩ = false ∧ g < w.heap.size :=
  ⟨Blk.cell h 0, Blk.cell h 1, Blk.frozen h 0, Blk.frozen h 1, Blk.lt h⟩
theorem lohi_congr {n m : Nat} (h : n % M128 = m % M128) : loN n = loN m ∧ hiN n = hiN m := by
  rw [← loN_mod n, ← hiN_mod n, h, loN_mod, hiN_mod]; exact ⟨rfl, rfl⟩
end Go.Proofs.Ytcpmlcdeddmdmaa
namespace Go.Proofs.Ytcpmlcdeddmdmaa.vg
open Go.RowKit
set_option linter.unusedVariables false

/-- what the calls of Apply give, in terms of one another -/
theorem facts (a b c d e f : Nat) (ha : a < 18446744073709551616) (hb : b < 18446744073709551616) (hc : c < 18446744073709551616) (hd : d < 18446744073709551616) (he : e < 18446744073709551616) (hf : f < 18446744073709551616) :
    ∃ s0 s1 a0 a1 b0 b1 m0 m1 u0 u1 v0 v1 : Nat, (s0 < 18446744073709551616 ∧ s1 < 18446744073709551616) ∧ (b0 < 18446744073709551616 ∧ b1 < 18446744073709551616) ∧ (u0 < 18446744073709551616 ∧ u1 < 18446744073709551616) ∧ (v0 < 18446744073709551616 ∧ v1 < 18446744073709551616) ∧
    (loN (vN a b + vN c d) = s0 ∧ hiN (vN a b + vN c d) = s1) ∧
    (loN (vN c d + vN a b) = s0 ∧ hiN (vN c d + vN a b) = s1) ∧
    (loN (vN s0 s1 + vN e f) = a0 ∧ hiN (vN s0 s1 + vN e f) = a1) ∧
    (loN (vN c d + vN e f) = b0 ∧ hiN (vN c d + vN e f) = b1) ∧
    (loN (vN a b + vN b0 b1) = a0 ∧ hiN (vN a b + vN b0 b1) = a1) ∧
    (loN (vN s0 s1 * vN e f) = m0 ∧ hiN (vN s0 s1 * vN e f) = m1) ∧
    (loN (vN a b * vN e f) = u0 ∧ hiN (vN a b * vN e f) = u1) ∧
    (loN (vN e f * vN c d) = v0 ∧ hiN (vN e f * vN c d) = v1) ∧
    (loN (vN u0 u1 + vN v0 v1) = m0 ∧ hiN (vN u0 u1 + vN v0 v1) = m1) ∧
    (loN (vN s0 s1 + (M128 - vN c d)) = a ∧ hiN (vN s0 s1 + (M128 - vN c d)) = b) := by
  refine ⟨loN (vN a b + vN c d), hiN (vN a b + vN c d), loN (vN a b + vN c d + vN e f), hiN (vN a b + vN c d + vN e f), loN (vN c d + vN e f), hiN (vN c d + vN e f), loN ((vN a b + vN c d) * vN e f), hiN ((vN a b + vN c d) * vN e f), loN (vN a b * vN e f), hiN (vN a b * vN e f), loN (vN e f * vN c d), hiN (vN e f * vN c d),
    ⟨loN_lt _, hiN_lt _⟩, ⟨loN_lt _, hiN_lt _⟩, ⟨loN_lt _, hiN_lt _⟩, ⟨loN_lt _, hiN_lt _⟩, ⟨rfl, rfl⟩, by rw [Nat.add_comm (vN c d)]; exact ⟨rfl, rfl⟩, ?_, ⟨rfl, rfl⟩, ?_, ?_, ⟨rfl, rfl⟩, ⟨rfl, rfl⟩, ?_, ?_⟩
  · apply lohi_congr
    rw [vN_lohi, Nat.mod_add_mod]
  · apply lohi_congr
    rw [vN_lohi, Nat.add_mod_mod, Nat.add_assoc]
  · apply lohi_congr
    rw [vN_lohi, Nat.mod_mul_mod]
  · apply lohi_congr
    rw [vN_lohi, vN_lohi, Nat.mod_add_mod, Nat.add_mod_mod, Nat.add_mul, Nat.mul_comm (vN c d)]
  · have h1 := vN_lt hc hd
    have h2 : (vN (loN (vN a b + vN c d)) (hiN (vN a b + vN c d)) + (M128 - vN c d)) % M128 = vN a b % M128 := by
      rw [vN_lohi]
      unfold M128 at *
      omega
    obtain ⟨h3, h4⟩ := lohi_congr h2
    rw [h3, h4, loN_vN ha, hiN_vN ha hb]
    exact ⟨rfl, rfl⟩

set_option maxHeartbeats 8000000 in
set_option maxRecDepth 10000 in
theorem law (x0 x1 : Nat) (hx0 : x0 < 18446744073709551616) (hx1 : x1 < 18446744073709551616) (y0 y1 : Nat) (hy0 : y0 < 18446744073709551616) (hy1 : y1 < 18446744073709551616) (z0 z1 : Nat) (hz0 : z0 < 18446744073709551616) (hz1 : z1 < 18446744073709551616) (w : World) :
    Calls Try.prog 14 #[.agg #[.int .u64 (x0 : Nat), .int .u64 (x1 : Nat)], .agg #[.int .u64 (y0 : Nat), .int .u64 (y1 : Nat)], .agg #[.int .u64 (z0 : Nat), .int .u64 (z1 : Nat)]] w fun e w' => e = .returned (.bool true) ∧ Below w.heap.size w w' := by
  obtain ⟨s0, s1, a0, a1, b0, b1, m0, m1, u0, u1, v0, v1, ⟨hs0, hs1⟩, ⟨hb0, hb1⟩, ⟨hu0, hu1⟩, ⟨hv0, hv1⟩, f1, f2, f3, f4, f5, f6, f7, f8, f9, f10⟩ := facts x0 x1 y0 y1 z0 z1 hx0 hx1 hy0 hy1 hz0 hz1
  have C1 := fun W : World => apply2_any x0 x1 y0 y1 hx0 hx1 hy0 hy1 W
  rw [f1.1, f1.2] at C1
  have C1 := Lib.hid C1
  have C2 := fun W : World => apply2_any y0 y1 x0 x1 hy0 hy1 hx0 hx1 W
  rw [f2.1, f2.2] at C2
  have C2 := Lib.hid C2
  have C3 := fun W : World => apply2_any s0 s1 z0 z1 hs0 hs1 hz0 hz1 W
  rw [f3.1, f3.2] at C3
  have C3 := Lib.hid C3
  have C4 := fun W : World => apply2_any y0 y1 z0 z1 hy0 hy1 hz0 hz1 W
  rw [f4.1, f4.2] at C4
  have C4 := Lib.hid C4
  have C5 := fun W : World => apply2_any x0 x1 b0 b1 hx0 hx1 hb0 hb1 W
  rw [f5.1, f5.2] at C5
  have C5 := Lib.hid C5
  have C6 := fun W : World => apply4_any s0 s1 z0 z1 hs0 hs1 hz0 hz1 W
  rw [f6.1, f6.2] at C6
  have C6 := Lib.hid C6
  have C7 := fun W : World => apply4_any x0 x1 z0 z1 hx0 hx1 hz0 hz1 W
  rw [f7.1, f7.2] at C7
  have C7 := Lib.hid C7
  have C8 := fun W : World => apply4_any z0 z1 y0 y1 hz0 hz1 hy0 hy1 W
  rw [f8.1, f8.2] at C8
  have C8 := Lib.hid C8
  have C9 := fun W : World => apply2_any u0 u1 v0 v1 hu0 hu1 hv0 hv1 W
  rw [f9.1, f9.2] at C9
  have C9 := Lib.hid C9
  have C10 := fun W : World => apply3_any s0 s1 y0 y1 hs0 hs1 hy0 hy1 W
  rw [f10.1, f10.2] at C10
  have C10 := Lib.hid C10
  clear f1 f2 f3 f4 f5 f6 f7 f8 f9 f10 hx0 hx1 hy0 hy1 hz0 hz1 hs0 hs1 hb0 hb1 hu0 hu1 hv0 hv1
  go_enter Try.func14, Try.ntmps14
  go_wp2_with fail
  refine (awake02 _).mono ?_
  rintro e w0 ⟨rfl, hw0⟩
  have HB0 : Hid (Below w.heap.size w w0) := Lib.hid (by rw [← hw0]; exact (((Below.refl w.heap.size w).alloc (Nat.le_refl _) _).alloc (by simp) _).alloc (by simp; omega) _)
  have Kx : Hid (Blk w0 w.heap.size 58 #[.int .u64 (x0 : Nat), .int .u64 (x1 : Nat)]) := Lib.hid (by rw [← hw0]; exact ((Blk.new w _ _).alloc _).alloc _)
  have Ky : Hid (Blk w0 (w.heap.size + 1) 58 #[.int .u64 (y0 : Nat), .int .u64 (y1 : Nat)]) := Lib.hid (by rw [← hw0]; exact (Blk.newAt (by simp)).alloc _)
  have Kz : Hid (Blk w0 (w.heap.size + 1 + 1) 58 #[.int .u64 (z0 : Nat), .int .u64 (z1 : Nat)]) := Lib.hid (by rw [← hw0]; exact Blk.newAt (by simp))
  clear hw0
  obtain ⟨pKx0, pKx1, -, -, zKx⟩ := Kx.out.two
  obtain ⟨pKy0, pKy1, -, -, zKy⟩ := Ky.out.two
  obtain ⟨pKz0, pKz1, -, -, zKz⟩ := Kz.out.two
  go_wp2_with fail
  refine (C1.out _).mono ?_
  rintro e w1 ⟨rfl, bel⟩
  clear pKx0 pKx1 zKx pKy0 pKy1 zKy pKz0 pKz1 zKz C1
  have Kx := Lib.hid ((Kx.out).after bel)
  have Ky := Lib.hid ((Ky.out).after bel)
  have Kz := Lib.hid ((Kz.out).after bel)
  have HB1 := Lib.hid (HB0.out.trans (bel.mono (HB0.out.size)))
  clear bel HB0
  obtain ⟨pKx0, pKx1, -, -, zKx⟩ := Kx.out.two
  obtain ⟨pKy0, pKy1, -, -, zKy⟩ := Ky.out.two
  obtain ⟨pKz0, pKz1, -, -, zKz⟩ := Kz.out.two
  go_wp2_with fail
  refine (C2.out _).mono ?_
  rintro e w2 ⟨rfl, bel⟩
  clear pKx0 pKx1 zKx pKy0 pKy1 zKy pKz0 pKz1 zKz C2
  have Kx := Lib.hid ((Kx.out.alloc _).after bel)
  have Ky := Lib.hid ((Ky.out.alloc _).after bel)
  have Kz := Lib.hid ((Kz.out.alloc _).after bel)
  have K2 := Lib.hid ((Blk.new w1 58 #[.int .u64 (s0 : Nat), .int .u64 (s1 : Nat)]).after bel)
  have HB2 := Lib.hid ((HB1.out.alloc (HB1.out.size) _).trans (bel.mono ((HB1.out.alloc (HB1.out.size) _).size)))
  clear bel HB1
  obtain ⟨pKx0, pKx1, -, -, zKx⟩ := Kx.out.two
  obtain ⟨pKy0, pKy1, -, -, zKy⟩ := Ky.out.two
  obtain ⟨pKz0, pKz1, -, -, zKz⟩ := Kz.out.two
  obtain ⟨pK20, pK21, -, -, zK2⟩ := K2.out.two
  go_wp2_with fail
  refine (C3.out _).mono ?_
  rintro e w3 ⟨rfl, bel⟩
  clear pKx0 pKx1 zKx pKy0 pKy1 zKy pKz0 pKz1 zKz pK20 pK21 zK2 C3
  have Kx := Lib.hid ((Kx.out.alloc _).after bel)
  have Ky := Lib.hid ((Ky.out.alloc _).after bel)
  have Kz := Lib.hid ((Kz.out.alloc _).after bel)
  have K2 := Lib.hid ((K2.out.alloc _).after bel)
  have K3 := Lib.hid ((Blk.new w2 58 #[.int .u64 (s0 : Nat), .int .u64 (s1 : Nat)]).after bel)
  have HB3 := Lib.hid ((HB2.out.alloc (HB2.out.size) _).trans (bel.mono ((HB2.out.alloc (HB2.out.size) _).size)))
  clear bel HB2
  obtain ⟨pKx0, pKx1, -, -, zKx⟩ := Kx.out.two
  obtain ⟨pKy0, pKy1, -, -, zKy⟩ := Ky.out.two
  obtain ⟨pKz0, pKz1, -, -, zKz⟩ := Kz.out.two
  obtain ⟨pK20, pK21, -, -, zK2⟩ := K2.out.two
  obtain ⟨pK30, pK31, -, -, zK3⟩ := K3.out.two
  go_wp2_with fail
  refine (C4.out _).mono ?_
  rintro e w4 ⟨rfl, bel⟩
  clear pKx0 pKx1 zKx pKy0 pKy1 zKy pKz0 pKz1 zKz pK20 pK21 zK2 pK30 pK31 zK3 C4
  have Kx := Lib.hid ((Kx.out.alloc _).after bel)
  have Ky := Lib.hid ((Ky.out.alloc _).after bel)
  have Kz := Lib.hid ((Kz.out.alloc _).after bel)
  have K2 := Lib.hid ((K2.out.alloc _).after bel)
  have K3 := Lib.hid ((K3.out.alloc _).after bel)
  have K4 := Lib.hid ((Blk.new w3 58 #[.int .u64 (a0 : Nat), .int .u64 (a1 : Nat)]).after bel)
  have HB4 := Lib.hid ((HB3.out.alloc (HB3.out.size) _).trans (bel.mono ((HB3.out.alloc (HB3.out.size) _).size)))
  clear bel HB3
  obtain ⟨pKx0, pKx1, -, -, zKx⟩ := Kx.out.two
  obtain ⟨pKy0, pKy1, -, -, zKy⟩ := Ky.out.two
  obtain ⟨pKz0, pKz1, -, -, zKz⟩ := Kz.out.two
  obtain ⟨pK20, pK21, -, -, zK2⟩ := K2.out.two
  obtain ⟨pK30, pK31, -, -, zK3⟩ := K3.out.two
  obtain ⟨pK40, pK41, -, -, zK4⟩ := K4.out.two
  go_wp2_with fail
  refine (C5.out _).mono ?_
  rintro e w5 ⟨rfl, bel⟩
  clear pKx0 pKx1 zKx pKy0 pKy1 zKy pKz0 pKz1 zKz pK20 pK21 zK2 pK30 pK31 zK3 pK40 pK41 zK4 C5
  have Kx := Lib.hid ((Kx.out.alloc _).after bel)
  have Ky := Lib.hid ((Ky.out.alloc _).after bel)
  have Kz := Lib.hid ((Kz.out.alloc _).after bel)
  have K2 := Lib.hid ((K2.out.alloc _).after bel)
  have K3 := Lib.hid ((K3.out.alloc _).after bel)
  have K4 := Lib.hid ((K4.out.alloc _).after bel)
  have K5 := Lib.hid ((Blk.new w4 58 #[.int .u64 (b0 : Nat), .int .u64 (b1 : Nat)]).after bel)
  have HB5 := Lib.hid ((HB4.out.alloc (HB4.out.size) _).trans (bel.mono ((HB4.out.alloc (HB4.out.size) _).size)))
  clear bel HB4
  obtain ⟨pKx0, pKx1, -, -, zKx⟩ := Kx.out.two
  obtain ⟨pKy0, pKy1, -, -, zKy⟩ := Ky.out.two
  obtain ⟨pKz0, pKz1, -, -, zKz⟩ := Kz.out.two
  obtain ⟨pK20, pK21, -, -, zK2⟩ := K2.out.two
  obtain ⟨pK30, pK31, -, -, zK3⟩ := K3.out.two
  obtain ⟨pK40, pK41, -, -, zK4⟩ := K4.out.two
  obtain ⟨pK50, pK51, -, -, zK5⟩ := K5.out.two
  go_wp2_with fail
  refine (C6.out _).mono ?_
  rintro e w6 ⟨rfl, bel⟩
  clear pKx0 pKx1 zKx pKy0 pKy1 zKy pKz0 pKz1 zKz pK20 pK21 zK2 pK30 pK31 zK3 pK40 pK41 zK4 pK50 pK51 zK5 C6
  have Kx := Lib.hid ((Kx.out.alloc _).after bel)
  have Ky := Lib.hid ((Ky.out.alloc _).after bel)
  have Kz := Lib.hid ((Kz.out.alloc _).after bel)
  have K2 := Lib.hid ((K2.out.alloc _).after bel)
  have K3 := Lib.hid ((K3.out.alloc _).after bel)
  have K4 := Lib.hid ((K4.out.alloc _).after bel)
  have K5 := Lib.hid ((K5.out.alloc _).after bel)
  have K6 := Lib.hid ((Blk.new w5 58 #[.int .u64 (a0 : Nat), .int .u64 (a1 : Nat)]).after bel)
  have HB6 := Lib.hid ((HB5.out.alloc (HB5.out.size) _).trans (bel.mono ((HB5.out.alloc (HB5.out.size) _).size)))
  clear bel HB5
  obtain ⟨pKx0, pKx1, -, -, zKx⟩ := Kx.out.two
  obtain ⟨pKy0, pKy1, -, -, zKy⟩ := Ky.out.two
  obtain ⟨pKz0, pKz1, -, -, zKz⟩ := Kz.out.two
  obtain ⟨pK20, pK21, -, -, zK2⟩ := K2.out.two
  obtain ⟨pK30, pK31, -, -, zK3⟩ := K3.out.two
  obtain ⟨pK40, pK41, -, -, zK4⟩ := K4.out.two
  obtain ⟨pK50, pK51, -, -, zK5⟩ := K5.out.two
  obtain ⟨pK60, pK61, -, -, zK6⟩ := K6.out.two
  go_wp2_with fail
  refine (C7.out _).mono ?_
  rintro e w7 ⟨rfl, bel⟩
  clear pKx0 pKx1 zKx pKy0 pKy1 zKy pKz0 pKz1 zKz pK20 pK21 zK2 pK30 pK31 zK3 pK40 pK41 zK4 pK50 pK51 zK5 pK60 pK61 zK6 C7
  have Kx := Lib.hid ((Kx.out.alloc _).after bel)
  have Ky := Lib.hid ((Ky.out.alloc _).after bel)
  have Kz := Lib.hid ((Kz.out.alloc _).after bel)
  have K2 := Lib.hid ((K2.out.alloc _).after bel)
  have K3 := Lib.hid ((K3.out.alloc _).after bel)
  have K4 := Lib.hid ((K4.out.alloc _).after bel)
  have K5 := Lib.hid ((K5.out.alloc _).after bel)
  have K6 := Lib.hid ((K6.out.alloc _).after bel)
  have K7 := Lib.hid ((Blk.new w6 58 #[.int .u64 (m0 : Nat), .int .u64 (m1 : Nat)]).after bel)
  have HB7 := Lib.hid ((HB6.out.alloc (HB6.out.size) _).trans (bel.mono ((HB6.out.alloc (HB6.out.size) _).size)))
  clear bel HB6
  obtain ⟨pKx0, pKx1, -, -, zKx⟩ := Kx.out.two
  obtain ⟨pKy0, pKy1, -, -, zKy⟩ := Ky.out.two
  obtain ⟨pKz0, pKz1, -, -, zKz⟩ := Kz.out.two
  obtain ⟨pK20, pK21, -, -, zK2⟩ := K2.out.two
  obtain ⟨pK30, pK31, -, -, zK3⟩ := K3.out.two
  obtain ⟨pK40, pK41, -, -, zK4⟩ := K4.out.two
  obtain ⟨pK50, pK51, -, -, zK5⟩ := K5.out.two
  obtain ⟨pK60, pK61, -, -, zK6⟩ := K6.out.two
  obtain ⟨pK70, pK71, -, -, zK7⟩ := K7.out.two
  go_wp2_with fail
  refine (C8.out _).mono ?_
  rintro e w8 ⟨rfl, bel⟩
  clear pKx0 pKx1 zKx pKy0 pKy1 zKy pKz0 pKz1 zKz pK20 pK21 zK2 pK30 pK31 zK3 pK40 pK41 zK4 pK50 pK51 zK5 pK60 pK61 zK6 pK70 pK71 zK7 C8
  have Kx := Lib.hid ((Kx.out.alloc _).after bel)
  have Ky := Lib.hid ((Ky.out.alloc _).after bel)
  have Kz := Lib.hid ((Kz.out.alloc _).after bel)
  have K2 := Lib.hid ((K2.out.alloc _).after bel)
  have K3 := Lib.hid ((K3.out.alloc _).after bel)
  have K4 := Lib.hid ((K4.out.alloc _).after bel)
  have K5 := Lib.hid ((K5.out.alloc _).after bel)
  have K6 := Lib.hid ((K6.out.alloc _).after bel)
  have K7 := Lib.hid ((K7.out.alloc _).after bel)
  have K8 := Lib.hid ((Blk.new w7 58 #[.int .u64 (u0 : Nat), .int .u64 (u1 : Nat)]).after bel)
  have HB8 := Lib.hid ((HB7.out.alloc (HB7.out.size) _).trans (bel.mono ((HB7.out.alloc (HB7.out.size) _).size)))
  clear bel HB7
  obtain ⟨pKx0, pKx1, -, -, zKx⟩ := Kx.out.two
  obtain ⟨pKy0, pKy1, -, -, zKy⟩ := Ky.out.two
  obtain ⟨pKz0, pKz1, -, -, zKz⟩ := Kz.out.two
  obtain ⟨pK20, pK21, -, -, zK2⟩ := K2.out.two
  obtain ⟨pK30, pK31, -, -, zK3⟩ := K3.out.two
  obtain ⟨pK40, pK41, -, -, zK4⟩ := K4.out.two
  obtain ⟨pK50, pK51, -, -, zK5⟩ := K5.out.two
  obtain ⟨pK60, pK61, -, -, zK6⟩ := K6.out.two
  obtain ⟨pK70, pK71, -, -, zK7⟩ := K7.out.two
  obtain ⟨pK80, pK81, -, -, zK8⟩ := K8.out.two
  go_wp2_with fail
  refine (C9.out _).mono ?_
  rintro e w9 ⟨rfl, bel⟩
  clear pKx0 pKx1 zKx pKy0 pKy1 zKy pKz0 pKz1 zKz pK20 pK21 zK2 pK30 pK31 zK3 pK40 pK41 zK4 pK50 pK51 zK5 pK60 pK61 zK6 pK70 pK71 zK7 pK80 pK81 zK8 C9
  have Kx := Lib.hid ((Kx.out.alloc _).after bel)
  have Ky := Lib.hid ((Ky.out.alloc _).after bel)
  have Kz := Lib.hid ((Kz.out.alloc _).after bel)
  have K2 := Lib.hid ((K2.out.alloc _).after bel)
  have K3 := Lib.hid ((K3.out.alloc _).after bel)
  have K4 := Lib.hid ((K4.out.alloc _).after bel)
  have K5 := Lib.hid ((K5.out.alloc _).after bel)
  have K6 := Lib.hid ((K6.out.alloc _).after bel)
  have K7 := Lib.hid ((K7.out.alloc _).after bel)
  have K8 := Lib.hid ((K8.out.alloc _).after bel)
  have K9 := Lib.hid ((Blk.new w8 58 #[.int .u64 (v0 : Nat), .int .u64 (v1 : Nat)]).after bel)
  have HB9 := Lib.hid ((HB8.out.alloc (HB8.out.size) _).trans (bel.mono ((HB8.out.alloc (HB8.out.size) _).size)))
  clear bel HB8
  obtain ⟨pKx0, pKx1, -, -, zKx⟩ := Kx.out.two
  obtain ⟨pKy0, pKy1, -, -, zKy⟩ := Ky.out.two
  obtain ⟨pKz0, pKz1, -, -, zKz⟩ := Kz.out.two
  obtain ⟨pK20, pK21, -, -, zK2⟩ := K2.out.two
  obtain ⟨pK30, pK31, -, -, zK3⟩ := K3.out.two
  obtain ⟨pK40, pK41, -, -, zK4⟩ := K4.out.two
  obtain ⟨pK50, pK51, -, -, zK5⟩ := K5.out.two
  obtain ⟨pK60, pK61, -, -, zK6⟩ := K6.out.two
  obtain ⟨pK70, pK71, -, -, zK7⟩ := K7.out.two
  obtain ⟨pK80, pK81, -, -, zK8⟩ := K8.out.two
  obtain ⟨pK90, pK91, -, -, zK9⟩ := K9.out.two
  go_wp2_with fail
  refine (C10.out _).mono ?_
  rintro e w10 ⟨rfl, bel⟩
  clear pKx0 pKx1 zKx pKy0 pKy1 zKy pKz0 pKz1 zKz pK20 pK21 zK2 pK30 pK31 zK3 pK40 pK41 zK4 pK50 pK51 zK5 pK60 pK61 zK6 pK70 pK71 zK7 pK80 pK81 zK8 pK90 pK91 zK9 C10
  have Kx := Lib.hid ((Kx.out.alloc _).after bel)
  have Ky := Lib.hid ((Ky.out.alloc _).after bel)
  have Kz := Lib.hid ((Kz.out.alloc _).after bel)
  have K2 := Lib.hid ((K2.out.alloc _).after bel)
  have K3 := Lib.hid ((K3.out.alloc _).after bel)
  have K4 := Lib.hid ((K4.out.alloc _).after bel)
  have K5 := Lib.hid ((K5.out.alloc _).after bel)
  have K6 := Lib.hid ((K6.out.alloc _).after bel)
  have K7 := Lib.hid ((K7.out.alloc _).after bel)
  have K8 := Lib.hid ((K8.out.alloc _).after bel)
  have K9 := Lib.hid ((K9.out.alloc _).after bel)
  have K10 := Lib.hid ((Blk.new w9 58 #[.int .u64 (m0 : Nat), .int .u64 (m1 : Nat)]).after bel)
  have HB10 := Lib.hid ((HB9.out.alloc (HB9.out.size) _).trans (bel.mono ((HB9.out.alloc (HB9.out.size) _).size)))
  clear bel HB9
  obtain ⟨pKx0, pKx1, -, -, zKx⟩ := Kx.out.two
  obtain ⟨pKy0, pKy1, -, -, zKy⟩ := Ky.out.two
  obtain ⟨pKz0, pKz1, -, -, zKz⟩ := Kz.out.two
  obtain ⟨pK20, pK21, -, -, zK2⟩ := K2.out.two
  obtain ⟨pK30, pK31, -, -, zK3⟩ := K3.out.two
  obtain ⟨pK40, pK41, -, -, zK4⟩ := K4.out.two
  obtain ⟨pK50, pK51, -, -, zK5⟩ := K5.out.two
  obtain ⟨pK60, pK61, -, -, zK6⟩ := K6.out.two
  obtain ⟨pK70, pK71, -, -, zK7⟩ := K7.out.two
  obtain ⟨pK80, pK81, -, -, zK8⟩ := K8.out.two
  obtain ⟨pK90, pK91, -, -, zK9⟩ := K9.out.two
  obtain ⟨pK100, pK101, -, -, zK10⟩ := K10.out.two
  go_wp2
  go_ret
  exact ⟨rfl, HB10.out.alloc HB10.out.size _⟩
end Go.Proofs.Ytcpmlcdeddmdmaa.vg
