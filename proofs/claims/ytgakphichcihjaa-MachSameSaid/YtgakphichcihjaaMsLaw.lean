/- MachSame: the walk of the law. -/
import Derived.Test.YtgakphichcihjaaMsF
import Derived.Test.YtgakphichcihjaaAw10
import Derived.Test.YtgakphichcihjaaKo
import Derived.Deep.RegionHeld3
import Derived.BigQuiet
import Derived.Deep.QuietTactic
namespace Go.Proofs.Ytgakphichcihjaa.pm
open Go.RowKit
set_option linter.unusedVariables false
set_option maxRecDepth 10000

set_option maxHeartbeats 8000000 in
theorem ms_law (a1 : Int) (A1 : Option Addr) (p : List Fr) (c1 : Nat) (a2 : Int) (A2 : Option Addr) (q : List Fr) (c2 : Nat) (A : Option Addr) (n c : Nat) (l : List Nat) (w : World) (f1 : Gx w 0 w.heap.size A1 p) (m1 : p.length ≤ maxLen) (f2 : Gx w 0 w.heap.size A2 q) (m2 : q.length ≤ maxLen) (hb : Bs w w.heap.size A n l) (hn : n ≤ maxLen) (hc : n ≤ c) :
    Calls Try.prog 3 #[.agg #[.int .i64 a1, .slice A1 p.length c1], .agg #[.int .i64 a2, .slice A2 q.length c2], .slice A n c] w fun e w' => e = .returned (.bool true) ∧ Below w.heap.size w w' := by
  obtain ⟨W1, hW1⟩ : ∃ W1, W1 = (w.alloc (.cells #[.int .i64 a1, .slice A1 p.length c1] 24)).alloc (.cells #[.int .i64 a2, .slice A2 q.length c2] 24) := ⟨_, rfl⟩
  have HK3 : Hid (Blk W1 w.heap.size 24 #[.int .i64 a1, .slice A1 p.length c1]) := Lib.hid (by rw [hW1]; exact (Blk.new _ _ _).alloc _)
  have HK4 : Hid (Blk W1 (w.heap.size + 1) 24 #[.int .i64 a2, .slice A2 q.length c2]) := Lib.hid (by rw [hW1]; exact Blk.newAt (by simp))
  have hB1 : Below w.heap.size w W1 := by rw [hW1]; exact ((Below.refl _ _).alloc (Nat.le_refl _) _).alloc (by simp) _
  have HF1 := Lib.hid (f1.keep (Kp.of_below hB1 (Nat.le_refl _)))
  have HF2 := Lib.hid (f2.keep (Kp.of_below hB1 (Nat.le_refl _)))
  have HBs := Lib.hid ((hb.below hB1).more hB1.size)
  have HB1 := Lib.hid hB1
  have HW1 := Lib.hid hW1
  have HM1 := Lib.hid m1
  have HM2 := Lib.hid m2
  have HFP : Hid (∀ W, Below W1.heap.size W1 W → Calls Try.prog 11 #[.agg #[.int .i64 a1, .slice A1 p.length c1]] W fun e w' => e = .returned (.bool (fineT p)) ∧ Below W1.heap.size W1 w') := Lib.hid (fun W h => (finet_any a1 A1 p c1 W _ _ (HF1.out.keep (Kp.of_below h HB1.out.size)) (Nat.le_trans HB1.out.size h.size) HM1.out).mono fun e w' ⟨a, b⟩ => ⟨a, h.trans (b.mono h.size)⟩)
  have HFQ : Hid (∀ W, Below W1.heap.size W1 W → Calls Try.prog 11 #[.agg #[.int .i64 a2, .slice A2 q.length c2]] W fun e w' => e = .returned (.bool (fineT q)) ∧ Below W1.heap.size W1 w') := Lib.hid (fun W h => (finet_any a2 A2 q c2 W _ _ (HF2.out.keep (Kp.of_below h HB1.out.size)) (Nat.le_trans HB1.out.size h.size) HM2.out).mono fun e w' ⟨a, b⟩ => ⟨a, h.trans (b.mono h.size)⟩)
  clear f1 f2 hb hB1 hW1 m1 m2
  obtain ⟨x0, x1, -, -, xz⟩ := HK3.out.c2
  obtain ⟨y0, y1, -, -, yz⟩ := HK4.out.c2
  have hs1 : w.heap.size ≤ W1.heap.size := by omega
  rcases hfp : fineT p with _ | _
  · rw [hfp] at HFP
    clear hfp
    go_enter Try.func3, Try.ntmps3
    go_upto_region 1 with (fail)
    rw [← HW1.out]
    go_wp2_with fail
    refine (awake10 _).mono ?_
    rintro e w1 ⟨rfl, bel0⟩
    have HB0 := Lib.hid bel0
    clear bel0 x0 x1 xz y0 y1 yz
    obtain ⟨x0, x1, -, -, xz⟩ := (HK3.out.after HB0.out).c2
    obtain ⟨y0, y1, -, -, yz⟩ := (HK4.out.after HB0.out).c2
    go_wp2_with fail
    refine (HFP.out _ HB0.out).mono ?_
    rintro e wp1 ⟨rfl, belp1⟩
    have HBp1 := Lib.hid belp1
    clear belp1 x0 x1 xz y0 y1 yz
    obtain ⟨x0, x1, -, -, xz⟩ := (HK3.out.after HBp1.out).c2
    obtain ⟨y0, y1, -, -, yz⟩ := (HK4.out.after HBp1.out).c2
    go_wp2_with fail
    refine (HFP.out _ HBp1.out).mono ?_
    rintro e wp2 ⟨rfl, belp2⟩
    have HBp2 := Lib.hid belp2
    clear belp2 x0 x1 xz y0 y1 yz
    obtain ⟨x0, x1, -, -, xz⟩ := (HK3.out.after HBp2.out).c2
    obtain ⟨y0, y1, -, -, yz⟩ := (HK4.out.after HBp2.out).c2
    go_wp2
    go_ret
    exact ⟨ret_bool (by simp), HB1.out.trans (HBp2.out.mono HB1.out.size)⟩
  · rw [hfp] at HFP
    clear hfp
    rcases hfq : fineT q with _ | _
    · rw [hfq] at HFQ
      clear hfq
      go_enter Try.func3, Try.ntmps3
      go_upto_region 1 with (fail)
      rw [← HW1.out]
      go_wp2_with fail
      refine (awake10 _).mono ?_
      rintro e w1 ⟨rfl, bel0⟩
      have HB0 := Lib.hid bel0
      clear bel0 x0 x1 xz y0 y1 yz
      obtain ⟨x0, x1, -, -, xz⟩ := (HK3.out.after HB0.out).c2
      obtain ⟨y0, y1, -, -, yz⟩ := (HK4.out.after HB0.out).c2
      go_wp2_with fail
      refine (HFP.out _ HB0.out).mono ?_
      rintro e wp1 ⟨rfl, belp1⟩
      have HBp1 := Lib.hid belp1
      clear belp1 x0 x1 xz y0 y1 yz
      obtain ⟨x0, x1, -, -, xz⟩ := (HK3.out.after HBp1.out).c2
      obtain ⟨y0, y1, -, -, yz⟩ := (HK4.out.after HBp1.out).c2
      go_wp2_with fail
      refine (HFQ.out _ HBp1.out).mono ?_
      rintro e wq1 ⟨rfl, belq1⟩
      have HBq1 := Lib.hid belq1
      clear belq1 x0 x1 xz y0 y1 yz
      obtain ⟨x0, x1, -, -, xz⟩ := (HK3.out.after HBq1.out).c2
      obtain ⟨y0, y1, -, -, yz⟩ := (HK4.out.after HBq1.out).c2
      go_wp2_with fail
      refine (HFP.out _ HBq1.out).mono ?_
      rintro e wp3 ⟨rfl, belp3⟩
      have HBp3 := Lib.hid belp3
      clear belp3 x0 x1 xz y0 y1 yz
      obtain ⟨x0, x1, -, -, xz⟩ := (HK3.out.after HBp3.out).c2
      obtain ⟨y0, y1, -, -, yz⟩ := (HK4.out.after HBp3.out).c2
      go_wp2_with fail
      refine (HFQ.out _ HBp3.out).mono ?_
      rintro e wq2 ⟨rfl, belq2⟩
      have HBq2 := Lib.hid belq2
      clear belq2 x0 x1 xz y0 y1 yz
      obtain ⟨x0, x1, -, -, xz⟩ := (HK3.out.after HBq2.out).c2
      obtain ⟨y0, y1, -, -, yz⟩ := (HK4.out.after HBq2.out).c2
      go_wp2
      go_ret
      exact ⟨ret_bool (by simp), HB1.out.trans (HBq2.out.mono HB1.out.size)⟩
    · rw [hfq] at HFQ
      clear hfq
      go_enter Try.func3, Try.ntmps3
      go_upto_region 1 with (fail)
      rw [← HW1.out]
      go_wp2_with fail
      refine (awake10 _).mono ?_
      rintro e w1 ⟨rfl, bel0⟩
      have HB0 := Lib.hid bel0
      clear bel0 x0 x1 xz y0 y1 yz
      obtain ⟨x0, x1, -, -, xz⟩ := (HK3.out.after HB0.out).c2
      obtain ⟨y0, y1, -, -, yz⟩ := (HK4.out.after HB0.out).c2
      go_wp2_with fail
      refine (HFP.out _ HB0.out).mono ?_
      rintro e wp1 ⟨rfl, belp1⟩
      have HBp1 := Lib.hid belp1
      clear belp1 x0 x1 xz y0 y1 yz
      obtain ⟨x0, x1, -, -, xz⟩ := (HK3.out.after HBp1.out).c2
      obtain ⟨y0, y1, -, -, yz⟩ := (HK4.out.after HBp1.out).c2
      go_wp2_with fail
      refine (HFQ.out _ HBp1.out).mono ?_
      rintro e wq1 ⟨rfl, belq1⟩
      have HBq1 := Lib.hid belq1
      clear belq1 x0 x1 xz y0 y1 yz
      obtain ⟨x0, x1, -, -, xz⟩ := (HK3.out.after HBq1.out).c2
      obtain ⟨y0, y1, -, -, yz⟩ := (HK4.out.after HBq1.out).c2
      clear HFP HFQ
      -- the drawn targets
      obtain ⟨cb, hcb⟩ : ∃ cb, cb = wq1.heap.size := ⟨_, rfl⟩
      have hzq : W1.heap.size ≤ wq1.heap.size := HBq1.out.size
      go_wp2_with fail
      refine (newcodes_any A n c l 250 _ hn hc (by omega)).mono ?_
      rintro e w2 ⟨rfl, hw2⟩
      have HC2 : Hid (CodesAt w2 cb cb A (min n 250) c (l.take (min n 250)) 0) := Lib.hid (by rw [hw2, hcb]; exact codes_new ((HBs.out.below HBq1.out).more hzq) 250 (by omega))
      have HBx2 : Hid (Below wq1.heap.size wq1 w2) := Lib.hid (by rw [hw2]; exact (Below.refl _ _).alloc (Nat.le_refl _) _)
      have HB2 : Hid (Below W1.heap.size W1 w2) := Lib.hid (HBq1.out.trans (HBx2.out.mono hzq))
      have hcl2 : cb < w2.heap.size := HC2.out.1.lt
      have hcb0 : W1.heap.size ≤ cb := by omega
      rw [← hcb]
      clear hw2 hcb x0 x1 xz y0 y1 yz HBx2 HBs
      go_wp2_with fail
      refine (target_d _ _ _ _ _ _ _ 3 8 _ HC2.out (by omega) (by omega) (by omega)).mono ?_
      rintro e w3 ⟨ax, x, Ax, cx, p3, rfl, htp, hgx, hxc, k3, g3⟩
      have HC3 := Lib.hid k3
      have HTP := Lib.hid htp
      have HX3 := Lib.hid hgx
      have hx3 : x.length ≤ 3 := htp.2.2.1
      have hs3 : w2.heap.size ≤ w3.heap.size := g3.size
      have HB3 : Hid (Below W1.heap.size W1 w3) := Lib.hid (HB2.out.trans (below_of_grown g3 hcb0 HB2.out.size))
      clear k3 g3 htp hgx HC2 HB2
      go_upto_region 5 with (fail)
      obtain ⟨w4, hw4⟩ : ∃ w4, w4 = w3.alloc (.cells #[.int .i64 ax, .slice Ax x.length cx] 24) := ⟨_, rfl⟩
      rw [← hw4]
      have HK8 : Hid (Blk w4 w3.heap.size 24 #[.int .i64 ax, .slice Ax x.length cx]) := Lib.hid (by rw [hw4]; exact Blk.new _ _ _)
      have HB34 : Hid (Below w3.heap.size w3 w4) := Lib.hid (by rw [hw4]; exact (Below.refl _ _).alloc (Nat.le_refl _) _)
      have HC4 : Hid (CodesAt w4 cb cb A (min n 250) c (l.take (min n 250)) p3) := Lib.hid (by rw [hw4]; exact HC3.out.alloc _)
      obtain ⟨g8, hg8⟩ : ∃ g, g = w3.heap.size := ⟨_, rfl⟩
      rw [← hg8] at HK8 ⊢
      have hg8a : w3.heap.size ≤ g8 := by omega
      have hg8b : g8 ≤ w3.heap.size := by omega
      clear hg8
      have HX4 : Hid (GT w4 w2.heap.size w3.heap.size Ax x) := Lib.hid (HX3.out.keep (Kp.of_below HB34.out (Nat.le_refl _)))
      have HB4 : Hid (Below W1.heap.size W1 w4) := Lib.hid (HB3.out.trans (HB34.out.mono HB3.out.size))
      have hs4 : g8 < w4.heap.size := HK8.out.lt
      clear hw4
      obtain ⟨z0, z1, -, -, zz⟩ := HK8.out.c2
      go_wp2_with fail
      refine (oddtarget_d _ _ _ _ _ _ _ _ ax x Ax cx _ _ _ HC4.out HTP.out (by omega) HX4.out (by omega) (by omega) (by omega)).mono ?_
      rintro e w5 ⟨ay, y, Ay, cy, p5, rfl, hts, hyl, hgy, hyc, k5, g5⟩
      have HYL := Lib.hid hyl
      have hy3 : y.length ≤ 3 := by omega
      clear hyl
      have HY5 := Lib.hid hgy
      have HX5 : Hid (Gx w5 w2.heap.size w3.heap.size Ax x) := Lib.hid (HX4.out.gx.keep (Kp.of_grown g5 (by omega) (.inl (by omega))))
      have HK85 := Lib.hid (HK8.out.grown g5 (some_ne (by omega)))
      have HB5 : Hid (Below W1.heap.size W1 w5) := Lib.hid (HB4.out.trans (below_of_grown g5 hcb0 HB4.out.size))
      have hs5 : w4.heap.size ≤ w5.heap.size := g5.size
      clear k5 g5 hts hgy HC3 HC4 HX3 HX4 HB3 HB4 HB34 HK8 z0 z1 zz HTP
      go_upto_region 6 with (fail)
      obtain ⟨w6, hw6⟩ : ∃ w6, w6 = w5.alloc (.cells #[.int .i64 ay, .slice Ay y.length cy] 24) := ⟨_, rfl⟩
      rw [← hw6]
      have HK9 : Hid (Blk w6 w5.heap.size 24 #[.int .i64 ay, .slice Ay y.length cy]) := Lib.hid (by rw [hw6]; exact Blk.new _ _ _)
      have HB56 : Hid (Below w5.heap.size w5 w6) := Lib.hid (by rw [hw6]; exact (Below.refl _ _).alloc (Nat.le_refl _) _)
      obtain ⟨g9, hg9⟩ : ∃ g, g = w5.heap.size := ⟨_, rfl⟩
      have hg9' : w4.heap.size ≤ g9 := by omega
      rw [← hg9] at HK9 ⊢
      have HK86 := Lib.hid (HK85.out.after HB56.out)
      have HX6 : Hid (Gx w6 0 w6.heap.size Ax x) := Lib.hid ((HX5.out.keep (Kp.of_below HB56.out (by omega))).more (Nat.zero_le _) (by have := HB56.out.size; omega))
      have HY6 : Hid (Gx w6 0 w6.heap.size Ay y) := Lib.hid ((HY5.out.keep (Kp.of_below HB56.out (Nat.le_refl _))).more (Nat.zero_le _) HB56.out.size)
      have HB6 : Hid (Below W1.heap.size W1 w6) := Lib.hid (HB5.out.trans (HB56.out.mono HB5.out.size))
      have HP6 : Hid (Gx w6 0 w6.heap.size A1 p) := Lib.hid ((HF1.out.keep (Kp.of_below HB6.out HB1.out.size)).more (Nat.le_refl _) (Nat.le_trans HB1.out.size HB6.out.size))
      have HQ6 : Hid (Gx w6 0 w6.heap.size A2 q) := Lib.hid ((HF2.out.keep (Kp.of_below HB6.out HB1.out.size)).more (Nat.le_refl _) (Nat.le_trans HB1.out.size HB6.out.size))
      have hs6 : g9 < w6.heap.size := HK9.out.lt
      have hg9a : w5.heap.size ≤ g9 := by omega
      have HBW6 : Hid (Below w.heap.size w w6) := Lib.hid (HB1.out.trans (HB6.out.mono HB1.out.size))
      have HK36 := Lib.hid (HK3.out.after HB6.out)
      have HK46 := Lib.hid (HK4.out.after HB6.out)
      have hmx : x.length ≤ maxLen := by unfold maxLen; omega
      have hmy : y.length ≤ maxLen := by unfold maxLen; omega
      clear hw6 hg9 HB56 HX5 HY5 HK85 HB5 HF1 HF2 HB6 HK3 HK4
      obtain ⟨s1, hs1e⟩ : ∃ s, s = sameTg a1 a2 p q := ⟨_, rfl⟩
      obtain ⟨s2, hs2e⟩ : ∃ s, s = sameTg ax ay x y := ⟨_, rfl⟩
      have HS1 := Lib.hid hs1e
      have HS2 := Lib.hid hs2e
      clear hs1e hs2e
      have HC1 : Hid (∀ W, Below w6.heap.size w6 W → Calls Try.prog 15 #[.agg #[.int .i64 a1, .slice A1 p.length c1], .agg #[.int .i64 a2, .slice A2 q.length c2]] W fun e w' => e = .returned (.bool (s1)) ∧ Below w6.heap.size w6 w') := Lib.hid (fun W h => (msame_any _ _ _ _ _ _ _ _ W _ _ _ _ (Nat.le_trans (Nat.le_refl _) h.size) (Nat.le_trans (Nat.le_refl _) h.size) (HP6.out.keep (Kp.of_below h (Nat.le_refl _))) (HQ6.out.keep (Kp.of_below h (Nat.le_refl _))) HM1.out HM2.out).mono fun e w' ⟨a, b⟩ => ⟨by rw [HS1.out]; exact a, h.trans (b.mono h.size)⟩)
      have HC2 : Hid (∀ W, Below w6.heap.size w6 W → Calls Try.prog 16 #[.agg #[.int .i64 a1, .slice A1 p.length c1], .agg #[.int .i64 a2, .slice A2 q.length c2]] W fun e w' => e = .returned (.bool (s1)) ∧ Below w6.heap.size w6 w') := Lib.hid (fun W h => (refmsame_any _ _ _ _ _ _ _ _ W _ _ _ _ (Nat.le_trans (Nat.le_refl _) h.size) (Nat.le_trans (Nat.le_refl _) h.size) (HP6.out.keep (Kp.of_below h (Nat.le_refl _))) (HQ6.out.keep (Kp.of_below h (Nat.le_refl _))) HM1.out HM2.out).mono fun e w' ⟨a, b⟩ => ⟨by rw [HS1.out]; exact a, h.trans (b.mono h.size)⟩)
      have HC3 : Hid (∀ W, Below w6.heap.size w6 W → Calls Try.prog 15 #[.agg #[.int .i64 ax, .slice Ax x.length cx], .agg #[.int .i64 ay, .slice Ay y.length cy]] W fun e w' => e = .returned (.bool (s2)) ∧ Below w6.heap.size w6 w') := Lib.hid (fun W h => (msame_any _ _ _ _ _ _ _ _ W _ _ _ _ (Nat.le_trans (Nat.le_refl _) h.size) (Nat.le_trans (Nat.le_refl _) h.size) (HX6.out.keep (Kp.of_below h (Nat.le_refl _))) (HY6.out.keep (Kp.of_below h (Nat.le_refl _))) hmx hmy).mono fun e w' ⟨a, b⟩ => ⟨by rw [HS2.out]; exact a, h.trans (b.mono h.size)⟩)
      have HC4 : Hid (∀ W, Below w6.heap.size w6 W → Calls Try.prog 16 #[.agg #[.int .i64 ax, .slice Ax x.length cx], .agg #[.int .i64 ay, .slice Ay y.length cy]] W fun e w' => e = .returned (.bool (s2)) ∧ Below w6.heap.size w6 w') := Lib.hid (fun W h => (refmsame_any _ _ _ _ _ _ _ _ W _ _ _ _ (Nat.le_trans (Nat.le_refl _) h.size) (Nat.le_trans (Nat.le_refl _) h.size) (HX6.out.keep (Kp.of_below h (Nat.le_refl _))) (HY6.out.keep (Kp.of_below h (Nat.le_refl _))) hmx hmy).mono fun e w' ⟨a, b⟩ => ⟨by rw [HS2.out]; exact a, h.trans (b.mono h.size)⟩)
      have HC5 : Hid (∀ W, Below w6.heap.size w6 W → Calls Try.prog 15 #[.agg #[.int .i64 a1, .slice A1 p.length c1], .agg #[.int .i64 a1, .slice A1 p.length c1]] W fun e w' => e = .returned (.bool (true)) ∧ Below w6.heap.size w6 w') := Lib.hid (fun W h => (msame_any _ _ _ _ _ _ _ _ W _ _ _ _ (Nat.le_trans (Nat.le_refl _) h.size) (Nat.le_trans (Nat.le_refl _) h.size) (HP6.out.keep (Kp.of_below h (Nat.le_refl _))) (HP6.out.keep (Kp.of_below h (Nat.le_refl _))) HM1.out HM1.out).mono fun e w' ⟨a, b⟩ => ⟨by rw [sameTg_refl] at a; exact a, h.trans (b.mono h.size)⟩)
      have HC6 : Hid (∀ W, Below w6.heap.size w6 W → Calls Try.prog 15 #[.agg #[.int .i64 ax, .slice Ax x.length cx], .agg #[.int .i64 ax, .slice Ax x.length cx]] W fun e w' => e = .returned (.bool (true)) ∧ Below w6.heap.size w6 w') := Lib.hid (fun W h => (msame_any _ _ _ _ _ _ _ _ W _ _ _ _ (Nat.le_trans (Nat.le_refl _) h.size) (Nat.le_trans (Nat.le_refl _) h.size) (HX6.out.keep (Kp.of_below h (Nat.le_refl _))) (HX6.out.keep (Kp.of_below h (Nat.le_refl _))) hmx hmx).mono fun e w' ⟨a, b⟩ => ⟨by rw [sameTg_refl] at a; exact a, h.trans (b.mono h.size)⟩)
      have HKS : Hid (∀ W, Below w6.heap.size w6 W → W.cell? ⟨w.heap.size, 0, none⟩ = some (.int .i64 a1) ∧ W.cell? ⟨w.heap.size, 1, none⟩ = some (.slice A1 p.length c1) ∧ W.cell? ⟨w.heap.size + 1, 0, none⟩ = some (.int .i64 a2) ∧ W.cell? ⟨w.heap.size + 1, 1, none⟩ = some (.slice A2 q.length c2) ∧ W.cell? ⟨g8, 0, none⟩ = some (.int .i64 ax) ∧ W.cell? ⟨g8, 1, none⟩ = some (.slice Ax x.length cx) ∧ W.cell? ⟨g9, 0, none⟩ = some (.int .i64 ay) ∧ W.cell? ⟨g9, 1, none⟩ = some (.slice Ay y.length cy) ∧ Below w6.heap.size w6 W) := Lib.hid (fun W h => by
        obtain ⟨e0, e1, -⟩ := (HK36.out.after h).c2
        obtain ⟨e2, e3, -⟩ := (HK46.out.after h).c2
        obtain ⟨e4, e5, -⟩ := (HK86.out.after h).c2
        obtain ⟨e6, e7, -⟩ := (HK9.out.after h).c2
        exact ⟨e0, e1, e2, e3, e4, e5, e6, e7, h⟩)
      clear HK36 HK46 HK86 HK9 HP6 HQ6 HX6 HY6 HYL
      have HD0 : Hid (Below w6.heap.size w6 w6.drew) := Lib.hid ((Below.refl _ _).drew)
      obtain ⟨e0, e1, e2, e3, e4, e5, e6, e7, -⟩ := HKS.out _ HD0.out
      go_region_held3 (fun W => W.cell? ⟨w.heap.size, 0, none⟩ = some (.int .i64 a1) ∧ W.cell? ⟨w.heap.size, 1, none⟩ = some (.slice A1 p.length c1) ∧ W.cell? ⟨w.heap.size + 1, 0, none⟩ = some (.int .i64 a2) ∧ W.cell? ⟨w.heap.size + 1, 1, none⟩ = some (.slice A2 q.length c2) ∧ W.cell? ⟨g8, 0, none⟩ = some (.int .i64 ax) ∧ W.cell? ⟨g8, 1, none⟩ = some (.slice Ax x.length cx) ∧ W.cell? ⟨g9, 0, none⟩ = some (.int .i64 ay) ∧ W.cell? ⟨g9, 1, none⟩ = some (.slice Ay y.length cy) ∧ Below w6.heap.size w6 W)
        (first | exact HKS.out _ HA6.out | exact HKS.out _ HA5.out | exact HKS.out _ HA4.out | exact HKS.out _ HA3.out | exact HKS.out _ HA2.out | exact HKS.out _ HA1.out | exact HKS.out _ HD0.out)
        (first
        | (go_at_call 15; (with_reducible refine (HC1.out _ HD0.out).mono ?_); rintro e v1 ⟨rfl, bv1⟩; have HA1 := Lib.hid bv1; clear bv1)
        | (go_at_call 16; (with_reducible refine (HC2.out _ HA1.out).mono ?_); rintro e v2 ⟨rfl, bv2⟩; have HA2 := Lib.hid bv2; clear bv2)
        | (go_at_call 15; (with_reducible refine (HC3.out _ HA2.out).mono ?_); rintro e v3 ⟨rfl, bv3⟩; have HA3 := Lib.hid bv3; clear bv3)
        | (go_at_call 16; (with_reducible refine (HC4.out _ HA3.out).mono ?_); rintro e v4 ⟨rfl, bv4⟩; have HA4 := Lib.hid bv4; clear bv4)
        | (go_at_call 15; (with_reducible refine (HC5.out _ HA4.out).mono ?_); rintro e v5 ⟨rfl, bv5⟩; have HA5 := Lib.hid bv5; clear bv5)
        | (go_at_call 15; (with_reducible refine (HC6.out _ HA5.out).mono ?_); rintro e v6 ⟨rfl, bv6⟩; have HA6 := Lib.hid bv6; clear bv6))
      clear HC1 HC2 HC3 HC4 HC5 HC6 HA1 HA2 HA3 HA4 HA5 e0 e1 e2 e3 e4 e5 e6 e7 HD0 HKS
      have HBE : Hid (Below w.heap.size w v6) := Lib.hid (HBW6.out.trans (HA6.out.mono HBW6.out.size))
      go_wp2
      go_ret
      exact ⟨rfl, HBE.out⟩
end Go.Proofs.Ytgakphichcihjaa.pm
