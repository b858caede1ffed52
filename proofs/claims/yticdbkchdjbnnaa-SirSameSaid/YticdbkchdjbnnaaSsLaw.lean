/- SirSame: the walk of the law. -/
import Derived.Test.YticdbkchdjbnnaaPd6
import Derived.Test.YticdbkchdjbnnaaSsF
import Derived.Test.YticdbkchdjbnnaaSm2
import Derived.Test.YticdbkchdjbnnaaRaw
import Derived.Deep.RegionHeld3
import Derived.BigQuiet
import Derived.Deep.QuietTactic
namespace Go.Proofs.Yticdbkchdjbnnaa.pm
open Go.RowKit
set_option linter.unusedVariables false
set_option maxRecDepth 10000

theorem awake5' (w : World) : Calls Try.prog 4 #[] w fun e w' => e = .returned (.bool true) ∧ w = w' := by
  go_enter Try.func4, Try.ntmps4
  go_wp2_with fail
  refine (term_any _ _).mono ?_
  rintro e w1 ⟨rfl, rfl⟩
  go_wp2
  go_ret
  exact ⟨ret_bool (by decide), rfl⟩
theorem pr_r' {most : Nat} {p : List Fn} (h : PrOk most p) : ∀ j, j < p.length → FnR (p.getD j Fn.z) := fun j hj s hs => by
  have := (h.2.2.2 _ (mem_getD (z := Fn.z) hj)).2.2.2.1 s hs
  unfold SlotOk at this
  unfold I64
  omega
theorem pr_s {most : Nat} {p : List Fn} (h : PrOk most p) : PrS p := fun i hi => by
  have := h.2.2.2 _ (mem_getD (z := Fn.z) hi)
  exact ⟨by have := this.2.2.1; omega, by have := this.2.2.2.2.2.1; omega, pr_r' h i hi⟩
theorem pr_c {most : Nat} {p : List Fn} (h : PrOk most p) : ∀ i, i < p.length → 1 ≤ (p.getD i Fn.z).code.length ∧ (p.getD i Fn.z).code.length ≤ 500 ∧ (p.getD i Fn.z).slots.length ≤ 500 := fun i hi => by
  have := h.2.2.2 _ (mem_getD (z := Fn.z) hi)
  exact ⟨this.2.2.2.2.1, by have := this.2.2.2.2.2.1; omega, by have := this.2.2.1; omega⟩
theorem eqL_refl (x : List Fn) : eqL sameFn x x = true := eqL_all (z := Fn.z) rfl fun j _ => by
  have h1 : ∀ l : List (Int × Int), eqL slEq l l = true := fun l => eqL_all (z := (0, 0)) rfl fun j _ => by simp [slEq]
  have h2 : ∀ l : List Ins, eqL inEq l l = true := fun l => eqL_all (z := Ins.z) rfl fun j _ => by simp [inEq]
  simp [sameFn, h1, h2]
/-- a pair of programs in a row of pairs -/
def Pair2 (w : World) (g k : Nat) : Prop := ∃ (A1 : Option Addr) (p : List Fn) (c1 : Nat) (A2 : Option Addr) (q : List Fn) (c2 : Nat),
  w.cell? ⟨g, k * 2, none⟩ = some (.slice A1 p.length c1) ∧ w.cell? ⟨g, k * 2 + 1, none⟩ = some (.slice A2 q.length c2) ∧ Fx w 0 w.heap.size A1 p ∧ Fx w 0 w.heap.size A2 q ∧ p.length ≤ maxLen ∧ q.length ≤ maxLen ∧
    (∀ i, i < p.length → FnR (p.getD i Fn.z)) ∧ (∀ i, i < q.length → FnR (q.getD i Fn.z))
theorem Pair2.below {w w' : World} {g k : Nat} (h : Pair2 w g k) (hb : Below w.heap.size w w') : Pair2 w' g k := by
  obtain ⟨A1, p, c1, A2, q, c2, h1, h2, h3, h4, h5⟩ := h
  exact ⟨A1, p, c1, A2, q, c2, (hb.cell (cell_lt h1)).trans h1, (hb.cell (cell_lt h2)).trans h2, (h3.keep (Kp.of_below hb (Nat.le_refl _))).more (Nat.le_refl _) hb.size, (h4.keep (Kp.of_below hb (Nat.le_refl _))).more (Nat.le_refl _) hb.size, h5⟩
set_option maxHeartbeats 8000000 in
theorem ss_law (A1 : Option Addr) (p : List Fn) (c1 : Nat) (A2 : Option Addr) (q : List Fn) (c2 : Nat) (A : Option Addr) (n c : Nat) (l : List Nat) (w : World) (f1 : Fx w 0 w.heap.size A1 p) (m1 : p.length ≤ maxLen) (r1 : ∀ i, i < p.length → FnR (p.getD i Fn.z)) (f2 : Fx w 0 w.heap.size A2 q) (m2 : q.length ≤ maxLen) (r2 : ∀ i, i < q.length → FnR (q.getD i Fn.z)) (hb : Bs w w.heap.size A n l) (hn : n ≤ maxLen) (hc : n ≤ c) :
    Calls Try.prog 3 #[.agg #[.slice A1 p.length c1], .agg #[.slice A2 q.length c2], .slice A n c] w fun e w' => e = .returned (.bool true) ∧ Below w.heap.size w w' := by
  obtain ⟨W1, hW1⟩ : ∃ W1, W1 = (w.alloc (.cells #[.slice A1 p.length c1] 24)).alloc (.cells #[.slice A2 q.length c2] 24) := ⟨_, rfl⟩
  have HK3 : Hid (Blk W1 w.heap.size 24 #[.slice A1 p.length c1]) := Lib.hid (by rw [hW1]; exact (Blk.new _ _ _).alloc _)
  have HK4 : Hid (Blk W1 (w.heap.size + 1) 24 #[.slice A2 q.length c2]) := Lib.hid (by rw [hW1]; exact Blk.newAt (by simp))
  have hB1 : Below w.heap.size w W1 := by rw [hW1]; exact ((Below.refl _ _).alloc (Nat.le_refl _) _).alloc (by simp) _
  have HF1 := Lib.hid (f1.keep (Kp.of_below hB1 (Nat.le_refl _)))
  have HF2 := Lib.hid (f2.keep (Kp.of_below hB1 (Nat.le_refl _)))
  have HBs := Lib.hid ((hb.below hB1).more hB1.size)
  have HB1 := Lib.hid hB1
  have HW1 := Lib.hid hW1
  have HR1 := Lib.hid r1
  have HR2 := Lib.hid r2
  have HM1 := Lib.hid m1
  have HM2 := Lib.hid m2
  have HFP : Hid (∀ W, Below W1.heap.size W1 W → Calls Try.prog 5 #[.agg #[.slice A1 p.length c1]] W fun e w' => e = .returned (.bool (fineB p)) ∧ Below W1.heap.size W1 w') := Lib.hid (fun W h => (fine_any A1 p c1 W _ _ (HF1.out.keep (Kp.of_below h HB1.out.size)) (Nat.le_trans HB1.out.size h.size) HM1.out).mono fun e w' ⟨a, b⟩ => ⟨a, h.trans (b.mono h.size)⟩)
  have HFQ : Hid (∀ W, Below W1.heap.size W1 W → Calls Try.prog 5 #[.agg #[.slice A2 q.length c2]] W fun e w' => e = .returned (.bool (fineB q)) ∧ Below W1.heap.size W1 w') := Lib.hid (fun W h => (fine_any A2 q c2 W _ _ (HF2.out.keep (Kp.of_below h HB1.out.size)) (Nat.le_trans HB1.out.size h.size) HM2.out).mono fun e w' ⟨a, b⟩ => ⟨a, h.trans (b.mono h.size)⟩)
  have HB0 : Hid (Below W1.heap.size W1 W1) := Lib.hid (Below.refl _ _)
  clear f1 f2 hb hB1 hW1 r1 r2 m1 m2
  obtain ⟨x0, -, xz⟩ := blk_one HK3.out
  obtain ⟨y0, -, yz⟩ := blk_one HK4.out
  have hs1 : w.heap.size ≤ W1.heap.size := by omega
  rcases hfp : fineB p with _ | _
  · -- p is not looked at
    rw [hfp] at HFP
    clear hfp
    go_enter Try.func3, Try.ntmps3
    go_upto_region 1 with (fail)
    rw [← HW1.out]
    go_wp2_with fail
    refine (awake5' _).mono ?_
    rintro e w1 ⟨rfl, rfl⟩
    go_wp2_with fail
    refine (HFP.out _ HB0.out).mono ?_
    rintro e wp1 ⟨rfl, belp1⟩
    have HBp1 := Lib.hid belp1
    clear belp1 x0 xz y0 yz
    obtain ⟨x0, -, xz⟩ := blk_one (HK3.out.after HBp1.out)
    obtain ⟨y0, -, yz⟩ := blk_one (HK4.out.after HBp1.out)
    go_wp2_with fail
    refine (HFP.out _ HBp1.out).mono ?_
    rintro e wp2 ⟨rfl, belp2⟩
    have HBp2 := Lib.hid belp2
    clear belp2 x0 xz y0 yz
    obtain ⟨x0, -, xz⟩ := blk_one (HK3.out.after HBp2.out)
    obtain ⟨y0, -, yz⟩ := blk_one (HK4.out.after HBp2.out)
    go_wp2
    go_ret
    exact ⟨ret_bool (by simp), HB1.out.trans (HBp2.out.mono HB1.out.size)⟩
  · rw [hfp] at HFP
    clear hfp
    rcases hfq : fineB q with _ | _
    · rw [hfq] at HFQ
      clear hfq
      go_enter Try.func3, Try.ntmps3
      go_upto_region 1 with (fail)
      rw [← HW1.out]
      go_wp2_with fail
      refine (awake5' _).mono ?_
      rintro e w1 ⟨rfl, rfl⟩
      go_wp2_with fail
      refine (HFP.out _ HB0.out).mono ?_
      rintro e wp1 ⟨rfl, belp1⟩
      have HBp1 := Lib.hid belp1
      clear belp1 x0 xz y0 yz
      obtain ⟨x0, -, xz⟩ := blk_one (HK3.out.after HBp1.out)
      obtain ⟨y0, -, yz⟩ := blk_one (HK4.out.after HBp1.out)
      go_wp2_with fail
      refine (HFQ.out _ HBp1.out).mono ?_
      rintro e wq1 ⟨rfl, belq1⟩
      have HBq1 := Lib.hid belq1
      clear belq1 x0 xz y0 yz
      obtain ⟨x0, -, xz⟩ := blk_one (HK3.out.after HBq1.out)
      obtain ⟨y0, -, yz⟩ := blk_one (HK4.out.after HBq1.out)
      go_wp2_with fail
      refine (HFP.out _ HBq1.out).mono ?_
      rintro e wp3 ⟨rfl, belp3⟩
      have HBp3 := Lib.hid belp3
      clear belp3 x0 xz y0 yz
      obtain ⟨x0, -, xz⟩ := blk_one (HK3.out.after HBp3.out)
      obtain ⟨y0, -, yz⟩ := blk_one (HK4.out.after HBp3.out)
      go_wp2_with fail
      refine (HFQ.out _ HBp3.out).mono ?_
      rintro e wq2 ⟨rfl, belq2⟩
      have HBq2 := Lib.hid belq2
      clear belq2 x0 xz y0 yz
      obtain ⟨x0, -, xz⟩ := blk_one (HK3.out.after HBq2.out)
      obtain ⟨y0, -, yz⟩ := blk_one (HK4.out.after HBq2.out)
      go_wp2
      go_ret
      exact ⟨ret_bool (by simp), HB1.out.trans (HBq2.out.mono HB1.out.size)⟩
    · rw [hfq] at HFQ
      clear hfq
      go_enter Try.func3, Try.ntmps3
      go_upto_region 1 with (fail)
      rw [← HW1.out]
      go_wp2_with fail
      refine (awake5' _).mono ?_
      rintro e w1 ⟨rfl, rfl⟩
      go_wp2_with fail
      refine (HFP.out _ HB0.out).mono ?_
      rintro e wp1 ⟨rfl, belp1⟩
      have HBp1 := Lib.hid belp1
      clear belp1 x0 xz y0 yz
      obtain ⟨x0, -, xz⟩ := blk_one (HK3.out.after HBp1.out)
      obtain ⟨y0, -, yz⟩ := blk_one (HK4.out.after HBp1.out)
      go_wp2_with fail
      refine (HFQ.out _ HBp1.out).mono ?_
      rintro e wq1 ⟨rfl, belq1⟩
      have HBq1 := Lib.hid belq1
      clear belq1 x0 xz y0 yz
      obtain ⟨x0, -, xz⟩ := blk_one (HK3.out.after HBq1.out)
      obtain ⟨y0, -, yz⟩ := blk_one (HK4.out.after HBq1.out)
      clear HFP HFQ
      -- the drawn programs
      obtain ⟨cb, hcb⟩ : ∃ cb, cb = wq1.heap.size := ⟨_, rfl⟩
      have hzq : W1.heap.size ≤ wq1.heap.size := HBq1.out.size
      go_wp2_with fail
      refine (newcodes_any A n c l 200 _ hn hc (by omega)).mono ?_
      rintro e w2 ⟨rfl, hw2⟩
      have HC2 : Hid (CodesAt w2 cb cb A (min n 200) c (l.take (min n 200)) 0) := Lib.hid (by rw [hw2, hcb]; exact codes_new ((HBs.out.below HBq1.out).more hzq) 200 (by omega))
      have HBx2 : Hid (Below wq1.heap.size wq1 w2) := Lib.hid (by rw [hw2]; exact (Below.refl _ _).alloc (Nat.le_refl _) _)
      have HB2 : Hid (Below W1.heap.size W1 w2) := Lib.hid (HBq1.out.trans (HBx2.out.mono hzq))
      have hcl2 : cb < w2.heap.size := HC2.out.1.lt
      have hcb0 : W1.heap.size ≤ cb := by omega
      rw [← hcb]
      clear hw2 hcb x0 xz y0 yz HBx2
      go_wp2_with fail
      refine (program_d _ _ _ _ _ _ _ 3 8 _ HC2.out (by omega) (by omega) (by omega)).mono ?_
      rintro e w3 ⟨x, Ax, cx, p3, rfl, hpr, hpc, hfx, k3, g3⟩
      have HC3 := Lib.hid k3
      have HPR := Lib.hid hpr
      have HX3 := Lib.hid hfx
      have hx1 : 1 ≤ x.length := hpr.1
      have hx3 : x.length ≤ 3 := hpr.2.1
      have hs3 : w2.heap.size ≤ w3.heap.size := g3.size
      have HB3 : Hid (Below W1.heap.size W1 w3) := Lib.hid (HB2.out.trans (below_of_grown g3 hcb0 HB2.out.size))
      clear k3 g3 hpr hfx HC2 HB2
      go_upto_region 5 with (fail)
      obtain ⟨w4, hw4⟩ : ∃ w4, w4 = w3.alloc (.cells #[.slice Ax x.length cx] 24) := ⟨_, rfl⟩
      rw [← hw4]
      have HK8 : Hid (Blk w4 w3.heap.size 24 #[.slice Ax x.length cx]) := Lib.hid (by rw [hw4]; exact Blk.new _ _ _)
      have HB34 : Hid (Below w3.heap.size w3 w4) := Lib.hid (by rw [hw4]; exact (Below.refl _ _).alloc (Nat.le_refl _) _)
      have HC4 : Hid (CodesAt w4 cb cb A (min n 200) c (l.take (min n 200)) p3) := Lib.hid (by rw [hw4]; exact HC3.out.alloc _)
      obtain ⟨g8, hg8⟩ : ∃ g, g = w3.heap.size := ⟨_, rfl⟩
      rw [← hg8] at HK8 ⊢
      have hg8a : w3.heap.size ≤ g8 := by omega
      have hg8b : g8 ≤ w3.heap.size := by omega
      clear hg8
      have HX4 : Hid (Fx w4 w2.heap.size w3.heap.size Ax x) := Lib.hid (HX3.out.keep (Kp.of_below HB34.out (Nat.le_refl _)))
      have HB4 : Hid (Below W1.heap.size W1 w4) := Lib.hid (HB3.out.trans (HB34.out.mono HB3.out.size))
      have hs4 : g8 < w4.heap.size := HK8.out.lt
      clear hw4
      obtain ⟨z0, -, zz⟩ := blk_one HK8.out
      go_wp2_with fail
      refine (odd_d _ _ _ _ _ _ _ Ax x cx _ _ _ HC4.out HX4.out (by omega) (by omega) (by omega) hx1 (by omega) (pr_s HPR.out) (pr_c HPR.out)).mono ?_
      rintro e w5 ⟨y, Ay, cy, p5, rfl, hyl, hps, hyc, hfy, k5, g5⟩
      have HYL := Lib.hid hyl
      have hy3 : y.length ≤ 3 := by omega
      clear hyl
      have HY5 := Lib.hid hfy
      have HPS := Lib.hid hps
      have HX5 : Hid (Fx w5 w2.heap.size w3.heap.size Ax x) := Lib.hid (HX4.out.keep (Kp.of_grown g5 (by omega) (.inl (by omega))))
      have HK85 := Lib.hid (HK8.out.grown g5 (some_ne (by omega)))
      have HB5 : Hid (Below W1.heap.size W1 w5) := Lib.hid (HB4.out.trans (below_of_grown g5 hcb0 HB4.out.size))
      have hs5 : w4.heap.size ≤ w5.heap.size := g5.size
      clear k5 g5 hps hfy HC3 HC4 HX3 HX4 HB3 HB4 HB34 HK8 z0 zz
      go_upto_region 6 with (fail)
      obtain ⟨w6, hw6⟩ : ∃ w6, w6 = w5.alloc (.cells #[.slice Ay y.length cy] 24) := ⟨_, rfl⟩
      rw [← hw6]
      have HK9 : Hid (Blk w6 w5.heap.size 24 #[.slice Ay y.length cy]) := Lib.hid (by rw [hw6]; exact Blk.new _ _ _)
      have HB56 : Hid (Below w5.heap.size w5 w6) := Lib.hid (by rw [hw6]; exact (Below.refl _ _).alloc (Nat.le_refl _) _)
      obtain ⟨g9, hg9⟩ : ∃ g, g = w5.heap.size := ⟨_, rfl⟩
      have hg9' : w4.heap.size ≤ g9 := by omega
      rw [← hg9] at HK9 ⊢
      have HK86 := Lib.hid (HK85.out.after HB56.out)
      have HX6 : Hid (Fx w6 0 w6.heap.size Ax x) := Lib.hid ((HX5.out.keep (Kp.of_below HB56.out (by omega))).more (Nat.zero_le _) (by have := HB56.out.size; omega))
      have HY6 : Hid (Fx w6 0 w6.heap.size Ay y) := Lib.hid ((HY5.out.keep (Kp.of_below HB56.out (Nat.le_refl _))).more (Nat.zero_le _) HB56.out.size)
      have HB6 : Hid (Below W1.heap.size W1 w6) := Lib.hid (HB5.out.trans (HB56.out.mono HB5.out.size))
      have hs6 : g9 < w6.heap.size := HK9.out.lt
      have hg9a : w5.heap.size ≤ g9 := by omega
      clear hw6 hg9 HB56 HX5 HY5 HK85 HB5
      obtain ⟨x0, -, xz⟩ := blk_one (HK3.out.after HB6.out)
      obtain ⟨y0, -, yz⟩ := blk_one (HK4.out.after HB6.out)
      obtain ⟨z0, -, zz⟩ := blk_one HK86.out
      obtain ⟨t0, -, tz⟩ := blk_one HK9.out
      go_upto_region 7 with (fail)
      obtain ⟨w7, hw7⟩ : ∃ w7, w7 = w6.alloc (.cells #[.slice A1 p.length c1, .slice A2 q.length c2, .slice A1 p.length c1, .slice A1 p.length c1, .slice Ax x.length cx, .slice Ay y.length cy, .slice Ax x.length cx, .slice Ax x.length cx] 32) := ⟨_, rfl⟩
      rw [← hw7]
      have hK7 : Blk w7 w6.heap.size 32 #[.slice A1 p.length c1, .slice A2 q.length c2, .slice A1 p.length c1, .slice A1 p.length c1, .slice Ax x.length cx, .slice Ay y.length cy, .slice Ax x.length cx, .slice Ax x.length cx] := by rw [hw7]; exact Blk.new _ _ _
      have HB67 : Hid (Below w6.heap.size w6 w7) := Lib.hid (by rw [hw7]; exact (Below.refl _ _).alloc (Nat.le_refl _) _)
      obtain ⟨g10, hg10⟩ : ∃ g, g = w6.heap.size := ⟨_, rfl⟩
      rw [← hg10] at hK7 ⊢
      have HB7 : Hid (Below W1.heap.size W1 w7) := Lib.hid (HB6.out.trans (HB67.out.mono HB6.out.size))
      have HPQ : Hid (∀ k, k < 4 → Pair2 w7 g10 k) := Lib.hid (fun k hk => by
        have k1 : Fx w7 0 w7.heap.size A1 p := (HF1.out.keep (Kp.of_below HB7.out HB1.out.size)).more (Nat.le_refl _) (Nat.le_trans HB1.out.size HB7.out.size)
        have k2 : Fx w7 0 w7.heap.size A2 q := (HF2.out.keep (Kp.of_below HB7.out HB1.out.size)).more (Nat.le_refl _) (Nat.le_trans HB1.out.size HB7.out.size)
        have k3 : Fx w7 0 w7.heap.size Ax x := (HX6.out.keep (Kp.of_below HB67.out (Nat.le_refl _))).more (Nat.le_refl _) HB67.out.size
        have k4 : Fx w7 0 w7.heap.size Ay y := (HY6.out.keep (Kp.of_below HB67.out (Nat.le_refl _))).more (Nat.le_refl _) HB67.out.size
        have mx : x.length ≤ maxLen := by unfold maxLen; omega
        have my : y.length ≤ maxLen := by unfold maxLen; omega
        have hk4 : k = 0 ∨ k = 1 ∨ k = 2 ∨ k = 3 := by omega
        rcases hk4 with rfl | rfl | rfl | rfl
        · exact ⟨A1, p, c1, A2, q, c2, hK7.cell 0, hK7.cell 1, k1, k2, HM1.out, HM2.out, HR1.out, HR2.out⟩
        · exact ⟨A1, p, c1, A1, p, c1, hK7.cell 2, hK7.cell 3, k1, k1, HM1.out, HM1.out, HR1.out, HR1.out⟩
        · exact ⟨Ax, x, cx, Ay, y, cy, hK7.cell 4, hK7.cell 5, k3, k4, mx, my, pr_r' HPR.out, fun i hi => (HPS.out i hi).2.2⟩
        · exact ⟨Ax, x, cx, Ax, x, cx, hK7.cell 6, hK7.cell 7, k3, k3, mx, mx, pr_r' HPR.out, pr_r' HPR.out⟩)
      have HX7 : Hid (Fx w7 0 w7.heap.size Ax x) := Lib.hid ((HX6.out.keep (Kp.of_below HB67.out (Nat.le_refl _))).more (Nat.le_refl _) HB67.out.size)
      have HK87 := Lib.hid (HK86.out.after HB67.out)
      have hs7 : g10 < w7.heap.size := hK7.lt
      clear hw7 hg10 hK7 HB67 HX6 HY6 HB6 HK86 HK9 x0 y0 z0 t0 xz yz zz tz HF1 HF2 HM1 HM2 HR1 HR2 HPS
      go_loopw [53] (fun v wr => ∃ k : Nat, k ≤ 4 ∧ v = .int .i64 k ∧ Hid (Below w7.heap.size w7 wr)) (fun v _ => 4 - (intOf v).toNat)
      case atStart => exact ⟨0, by omega, rfl, Lib.hid (Below.refl _ _)⟩
      case round =>
        obtain ⟨k, hk, rfl, HBR⟩ := hrel
        have hszr := HBR.out.size
        have hk0 : (0 : Int) ≤ (k : Int) := by omega
        have HBN : Hid (Below w.heap.size w wr) := Lib.hid (HB1.out.trans ((HB7.out.trans (HBR.out.mono HB7.out.size)).mono HB1.out.size))
        by_cases hlt : k < 4
        · have hki : (k : Int) < 4 := by omega
          obtain ⟨B1, s, d1, B2, t, d2, e0, e1, fs, ft, n1, n2, rs, rt⟩ := (HPQ.out k hlt).below HBR.out
          have HFS := Lib.hid fs
          have HFT := Lib.hid ft
          have HRS := Lib.hid rs
          have HRT := Lib.hid rt
          have HN1 := Lib.hid n1
          have HN2 := Lib.hid n2
          clear fs ft rs rt n1 n2
          go_upto_region 9 with (fail)
          obtain ⟨w8, hw8⟩ : ∃ w8, w8 = wr.alloc (.cells #[.slice B1 s.length d1, .slice B2 t.length d2] 32) := ⟨_, rfl⟩
          rw [← hw8]
          have HK11 : Hid (Blk w8 wr.heap.size 32 #[.slice B1 s.length d1, .slice B2 t.length d2]) := Lib.hid (by rw [hw8]; exact Blk.new _ _ _)
          have HB8 : Hid (Below wr.heap.size wr w8) := Lib.hid (by rw [hw8]; exact (Below.refl _ _).alloc (Nat.le_refl _) _)
          obtain ⟨g11, hg11⟩ : ∃ g, g = wr.heap.size := ⟨_, rfl⟩
          rw [← hg11] at HK11 ⊢
          have hg11a : wr.heap.size ≤ g11 := by omega
          have hs8 : g11 < w8.heap.size := HK11.out.lt
          have hs8' : wr.heap.size ≤ w8.heap.size := HB8.out.size
          clear hw8 hg11 e0 e1
          have HKS : Hid (∀ W, Below w8.heap.size w8 W → W.cell? ⟨g11, 0, none⟩ = some (.slice B1 s.length d1) ∧ W.cell? ⟨g11, 1, none⟩ = some (.slice B2 t.length d2) ∧ Below w8.heap.size w8 W) := Lib.hid (fun W h => ⟨(HK11.out.after h).cell 0, (HK11.out.after h).cell 1, h⟩)
          have HFSk : Hid (∀ W, Below w8.heap.size w8 W → Fx W 0 wr.heap.size B1 s ∧ Fx W 0 wr.heap.size B2 t ∧ wr.heap.size ≤ W.heap.size) := Lib.hid (fun W h => ⟨HFS.out.keep (Kp.of_below (HB8.out.trans (h.mono hs8')) (Nat.le_refl _)), HFT.out.keep (Kp.of_below (HB8.out.trans (h.mono hs8')) (Nat.le_refl _)), Nat.le_trans hs8' h.size⟩)
          have HC1 : Hid (∀ W, Below w8.heap.size w8 W → Calls Try.prog 9 #[.agg #[.slice B1 s.length d1], .agg #[.slice B2 t.length d2]] W fun e w' => e = .returned (.bool (eqL sameFn s t)) ∧ Below w8.heap.size w8 w') := Lib.hid (fun W h => (same_any B1 B2 s t d1 d2 W _ _ _ _ (HFSk.out W h).2.2 (HFSk.out W h).2.2 (HFSk.out W h).1 (HFSk.out W h).2.1 HN1.out HN2.out).mono fun e w' ⟨a, b⟩ => ⟨a, h.trans (b.mono h.size)⟩)
          have HC2 : Hid (∀ W, Below w8.heap.size w8 W → Calls Try.prog 10 #[.agg #[.slice B1 s.length d1], .agg #[.slice B2 t.length d2]] W fun e w' => e = .returned (.bool (eqL sameFn s t)) ∧ Below w8.heap.size w8 w') := Lib.hid (fun W h => (refsame_any B1 B2 s t d1 d2 W _ _ _ _ (HFSk.out W h).2.2 (HFSk.out W h).2.2 (HFSk.out W h).1 (HFSk.out W h).2.1 HN1.out HN2.out).mono fun e w' ⟨a, b⟩ => ⟨a, h.trans (b.mono h.size)⟩)
          have HC3 : Hid (∀ W, Below w8.heap.size w8 W → Calls Try.prog 11 #[.agg #[.slice B1 s.length d1]] W fun e w' => e = .returned (.int .i64 (alP s)) ∧ Below w8.heap.size w8 w') := Lib.hid (fun W h => (progalign_any B1 s d1 W _ _ (HFSk.out W h).1 (HFSk.out W h).2.2 HN1.out HRS.out).mono fun e w' ⟨a, b⟩ => ⟨a, h.trans (b.mono h.size)⟩)
          have HC4 : Hid (∀ W, Below w8.heap.size w8 W → Calls Try.prog 12 #[.agg #[.slice B1 s.length d1]] W fun e w' => e = .returned (.int .i64 (alP s)) ∧ Below w8.heap.size w8 w') := Lib.hid (fun W h => (refprogalign_any B1 s d1 W _ _ (HFSk.out W h).1 (HFSk.out W h).2.2 HN1.out HRS.out).mono fun e w' ⟨a, b⟩ => ⟨a, h.trans (b.mono h.size)⟩)
          have HD0 : Hid (Below w8.heap.size w8 w8.drew) := Lib.hid ((Below.refl _ _).drew)
          obtain ⟨x0, x1, -⟩ := HKS.out _ HD0.out
          go_region_held3 (fun W => W.cell? ⟨g11, 0, none⟩ = some (.slice B1 s.length d1) ∧ W.cell? ⟨g11, 1, none⟩ = some (.slice B2 t.length d2) ∧ Below w8.heap.size w8 W)
            (first | exact HKS.out _ HA4.out | exact HKS.out _ HA3.out | exact HKS.out _ HA2.out | exact HKS.out _ HA1.out | exact HKS.out _ HD0.out)
            (first
            | (go_at_call 9; refine (HC1.out _ HD0.out).mono ?_; rintro e v1 ⟨rfl, bv1⟩; have HA1 := Lib.hid bv1; clear bv1)
            | (go_at_call 10; refine (HC2.out _ HA1.out).mono ?_; rintro e v2 ⟨rfl, bv2⟩; have HA2 := Lib.hid bv2; clear bv2)
            | (go_at_call 11; refine (HC3.out _ HA2.out).mono ?_; rintro e v3 ⟨rfl, bv3⟩; have HA3 := Lib.hid bv3; clear bv3)
            | (go_at_call 12; refine (HC4.out _ HA3.out).mono ?_; rintro e v4 ⟨rfl, bv4⟩; have HA4 := Lib.hid bv4; clear bv4))
          clear HC1 HC2 HC3 HC4 HA1 HA2 HA3 x0 x1 HD0
          go_upto_region 11 with (fail)
          have HD1 : Hid (Below w8.heap.size w8 v4.drew) := Lib.hid (HA4.out.drew)
          have HEND : Hid (∀ W, Below w8.heap.size w8 W → Below w7.heap.size w7 W) := Lib.hid (fun W h => HBR.out.trans ((HB8.out.trans (h.mono hs8')).mono hszr))
          obtain ⟨x0, x1, -⟩ := HKS.out _ HD1.out
          --STOP1
          by_cases hsl : 0 < s.length
          · have hsi : (0 : Int) < (s.length : Int) := by omega
            by_cases htl : 0 < t.length
            · have hti : (0 : Int) < (t.length : Int) := by omega
              obtain ⟨a1, As, cs, Ai, ci, rfl, hb1, c0, c1', c2', -, -, sx1, nx1, ⟨s1, -⟩, m1, -⟩ := (HFSk.out w8 (Below.refl _ _)).1.whole hsl
              obtain ⟨a2, Bs', ds, Bi, di, rfl, hb2, d0, d1', d2', -, -, sx2, nx2, ⟨s2, -⟩, m2, -⟩ := (HFSk.out w8 (Below.refl _ _)).2.1.whole htl
              obtain ⟨f, hf⟩ : ∃ f, f = s.getD 0 Fn.z := ⟨_, rfl⟩
              obtain ⟨g, hg⟩ : ∃ g, g = t.getD 0 Fn.z := ⟨_, rfl⟩
              rw [← hf] at c0 c1' c2' sx1 nx1 s1 m1
              rw [← hg] at d0 d1' d2' sx2 nx2 s2 m2
              clear hf hg
              have HCL : Hid (∀ W, Below w8.heap.size w8 W → (W.cell? a1 = some (.int .i64 f.params) ∧ W.cell? ⟨a1.block, a1.off + 1, none⟩ = some (.slice As f.slots.length cs) ∧ W.cell? ⟨a1.block, a1.off + 2, none⟩ = some (.slice Ai f.code.length ci)) ∧ (W.cell? a2 = some (.int .i64 g.params) ∧ W.cell? ⟨a2.block, a2.off + 1, none⟩ = some (.slice Bs' g.slots.length ds) ∧ W.cell? ⟨a2.block, a2.off + 2, none⟩ = some (.slice Bi g.code.length di))) := Lib.hid (fun W h => by
                have q0 : w8.cell? a1 = some (.int .i64 f.params) := by simpa [Addr.add] using c0
                have q1 : w8.cell? ⟨a1.block, a1.off + 1, none⟩ = some (.slice As f.slots.length cs) := by simpa [Addr.add] using c1'
                have q2 : w8.cell? ⟨a1.block, a1.off + 2, none⟩ = some (.slice Ai f.code.length ci) := by simpa [Addr.add] using c2'
                have r0 : w8.cell? a2 = some (.int .i64 g.params) := by simpa [Addr.add] using d0
                have r1 : w8.cell? ⟨a2.block, a2.off + 1, none⟩ = some (.slice Bs' g.slots.length ds) := by simpa [Addr.add] using d1'
                have r2 : w8.cell? ⟨a2.block, a2.off + 2, none⟩ = some (.slice Bi g.code.length di) := by simpa [Addr.add] using d2'
                exact ⟨⟨(h.cell (cell_lt q0)).trans q0, (h.cell (cell_lt q1)).trans q1, (h.cell (cell_lt q2)).trans q2⟩, (h.cell (cell_lt r0)).trans r0, (h.cell (cell_lt r1)).trans r1, (h.cell (cell_lt r2)).trans r2⟩)
              have HSN : Hid ((Sx w8 0 wr.heap.size As f.slots ∧ Nx w8 0 wr.heap.size Ai f.code) ∧ (Sx w8 0 wr.heap.size Bs' g.slots ∧ Nx w8 0 wr.heap.size Bi g.code)) := Lib.hid ⟨⟨sx1, nx1⟩, sx2, nx2⟩
              have HMS : Hid ((f.slots.length ≤ maxLen ∧ f.code.length ≤ maxLen) ∧ (g.slots.length ≤ maxLen ∧ g.code.length ≤ maxLen)) := Lib.hid ⟨⟨s1, m1⟩, s2, m2⟩
              clear c0 c1' c2' d0 d1' d2' sx1 nx1 sx2 nx2 s1 s2 m1 m2
              have HC5 : Hid (∀ W, Below w8.heap.size w8 W → Calls Try.prog 13 #[.agg #[.int .i64 f.params, .slice As f.slots.length cs, .slice Ai f.code.length ci], .agg #[.int .i64 g.params, .slice Bs' g.slots.length ds, .slice Bi g.code.length di]] W fun e w' => e = .returned (.bool (sameFn f g)) ∧ Below w8.heap.size w8 w') := Lib.hid (fun W h => (samefunc_any f g As Ai Bs' Bi cs ci ds di W _ _ _ _ (Nat.le_trans hs8' h.size) (Nat.le_trans hs8' h.size) (HSN.out.1.1.keep (Kp.of_below h hs8')) (HSN.out.1.2.keep (Kp.of_below h hs8')) (HSN.out.2.1.keep (Kp.of_below h hs8')) (HSN.out.2.2.keep (Kp.of_below h hs8')) HMS.out.1.1 HMS.out.1.2 HMS.out.2.1 HMS.out.2.2).mono fun e w' ⟨a, b⟩ => ⟨a, h.trans (b.mono h.size)⟩)
              have HC6 : Hid (∀ W, Below w8.heap.size w8 W → Calls Try.prog 14 #[.agg #[.int .i64 f.params, .slice As f.slots.length cs, .slice Ai f.code.length ci], .agg #[.int .i64 g.params, .slice Bs' g.slots.length ds, .slice Bi g.code.length di]] W fun e w' => e = .returned (.bool (sameFn f g)) ∧ Below w8.heap.size w8 w') := Lib.hid (fun W h => (refsamefunc_any f g As Ai Bs' Bi cs ci ds di W _ _ _ _ (Nat.le_trans hs8' h.size) (Nat.le_trans hs8' h.size) (HSN.out.1.1.keep (Kp.of_below h hs8')) (HSN.out.1.2.keep (Kp.of_below h hs8')) (HSN.out.2.1.keep (Kp.of_below h hs8')) (HSN.out.2.2.keep (Kp.of_below h hs8')) HMS.out.1.1 HMS.out.1.2 HMS.out.2.1 HMS.out.2.2).mono fun e w' ⟨a, b⟩ => ⟨a, h.trans (b.mono h.size)⟩)
              have HK2 : Hid (∀ W, Below w8.heap.size w8 W → (W.cell? ⟨g11, 0, none⟩ = some (.slice (some a1) s.length d1) ∧ W.cell? ⟨g11, 1, none⟩ = some (.slice (some a2) t.length d2)) ∧ ((W.cell? a1 = some (.int .i64 f.params) ∧ W.cell? ⟨a1.block, a1.off + 1, none⟩ = some (.slice As f.slots.length cs) ∧ W.cell? ⟨a1.block, a1.off + 2, none⟩ = some (.slice Ai f.code.length ci)) ∧ (W.cell? a2 = some (.int .i64 g.params) ∧ W.cell? ⟨a2.block, a2.off + 1, none⟩ = some (.slice Bs' g.slots.length ds) ∧ W.cell? ⟨a2.block, a2.off + 2, none⟩ = some (.slice Bi g.code.length di)))) := Lib.hid (fun W h => ⟨⟨(HKS.out W h).1, (HKS.out W h).2.1⟩, HCL.out W h⟩)
              obtain ⟨-, ⟨c0, c1', c2'⟩, d0, d1', d2'⟩ := HK2.out _ HD1.out
              go_region_held3 (fun W => (W.cell? ⟨g11, 0, none⟩ = some (.slice (some a1) s.length d1) ∧ W.cell? ⟨g11, 1, none⟩ = some (.slice (some a2) t.length d2)) ∧ ((W.cell? a1 = some (.int .i64 f.params) ∧ W.cell? ⟨a1.block, a1.off + 1, none⟩ = some (.slice As f.slots.length cs) ∧ W.cell? ⟨a1.block, a1.off + 2, none⟩ = some (.slice Ai f.code.length ci)) ∧ (W.cell? a2 = some (.int .i64 g.params) ∧ W.cell? ⟨a2.block, a2.off + 1, none⟩ = some (.slice Bs' g.slots.length ds) ∧ W.cell? ⟨a2.block, a2.off + 2, none⟩ = some (.slice Bi g.code.length di))))
                (first | exact HK2.out _ HA6.out | exact HK2.out _ HA5.out | exact HK2.out _ HD1.out)
                (first
                | (go_at_call 13; refine (HC5.out _ HD1.out).mono ?_; rintro e v5 ⟨rfl, bv5⟩; have HA5 := Lib.hid bv5; clear bv5)
                | (go_at_call 14; refine (HC6.out _ HA5.out).mono ?_; rintro e v6 ⟨rfl, bv6⟩; have HA6 := Lib.hid bv6; clear bv6))
              clear HC5 HC6 c0 c1' c2' d0 d1' d2'
              go_wp2
              go_roundw
              case rel => exact ⟨k + 1, by omega, by go_num, Lib.hid (HEND.out _ HA6.out)⟩
              case measure => simp [intOf]; omega
            · have hti : ¬ (0 : Int) < (t.length : Int) := by omega
              have hti2 : (t.length : Int) ≤ 0 := by omega
              go_quiet (fail)
              go_wp2
              go_roundw
              case rel => exact ⟨k + 1, by omega, by go_num, Lib.hid (HEND.out _ (by first | exact HD1.out | exact below_drewN HA4.out _))⟩
              case measure => simp [intOf]; omega
          · have hsi : ¬ (0 : Int) < (s.length : Int) := by omega
            have hsi2 : (s.length : Int) ≤ 0 := by omega
            go_quiet (fail)
            go_wp2
            go_roundw
            case rel => exact ⟨k + 1, by omega, by go_num, Lib.hid (HEND.out _ (by first | exact HD1.out | exact below_drewN HA4.out _))⟩
            case measure => simp [intOf]; omega
        · obtain rfl : k = 4 := by omega
          obtain ⟨z0, -, zz⟩ := blk_one (HK87.out.after HBR.out)
          have HXr : Hid (Fx wr 0 w7.heap.size Ax x) := Lib.hid (HX7.out.keep (Kp.of_below HBR.out (Nat.le_refl _)))
          go_wp2_with fail
          refine (same_any Ax Ax x x cx cx wr 0 _ 0 _ hszr hszr HXr.out HXr.out (by unfold maxLen; omega) (by unfold maxLen; omega)).mono ?_
          rintro e w9 ⟨rfl, bel9⟩
          rw [eqL_refl]
          have HB9 : Hid (Below w.heap.size w w9) := Lib.hid (HBN.out.trans (bel9.mono HBN.out.size))
          clear bel9
          go_wp2
          go_ret
          exact ⟨rfl, HB9.out⟩
end Go.Proofs.Yticdbkchdjbnnaa.pm
