/- StackNew: the walk of the law. -/
import Derived.Test.YtcpmlcdeddmdmaaStc
import Derived.Deep.RegionHeld3
namespace Go.Proofs.Ytcpmlcdeddmdmaa.sn
open Go.RowKit
set_option linter.unusedVariables false

theorem keepS {w W W' : World} {x y z : Value} (h : W.cell? ⟨w.heap.size, 0, none⟩ = some x ∧ W.cell? ⟨w.heap.size, 1, none⟩ = some y ∧ W.cell? ⟨w.heap.size, 2, none⟩ = some z ∧ w.heap.size < W.heap.size ∧ Below w.heap.size w W) (bel : Below W.heap.size W W') :
    W'.cell? ⟨w.heap.size, 0, none⟩ = some x ∧ W'.cell? ⟨w.heap.size, 1, none⟩ = some y ∧ W'.cell? ⟨w.heap.size, 2, none⟩ = some z ∧ w.heap.size < W'.heap.size ∧ Below w.heap.size w W' := by
  obtain ⟨h0, h1, h2, h3, h4⟩ := h
  have hc := (bcell bel).1
  exact ⟨(hc _ _ h3).trans h0, (hc _ _ h3).trans h1, (hc _ _ h3).trans h2, Nat.lt_of_lt_of_le h3 bel.size, h4.trans (bel.mono (Nat.le_of_lt h3))⟩
theorem rep_lt (n : Nat) : ∀ x ∈ List.replicate n 0, x < 256 := fun x hx => by rw [(List.mem_replicate.1 hx).2]; decide
theorem _root_.Go.Proofs.Ytcpmlcdeddmdmaa.Bs.keep1 {w w' : World} {B C n : Nat} {A : Option Addr} {l : List Nat} {o : Obj} (h : Bs w B A n l) (bel : Below C (w.alloc o) w') (hC : B ≤ C) (hB : B ≤ w.heap.size) : Bs w' B A n l := (h.alloc hB o).below (bel.mono hC)
theorem _root_.Go.Proofs.Ytcpmlcdeddmdmaa.Sl.keep1 {α : Type} {f : α → Value} {w w' : World} {B C n : Nat} {A : Option Addr} {l : List α} {o : Obj} (h : Sl f w B A n l) (bel : Below C (w.alloc o) w') (hC : B ≤ C) (hB : B ≤ w.heap.size) : Sl f w' B A n l := (h.alloc hB o).below (bel.mono hC)
theorem wrap64_range (e : Int) : -9223372036854775808 ≤ wrap64 e ∧ wrap64 e ≤ 9223372036854775807 := by unfold wrap64; omega
/-- what a choice leaves, without the world written out -/
theorem next_post {w w' : World} {g B : Nat} {A : Option Addr} {n c : Nat} {l : List Nat} {m : Int} {e : Ending} (hB : B ≤ g) (h : Next1 w g B A n c l m e w') :
    ∃ v p' : Nat, (v = 0 ∨ (v : Int) < m) ∧ e = .returned (.int .i64 v) ∧ CodesAt w' B g A n c l p' ∧ w'.heap.size = w.heap.size ∧ (∀ b, b ≠ g → w'.heap[b]? = w.heap[b]?) ∧ Below B w w' := by
  obtain ⟨v, p', k, hv, rfl, rfl, hc⟩ := h
  exact ⟨v, p', hv, rfl, hc, by simp [World.setCell], fun b hb => by rw [drewN_heap]; exact Below.heap_setCell w ⟨g, 1, none⟩ _ b hb, below_drewN ((Below.refl _ _).setCell hB _) k⟩
set_option maxHeartbeats 1000000 in
theorem awake09 (w : World) : Calls Try.prog 15 #[] w fun e w' => e = .returned (.bool true) ∧ Below w.heap.size w w' := by
  have hr : newR 40 16 = (0, 40, 32) := by decide +kernel
  have hc := stknew_any 40 16 (by omega) (by omega) (by omega) (by omega) w
  rw [hr] at hc
  go_enter Try.func15, Try.ntmps15
  go_wp2_with fail
  refine hc.mono ?_
  rintro e w1 ⟨A1, c1, A2, c2, rfl, _, _, hb⟩
  clear hc
  go_wp2
  go_ret
  exact ⟨rfl, hb.alloc (hb.size) _⟩

set_option maxHeartbeats 8000000 in
set_option maxRecDepth 10000 in
theorem law (x : Int) (hx0 : -9223372036854775808 ≤ x) (hx1 : x ≤ 9223372036854775807) (y : Int) (hy0 : -9223372036854775808 ≤ y) (hy1 : y ≤ 9223372036854775807)
    (A : Option Addr) (n c : Nat) (l : List Nat) (Ab : Option Addr) (rb cb : Nat) (Au : Option Addr) (ru cu : Nat) (sp : Int) (w : World)
    (hb : Bs w w.heap.size A n l) (hn : n ≤ maxLen) (hcap : n ≤ c) (hrb : rb ≤ maxLen) (hru : ru ≤ maxLen) :
    Calls Try.prog 3 #[.int .i64 x, .int .i64 y, .slice A n c, .agg #[.slice Ab rb cb, .slice Au ru cu, .int .i64 sp]] w fun e w' => e = .returned (.bool true) ∧ Below w.heap.size w w' := by
  have HX0 := Lib.hid hx0
  have HX1 := Lib.hid hx1
  have HY0 := Lib.hid hy0
  have HY1 := Lib.hid hy1
  clear hy0 hy1
  unfold maxLen at hrb hru
  by_cases hle : rb ≤ 2000 ∧ ru ≤ 2000
  · obtain ⟨hle, hle'⟩ := hle
    go_enter Try.func3, Try.ntmps3
    go_wp2_with fail
    refine (awake09 _).mono ?_
    rintro e w1 ⟨rfl, bel⟩
    obtain ⟨hc1, hf1⟩ := bcell bel
    have hz := bel.size
    simp at hz
    have z1 : w.heap.size < w1.heap.size := by omega
    have HB := Lib.hid (((Below.refl w.heap.size w).alloc (Nat.le_refl _) _).trans (bel.mono (by simp)))
    have hb1 := Lib.hid (hb.below HB.out)
    clear bel hz hb
    go_wp2_with fail
    refine (newcodes_any A n c l 20 w1 hn hcap (by omega)).mono ?_
    rintro e w2 ⟨rfl, rfl⟩
    have hco := codes_new (c := c) (hb1.out.more (Nat.le_of_lt z1)) 20 (by omega)
    have HC := Lib.hid hco
    clear hco
    go_wp2_with fail
    refine (next_any _ _ _ _ _ _ _ 200 _ HC.out (by omega) (by omega)).mono ?_
    intro e w3 h3
    obtain ⟨v, p', hv, rfl, hco3, hs3, -, bel3⟩ := next_post (Nat.le_refl _) h3
    have hv2 : (v : Int) < 200 := by omega
    have hz2 : w1.heap.size < w3.heap.size := by rw [hs3]; simp
    have z3 : w.heap.size < w3.heap.size := by omega
    have H13 := Lib.hid (((Below.refl w1.heap.size w1).alloc (Nat.le_refl _) _).trans bel3)
    obtain ⟨hc3, hf3⟩ := bcell H13.out
    have HC3 := Lib.hid hco3
    have HV : Hid (v = 0 ∨ (v : Int) < 200) := hv
    clear h3 bel3 hs3 hco3 HC hv
    have hcase : (0 ≤ x ∧ x ≤ 1048576) ∨ x < 0 ∨ (0 ≤ x ∧ 1048576 < x) := by omega
    clear hx0 hx1
    have m0 : 0 ≤ x % 3000 := by omega
    have m1 : x % 3000 < 3000 := by omega
    rcases hcase with ⟨k1, k2⟩ | k1 | ⟨k1, k2⟩
    all_goals go_wp2_with fail
    all_goals first
      | (have k3 : 0 ≤ x ∧ x ≤ 1048576 := ⟨k1, k2⟩
         clear k1 k2 k3 HX0 HX1
         generalize x % 3000 = x' at *
         have HX0 : Hid (-9223372036854775808 ≤ x') := Lib.hid (by omega)
         have HX1 : Hid (x' ≤ 9223372036854775807) := Lib.hid (by omega)
         clear m0 m1)
      | (clear m0 m1)
    all_goals
      refine Calls.mono (next_any _ _ _ _ _ _ _ 9 _ HC3.out (by omega) (by omega)) ?_
      intro e w4 h4
      obtain ⟨v2, p'', hv', rfl, hco4, hs4, -, bel4⟩ := next_post (Nat.le_refl _) h4
      have hv20 : v2 < 9 := by omega
      have hv21 : (v2 : Int) < 9 := by omega
      have hv22 : (0 : Int) ≤ (v2 : Int) := by omega
      have hz4 : w1.heap.size < w4.heap.size := by omega
      have z4 : w.heap.size < w4.heap.size := by omega
      have H14 := Lib.hid (H13.out.trans bel4)
      obtain ⟨hc4, hf4⟩ := bcell H14.out
      have HB4 := Lib.hid (HB.out.trans (H14.out.mono (Nat.le_of_lt z1)))
      clear h4 bel4 hs4 hco4 HC3 HB hv' H13 hc3 hf3 hb1
      have hpow : (2 : Nat) ^ v2 ≤ 256 := Nat.le_trans (Nat.pow_le_pow_right (by decide) (show v2 ≤ 8 by omega)) (by decide)
      go_wp2_with fail
      clear hpow hv20 hv21 hv22 H14 hz2 z3
      have hwr := wrap64_range (2 ^ v2)
      generalize wrap64 (2 ^ v2) = a2 at *
      have HA := Lib.hid hwr
      clear hwr
      go_loopw [65] (fun i wr => ∃ k : Nat, k ≤ 3 ∧ i = .int .i64 k ∧ Hid (Below w.heap.size w wr) ∧ w.heap.size < wr.heap.size ∧ w4.heap.size < wr.heap.size ∧
          (wr.cell? ⟨w.heap.size, 0, none⟩ = some (.slice Ab rb cb) ∧ wr.cell? ⟨w.heap.size, 1, none⟩ = some (.slice Au ru cu) ∧ wr.cell? ⟨w.heap.size, 2, none⟩ = some (.int .i64 sp)) ∧
          Hid (∀ j, j < 3 → ∃ a : Int, -9223372036854775808 ≤ a ∧ a ≤ 9223372036854775807 ∧ wr.cell? ⟨w4.heap.size, j, none⟩ = some (.int .i64 a))) (fun i _ => 3 - (intOf i).toNat)
      case atStart =>
        refine ⟨0, by omega, rfl, Lib.hid (HB4.out.alloc (by omega) _), by simp; omega, by simp, ⟨?_, ?_, ?_⟩, ?_⟩
        · go_simp
        · go_simp
        · go_simp
        · intro j hj
          have hj3 : j = 0 ∨ j = 1 ∨ j = 2 := by omega
          rcases hj3 with rfl | rfl | rfl
          · exact ⟨y, HY0.out, HY1.out, by go_simp⟩
          · exact ⟨a2, HA.out.1, HA.out.2, by go_simp⟩
          · exact ⟨16, by omega, by omega, by go_simp⟩
      case round =>
        clear hc1 hf1 hc4 hf4 HB4 HA
        obtain ⟨k, hk, rfl, HB, zr, zs, ⟨p0, p1, p2⟩, HS⟩ := hrel
        by_cases hk3 : k < 3
        · obtain ⟨a, ha0, ha1, hca⟩ := HS.out k hk3
          have HA0 := Lib.hid ha0
          have HA1 := Lib.hid ha1
          have hki : (k : Int) < 3 := by omega
          have hk0 : (0 : Int) ≤ (k : Int) := by omega
          clear ha0 ha1
          have HN1 := fun W : World => stknew_any v a (by omega) (by omega) HA0.out HA1.out W
          have HN2 := fun W : World => refstknew_any v a (by omega) (by omega) HA0.out HA1.out W
          have HN3 := fun W : World => stknew_any _ a HX0.out HX1.out HA0.out HA1.out W
          have HN4 := fun W : World => refstknew_any _ a HX0.out HX1.out HA0.out HA1.out W
          generalize newR v a = r1 at HN1 HN2
          generalize newR _ a = r2 at HN3 HN4
          obtain ⟨er1, n1, s1⟩ := r1
          obtain ⟨er2, n2, s2⟩ := r2
          have N1 := Lib.hid HN1
          have N2 := Lib.hid HN2
          have N3 := Lib.hid HN3
          have N4 := Lib.hid HN4
          clear HN1 HN2 HN3 HN4
          go_wp2_with fail
          refine (N1.out _).mono ?_
          rintro e w5 ⟨B5, d5, U5, f5, rfl, o5, u5, bel5⟩
          simp only at o5 u5
          obtain ⟨hc5, hf5⟩ := bcell bel5
          have hz := bel5.size
          have z5_0 : w.heap.size < w5.heap.size := by omega
          have z5_1 : w4.heap.size < w5.heap.size := by omega
          have HB5 := Lib.hid (HB.out.trans (bel5.mono (by omega)))
          clear hz
          have b5 := Bs.of_own o5 (rep_lt n1)
          have t5 := Sl.of_own u5
          obtain ⟨-, -, -, m5⟩ := own_form o5
          clear o5 u5 bel5 HB
          go_wp2_with fail
          refine (N2.out _).mono ?_
          rintro e w6 ⟨B6, d6, U6, f6, rfl, o6, u6, bel6⟩
          simp only at o6 u6
          obtain ⟨hc6, hf6⟩ := bcell bel6
          have hz := bel6.size
          simp at hz
          have z6_0 : w.heap.size < w6.heap.size := by omega
          have z6_1 : w4.heap.size < w6.heap.size := by omega
          have z6_2 : w5.heap.size < w6.heap.size := by omega
          have HB6 := Lib.hid ((HB5.out.alloc (by omega) _).trans (bel6.mono (by simp; omega)))
          clear hz
          have b6 := Bs.of_own o6 (rep_lt n1)
          have t6 := Sl.of_own u6
          obtain ⟨-, -, -, m6⟩ := own_form o6
          have b5 := b5.keep1 bel6 (by simp <;> omega) (by omega)
          have t5 := t5.keep1 bel6 (by simp <;> omega) (by omega)
          clear o6 u6 bel6 HB5
          go_wp2_with fail
          refine (N3.out _).mono ?_
          rintro e w7 ⟨B7, d7, U7, f7, rfl, o7, u7, bel7⟩
          simp only at o7 u7
          obtain ⟨hc7, hf7⟩ := bcell bel7
          have hz := bel7.size
          simp at hz
          have z7_0 : w.heap.size < w7.heap.size := by omega
          have z7_1 : w4.heap.size < w7.heap.size := by omega
          have z7_2 : w5.heap.size < w7.heap.size := by omega
          have z7_3 : w6.heap.size < w7.heap.size := by omega
          have HB7 := Lib.hid ((HB6.out.alloc (by omega) _).trans (bel7.mono (by simp; omega)))
          clear hz
          have b7 := Bs.of_own o7 (rep_lt n2)
          have t7 := Sl.of_own u7
          obtain ⟨-, -, -, m7⟩ := own_form o7
          have b5 := b5.keep1 bel7 (by simp <;> omega) (by omega)
          have t5 := t5.keep1 bel7 (by simp <;> omega) (by omega)
          have b6 := b6.keep1 bel7 (by simp <;> omega) (by omega)
          have t6 := t6.keep1 bel7 (by simp <;> omega) (by omega)
          clear o7 u7 bel7 HB6
          go_wp2_with fail
          refine (N4.out _).mono ?_
          rintro e w8 ⟨B8, d8, U8, f8, rfl, o8, u8, bel8⟩
          simp only at o8 u8
          obtain ⟨hc8, hf8⟩ := bcell bel8
          have hz := bel8.size
          simp at hz
          have z8_0 : w.heap.size < w8.heap.size := by omega
          have z8_1 : w4.heap.size < w8.heap.size := by omega
          have z8_2 : w5.heap.size < w8.heap.size := by omega
          have z8_3 : w6.heap.size < w8.heap.size := by omega
          have z8_4 : w7.heap.size < w8.heap.size := by omega
          have HB8 := Lib.hid ((HB7.out.alloc (by omega) _).trans (bel8.mono (by simp; omega)))
          clear hz
          have b8 := Bs.of_own o8 (rep_lt n2)
          have t8 := Sl.of_own u8
          obtain ⟨-, -, -, m8⟩ := own_form o8
          have b5 := b5.keep1 bel8 (by simp <;> omega) (by omega)
          have t5 := t5.keep1 bel8 (by simp <;> omega) (by omega)
          have b6 := b6.keep1 bel8 (by simp <;> omega) (by omega)
          have t6 := t6.keep1 bel8 (by simp <;> omega) (by omega)
          have b7 := b7.keep1 bel8 (by simp <;> omega) (by omega)
          have t7 := t7.keep1 bel8 (by simp <;> omega) (by omega)
          clear o8 u8 bel8 HB7
          go_wp2_with fail
          refine (stk_same B5 B6 U5 U6 n1 d5 d6 n1 f5 f6 s1 _ _ _ w8.heap.size ((b5.more (by omega)).alloc (Nat.le_refl _) _) ((b6.more (by omega)).alloc (Nat.le_refl _) _) ((t5.more (by omega)).alloc (Nat.le_refl _) _) ((t6.more (by omega)).alloc (Nat.le_refl _) _) (by simp) m5 m5).mono ?_
          rintro e w9 ⟨rfl, bel9⟩
          obtain ⟨hc9, hf9⟩ := bcell bel9
          have hz := bel9.size
          simp at hz
          have z9_0 : w.heap.size < w9.heap.size := by omega
          have z9_1 : w4.heap.size < w9.heap.size := by omega
          have z9_2 : w5.heap.size < w9.heap.size := by omega
          have z9_3 : w6.heap.size < w9.heap.size := by omega
          have z9_4 : w7.heap.size < w9.heap.size := by omega
          have z9_5 : w8.heap.size < w9.heap.size := by omega
          have HB9 := Lib.hid ((HB8.out.alloc (by omega) _).trans (bel9.mono (by simp; omega)))
          have b7 := b7.keep1 bel9 (by simp <;> omega) (by omega)
          have b8 := b8.keep1 bel9 (by simp) (by omega)
          have t7 := t7.keep1 bel9 (by simp <;> omega) (by omega)
          have t8 := t8.keep1 bel9 (by simp) (by omega)
          clear hz bel9 HB8
          go_wp2_with fail
          refine (stk_same B7 B8 U7 U8 n2 d7 d8 n2 f7 f8 s2 _ _ _ w9.heap.size (b7.more (by omega)) (b8.more (by omega)) (t7.more (by omega)) (t8.more (by omega)) (by simp) m7 m7).mono ?_
          rintro e w10 ⟨rfl, bel10⟩
          obtain ⟨hc10, hf10⟩ := bcell bel10
          have hz := bel10.size
          have z10_0 : w.heap.size < w10.heap.size := by omega
          have z10_1 : w4.heap.size < w10.heap.size := by omega
          have HB10 := Lib.hid (HB9.out.trans (bel10.mono (by omega)))
          clear hz bel10 HB9
          go_wp2
          go_roundw
          case rel =>
            refine ⟨k + 1, by omega, by go_num, HB10, z10_0, z10_1, ⟨?_, ?_, ?_⟩, ?_⟩
            · clear HB10; go_simp
            · clear HB10; go_simp
            · clear HB10; go_simp
            · intro j hj
              obtain ⟨a', h1, h2, h3⟩ := HS.out j hj
              refine ⟨a', h1, h2, ?_⟩
              clear HB10 h1 h2 hca
              go_simp
          case measure => simp [intOf]; omega
        · have hk33 : k = 3 := by omega
          subst hk33
          have hr : newR 1048577 16 = (4, 0, 0) := by decide +kernel
          have hN := stknew_any 1048577 16 (by omega) (by omega) (by omega) (by omega)
          rw [hr] at hN
          have N1 := Lib.hid hN
          clear hr hN HS
          go_wp2_with fail
          refine (N1.out _).mono ?_
          rintro e w5 ⟨B5, d5, U5, f5, rfl, o5, u5, bel5⟩
          obtain ⟨hc5, hf5⟩ := bcell bel5
          have hz := bel5.size
          have z5_0 : w.heap.size < w5.heap.size := by omega
          have HB5 := Lib.hid (HB.out.trans (bel5.mono (by omega)))
          have q0 : w5.cell? ⟨w.heap.size, 0, none⟩ = some (.slice Ab rb cb) := by rw [hc5 _ _ zr]; exact p0
          have q1 : w5.cell? ⟨w.heap.size, 1, none⟩ = some (.slice Au ru cu) := by rw [hc5 _ _ zr]; exact p1
          have q2 : w5.cell? ⟨w.heap.size, 2, none⟩ = some (.int .i64 sp) := by rw [hc5 _ _ zr]; exact p2
          clear o5 u5 bel5 HB hz hc5 hf5 p0 p1 p2
          go_wp2_with fail
          have hS0 := keepS ⟨q0, q1, q2, z5_0, HB5.out⟩ (((Below.refl w5.heap.size w5).alloc (Nat.le_refl _) (Obj.cells #[.slice B5 0 d5, .slice U5 0 f5, .int .i64 0] 25)).drew)
          have HS0 := Lib.hid hS0
          clear hS0
          go_region_held3 (fun W => W.cell? ⟨w.heap.size, 0, none⟩ = some (.slice Ab rb cb) ∧ W.cell? ⟨w.heap.size, 1, none⟩ = some (.slice Au ru cu) ∧ W.cell? ⟨w.heap.size, 2, none⟩ = some (.int .i64 sp) ∧ w.heap.size < W.heap.size ∧ Below w.heap.size w W) (first | exact keepS (by assumption) bel7 | exact keepS (by assumption) bel6 | exact HS0.out) (first
            | (go_at_call 21; refine (check_any _ _ _ _ _ _ _ _).mono ?_; rintro e w6 ⟨rfl, bel6⟩)
            | (go_at_call 22; refine (refcheck_any _ _ _ _ _ _ _ _).mono ?_; rintro e w7 ⟨rfl, bel7⟩))
          have hfin := (show _ ∧ _ ∧ _ ∧ _ ∧ Below w.heap.size w w7 from by assumption).2.2.2.2
          have HF := Lib.hid hfin
          clear hfin bel6 bel7 HS0 HB5 q0 q1 q2
          go_wp2
          go_ret
          exact ⟨rfl, HF.out⟩
  · have hgt : (2000 : Int) < (rb : Int) ∨ (rb : Int) ≤ 2000 ∧ (2000 : Int) < (ru : Int) := by omega
    rcases hgt with h | ⟨h, h'⟩
    all_goals
      go_enter Try.func3, Try.ntmps3
      go_wp2_with fail
      refine (awake09 _).mono ?_
      rintro e w1 ⟨rfl, bel⟩
      obtain ⟨hc1, hf1⟩ := bcell bel
      have hz := bel.size
      simp at hz
      have z1 : w.heap.size < w1.heap.size := by omega
      have HB := Lib.hid (((Below.refl w.heap.size w).alloc (Nat.le_refl _) _).trans (bel.mono (by simp)))
      clear bel hz
      go_wp2
      go_ret
      exact ⟨rfl, HB.out⟩
end Go.Proofs.Ytcpmlcdeddmdmaa.sn
