/- The draws Next, Word and Value, with the place that only moves on. -/
import Derived.Test.YtgamodmenlhedaaL9
namespace Go.Proofs.Ytgamodmenlhedaa
open Go.RowKit
set_option linter.unusedVariables false
set_option maxRecDepth 10000

/-- what a choice leaves: a number below n, and a later place -/
def NextM (w : World) (g : Nat) (B : Nat) (A : Option Addr) (n c : Nat) (l : List Nat) (p : Nat) (m : Int) (e : Ending) (w' : World) : Prop :=
  ∃ v p' k : Nat, (v = 0 ∨ (v : Int) < m) ∧ e = .returned (.int .i64 v) ∧ w' = (w.setCell ⟨g, 1, none⟩ (.int .i64 p')).drewN k ∧ CodesAt w' B g A n c l p' ∧ p ≤ p' ∧ (p < n → 1 ≤ m → p < p')

set_option maxHeartbeats 1000000 in
theorem nextm_any (B g : Nat) (A : Option Addr) (n c : Nat) (l : List Nat) (p : Nat) (m : Int) (w : World) (h : CodesAt w B g A n c l p) (hm : m ≤ 1000000) (hm0 : -1000000 ≤ m) :
    Calls Try.prog 28 #[.pointer (some ⟨g, 0, none⟩), .int .i64 m] w (NextM w g B A n c l p m) := by
  obtain ⟨hb, hs, hp, hB, hn⟩ := h
  have c0 := hb.cell 0
  have c1 := hb.cell 1
  have fr := hb.frozen 1
  have hlt := hb.lt
  simp at c0 c1
  have HB := Lib.hid hb
  have HS := Lib.hid hs
  by_cases hl : p < n
  · obtain ⟨ad, rfl, hbl, hcell⟩ := hs.at_ hl
    have hx := hs.lt p
    generalize l.getD p 0 = x at *
    have hpi : (p : Int) < (n : Int) := by omega
    have hp0 : (0 : Int) ≤ (p : Int) := by omega
    clear hb hs
    by_cases hm1 : 1 ≤ m
    · go_enter Try.func28, Try.ntmps28
      go_wp2_with fail
      refine (left_any g _ n c p w HB.out).mono ?_
      rintro e w1 ⟨rfl, k, rfl⟩
      rw [show decide (p < n) = true by simpa using hl]
      go_wp2_with fail
      have hxm0 : 0 ≤ (x : Int) * m := Int.mul_nonneg (by omega) (by omega)
      have hxm1 : (x : Int) * m ≤ 255 * m := Int.mul_le_mul_of_nonneg_right (by omega) (by omega)
      have hxm2 : (x : Int) * m ≤ 255000000 := by omega
      have HXM := Lib.hid hxm1
      clear hxm1
      go_quiet (fail)
      go_wp2
      go_ret
      refine ⟨((x : Int) * m / 256).toNat, p + 1, _, .inr ?_, ret_int ?_, rfl, ⟨HB.out.set_ 1 _, ?_, by omega, hB, hn⟩, by omega, by omega⟩
      · have := HXM.out
        omega
      · omega
      · exact ⟨HS.out.1.setCell (by simpa using hB) _, HS.out.2⟩
    · go_enter Try.func28, Try.ntmps28
      go_wp2_with fail
      refine (left_any g _ n c p w HB.out).mono ?_
      rintro e w1 ⟨rfl, k, rfl⟩
      rw [show decide (p < n) = true by simpa using hl]
      go_wp2
      go_ret
      exact ⟨0, p, k, .inl rfl, rfl, by rw [setCell_self HB.out (by simp)], ⟨HB.out.drewN k, HS.out.drewN k, hp, hB, hn⟩, by omega, by omega⟩
  · clear hb hs
    go_enter Try.func28, Try.ntmps28
    go_wp2_with fail
    refine (left_any g _ n c p w HB.out).mono ?_
    rintro e w1 ⟨rfl, k, rfl⟩
    rw [show decide (p < n) = false by simpa using hl]
    go_wp2
    go_ret
    exact ⟨0, p, k, .inl rfl, rfl, by rw [setCell_self HB.out (by simp)], ⟨HB.out.drewN k, HS.out.drewN k, hp, hB, hn⟩, by omega, by omega⟩
/-- a choice, and the list of choices behind it -/
theorem next_m (B g : Nat) (A : Option Addr) (n c : Nat) (l : List Nat) (p : Nat) (m : Int) (w : World) (h : CodesAt w B g A n c l p) (hm : m ≤ 1000000) (hm0 : -1000000 ≤ m) :
    Calls Try.prog 28 #[.pointer (some ⟨g, 0, none⟩), .int .i64 m] w fun e w' => ∃ v p' : Nat, (v = 0 ∨ (v : Int) < m) ∧ e = .returned (.int .i64 v) ∧ CodesAt w' B g A n c l p' ∧ w.grownBy w' (some g) ∧ p ≤ p' ∧ (p < n → 1 ≤ m → p < p') :=
  (nextm_any B g A n c l p m w h hm hm0).mono fun e w' hh => by
    obtain ⟨v, p', k, hv, rfl, rfl, hc, hq⟩ := hh
    refine ⟨v, p', hv, rfl, hc, grownBy_trans ?_ (grownBy_drewN' _ k _), hq⟩
    exact ⟨rfl, rfl, rfl, by simp [World.setCell], fun j hj hn => Below.heap_setCell w ⟨g, 1, none⟩ _ j (fun e => hn (by rw [e]))⟩
set_option maxHeartbeats 1000000 in
theorem word_m (B g : Nat) (A : Option Addr) (n c : Nat) (l : List Nat) (p : Nat) (w : World) (h : CodesAt w B g A n c l p) :
    Calls Try.prog 65 #[.pointer (some ⟨g, 0, none⟩)] w fun e w' => ∃ v p' : Nat, v < 18446744073709551616 ∧ e = .returned (.int .u64 v) ∧ CodesAt w' B g A n c l p' ∧ w.grownBy w' (some g) ∧ p ≤ p' := by
  have HC := Lib.hid h
  clear h
  go_enter Try.func65, Try.ntmps65
  go_wp2_with fail
  refine (next_m _ _ _ _ _ _ _ 6 _ HC.out (by omega) (by omega)).mono ?_
  rintro e w1 ⟨v, p1, hv, rfl, c1, g1, le1, -⟩
  have HC1 := Lib.hid c1
  have HG1 := Lib.hid g1
  clear HC c1 g1
  have hcase : v = 0 ∨ v = 1 ∨ v = 2 ∨ (3 ≤ v ∧ v < 6) := by omega
  clear hv
  rcases hcase with rfl | rfl | rfl | ⟨h3, h6⟩
  · go_wp2_with fail
    refine (next_m _ _ _ _ _ _ _ 3 _ HC1.out (by omega) (by omega)).mono ?_
    rintro e w2 ⟨v, p2, hv, rfl, c2, g2, le2, -⟩
    go_wp2
    go_ret
    obtain ⟨y, hy, e⟩ := u64_ex (18446744073709551615 - (v : Int)) (by omega) (by omega)
    exact ⟨y, p2, hy, ret_int e, c2, grownBy_trans HG1.out g2, by omega⟩
  · go_wp2_with fail
    refine (next_m _ _ _ _ _ _ _ 64 _ HC1.out (by omega) (by omega)).mono ?_
    rintro e w2 ⟨v, p2, hv, rfl, c2, g2, le2, -⟩
    have hv0 : (0 : Int) ≤ (v : Int) := by omega
    have hv1 : (v : Int) < 64 := by omega
    have hv2 : v < 64 := by omega
    go_wp2
    go_ret
    obtain ⟨y, hy, e⟩ := wrap_ex (2 ^ v)
    exact ⟨y, p2, hy, ret_int e, c2, grownBy_trans HG1.out g2, by omega⟩
  · go_wp2
    go_ret
    exact ⟨0, p1, by omega, rfl, HC1.out, HG1.out, by omega⟩
  · have h3' : ¬ (v = 0) := by omega
    have h4' : ¬ (v = 1) := by omega
    have h5' : ¬ (v = 2) := by omega
    have h3'' : ¬ ((v : Int) = 0) := by omega
    have h4'' : ¬ ((v : Int) = 1) := by omega
    have h5'' : ¬ ((v : Int) = 2) := by omega
    go_wp2_with fail
    refine (next_m _ _ _ _ _ _ _ 256 _ HC1.out (by omega) (by omega)).mono ?_
    rintro e w2 ⟨v, p2, hv, rfl, c2, g2, le2, -⟩
    go_wp2
    go_ret
    exact ⟨v, p2, by omega, rfl, c2, grownBy_trans HG1.out g2, by omega⟩

set_option maxHeartbeats 1000000 in
theorem value_m (B g : Nat) (A : Option Addr) (n c : Nat) (l : List Nat) (p : Nat) (w : World) (h : CodesAt w B g A n c l p) :
    Calls Try.prog 32 #[.pointer (some ⟨g, 0, none⟩)] w fun e w' => ∃ a b p' : Nat, (a < 18446744073709551616 ∧ b < 18446744073709551616) ∧ e = .returned (.agg #[.int .u64 a, .int .u64 b]) ∧ CodesAt w' B g A n c l p' ∧ w.grownBy w' (some g) ∧ p ≤ p' := by
  have HC := Lib.hid h
  have hg := h.1.lt
  have HR0 := Lib.hid (show Blk (w.alloc (.cells #[.int .u64 0, .int .u64 0] 52)) w.heap.size 52 #[.int .u64 0, .int .u64 0] from Blk.new w _ _)
  clear h
  go_enter Try.func32, Try.ntmps32
  go_wp2_with fail
  refine (word_m _ _ _ _ _ _ _ _ (HC.out.alloc _)).mono ?_
  rintro e w1 ⟨x, p1, hx, rfl, c1, g1, le1⟩
  have HC1 := Lib.hid c1
  have HG1 := Lib.hid (grownBy_trans (grownBy_of_below ((Below.refl w.heap.size w).alloc (Nat.le_refl _) _) (some g)) g1)
  have HR1 := Lib.hid (HR0.out.grown g1 (by intro e; injection e; omega))
  have hg1 := HC1.out.1.lt
  clear HC c1 g1 HR0
  go_wp2_with fail
  refine (next_m _ _ _ _ _ _ _ 2 _ (HC1.out.alloc _) (by omega) (by omega)).mono ?_
  rintro e w2 ⟨v, p2, hv, rfl, c2, g2, le2, -⟩
  have HV2 := Lib.hid ((Blk.new w1 52 #[.int .u64 x, .int .u64 0]).grown g2 (by intro e; injection e; omega))
  have HR2 := Lib.hid ((HR1.out.alloc (.cells #[.int .u64 x, .int .u64 0] 52)).grown g2 (by intro e; injection e; omega))
  have HC2 := Lib.hid c2
  have HG2 := Lib.hid (grownBy_trans HG1.out (grownBy_trans (grownBy_of_below ((Below.refl w1.heap.size w1).alloc (Nat.le_refl _) _) (some g)) g2))
  have l12 : w.heap.size < w1.heap.size := HR1.out.lt
  clear HC1 c2 g2 HR1 HG1
  have hcase : v = 1 ∨ v = 0 := by omega
  clear hv
  rcases hcase with rfl | rfl
  · go_wp2_with fail
    refine (word_m _ _ _ _ _ _ _ _ HC2.out).mono ?_
    rintro e w3 ⟨y, p3, hy, rfl, c3, g3, le3⟩
    have HV3 := Lib.hid (HV2.out.grown g3 (by intro e; injection e; omega))
    have HR3 := Lib.hid (HR2.out.grown g3 (by intro e; injection e; omega))
    have HC3 := Lib.hid c3
    have HG3 := Lib.hid (grownBy_trans HG2.out g3)
    clear c3 g3 HV2 HR2 HC2 HG2
    obtain ⟨q0, q1, f0, f1, z0⟩ := HR3.out.two
    obtain ⟨r0, r1, k0, k1, z1⟩ := HV3.out.two
    go_wp2
    have hB := HC3.out.2.2.2.1
    refine bodyPost_ret (v := .agg #[.int .u64 x, .int .u64 y]) (by simp [results, Try.results32, go_sem, *]) rfl ?_
    exact ⟨x, y, p3, ⟨hx, hy⟩, rfl, ((HC3.out.set (by simp; omega) (by simp; omega) _).set (by simp; omega) (by simp; omega) _).set (by simp; omega) (by simp; omega) _, grownBy_set (grownBy_set (grownBy_set HG3.out (by simp; omega) _) (by simp) _) (by simp) _, by omega⟩
  · obtain ⟨q0, q1, f0, f1, z0⟩ := HR2.out.two
    obtain ⟨r0, r1, k0, k1, z1⟩ := HV2.out.two
    go_wp2
    have hB := HC2.out.2.2.2.1
    refine bodyPost_ret (v := .agg #[.int .u64 x, .int .u64 (0 : Nat)]) (by simp [results, Try.results32, go_sem, *]) rfl ?_
    exact ⟨x, 0, p2, ⟨hx, by omega⟩, rfl, (HC2.out.set (by simp; omega) (by simp; omega) _).set (by simp; omega) (by simp; omega) _, grownBy_set (grownBy_set HG2.out (by simp) _) (by simp) _, by omega⟩


theorem GB.al {w W : World} {r : Option Nat} (h : w.grownBy W r) (o : Obj) : w.grownBy (W.alloc o) r := ⟨h.os, h.tape, h.output, Nat.le_trans h.size (by simp), fun i hi hne => (Below.heap_alloc W o i (Nat.lt_of_lt_of_le hi h.size)).trans (h.block i hi hne)⟩
theorem GB.put {w W : World} {g gb n c m d : Nat} {A U : Option Addr} {sp : Int} (h : w.grownBy W (some g)) (hg : w.heap.size ≤ gb) : w.grownBy (putStk W gb A n c U m d sp) (some g) :=
  grownBy_set (grownBy_set (grownBy_set h hg _) hg _) hg _
theorem GB.step {w W W' : World} {g : Nat} (h : w.grownBy W (some g)) (hb : Below W.heap.size W W') : w.grownBy W' (some g) := grownBy_trans h (grownBy_of_below hb _)
end Go.Proofs.Ytgamodmenlhedaa
