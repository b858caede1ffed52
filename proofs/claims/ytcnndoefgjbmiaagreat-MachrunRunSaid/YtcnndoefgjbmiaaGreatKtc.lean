/- Contracts of the reference: ref26.Instr. -/
import Derived.Test.YtcnndoefgjbmiaaGreatGKt
import Derived.Test.YtcnndoefgjbmiaaGreatKd
import Derived.StillTailTactics
set_option linter.unusedVariables false
set_option maxRecDepth 10000
set_option maxHeartbeats 8000000
namespace Go.Proofs.YtcnndoefgjbmiaaGreat.pm
open Go.RowKit
section
variable {np nc : Nat} {prm : Int} {sl : List (Int × Int)} {x : Ins}
theorem vi_load (h : Vi np prm sl nc x) (ho : x.op = 15) : 0 ≤ x.b ∧ x.b < sl.length := by
 rcases h with ⟨_, h⟩ | ⟨a, h0, h1⟩ | ⟨a, b, h0, h1, h2, h3⟩
 · cases h <;> simp only at ho ⊢ <;> omega
 · simp only at ho; omega
 · simp only at ho; omega
theorem vi_store (h : Vi np prm sl nc x) (ho : x.op = 16) : 0 ≤ x.a ∧ x.a < sl.length := by
 rcases h with ⟨_, h⟩ | ⟨a, h0, h1⟩ | ⟨a, b, h0, h1, h2, h3⟩
 · cases h <;> simp only at ho ⊢ <;> omega
 · simp only at ho; omega
 · simp only at ho; omega
theorem vi_move (h : Vi np prm sl nc x) (ho : x.op = 17) : (0 ≤ x.a ∧ x.a < sl.length) ∧ 0 ≤ x.b ∧ x.b < sl.length := by
 rcases h with ⟨_, h⟩ | ⟨a, h0, h1⟩ | ⟨a, b, h0, h1, h2, h3⟩
 · cases h <;> simp only at ho ⊢ <;> omega
 · simp only at ho; omega
 · simp only at ho; omega
theorem vi_arg (h : Vi np prm sl nc x) (ho : x.op = 18) : 0 ≤ x.a ∧ x.a ≤ 8 := by
 rcases h with ⟨_, h⟩ | ⟨a, h0, h1⟩ | ⟨a, b, h0, h1, h2, h3⟩
 · cases h <;> simp only at ho ⊢ <;> omega
 · simp only at ho; omega
 · simp only at ho; omega
theorem vi_param (h : Vi np prm sl nc x) (ho : x.op = 19) : 0 ≤ x.b ∧ x.b < prm := by
 rcases h with ⟨_, h⟩ | ⟨a, h0, h1⟩ | ⟨a, b, h0, h1, h2, h3⟩
 · cases h <;> simp only at ho ⊢ <;> omega
 · simp only at ho; omega
 · simp only at ho; omega
end
section
variable {prm : Int} {sl : List (Int × Int)} {code : List Ins} {y : Lay} {As Ai Ao : Option Addr} {cs ci co nc lo hi lo' hi' : Nat}
theorem low_15 (a b c im : Int) (hb0 : 0 ≤ b) (hb1 : b < sl.length) (hz0 : 0 ≤ y.size) (hz1 : y.size ≤ 671) (hl : y.off.length = sl.length) (hm : sl.length ≤ 1000) (w : World) (hs : Sx w lo hi As sl) (hy : Ix w lo' hi' Ao y.off) (hh : hi ≤ w.heap.size) (hh' : hi' ≤ w.heap.size) :
 Calls Tryz.prog 63 #[.agg #[.int .i64 prm, .slice As sl.length cs, .slice Ai nc ci], .agg #[.int .i64 y.args, .int .i64 y.size, .slice Ao y.off.length co], .agg #[.int .i64 15, .int .i64 a, .int .i64 b, .int .i64 c, .int .u64 im]] w fun e w' => e = .returned (insV (lowI sl y ⟨15, a, b, c, im⟩)) ∧ Below w.heap.size w w' := by
 obtain ⟨ya, ys, yo⟩ := y
 simp only at hz0 hz1 hl hy ⊢
 obtain ⟨W1, hW1⟩ : ∃ W1, W1 = (((w.alloc (.cells #[.int .i64 prm, .slice As sl.length cs, .slice Ai nc ci] 97)).alloc (.cells #[.int .i64 ya, .int .i64 ys, .slice Ao yo.length co] 101)).alloc (.cells #[.int .i64 15, .int .i64 a, .int .i64 b, .int .i64 c, .int .u64 im] 50)).alloc (.cells #[.int .i64 0, .int .i64 0, .int .i64 0, .int .i64 0, .int .u64 0] 50) := ⟨_, rfl⟩
 have hB1 : Below w.heap.size w W1 := by rw [hW1]; exact Below.al (Below.al (Below.al (Below.al bR _) _) _) _
 have HF : Hid (Blk W1 w.heap.size 97 #[.int .i64 prm, .slice As sl.length cs, .slice Ai nc ci]) := hQ (by rw [hW1]; exact (((Blk.new _ _ _).alloc _).alloc _).alloc _)
 have HY : Hid (Blk W1 (w.heap.size + 1) 101 #[.int .i64 ya, .int .i64 ys, .slice Ao yo.length co]) := hQ (by rw [hW1]; exact ((Blk.newAt (by simp)).alloc _).alloc _)
 have HX : Hid (Blk W1 (w.heap.size + 1 + 1) 50 #[.int .i64 15, .int .i64 a, .int .i64 b, .int .i64 c, .int .u64 im]) := hQ (by rw [hW1]; exact (Blk.newAt (by simp)).alloc _)
 have HR : Hid (Blk W1 (w.heap.size + 1 + 1 + 1) 50 #[.int .i64 0, .int .i64 0, .int .i64 0, .int .i64 0, .int .u64 0]) := hQ (by rw [hW1]; exact Blk.newAt (by simp))
 have hs1 := hs.keep (Kp.of_below hB1 hh)
 have hy1 := hy.keep (Kp.of_below hB1 hh')
 have HB1 := hQ hB1
 have HW1 := hQ hW1
 have hli : (sl.length : Int) ≤ 1000 := by omega
 have hyi : (yo.length : Int) = (sl.length : Int) := by omega
 clear hW1 hB1 hs hy
 obtain ⟨k, hk⟩ : ∃ k, k = b.toNat := ⟨_, rfl⟩
 have hkb : b = (k : Int) := by omega
 have hk1 : k < sl.length := by omega
 obtain ⟨as_, rfl, hbs, s0, -⟩ := hs1.at_ hk1
 obtain ⟨ao, rfl, hbo, o0, o0'⟩ := hy1.at_ (show k < yo.length by omega)
 have HL : Hid (lowI sl ⟨ya, ys, yo⟩ ⟨15, a, b, c, im⟩ = ⟨15, a, yo.getD k 0, (sl.getD k (0, 0)).1, 0⟩) := hQ (by rw [hk]; rfl)
 obtain ⟨ov, hov⟩ : ∃ ov, ov = yo.getD k 0 := ⟨_, rfl⟩
 obtain ⟨sv, hsv⟩ : ∃ sv, sv = (sl.getD k (0, 0)).1 := ⟨_, rfl⟩
 rw [← hov] at o0 o0' HL
 rw [← hsv] at s0 HL
 have hk0 : (0 : Int) ≤ (k : Int) := by omega
 have hk2 : (k : Int) < (sl.length : Int) := by omega
 have hk3 : (k : Int) < (yo.length : Int) := by omega
 clear hk hov hsv hs1 hy1 hyi hl 
 subst hkb
 obtain ⟨gR, hgR⟩ : ∃ g, g = w.heap.size + 1 + 1 + 1 := ⟨_, rfl⟩
 rw [← hgR] at HR
 have hle : w.heap.size ≤ gR := by omega
 go_enter Tryz.func63, Tryz.ntmps63
 go_upto_region 1 with (fail)
 rw [← HW1.out, ← hgR]
 clear HW1 hgR
 obtain ⟨f0, f1, f2, -, -, -, fz⟩ := HF.out.c3
 obtain ⟨y0, y1, y2, -, -, -, yz⟩ := HY.out.c3
 obtain ⟨x0, x1, x2, x3, x4, -, -, -, -, -, xz⟩ := HX.out.c5
 obtain ⟨r0, r1, r2, r3, r4, z0, z1, z2, z3, z4, rz⟩ := HR.out.c5
 go_wp2_with fail
 go_still_tail 16, (by kernel_rfl)
 change wpList _ _ _ _ _ W1.drew
 clear f0 f1 f2 fz y0 y1 y2 yz x0 x1 x2 x3 x4 xz r0 r1 r2 r3 r4 z0 z1 z2 z3 z4 rz
 have HR2 : Hid (Blk W1.drew gR 50 #[.int .i64 0, .int .i64 0, .int .i64 0, .int .i64 0, .int .u64 0]) := hQ HR.out.drew
 have HB2 : Hid (Below w.heap.size w W1.drew) := hQ (Below.drew HB1.out)
 generalize W1.drew = W2 at *
 obtain ⟨r0, r1, r2, r3, r4, z0, z1, z2, z3, z4, rz⟩ := HR2.out.c5
 have HB5 := hQ ((below_put5 (w := W2) HB2.out hle (.int .i64 15) (.int .i64 a) (.int .i64 ov) (.int .i64 sv) (.int .u64 0)))
 have HR5 := hQ ((Blk.put5 (w := W2) HR2.out (.int .i64 15) (.int .i64 a) (.int .i64 ov) (.int .i64 sv) (.int .u64 0)))
 go_wp2
 clear r0 r1 r2 r3 r4 z0 z1 z2 z3 z4 rz
 generalize ((((W2.setCell ⟨gR, 0, none⟩ (.int .i64 15)).setCell ⟨gR, 1, none⟩ (.int .i64 a)).setCell ⟨gR, 2, none⟩ (.int .i64 ov)).setCell ⟨gR, 3, none⟩ (.int .i64 sv)).setCell ⟨gR, 4, none⟩ (.int .u64 0) = Wz at *
 obtain ⟨q0, q1, q2, q3, q4, -, -, -, -, -, qz⟩ := HR5.out.c5
 exact bodyPost_ret (v := .agg #[.int .i64 15, .int .i64 a, .int .i64 ov, .int .i64 sv, .int .u64 0]) (by simp [results, Tryz.results63, go_sem, q0, q1, q2, q3, q4]) rfl ⟨by rw [HL.out]; rfl, HB5.out⟩
theorem low_16 (a b c im : Int) (ha0 : 0 ≤ a) (ha1 : a < sl.length) (hz0 : 0 ≤ y.size) (hz1 : y.size ≤ 671) (hl : y.off.length = sl.length) (hm : sl.length ≤ 1000) (w : World) (hs : Sx w lo hi As sl) (hy : Ix w lo' hi' Ao y.off) (hh : hi ≤ w.heap.size) (hh' : hi' ≤ w.heap.size) :
 Calls Tryz.prog 63 #[.agg #[.int .i64 prm, .slice As sl.length cs, .slice Ai nc ci], .agg #[.int .i64 y.args, .int .i64 y.size, .slice Ao y.off.length co], .agg #[.int .i64 16, .int .i64 a, .int .i64 b, .int .i64 c, .int .u64 im]] w fun e w' => e = .returned (insV (lowI sl y ⟨16, a, b, c, im⟩)) ∧ Below w.heap.size w w' := by
 obtain ⟨ya, ys, yo⟩ := y
 simp only at hz0 hz1 hl hy ⊢
 obtain ⟨W1, hW1⟩ : ∃ W1, W1 = (((w.alloc (.cells #[.int .i64 prm, .slice As sl.length cs, .slice Ai nc ci] 97)).alloc (.cells #[.int .i64 ya, .int .i64 ys, .slice Ao yo.length co] 101)).alloc (.cells #[.int .i64 16, .int .i64 a, .int .i64 b, .int .i64 c, .int .u64 im] 50)).alloc (.cells #[.int .i64 0, .int .i64 0, .int .i64 0, .int .i64 0, .int .u64 0] 50) := ⟨_, rfl⟩
 have hB1 : Below w.heap.size w W1 := by rw [hW1]; exact Below.al (Below.al (Below.al (Below.al bR _) _) _) _
 have HF : Hid (Blk W1 w.heap.size 97 #[.int .i64 prm, .slice As sl.length cs, .slice Ai nc ci]) := hQ (by rw [hW1]; exact (((Blk.new _ _ _).alloc _).alloc _).alloc _)
 have HY : Hid (Blk W1 (w.heap.size + 1) 101 #[.int .i64 ya, .int .i64 ys, .slice Ao yo.length co]) := hQ (by rw [hW1]; exact ((Blk.newAt (by simp)).alloc _).alloc _)
 have HX : Hid (Blk W1 (w.heap.size + 1 + 1) 50 #[.int .i64 16, .int .i64 a, .int .i64 b, .int .i64 c, .int .u64 im]) := hQ (by rw [hW1]; exact (Blk.newAt (by simp)).alloc _)
 have HR : Hid (Blk W1 (w.heap.size + 1 + 1 + 1) 50 #[.int .i64 0, .int .i64 0, .int .i64 0, .int .i64 0, .int .u64 0]) := hQ (by rw [hW1]; exact Blk.newAt (by simp))
 have hs1 := hs.keep (Kp.of_below hB1 hh)
 have hy1 := hy.keep (Kp.of_below hB1 hh')
 have HB1 := hQ hB1
 have HW1 := hQ hW1
 have hli : (sl.length : Int) ≤ 1000 := by omega
 have hyi : (yo.length : Int) = (sl.length : Int) := by omega
 clear hW1 hB1 hs hy
 obtain ⟨k, hk⟩ : ∃ k, k = a.toNat := ⟨_, rfl⟩
 have hkb : a = (k : Int) := by omega
 have hk1 : k < sl.length := by omega
 obtain ⟨as_, rfl, hbs, s0, -⟩ := hs1.at_ hk1
 obtain ⟨ao, rfl, hbo, o0, o0'⟩ := hy1.at_ (show k < yo.length by omega)
 have HL : Hid (lowI sl ⟨ya, ys, yo⟩ ⟨16, a, b, c, im⟩ = ⟨16, yo.getD k 0, b, (sl.getD k (0, 0)).1, 0⟩) := hQ (by rw [hk]; rfl)
 obtain ⟨ov, hov⟩ : ∃ ov, ov = yo.getD k 0 := ⟨_, rfl⟩
 obtain ⟨sv, hsv⟩ : ∃ sv, sv = (sl.getD k (0, 0)).1 := ⟨_, rfl⟩
 rw [← hov] at o0 o0' HL
 rw [← hsv] at s0 HL
 have hk0 : (0 : Int) ≤ (k : Int) := by omega
 have hk2 : (k : Int) < (sl.length : Int) := by omega
 have hk3 : (k : Int) < (yo.length : Int) := by omega
 clear hk hov hsv hs1 hy1 hyi hl 
 subst hkb
 obtain ⟨gR, hgR⟩ : ∃ g, g = w.heap.size + 1 + 1 + 1 := ⟨_, rfl⟩
 rw [← hgR] at HR
 have hle : w.heap.size ≤ gR := by omega
 go_enter Tryz.func63, Tryz.ntmps63
 go_upto_region 1 with (fail)
 rw [← HW1.out, ← hgR]
 clear HW1 hgR
 obtain ⟨f0, f1, f2, -, -, -, fz⟩ := HF.out.c3
 obtain ⟨y0, y1, y2, -, -, -, yz⟩ := HY.out.c3
 obtain ⟨x0, x1, x2, x3, x4, -, -, -, -, -, xz⟩ := HX.out.c5
 obtain ⟨r0, r1, r2, r3, r4, z0, z1, z2, z3, z4, rz⟩ := HR.out.c5
 go_wp2_with fail
 go_still_tail 16, (by kernel_rfl)
 change wpList _ _ _ _ _ W1.drew
 clear f0 f1 f2 fz y0 y1 y2 yz x0 x1 x2 x3 x4 xz r0 r1 r2 r3 r4 z0 z1 z2 z3 z4 rz
 have HR2 : Hid (Blk W1.drew gR 50 #[.int .i64 0, .int .i64 0, .int .i64 0, .int .i64 0, .int .u64 0]) := hQ HR.out.drew
 have HB2 : Hid (Below w.heap.size w W1.drew) := hQ (Below.drew HB1.out)
 generalize W1.drew = W2 at *
 obtain ⟨r0, r1, r2, r3, r4, z0, z1, z2, z3, z4, rz⟩ := HR2.out.c5
 have HB5 := hQ ((below_put5 (w := W2) HB2.out hle (.int .i64 16) (.int .i64 ov) (.int .i64 b) (.int .i64 sv) (.int .u64 0)))
 have HR5 := hQ ((Blk.put5 (w := W2) HR2.out (.int .i64 16) (.int .i64 ov) (.int .i64 b) (.int .i64 sv) (.int .u64 0)))
 go_wp2
 clear r0 r1 r2 r3 r4 z0 z1 z2 z3 z4 rz
 generalize ((((W2.setCell ⟨gR, 0, none⟩ (.int .i64 16)).setCell ⟨gR, 1, none⟩ (.int .i64 ov)).setCell ⟨gR, 2, none⟩ (.int .i64 b)).setCell ⟨gR, 3, none⟩ (.int .i64 sv)).setCell ⟨gR, 4, none⟩ (.int .u64 0) = Wz at *
 obtain ⟨q0, q1, q2, q3, q4, -, -, -, -, -, qz⟩ := HR5.out.c5
 exact bodyPost_ret (v := .agg #[.int .i64 16, .int .i64 ov, .int .i64 b, .int .i64 sv, .int .u64 0]) (by simp [results, Tryz.results63, go_sem, q0, q1, q2, q3, q4]) rfl ⟨by rw [HL.out]; rfl, HB5.out⟩
theorem low_17 (a b c im : Int) (ha0 : 0 ≤ a) (ha1 : a < sl.length) (hb0 : 0 ≤ b) (hb1 : b < sl.length) (hz0 : 0 ≤ y.size) (hz1 : y.size ≤ 671) (hl : y.off.length = sl.length) (hm : sl.length ≤ 1000) (w : World) (hs : Sx w lo hi As sl) (hy : Ix w lo' hi' Ao y.off) (hh : hi ≤ w.heap.size) (hh' : hi' ≤ w.heap.size) :
 Calls Tryz.prog 63 #[.agg #[.int .i64 prm, .slice As sl.length cs, .slice Ai nc ci], .agg #[.int .i64 y.args, .int .i64 y.size, .slice Ao y.off.length co], .agg #[.int .i64 17, .int .i64 a, .int .i64 b, .int .i64 c, .int .u64 im]] w fun e w' => e = .returned (insV (lowI sl y ⟨17, a, b, c, im⟩)) ∧ Below w.heap.size w w' := by
 obtain ⟨ya, ys, yo⟩ := y
 simp only at hz0 hz1 hl hy ⊢
 obtain ⟨W1, hW1⟩ : ∃ W1, W1 = (((w.alloc (.cells #[.int .i64 prm, .slice As sl.length cs, .slice Ai nc ci] 97)).alloc (.cells #[.int .i64 ya, .int .i64 ys, .slice Ao yo.length co] 101)).alloc (.cells #[.int .i64 17, .int .i64 a, .int .i64 b, .int .i64 c, .int .u64 im] 50)).alloc (.cells #[.int .i64 0, .int .i64 0, .int .i64 0, .int .i64 0, .int .u64 0] 50) := ⟨_, rfl⟩
 have hB1 : Below w.heap.size w W1 := by rw [hW1]; exact Below.al (Below.al (Below.al (Below.al bR _) _) _) _
 have HF : Hid (Blk W1 w.heap.size 97 #[.int .i64 prm, .slice As sl.length cs, .slice Ai nc ci]) := hQ (by rw [hW1]; exact (((Blk.new _ _ _).alloc _).alloc _).alloc _)
 have HY : Hid (Blk W1 (w.heap.size + 1) 101 #[.int .i64 ya, .int .i64 ys, .slice Ao yo.length co]) := hQ (by rw [hW1]; exact ((Blk.newAt (by simp)).alloc _).alloc _)
 have HX : Hid (Blk W1 (w.heap.size + 1 + 1) 50 #[.int .i64 17, .int .i64 a, .int .i64 b, .int .i64 c, .int .u64 im]) := hQ (by rw [hW1]; exact (Blk.newAt (by simp)).alloc _)
 have HR : Hid (Blk W1 (w.heap.size + 1 + 1 + 1) 50 #[.int .i64 0, .int .i64 0, .int .i64 0, .int .i64 0, .int .u64 0]) := hQ (by rw [hW1]; exact Blk.newAt (by simp))
 have hs1 := hs.keep (Kp.of_below hB1 hh)
 have hy1 := hy.keep (Kp.of_below hB1 hh')
 have HB1 := hQ hB1
 have HW1 := hQ hW1
 have hli : (sl.length : Int) ≤ 1000 := by omega
 have hyi : (yo.length : Int) = (sl.length : Int) := by omega
 clear hW1 hB1 hs hy
 obtain ⟨k, hk⟩ : ∃ k, k = a.toNat := ⟨_, rfl⟩
 have hkb : a = (k : Int) := by omega
 have hk1 : k < sl.length := by omega
 obtain ⟨as_, rfl, hbs, s0, -⟩ := hs1.at_ hk1
 obtain ⟨ao, rfl, hbo, o0, o0'⟩ := hy1.at_ (show k < yo.length by omega)
 obtain ⟨q, hq⟩ : ∃ q, q = b.toNat := ⟨_, rfl⟩
 have hqb : b = (q : Int) := by omega
 have hq1 : q < sl.length := by omega
 obtain ⟨ao', e', hbo', u0, u0'⟩ := hy1.at_ (show q < yo.length by omega)
 obtain rfl : ao = ao' := by injection e'
 clear e'
 have HL : Hid (lowI sl ⟨ya, ys, yo⟩ ⟨17, a, b, c, im⟩ = ⟨17, yo.getD k 0, yo.getD q 0, (sl.getD k (0, 0)).1, 0⟩) := hQ (by rw [hk]; rw [hq]; rfl)
 obtain ⟨ov, hov⟩ : ∃ ov, ov = yo.getD k 0 := ⟨_, rfl⟩
 obtain ⟨sv, hsv⟩ : ∃ sv, sv = (sl.getD k (0, 0)).1 := ⟨_, rfl⟩
 rw [← hov] at o0 o0' HL
 rw [← hsv] at s0 HL
 obtain ⟨uv, huv⟩ : ∃ uv, uv = yo.getD q 0 := ⟨_, rfl⟩
 rw [← huv] at u0 u0' HL
 have hq0 : (0 : Int) ≤ (q : Int) := by omega
 have hq2 : (q : Int) < (sl.length : Int) := by omega
 have hq3 : (q : Int) < (yo.length : Int) := by omega
 have hk0 : (0 : Int) ≤ (k : Int) := by omega
 have hk2 : (k : Int) < (sl.length : Int) := by omega
 have hk3 : (k : Int) < (yo.length : Int) := by omega
 clear hk hov hsv hs1 hy1 hyi hl hq huv
 subst hkb
 subst hqb
 obtain ⟨gR, hgR⟩ : ∃ g, g = w.heap.size + 1 + 1 + 1 := ⟨_, rfl⟩
 rw [← hgR] at HR
 have hle : w.heap.size ≤ gR := by omega
 go_enter Tryz.func63, Tryz.ntmps63
 go_upto_region 1 with (fail)
 rw [← HW1.out, ← hgR]
 clear HW1 hgR
 obtain ⟨f0, f1, f2, -, -, -, fz⟩ := HF.out.c3
 obtain ⟨y0, y1, y2, -, -, -, yz⟩ := HY.out.c3
 obtain ⟨x0, x1, x2, x3, x4, -, -, -, -, -, xz⟩ := HX.out.c5
 obtain ⟨r0, r1, r2, r3, r4, z0, z1, z2, z3, z4, rz⟩ := HR.out.c5
 go_wp2_with fail
 go_still_tail 20, (by kernel_rfl)
 change wpList _ _ _ _ _ W1.drew
 clear f0 f1 f2 fz y0 y1 y2 yz x0 x1 x2 x3 x4 xz r0 r1 r2 r3 r4 z0 z1 z2 z3 z4 rz
 have HR2 : Hid (Blk W1.drew gR 50 #[.int .i64 0, .int .i64 0, .int .i64 0, .int .i64 0, .int .u64 0]) := hQ HR.out.drew
 have HB2 : Hid (Below w.heap.size w W1.drew) := hQ (Below.drew HB1.out)
 generalize W1.drew = W2 at *
 obtain ⟨r0, r1, r2, r3, r4, z0, z1, z2, z3, z4, rz⟩ := HR2.out.c5
 have HB5 := hQ ((below_put5 (w := W2) HB2.out hle (.int .i64 17) (.int .i64 ov) (.int .i64 uv) (.int .i64 sv) (.int .u64 0)))
 have HR5 := hQ ((Blk.put5 (w := W2) HR2.out (.int .i64 17) (.int .i64 ov) (.int .i64 uv) (.int .i64 sv) (.int .u64 0)))
 go_wp2
 clear r0 r1 r2 r3 r4 z0 z1 z2 z3 z4 rz
 generalize ((((W2.setCell ⟨gR, 0, none⟩ (.int .i64 17)).setCell ⟨gR, 1, none⟩ (.int .i64 ov)).setCell ⟨gR, 2, none⟩ (.int .i64 uv)).setCell ⟨gR, 3, none⟩ (.int .i64 sv)).setCell ⟨gR, 4, none⟩ (.int .u64 0) = Wz at *
 obtain ⟨q0, q1, q2, q3, q4, -, -, -, -, -, qz⟩ := HR5.out.c5
 exact bodyPost_ret (v := .agg #[.int .i64 17, .int .i64 ov, .int .i64 uv, .int .i64 sv, .int .u64 0]) (by simp [results, Tryz.results63, go_sem, q0, q1, q2, q3, q4]) rfl ⟨by rw [HL.out]; rfl, HB5.out⟩
theorem low_18 (a b c im : Int) (ha0 : 0 ≤ a) (ha1 : a ≤ 8) (hz0 : 0 ≤ y.size) (hz1 : y.size ≤ 671) (hl : y.off.length = sl.length) (hm : sl.length ≤ 1000) (w : World) (hs : Sx w lo hi As sl) (hy : Ix w lo' hi' Ao y.off) (hh : hi ≤ w.heap.size) (hh' : hi' ≤ w.heap.size) :
 Calls Tryz.prog 63 #[.agg #[.int .i64 prm, .slice As sl.length cs, .slice Ai nc ci], .agg #[.int .i64 y.args, .int .i64 y.size, .slice Ao y.off.length co], .agg #[.int .i64 18, .int .i64 a, .int .i64 b, .int .i64 c, .int .u64 im]] w fun e w' => e = .returned (insV (lowI sl y ⟨18, a, b, c, im⟩)) ∧ Below w.heap.size w w' := by
 obtain ⟨ya, ys, yo⟩ := y
 simp only at hz0 hz1 hl hy ⊢
 obtain ⟨W1, hW1⟩ : ∃ W1, W1 = (((w.alloc (.cells #[.int .i64 prm, .slice As sl.length cs, .slice Ai nc ci] 97)).alloc (.cells #[.int .i64 ya, .int .i64 ys, .slice Ao yo.length co] 101)).alloc (.cells #[.int .i64 18, .int .i64 a, .int .i64 b, .int .i64 c, .int .u64 im] 50)).alloc (.cells #[.int .i64 0, .int .i64 0, .int .i64 0, .int .i64 0, .int .u64 0] 50) := ⟨_, rfl⟩
 have hB1 : Below w.heap.size w W1 := by rw [hW1]; exact Below.al (Below.al (Below.al (Below.al bR _) _) _) _
 have HF : Hid (Blk W1 w.heap.size 97 #[.int .i64 prm, .slice As sl.length cs, .slice Ai nc ci]) := hQ (by rw [hW1]; exact (((Blk.new _ _ _).alloc _).alloc _).alloc _)
 have HY : Hid (Blk W1 (w.heap.size + 1) 101 #[.int .i64 ya, .int .i64 ys, .slice Ao yo.length co]) := hQ (by rw [hW1]; exact ((Blk.newAt (by simp)).alloc _).alloc _)
 have HX : Hid (Blk W1 (w.heap.size + 1 + 1) 50 #[.int .i64 18, .int .i64 a, .int .i64 b, .int .i64 c, .int .u64 im]) := hQ (by rw [hW1]; exact (Blk.newAt (by simp)).alloc _)
 have HR : Hid (Blk W1 (w.heap.size + 1 + 1 + 1) 50 #[.int .i64 0, .int .i64 0, .int .i64 0, .int .i64 0, .int .u64 0]) := hQ (by rw [hW1]; exact Blk.newAt (by simp))
 have hs1 := hs.keep (Kp.of_below hB1 hh)
 have hy1 := hy.keep (Kp.of_below hB1 hh')
 have HB1 := hQ hB1
 have HW1 := hQ hW1
 have hli : (sl.length : Int) ≤ 1000 := by omega
 have hyi : (yo.length : Int) = (sl.length : Int) := by omega
 clear hW1 hB1 hs hy
 have HL : Hid (lowI sl ⟨ya, ys, yo⟩ ⟨18, a, b, c, im⟩ = ⟨16, 16 * a, b, 16, 0⟩) := hQ (rfl)
 clear hs1 hy1 hl hyi
 obtain ⟨gR, hgR⟩ : ∃ g, g = w.heap.size + 1 + 1 + 1 := ⟨_, rfl⟩
 rw [← hgR] at HR
 have hle : w.heap.size ≤ gR := by omega
 go_enter Tryz.func63, Tryz.ntmps63
 go_upto_region 1 with (fail)
 rw [← HW1.out, ← hgR]
 clear HW1 hgR
 obtain ⟨f0, f1, f2, -, -, -, fz⟩ := HF.out.c3
 obtain ⟨y0, y1, y2, -, -, -, yz⟩ := HY.out.c3
 obtain ⟨x0, x1, x2, x3, x4, -, -, -, -, -, xz⟩ := HX.out.c5
 obtain ⟨r0, r1, r2, r3, r4, z0, z1, z2, z3, z4, rz⟩ := HR.out.c5
 have HB5 := hQ ((below_put5 (w := W1) HB1.out hle (.int .i64 16) (.int .i64 (16 * a)) (.int .i64 b) (.int .i64 16) (.int .u64 0)))
 have HR5 := hQ ((Blk.put5 (w := W1) HR.out (.int .i64 16) (.int .i64 (16 * a)) (.int .i64 b) (.int .i64 16) (.int .u64 0)))
 go_wp2
 clear r0 r1 r2 r3 r4 z0 z1 z2 z3 z4 rz
 generalize ((((W1.setCell ⟨gR, 0, none⟩ (.int .i64 16)).setCell ⟨gR, 1, none⟩ (.int .i64 (16 * a))).setCell ⟨gR, 2, none⟩ (.int .i64 b)).setCell ⟨gR, 3, none⟩ (.int .i64 16)).setCell ⟨gR, 4, none⟩ (.int .u64 0) = Wz at *
 obtain ⟨q0, q1, q2, q3, q4, -, -, -, -, -, qz⟩ := HR5.out.c5
 exact bodyPost_ret (v := .agg #[.int .i64 16, .int .i64 (16 * a), .int .i64 b, .int .i64 16, .int .u64 0]) (by simp [results, Tryz.results63, go_sem, q0, q1, q2, q3, q4]) rfl ⟨by rw [HL.out]; rfl, HB5.out⟩
theorem low_19 (a b c im : Int) (hb0 : 0 ≤ b) (hb1 : b ≤ 8) (hz0 : 0 ≤ y.size) (hz1 : y.size ≤ 671) (hl : y.off.length = sl.length) (hm : sl.length ≤ 1000) (w : World) (hs : Sx w lo hi As sl) (hy : Ix w lo' hi' Ao y.off) (hh : hi ≤ w.heap.size) (hh' : hi' ≤ w.heap.size) :
 Calls Tryz.prog 63 #[.agg #[.int .i64 prm, .slice As sl.length cs, .slice Ai nc ci], .agg #[.int .i64 y.args, .int .i64 y.size, .slice Ao y.off.length co], .agg #[.int .i64 19, .int .i64 a, .int .i64 b, .int .i64 c, .int .u64 im]] w fun e w' => e = .returned (insV (lowI sl y ⟨19, a, b, c, im⟩)) ∧ Below w.heap.size w w' := by
 obtain ⟨ya, ys, yo⟩ := y
 simp only at hz0 hz1 hl hy ⊢
 obtain ⟨W1, hW1⟩ : ∃ W1, W1 = (((w.alloc (.cells #[.int .i64 prm, .slice As sl.length cs, .slice Ai nc ci] 97)).alloc (.cells #[.int .i64 ya, .int .i64 ys, .slice Ao yo.length co] 101)).alloc (.cells #[.int .i64 19, .int .i64 a, .int .i64 b, .int .i64 c, .int .u64 im] 50)).alloc (.cells #[.int .i64 0, .int .i64 0, .int .i64 0, .int .i64 0, .int .u64 0] 50) := ⟨_, rfl⟩
 have hB1 : Below w.heap.size w W1 := by rw [hW1]; exact Below.al (Below.al (Below.al (Below.al bR _) _) _) _
 have HF : Hid (Blk W1 w.heap.size 97 #[.int .i64 prm, .slice As sl.length cs, .slice Ai nc ci]) := hQ (by rw [hW1]; exact (((Blk.new _ _ _).alloc _).alloc _).alloc _)
 have HY : Hid (Blk W1 (w.heap.size + 1) 101 #[.int .i64 ya, .int .i64 ys, .slice Ao yo.length co]) := hQ (by rw [hW1]; exact ((Blk.newAt (by simp)).alloc _).alloc _)
 have HX : Hid (Blk W1 (w.heap.size + 1 + 1) 50 #[.int .i64 19, .int .i64 a, .int .i64 b, .int .i64 c, .int .u64 im]) := hQ (by rw [hW1]; exact (Blk.newAt (by simp)).alloc _)
 have HR : Hid (Blk W1 (w.heap.size + 1 + 1 + 1) 50 #[.int .i64 0, .int .i64 0, .int .i64 0, .int .i64 0, .int .u64 0]) := hQ (by rw [hW1]; exact Blk.newAt (by simp))
 have hs1 := hs.keep (Kp.of_below hB1 hh)
 have hy1 := hy.keep (Kp.of_below hB1 hh')
 have HB1 := hQ hB1
 have HW1 := hQ hW1
 have hli : (sl.length : Int) ≤ 1000 := by omega
 have hyi : (yo.length : Int) = (sl.length : Int) := by omega
 clear hW1 hB1 hs hy
 have HL : Hid (lowI sl ⟨ya, ys, yo⟩ ⟨19, a, b, c, im⟩ = ⟨15, a, ys + 16 * b, 16, 0⟩) := hQ (rfl)
 clear hs1 hy1 hl hyi
 obtain ⟨gR, hgR⟩ : ∃ g, g = w.heap.size + 1 + 1 + 1 := ⟨_, rfl⟩
 rw [← hgR] at HR
 have hle : w.heap.size ≤ gR := by omega
 go_enter Tryz.func63, Tryz.ntmps63
 go_upto_region 1 with (fail)
 rw [← HW1.out, ← hgR]
 clear HW1 hgR
 obtain ⟨f0, f1, f2, -, -, -, fz⟩ := HF.out.c3
 obtain ⟨y0, y1, y2, -, -, -, yz⟩ := HY.out.c3
 obtain ⟨x0, x1, x2, x3, x4, -, -, -, -, -, xz⟩ := HX.out.c5
 obtain ⟨r0, r1, r2, r3, r4, z0, z1, z2, z3, z4, rz⟩ := HR.out.c5
 have HB5 := hQ ((below_put5 (w := W1) HB1.out hle (.int .i64 15) (.int .i64 a) (.int .i64 (ys + 16 * b)) (.int .i64 16) (.int .u64 0)))
 have HR5 := hQ ((Blk.put5 (w := W1) HR.out (.int .i64 15) (.int .i64 a) (.int .i64 (ys + 16 * b)) (.int .i64 16) (.int .u64 0)))
 go_wp2
 clear r0 r1 r2 r3 r4 z0 z1 z2 z3 z4 rz
 generalize ((((W1.setCell ⟨gR, 0, none⟩ (.int .i64 15)).setCell ⟨gR, 1, none⟩ (.int .i64 a)).setCell ⟨gR, 2, none⟩ (.int .i64 (ys + 16 * b))).setCell ⟨gR, 3, none⟩ (.int .i64 16)).setCell ⟨gR, 4, none⟩ (.int .u64 0) = Wz at *
 obtain ⟨q0, q1, q2, q3, q4, -, -, -, -, -, qz⟩ := HR5.out.c5
 exact bodyPost_ret (v := .agg #[.int .i64 15, .int .i64 a, .int .i64 (ys + 16 * b), .int .i64 16, .int .u64 0]) (by simp [results, Tryz.results63, go_sem, q0, q1, q2, q3, q4]) rfl ⟨by rw [HL.out]; rfl, HB5.out⟩
theorem low_x (a b c im op : Int) (hop : op < 15 ∨ 19 < op) (hz0 : 0 ≤ y.size) (hz1 : y.size ≤ 671) (hl : y.off.length = sl.length) (hm : sl.length ≤ 1000) (w : World) (hs : Sx w lo hi As sl) (hy : Ix w lo' hi' Ao y.off) (hh : hi ≤ w.heap.size) (hh' : hi' ≤ w.heap.size) :
 Calls Tryz.prog 63 #[.agg #[.int .i64 prm, .slice As sl.length cs, .slice Ai nc ci], .agg #[.int .i64 y.args, .int .i64 y.size, .slice Ao y.off.length co], .agg #[.int .i64 op, .int .i64 a, .int .i64 b, .int .i64 c, .int .u64 im]] w fun e w' => e = .returned (insV (lowI sl y ⟨op, a, b, c, im⟩)) ∧ Below w.heap.size w w' := by
 obtain ⟨ya, ys, yo⟩ := y
 simp only at hz0 hz1 hl hy ⊢
 obtain ⟨W1, hW1⟩ : ∃ W1, W1 = (((w.alloc (.cells #[.int .i64 prm, .slice As sl.length cs, .slice Ai nc ci] 97)).alloc (.cells #[.int .i64 ya, .int .i64 ys, .slice Ao yo.length co] 101)).alloc (.cells #[.int .i64 op, .int .i64 a, .int .i64 b, .int .i64 c, .int .u64 im] 50)).alloc (.cells #[.int .i64 0, .int .i64 0, .int .i64 0, .int .i64 0, .int .u64 0] 50) := ⟨_, rfl⟩
 have hB1 : Below w.heap.size w W1 := by rw [hW1]; exact Below.al (Below.al (Below.al (Below.al bR _) _) _) _
 have HF : Hid (Blk W1 w.heap.size 97 #[.int .i64 prm, .slice As sl.length cs, .slice Ai nc ci]) := hQ (by rw [hW1]; exact (((Blk.new _ _ _).alloc _).alloc _).alloc _)
 have HY : Hid (Blk W1 (w.heap.size + 1) 101 #[.int .i64 ya, .int .i64 ys, .slice Ao yo.length co]) := hQ (by rw [hW1]; exact ((Blk.newAt (by simp)).alloc _).alloc _)
 have HX : Hid (Blk W1 (w.heap.size + 1 + 1) 50 #[.int .i64 op, .int .i64 a, .int .i64 b, .int .i64 c, .int .u64 im]) := hQ (by rw [hW1]; exact (Blk.newAt (by simp)).alloc _)
 have HR : Hid (Blk W1 (w.heap.size + 1 + 1 + 1) 50 #[.int .i64 0, .int .i64 0, .int .i64 0, .int .i64 0, .int .u64 0]) := hQ (by rw [hW1]; exact Blk.newAt (by simp))
 have hs1 := hs.keep (Kp.of_below hB1 hh)
 have hy1 := hy.keep (Kp.of_below hB1 hh')
 have HB1 := hQ hB1
 have HW1 := hQ hW1
 have hli : (sl.length : Int) ≤ 1000 := by omega
 have hyi : (yo.length : Int) = (sl.length : Int) := by omega
 clear hW1 hB1 hs hy
 have HL : Hid (lowI sl ⟨ya, ys, yo⟩ ⟨op, a, b, c, im⟩ = ⟨op, a, b, c, im⟩) := hQ (by unfold lowI; rw [if_neg (by simp only; omega), if_neg (by simp only; omega), if_neg (by simp only; omega), if_neg (by simp only; omega), if_neg (by simp only; omega)])
 clear hs1 hy1 hl hyi
 have e15 : (op == 15) = false := by rw [beq_eq_false_iff_ne]; omega
 have e16 : (op == 16) = false := by rw [beq_eq_false_iff_ne]; omega
 have e17 : (op == 17) = false := by rw [beq_eq_false_iff_ne]; omega
 have e18 : (op == 18) = false := by rw [beq_eq_false_iff_ne]; omega
 have e19 : (op == 19) = false := by rw [beq_eq_false_iff_ne]; omega
 obtain ⟨gR, hgR⟩ : ∃ g, g = w.heap.size + 1 + 1 + 1 := ⟨_, rfl⟩
 rw [← hgR] at HR
 have hle : w.heap.size ≤ gR := by omega
 go_enter Tryz.func63, Tryz.ntmps63
 go_upto_region 1 with (fail)
 rw [← HW1.out, ← hgR]
 clear HW1 hgR
 obtain ⟨f0, f1, f2, -, -, -, fz⟩ := HF.out.c3
 obtain ⟨y0, y1, y2, -, -, -, yz⟩ := HY.out.c3
 obtain ⟨x0, x1, x2, x3, x4, -, -, -, -, -, xz⟩ := HX.out.c5
 obtain ⟨r0, r1, r2, r3, r4, z0, z1, z2, z3, z4, rz⟩ := HR.out.c5
 have HB5 := hQ ((below_put5 (w := W1) HB1.out hle (.int .i64 op) (.int .i64 a) (.int .i64 b) (.int .i64 c) (.int .u64 im)))
 have HR5 := hQ ((Blk.put5 (w := W1) HR.out (.int .i64 op) (.int .i64 a) (.int .i64 b) (.int .i64 c) (.int .u64 im)))
 go_wp2
 clear r0 r1 r2 r3 r4 z0 z1 z2 z3 z4 rz
 generalize ((((W1.setCell ⟨gR, 0, none⟩ (.int .i64 op)).setCell ⟨gR, 1, none⟩ (.int .i64 a)).setCell ⟨gR, 2, none⟩ (.int .i64 b)).setCell ⟨gR, 3, none⟩ (.int .i64 c)).setCell ⟨gR, 4, none⟩ (.int .u64 im) = Wz at *
 obtain ⟨q0, q1, q2, q3, q4, -, -, -, -, -, qz⟩ := HR5.out.c5
 exact bodyPost_ret (v := .agg #[.int .i64 op, .int .i64 a, .int .i64 b, .int .i64 c, .int .u64 im]) (by simp [results, Tryz.results63, go_sem, q0, q1, q2, q3, q4]) rfl ⟨by rw [HL.out]; rfl, HB5.out⟩
theorem low_any (np : Nat) (x : Ins) (hv : Vi np prm sl nc x) (hp : prm ≤ 8) (hz0 : 0 ≤ y.size) (hz1 : y.size ≤ 671) (hl : y.off.length = sl.length) (hm : sl.length ≤ 1000) (w : World) (hs : Sx w lo hi As sl) (hy : Ix w lo' hi' Ao y.off) (hh : hi ≤ w.heap.size) (hh' : hi' ≤ w.heap.size) :
 Calls Tryz.prog 63 #[.agg #[.int .i64 prm, .slice As sl.length cs, .slice Ai nc ci], .agg #[.int .i64 y.args, .int .i64 y.size, .slice Ao y.off.length co], insV x] w fun e w' => e = .returned (insV (lowI sl y x)) ∧ Below w.heap.size w w' := by
 obtain ⟨op, a, b, c, im⟩ := x
 unfold insV
 by_cases h15 : op = 15
 · subst h15
   have := vi_load hv rfl
   exact low_15 a b c im this.1 this.2 hz0 hz1 hl hm w hs hy hh hh'
 by_cases h16 : op = 16
 · subst h16
   have := vi_store hv rfl
   exact low_16 a b c im this.1 this.2 hz0 hz1 hl hm w hs hy hh hh'
 by_cases h17 : op = 17
 · subst h17
   have := vi_move hv rfl
   exact low_17 a b c im this.1.1 this.1.2 this.2.1 this.2.2 hz0 hz1 hl hm w hs hy hh hh'
 by_cases h18 : op = 18
 · subst h18
   have := vi_arg hv rfl
   exact low_18 a b c im this.1 this.2 hz0 hz1 hl hm w hs hy hh hh'
 by_cases h19 : op = 19
 · subst h19
   have := vi_param hv rfl
   simp only at this
   exact low_19 a b c im this.1 (by omega) hz0 hz1 hl hm w hs hy hh hh'
 exact low_x a b c im op (by omega) hz0 hz1 hl hm w hs hy hh hh'
end
end Go.Proofs.YtcnndoefgjbmiaaGreat.pm
