/- Plain arithmetic of values of 128 bits as pairs of words: sums, differences, products. -/
import Derived.Test.YtcnndoefgjbmiaaGreatGVf
import Derived.Shelf.Spec.BitsCarry
import Derived.Shelf.Bits.Mul64
import Derived.Lib.Strings
import Derived.Lib.Slices
import Derived.Lib.Small
import Derived.Lib.Walk
import Derived.Lib.BitFns
import Derived.Deep.Light
set_option linter.unusedVariables false
set_option maxRecDepth 1000000
set_option maxHeartbeats 8000000
namespace Go.Proofs.YtcnndoefgjbmiaaGreat
def vN (a b : Nat) : Nat := a + 18446744073709551616 * b
def loN (n : Nat) : Nat := n % 18446744073709551616
def hiN (n : Nat) : Nat := n / 18446744073709551616 % 18446744073709551616
def M128 : Nat := 340282366920938463463374607431768211456
theorem loN_lt (n : Nat) : loN n < 18446744073709551616 := by unfold loN; omega
theorem hiN_lt (n : Nat) : hiN n < 18446744073709551616 := by unfold hiN; omega
theorem vN_lohi (n : Nat) : vN (loN n) (hiN n) = n % M128 := by unfold vN loN hiN M128; omega
theorem vN_lt {a b : Nat} (ha : a < 18446744073709551616) (hb : b < 18446744073709551616) : vN a b < M128 := by unfold vN M128; omega
theorem loN_vN {a b : Nat} (ha : a < 18446744073709551616) : loN (vN a b) = a := by unfold loN vN; omega
theorem hiN_vN {a b : Nat} (ha : a < 18446744073709551616) (hb : b < 18446744073709551616) : hiN (vN a b) = b := by unfold hiN vN; omega
theorem loN_mod (n : Nat) : loN (n % M128) = loN n := by unfold loN M128; omega
theorem hiN_mod (n : Nat) : hiN (n % M128) = hiN n := by unfold hiN M128; omega
theorem add_lo (a b c d : Nat) : ((a : Int) + c) % 18446744073709551616 = ((loN (vN a b + vN c d) : Nat) : Int) := by unfold loN vN; omega
theorem add_hi (a b c d : Nat) : ((b : Int) + d + ((a : Int) + c) / 18446744073709551616) % 18446744073709551616 = ((hiN (vN a b + vN c d) : Nat) : Int) := by unfold hiN vN; omega
def bor (x y : Int) : Int := if x < y then 1 else 0
theorem bor_01 (x y : Int) : 0 ≤ bor x y ∧ bor x y ≤ 1 := by unfold bor; split <;> decide
theorem sub_lo (a b c d : Nat) (hc : c < 18446744073709551616) (hd : d < 18446744073709551616) : ((a : Int) - c) % 18446744073709551616 = ((loN (vN a b + (M128 - vN c d)) : Nat) : Int) := by unfold loN vN M128; omega
theorem sub_hi (a b c d : Nat) (ha : a < 18446744073709551616) (hc : c < 18446744073709551616) (hd : d < 18446744073709551616) : ((b : Int) - d - bor a c) % 18446744073709551616 = ((hiN (vN a b + (M128 - vN c d)) : Nat) : Int) := by
 unfold hiN vN M128 bor; split <;> omega
theorem mul_split (a b c d : Nat) : vN a b * vN c d = a * c + 18446744073709551616 * (a * d + b * c) + 340282366920938463463374607431768211456 * (b * d) := by
 unfold vN
 rw [Nat.add_mul, Nat.mul_add, Nat.mul_add, show a * (18446744073709551616 * d) = 18446744073709551616 * (a * d) by rw [← Nat.mul_assoc, Nat.mul_comm a, Nat.mul_assoc],
  show 18446744073709551616 * b * c = 18446744073709551616 * (b * c) by rw [Nat.mul_assoc], show 18446744073709551616 * b * (18446744073709551616 * d) = 340282366920938463463374607431768211456 * (b * d) by
   rw [Nat.mul_assoc, ← Nat.mul_assoc b, Nat.mul_comm b, Nat.mul_assoc, ← Nat.mul_assoc]]
 omega
theorem mul_lo (a b c d : Nat) : a * c % 18446744073709551616 = loN (vN a b * vN c d) := by rw [mul_split]; unfold loN; omega
theorem mul_hi (a b c d : Nat) : (a * c / 18446744073709551616 + a * d + b * c) % 18446744073709551616 = hiN (vN a b * vN c d) := by
 rw [mul_split]; unfold hiN
 generalize a * c = p; generalize a * d = q; generalize b * c = r; generalize b * d = s
 omega
open Go.RowKit
theorem add64 (x y c : Int) (hx : 0 ≤ x) (hy : 0 ≤ y) (hc0 : 0 ≤ c) (hc : c ≤ 1) (w : World) : (callFunc 123 #[.int .u64 x, .int .u64 y, .int .u64 c]).run Tryz.prog w =
 .ok (.value (.tuple #[.int .u64 ((x + y + c) % 18446744073709551616), .int .u64 ((x + y + c) / 18446744073709551616)])) w := by
 rw [run_callFunc_extern Tryz.func123 (by kernel_rfl) (by kernel_rfl) (by kernel_rfl) (e := add64Entry) (by kernel_rfl), run_add64 x y c hx hy hc0 hc]
 rfl
theorem add64_0 (x y : Int) (hx : 0 ≤ x) (hy : 0 ≤ y) (w : World) : (callFunc 123 #[.int .u64 x, .int .u64 y, .int .u64 0]).run Tryz.prog w =
 .ok (.value (.tuple #[.int .u64 ((x + y) % 18446744073709551616), .int .u64 ((x + y) / 18446744073709551616)])) w := by
 simpa using add64 x y 0 hx hy (Int.le_refl 0) (by decide) w
theorem sub64 (x y b : Int) (hx : 0 ≤ x) (hy : 0 ≤ y) (hy' : y < 18446744073709551616) (hb0 : 0 ≤ b) (hb : b ≤ 1) (w : World) : (callFunc 124 #[.int .u64 x, .int .u64 y, .int .u64 b]).run Tryz.prog w =
 .ok (.value (.tuple #[.int .u64 ((x - y - b) % 18446744073709551616), .int .u64 (bor x (y + b))])) w := by
 obtain ⟨x, rfl⟩ := Int.eq_ofNat_of_zero_le hx
 obtain ⟨y, rfl⟩ := Int.eq_ofNat_of_zero_le hy
 obtain ⟨b, rfl⟩ := Int.eq_ofNat_of_zero_le hb0
 have e1 : (((x + 18446744073709551616 - y - b) % 18446744073709551616 : Nat) : Int) = ((x : Int) - y - b) % 18446744073709551616 := by omega
 have e2 : ((if x < y + b then 1 else 0 : Nat) : Int) = bor (x : Int) (y + b) := by unfold bor; split <;> split <;> omega
 rw [← e1, ← e2]
 rw [run_callFunc_extern Tryz.func124 (by kernel_rfl) (by kernel_rfl) (by kernel_rfl) (e := sub64Entry) (by kernel_rfl), run_sub64 x y b (by omega)]
 rfl
theorem sub64_0 (x y : Int) (hx : 0 ≤ x) (hy : 0 ≤ y) (hy' : y < 18446744073709551616) (w : World) : (callFunc 124 #[.int .u64 x, .int .u64 y, .int .u64 0]).run Tryz.prog w =
 .ok (.value (.tuple #[.int .u64 ((x - y) % 18446744073709551616), .int .u64 (bor x y)])) w := by
 simpa using sub64 x y 0 hx hy hy' (Int.le_refl 0) (by decide) w
theorem mul64_any (x y : Nat) (hx : x < 18446744073709551616) (hy : y < 18446744073709551616) (w : World) :
 Calls Tryz.prog 125 #[.int .u64 x, .int .u64 y] w fun e w' => e = .returned (.tuple #[.int .u64 ((x * y / 18446744073709551616 : Nat) : Int), .int .u64 ((x * y % 18446744073709551616 : Nat) : Int)]) ∧ w' = w := by
 obtain ⟨bd, bt, bw, hhi⟩ := Lib.mul64_hi x y hx hy
 have ba := Lib.half_mul_le (a := x / 4294967296) (b := y / 4294967296) (by omega) (by omega)
 have bb := Lib.half_mul_le (a := x / 4294967296) (b := y % 4294967296) (by omega) (by omega)
 have bc := Lib.half_mul_le (a := x % 4294967296) (b := y / 4294967296) (by omega) (by omega)
 have ba' : x / 4294967296 * (y / 4294967296) < 18446744073709551616 := by omega
 have bb' : x / 4294967296 * (y % 4294967296) < 18446744073709551616 := by omega
 have bc' : x % 4294967296 * (y / 4294967296) < 18446744073709551616 := by omega
 have bh1 : x / 4294967296 * (y / 4294967296) + (x / 4294967296 * (y % 4294967296) + x % 4294967296 * (y % 4294967296) / 4294967296) / 4294967296 < 18446744073709551616 := by omega
 have bh : x / 4294967296 * (y / 4294967296) + (x / 4294967296 * (y % 4294967296) + x % 4294967296 * (y % 4294967296) / 4294967296) / 4294967296 + ((x / 4294967296 * (y % 4294967296) + x % 4294967296 * (y % 4294967296) / 4294967296) % 4294967296 + x % 4294967296 * (y / 4294967296)) / 4294967296 < 18446744073709551616 := by omega
 go_enter Tryz.func125, Tryz.ntmps125
 go_wp2
 simp only [Mul64.maskN x hx, Mul64.maskN y hy, Mul64.divN, Mul64.mulN, Mul64.addN, Mul64.wrapN _ bd, Mul64.wrapN _ bb', Mul64.wrapN _ bt, Mul64.maskN _ bt, Mul64.wrapN _ bc', Mul64.wrapN _ bw, Mul64.wrapN _ ba', Mul64.wrapN _ bh1, Mul64.wrapN _ bh, Mul64.wrapM (x * y)]
 rw [hhi]
 go_ret2
 exact ⟨rfl, rfl⟩
theorem mulwrap (p a b c d : Nat) : IntKind.u64.wrap (IntKind.u64.wrap ((p : Int) + IntKind.u64.wrap ((a : Int) * d)) + IntKind.u64.wrap ((b : Int) * c)) = (((p + a * d + b * c) % 18446744073709551616 : Nat) : Int) := by
 rw [← Int.natCast_mul a d, ← Int.natCast_mul b c]
 simp only [IntKind.wrap_u64]
 generalize a * d = x
 generalize b * c = y
 omega
theorem vadd_any (a b c d : Nat) (ha : a < 18446744073709551616) (hb : b < 18446744073709551616) (hc : c < 18446744073709551616) (hd : d < 18446744073709551616) (w : World) :
 Calls Tryz.prog 100 #[.agg #[.int .u64 (a : Int), .int .u64 (b : Int)], .agg #[.int .u64 (c : Int), .int .u64 (d : Int)]] w fun e w' => e = fromV (loN (vN a b + vN c d)) (hiN (vN a b + vN c d)) ∧ Below w.heap.size w w' := by
 have a0 : (0 : Int) ≤ (a : Int) := by omega
 have b0 : (0 : Int) ≤ (b : Int) := by omega
 have c0 : (0 : Int) ≤ (c : Int) := by omega
 have d0 : (0 : Int) ≤ (d : Int) := by omega
 have k0 : 0 ≤ ((a : Int) + c) / 18446744073709551616 := by omega
 have k1 : ((a : Int) + c) / 18446744073709551616 ≤ 1 := by omega
 have e1 := add_lo a b c d
 have e2 := add_hi a b c d
 have E1 := hQ e1
 have E2 := hQ e2
 clear e1 e2
 unfold fromV
 generalize loN (vN a b + vN c d) = lo at *
 generalize hiN (vN a b + vN c d) = hi at *
 go_enter Tryz.func100, Tryz.ntmps100
 go_wp2_with (first | simp only [add64_0 a c a0 c0] | simp only [add64 b d _ b0 d0 k0 k1])
 go_returns
 exact ⟨by rw [E1.out, E2.out], by go_grown⟩
theorem vsub_any (a b c d : Nat) (ha : a < 18446744073709551616) (hb : b < 18446744073709551616) (hc : c < 18446744073709551616) (hd : d < 18446744073709551616) (w : World) :
 Calls Tryz.prog 101 #[.agg #[.int .u64 (a : Int), .int .u64 (b : Int)], .agg #[.int .u64 (c : Int), .int .u64 (d : Int)]] w fun e w' => e = fromV (loN (vN a b + (M128 - vN c d))) (hiN (vN a b + (M128 - vN c d))) ∧ Below w.heap.size w w' := by
 have a0 : (0 : Int) ≤ (a : Int) := by omega
 have b0 : (0 : Int) ≤ (b : Int) := by omega
 have c0 : (0 : Int) ≤ (c : Int) := by omega
 have d0 : (0 : Int) ≤ (d : Int) := by omega
 have k0 := (bor_01 a c).1
 have k1 := (bor_01 a c).2
 have c1 : (c : Int) < 18446744073709551616 := by omega
 have d1 : (d : Int) < 18446744073709551616 := by omega
 have e1 := sub_lo a b c d hc hd
 have e2 := sub_hi a b c d ha hc hd
 have E1 := hQ e1
 have E2 := hQ e2
 clear e1 e2
 unfold fromV
 generalize loN (vN a b + (M128 - vN c d)) = lo at *
 generalize hiN (vN a b + (M128 - vN c d)) = hi at *
 go_enter Tryz.func101, Tryz.ntmps101
 go_wp2_with (first | simp only [sub64_0 a c a0 c0 c1] | simp only [sub64 b d _ b0 d0 d1 k0 k1])
 go_returns
 exact ⟨by rw [E1.out, E2.out], by go_grown⟩
theorem vmul_any (a b c d : Nat) (ha : a < 18446744073709551616) (hb : b < 18446744073709551616) (hc : c < 18446744073709551616) (hd : d < 18446744073709551616) (w : World) :
 Calls Tryz.prog 102 #[.agg #[.int .u64 (a : Int), .int .u64 (b : Int)], .agg #[.int .u64 (c : Int), .int .u64 (d : Int)]] w fun e w' => e = fromV (loN (vN a b * vN c d)) (hiN (vN a b * vN c d)) ∧ Below w.heap.size w w' := by
 have h1 := mul64_any a c ha hc
 have e1 := mul_lo a b c d
 have e2 := mul_hi a b c d
 have H1 := hQ h1
 have E1 := hQ e1
 have E2 := hQ e2
 clear e1 e2 h1
 unfold fromV
 generalize loN (vN a b * vN c d) = lo at *
 generalize hiN (vN a b * vN c d) = hi at *
 go_enter Tryz.func102, Tryz.ntmps102
 go_wp2_with fail
 refine (H1.out _).mono ?_
 rintro e w1 ⟨rfl, rfl⟩
 generalize hp : a * c / 18446744073709551616 = p at *
 generalize hq : a * c % 18446744073709551616 = q at *
 go_wp2
 go_returns
 refine ⟨by rw [mulwrap, E2.out, E1.out], by go_grown⟩
theorem apply2_any (a b c d : Nat) (ha : a < 18446744073709551616) (hb : b < 18446744073709551616) (hc : c < 18446744073709551616) (hd : d < 18446744073709551616) (w : World) :
 Calls Tryz.prog 73 #[.int .i64 2, .agg #[.int .u64 (a : Int), .int .u64 (b : Int)], .agg #[.int .u64 (c : Int), .int .u64 (d : Int)]] w fun e w' => e = .returned (.tuple #[.agg #[.int .u64 (loN (vN a b + vN c d) : Nat), .int .u64 (hiN (vN a b + vN c d) : Nat)], .bool true]) ∧ Below w.heap.size w w' := by
 have h1 := vadd_any a b c d ha hb hc hd
 unfold fromV at h1
 generalize loN (vN a b + vN c d) = lo at *
 generalize hiN (vN a b + vN c d) = hi at *
 have H1 := hQ h1
 clear h1 ha hb hc hd
 go_enter Tryz.func73, Tryz.ntmps73
 go_wp2_with fail
 refine (H1.out _).mono ?_
 rintro e w1 ⟨rfl, bel1⟩
 obtain ⟨hc1, hf1⟩ := bcell bel1
 have hz1 := bel1.size
 simp at hz1
 have z1 : w.heap.size + 1 + 1 < w1.heap.size := (by omega)
 have HB1 := hQ ((((Below.refl w.heap.size w).alloc nL _).alloc (by simp) _).alloc (by simp; omega) _ |>.trans (bel1.mono (by simp; omega)))
 clear hz1 bel1
 have q0 : w1.cell? ⟨w.heap.size + 1 + 1, 0, none⟩ = some (.int .u64 0) := (by rw [hc1 _ _ (by simp)]; go_simp)
 have q1 : w1.cell? ⟨w.heap.size + 1 + 1, 1, none⟩ = some (.int .u64 0) := (by rw [hc1 _ _ (by simp)]; go_simp)
 have f0 : w1.frozen? ⟨w.heap.size + 1 + 1, 0, none⟩ = false := (by rw [hf1 _ _ (by simp)]; go_simp)
 have f1 : w1.frozen? ⟨w.heap.size + 1 + 1, 1, none⟩ = false := (by rw [hf1 _ _ (by simp)]; go_simp)
 clear hc1 hf1
 go_wp2
 refine bodyPost_ret (v := .tuple #[.agg #[.int .u64 (lo : Nat), .int .u64 (hi : Nat)], .bool true]) (by simp [results, Tryz.results73, go_sem, q0, q1]) rfl ?_
 exact ⟨rfl, (HB1.out.setCell (by simp; omega) _).setCell (by simp; omega) _⟩
theorem apply3_any (a b c d : Nat) (ha : a < 18446744073709551616) (hb : b < 18446744073709551616) (hc : c < 18446744073709551616) (hd : d < 18446744073709551616) (w : World) :
 Calls Tryz.prog 73 #[.int .i64 3, .agg #[.int .u64 (a : Int), .int .u64 (b : Int)], .agg #[.int .u64 (c : Int), .int .u64 (d : Int)]] w fun e w' => e = .returned (.tuple #[.agg #[.int .u64 (loN (vN a b + (M128 - vN c d)) : Nat), .int .u64 (hiN (vN a b + (M128 - vN c d)) : Nat)], .bool true]) ∧ Below w.heap.size w w' := by
 have h1 := vsub_any a b c d ha hb hc hd
 unfold fromV at h1
 generalize loN (vN a b + (M128 - vN c d)) = lo at *
 generalize hiN (vN a b + (M128 - vN c d)) = hi at *
 have H1 := hQ h1
 clear h1 ha hb hc hd
 go_enter Tryz.func73, Tryz.ntmps73
 go_wp2_with fail
 refine (H1.out _).mono ?_
 rintro e w1 ⟨rfl, bel1⟩
 obtain ⟨hc1, hf1⟩ := bcell bel1
 have hz1 := bel1.size
 simp at hz1
 have z1 : w.heap.size + 1 + 1 < w1.heap.size := (by omega)
 have HB1 := hQ ((((Below.refl w.heap.size w).alloc nL _).alloc (by simp) _).alloc (by simp; omega) _ |>.trans (bel1.mono (by simp; omega)))
 clear hz1 bel1
 have q0 : w1.cell? ⟨w.heap.size + 1 + 1, 0, none⟩ = some (.int .u64 0) := (by rw [hc1 _ _ (by simp)]; go_simp)
 have q1 : w1.cell? ⟨w.heap.size + 1 + 1, 1, none⟩ = some (.int .u64 0) := (by rw [hc1 _ _ (by simp)]; go_simp)
 have f0 : w1.frozen? ⟨w.heap.size + 1 + 1, 0, none⟩ = false := (by rw [hf1 _ _ (by simp)]; go_simp)
 have f1 : w1.frozen? ⟨w.heap.size + 1 + 1, 1, none⟩ = false := (by rw [hf1 _ _ (by simp)]; go_simp)
 clear hc1 hf1
 go_wp2
 refine bodyPost_ret (v := .tuple #[.agg #[.int .u64 (lo : Nat), .int .u64 (hi : Nat)], .bool true]) (by simp [results, Tryz.results73, go_sem, q0, q1]) rfl ?_
 exact ⟨rfl, (HB1.out.setCell (by simp; omega) _).setCell (by simp; omega) _⟩
theorem apply4_any (a b c d : Nat) (ha : a < 18446744073709551616) (hb : b < 18446744073709551616) (hc : c < 18446744073709551616) (hd : d < 18446744073709551616) (w : World) :
 Calls Tryz.prog 73 #[.int .i64 4, .agg #[.int .u64 (a : Int), .int .u64 (b : Int)], .agg #[.int .u64 (c : Int), .int .u64 (d : Int)]] w fun e w' => e = .returned (.tuple #[.agg #[.int .u64 (loN (vN a b * vN c d) : Nat), .int .u64 (hiN (vN a b * vN c d) : Nat)], .bool true]) ∧ Below w.heap.size w w' := by
 have h1 := vmul_any a b c d ha hb hc hd
 unfold fromV at h1
 generalize loN (vN a b * vN c d) = lo at *
 generalize hiN (vN a b * vN c d) = hi at *
 have H1 := hQ h1
 clear h1 ha hb hc hd
 go_enter Tryz.func73, Tryz.ntmps73
 go_wp2_with fail
 refine (H1.out _).mono ?_
 rintro e w1 ⟨rfl, bel1⟩
 obtain ⟨hc1, hf1⟩ := bcell bel1
 have hz1 := bel1.size
 simp at hz1
 have z1 : w.heap.size + 1 + 1 < w1.heap.size := (by omega)
 have HB1 := hQ ((((Below.refl w.heap.size w).alloc nL _).alloc (by simp) _).alloc (by simp; omega) _ |>.trans (bel1.mono (by simp; omega)))
 clear hz1 bel1
 have q0 : w1.cell? ⟨w.heap.size + 1 + 1, 0, none⟩ = some (.int .u64 0) := (by rw [hc1 _ _ (by simp)]; go_simp)
 have q1 : w1.cell? ⟨w.heap.size + 1 + 1, 1, none⟩ = some (.int .u64 0) := (by rw [hc1 _ _ (by simp)]; go_simp)
 have f0 : w1.frozen? ⟨w.heap.size + 1 + 1, 0, none⟩ = false := (by rw [hf1 _ _ (by simp)]; go_simp)
 have f1 : w1.frozen? ⟨w.heap.size + 1 + 1, 1, none⟩ = false := (by rw [hf1 _ _ (by simp)]; go_simp)
 clear hc1 hf1
 go_wp2
 refine bodyPost_ret (v := .tuple #[.agg #[.int .u64 (lo : Nat), .int .u64 (hi : Nat)], .bool true]) (by simp [results, Tryz.results73, go_sem, q0, q1]) rfl ?_
 exact ⟨rfl, (HB1.out.setCell (by simp; omega) _).setCell (by simp; omega) _⟩
theorem lohi_congr {n m : Nat} (h : n % M128 = m % M128) : loN n = loN m ∧ hiN n = hiN m := by
 rw [← loN_mod n, ← hiN_mod n, h, loN_mod, hiN_mod]; exact ⟨rfl, rfl⟩
structure KnI (yn1 u Q q rh : Nat) : Prop where
 sum : q * yn1 + rh = u
 le : Q ≤ q
 top : q ≤ 4294967297
 small : rh < 4294967296
structure KnH (yn1 yn0 u v Y : Nat) : Prop where
 hY : Y = yn1 * 4294967296 + yn0
 h1 : 2147483648 ≤ yn1
 h1' : yn1 < 4294967296
 h0 : yn0 < 4294967296
 hu : u < Y
 hv : v < 4294967296
section
variable {yn1 yn0 u v Y : Nat}
theorem kn_lt (k : KnH yn1 yn0 u v Y) : (u * 4294967296 + v) / Y < 4294967296 := by
 obtain ⟨hY, h1, h1', h0, hu, hv⟩ := k
 rw [Nat.div_lt_iff_lt_mul (by omega)]
 omega
theorem kn_init (k : KnH yn1 yn0 u v Y) : KnI yn1 u ((u * 4294967296 + v) / Y) (u / yn1) (u % yn1) := by
 obtain ⟨hY, h1, h1', h0, hu, hv⟩ := k
 refine ⟨Nat.div_add_mod' u yn1, ?_, ?_, by have := Nat.mod_lt u (show yn1 > 0 by omega); omega⟩
 · rw [Nat.le_div_iff_mul_le (by omega)]
   have h := Nat.div_mul_le_self (u * 4294967296 + v) Y
   generalize (u * 4294967296 + v) / Y = Q at *
   have e : Q * Y = Q * yn1 * 4294967296 + Q * yn0 := by rw [hY, Nat.mul_add, Nat.mul_assoc]
   generalize Q * yn1 = P at *
   generalize Q * yn0 = R at *
   omega
 · have : u / yn1 < 4294967298 := by
    rw [Nat.div_lt_iff_lt_mul (by omega)]
    omega
   omega
theorem kn_more {q rh : Nat} (k : KnH yn1 yn0 u v Y) (h : KnI yn1 u ((u * 4294967296 + v) / Y) q rh) (hc : 4294967296 ≤ q ∨ 4294967296 * rh + v < q * yn0) : (u * 4294967296 + v) / Y < q := by
 have hlt := kn_lt k
 obtain ⟨hY, h1, h1', h0, hu, hv⟩ := k
 rcases hc with hc | hc
 · omega
 · obtain ⟨hs, hle, _, _⟩ := h
   rw [Nat.div_lt_iff_lt_mul (by omega)]
   have e : q * Y = q * yn1 * 4294967296 + q * yn0 := by rw [hY, Nat.mul_add, Nat.mul_assoc]
   rw [e]
   generalize q * yn1 = P at *
   generalize q * yn0 = R at *
   omega
theorem kn_done {q rh : Nat} (k : KnH yn1 yn0 u v Y) (h : KnI yn1 u ((u * 4294967296 + v) / Y) q rh) (hc : ¬ (4294967296 ≤ q ∨ 4294967296 * rh + v < q * yn0)) : q = (u * 4294967296 + v) / Y := by
 obtain ⟨hY, h1, h1', h0, hu, hv⟩ := k
 obtain ⟨hs, hle, _, _⟩ := h
 refine Nat.le_antisymm ?_ hle
 rw [Nat.le_div_iff_mul_le (by omega)]
 have e : q * Y = q * yn1 * 4294967296 + q * yn0 := by rw [hY, Nat.mul_add, Nat.mul_assoc]
 rw [e]
 generalize q * yn1 = P at *
 generalize q * yn0 = R at *
 omega
theorem kn_next {q rh : Nat} (k : KnH yn1 yn0 u v Y) (h : KnI yn1 u ((u * 4294967296 + v) / Y) q rh) (hc : 4294967296 ≤ q ∨ 4294967296 * rh + v < q * yn0) (hr : rh + yn1 < 4294967296) : KnI yn1 u ((u * 4294967296 + v) / Y) (q - 1) (rh + yn1) := by
 have hm := kn_more k h hc
 obtain ⟨hY, h1, h1', h0, hu, hv⟩ := k
 obtain ⟨hs, hle, ht, _⟩ := h
 refine ⟨?_, by omega, by omega, hr⟩
 obtain ⟨p, rfl⟩ : ∃ p, q = p + 1 := ⟨q - 1, by have := Nat.lt_of_le_of_lt (Nat.zero_le _) hm; omega⟩
 rw [Nat.add_sub_cancel]
 rw [Nat.add_mul, Nat.one_mul] at hs
 omega
theorem kn_break {q rh : Nat} (k : KnH yn1 yn0 u v Y) (h : KnI yn1 u ((u * 4294967296 + v) / Y) q rh) (hc : 4294967296 ≤ q ∨ 4294967296 * rh + v < q * yn0) (hr : 4294967296 ≤ rh + yn1) : q - 1 = (u * 4294967296 + v) / Y := by
 have hm := kn_more k h hc
 obtain ⟨hY, h1, h1', h0, hu, hv⟩ := k
 obtain ⟨hs, hle, ht, _⟩ := h
 obtain ⟨p, rfl⟩ : ∃ p, q = p + 1 := ⟨q - 1, by have := Nat.lt_of_le_of_lt (Nat.zero_le _) hm; omega⟩
 rw [Nat.add_sub_cancel]
 rw [Nat.add_mul, Nat.one_mul] at hs
 refine Nat.le_antisymm ?_ (by omega)
 rw [Nat.le_div_iff_mul_le (by omega)]
 have e : p * Y = p * yn1 * 4294967296 + p * yn0 := by rw [hY, Nat.mul_add, Nat.mul_assoc]
 rw [e]
 have hp : p * yn0 ≤ 4294967296 * 4294967295 := Nat.mul_le_mul (by omega) (by omega)
 generalize p * yn1 = P at *
 generalize p * yn0 = R at *
 omega
theorem kn_noover {q rh : Nat} (k : KnH yn1 yn0 u v Y) (h : KnI yn1 u ((u * 4294967296 + v) / Y) q rh) : q * yn0 < 18446744073709551616 ∧ 4294967296 * rh + v < 18446744073709551616 := by
 obtain ⟨hY, h1, h1', h0, hu, hv⟩ := k
 obtain ⟨_, _, ht, hs⟩ := h
 have : q * yn0 ≤ 4294967297 * 4294967295 := Nat.mul_le_mul ht (by omega)
 exact ⟨by omega, by omega⟩
end
theorem kn_whole (D v Y : Nat) (hY : 0 < Y) : (D * 4294967296 + v) / Y = D / Y * 4294967296 + (D % Y * 4294967296 + v) / Y := by
 have h := Nat.div_add_mod' D Y
 generalize D / Y = Q at *
 generalize D % Y = R at *
 have e : D * 4294967296 + v = (R * 4294967296 + v) + Y * (Q * 4294967296) := by
  have : Y * (Q * 4294967296) = Q * Y * 4294967296 := by rw [← Nat.mul_assoc, Nat.mul_comm Y Q]
  rw [this]
  generalize Q * Y = P at *
  omega
 rw [e, Nat.add_mul_div_left _ _ hY, Nat.add_comm]
theorem kn_scale (N y s : Nat) : N * 2 ^ s / (y * 2 ^ s) = N / y := Nat.mul_div_mul_right N y (Nat.two_pow_pos s)
theorem kn_shift_hi (hi lo s : Nat) (hs : s ≤ 63) : hi * 2 ^ s + lo / 2 ^ (64 - s) = (hi * 18446744073709551616 + lo) * 2 ^ s / 18446744073709551616 := by
 have e : 18446744073709551616 = 2 ^ (64 - s) * 2 ^ s := by rw [← Nat.pow_add, show 64 - s + s = 64 by omega]
 have e2 : (hi * 18446744073709551616 + lo) * 2 ^ s = lo * 2 ^ s + 18446744073709551616 * (hi * 2 ^ s) := by
  rw [Nat.add_mul, Nat.mul_assoc, Nat.mul_left_comm, Nat.add_comm]
 rw [e2, Nat.add_mul_div_left _ _ (by decide), Nat.add_comm]
 congr 1
 conv => rhs; rw [e]
 rw [Nat.mul_div_mul_right _ _ (Nat.two_pow_pos s)]
theorem kn_shift_lo (hi lo s : Nat) : lo * 2 ^ s % 18446744073709551616 = (hi * 18446744073709551616 + lo) * 2 ^ s % 18446744073709551616 := by
 have e2 : (hi * 18446744073709551616 + lo) * 2 ^ s = lo * 2 ^ s + 18446744073709551616 * (hi * 2 ^ s) := by
  rw [Nat.add_mul, Nat.mul_assoc, Nat.mul_left_comm, Nat.add_comm]
 rw [e2, Nat.add_mul_mod_self_left]
set_option maxRecDepth 100000 in
theorem len8tab_size : (Lib.len8tab.size : Int) = 256 := by
 have : Lib.len8tab.size = 256 := by decide
 omega
theorem l8_add (k a b : Nat) (hk : k ≤ 56) (ha : a ≤ 8) (hb : b = k + a) : wrap64 ((k : Int) + wrap64 (a : Int)) = (b : Int) := by
 unfold wrap64
 omega
theorem l8_two (a : Nat) (ha : a ≤ 8) : wrap64 (wrap64 (a : Int)) = (a : Int) := by
 unfold wrap64
 omega
theorem l8_one (a : Nat) (ha : a ≤ 8) : wrap64 (a : Int) = (a : Int) := by
 unfold wrap64
 omega
theorem l8_get (y : Int) (h : y.toNat < Lib.len8tab.size) : ((Lib.len8tab[y.toNat]'h).toNat : Int) = Lib.len8 y := by
 unfold Lib.len8
 rw [getElem?_pos Lib.len8tab y.toNat h]
 rfl
set_option maxRecDepth 1000000 in
theorem len64_any (x : Int) (w : World) (h0 : 0 ≤ x) (h1 : x ≤ 18446744073709551615) :
 Calls Tryz.prog 133 #[.int .u64 x] w fun e w' => e = .returned (.int .i64 (Lib.bitLen x.toNat)) ∧ w' = w := by
 go_enter Tryz.func133, Tryz.ntmps133
 go_wp2
 all_goals first
  | (go_ret; refine ⟨congrArg Ending.returned (congrArg (Value.int IntKind.i64) ?_), rfl⟩; go_light)
  | (exfalso
     go_light
     have hs := len8tab_size
     omega)
 all_goals first
  | (rw [l8_get (x / 4294967296 / 65536 / 256) _, Lib.len8_of (x / 4294967296 / 65536 / 256) (by omega) (by omega)]
     have e : (x / 4294967296 / 65536 / 256).toNat = x.toNat / 72057594037927936 := by omega
     have l := Lib.bitLen_le8' (x / 4294967296 / 65536 / 256) (by omega) (by omega)
     have s := Lib.bitLen_shift56 x.toNat (by omega) (by omega)
     rw [e] at l ⊢
     exact l8_add 56 _ _ (by decide) l s)
  | (rw [l8_get (x / 4294967296 / 65536) _, Lib.len8_of (x / 4294967296 / 65536) (by omega) (by omega)]
     have e : (x / 4294967296 / 65536).toNat = x.toNat / 281474976710656 := by omega
     have l := Lib.bitLen_le8' (x / 4294967296 / 65536) (by omega) (by omega)
     have s := Lib.bitLen_shift48 x.toNat (by omega) (by omega)
     rw [e] at l ⊢
     exact l8_add 48 _ _ (by decide) l s)
  | (rw [l8_get (x / 4294967296 / 256) _, Lib.len8_of (x / 4294967296 / 256) (by omega) (by omega)]
     have e : (x / 4294967296 / 256).toNat = x.toNat / 1099511627776 := by omega
     have l := Lib.bitLen_le8' (x / 4294967296 / 256) (by omega) (by omega)
     have s := Lib.bitLen_shift40 x.toNat (by omega) (by omega)
     rw [e] at l ⊢
     exact l8_add 40 _ _ (by decide) l s)
  | (rw [l8_get (x / 4294967296) _, Lib.len8_of (x / 4294967296) (by omega) (by omega)]
     have e : (x / 4294967296).toNat = x.toNat / 4294967296 := by omega
     have l := Lib.bitLen_le8' (x / 4294967296) (by omega) (by omega)
     have s := Lib.bitLen_shift32 x.toNat (by omega) (by omega)
     rw [e] at l ⊢
     exact l8_add 32 _ _ (by decide) l s)
  | (rw [l8_get (x / 65536 / 256) _, Lib.len8_of (x / 65536 / 256) (by omega) (by omega)]
     have e : (x / 65536 / 256).toNat = x.toNat / 16777216 := by omega
     have l := Lib.bitLen_le8' (x / 65536 / 256) (by omega) (by omega)
     have s := Lib.bitLen_shift24 x.toNat (by omega) (by omega)
     rw [e] at l ⊢
     exact l8_add 24 _ _ (by decide) l s)
  | (rw [l8_get (x / 65536) _, Lib.len8_of (x / 65536) (by omega) (by omega)]
     have e : (x / 65536).toNat = x.toNat / 65536 := by omega
     have l := Lib.bitLen_le8' (x / 65536) (by omega) (by omega)
     have s := Lib.bitLen_shift16 x.toNat (by omega) (by omega)
     rw [e] at l ⊢
     exact l8_add 16 _ _ (by decide) l s)
  | (rw [l8_get (x / 256) _, Lib.len8_of (x / 256) (by omega) (by omega)]
     have e : (x / 256).toNat = x.toNat / 256 := by omega
     have l := Lib.bitLen_le8' (x / 256) (by omega) (by omega)
     have s := Lib.bitLen_shift8 x.toNat (by omega) (by omega)
     rw [e] at l ⊢
     exact l8_add 8 _ _ (by decide) l s)
  | (rw [l8_get x _, Lib.len8_of x (by omega) (by omega)]
     have l := Lib.bitLen_le8' x (by omega) (by omega)
     first | exact l8_two _ l | exact l8_add 0 _ _ (by decide) l (by omega) | exact l8_one _ l)
theorem lz64_any (x : Nat) (w : World) (h1 : x < 18446744073709551616) :
 Calls Tryz.prog 132 #[.int .u64 x] w fun e w' => e = .returned (.int .i64 ((64 - Lib.bitLen x : Nat) : Int)) ∧ w' = w := by
 have h := len64_any x w (by omega) (by omega)
 rw [show (x : Int).toNat = x from rfl] at h
 have hl := Lib.bitLen_le x 64 (by omega) (by omega)
 generalize Lib.bitLen x = m at *
 have H := hQ h
 clear h
 go_enter Tryz.func132, Tryz.ntmps132
 go_wp2_with fail
 refine H.out.mono ?_
 rintro e w1 ⟨rfl, rfl⟩
 go_wp2
 go_ret
 exact ⟨ret_int (by first | omega | (simp [wrap64]; omega)), rfl⟩
theorem bl_spec (y : Nat) (h0 : 0 < y) (h1 : y < 2 ^ 64) : 0 < Lib.bitLen y ∧ 2 ^ (Lib.bitLen y - 1) ≤ y ∧ y < 2 ^ Lib.bitLen y := by
 induction y using Nat.strongRecOn with
 | ind y ih =>
  by_cases hy : y = 1
  · subst hy; decide
  · obtain ⟨i0, i1, i2⟩ := ih (y / 2) (by omega) (by omega) (by omega)
    rw [Lib.bitLen_half y (by omega) h1]
    generalize Lib.bitLen (y / 2) = b at *
    obtain ⟨c, rfl⟩ : ∃ c, b = c + 1 := ⟨b - 1, by omega⟩
    rw [show 1 + (c + 1) - 1 = c + 1 by omega, show 1 + (c + 1) = c + 1 + 1 by omega]
    rw [Nat.add_sub_cancel] at i1
    rw [Nat.pow_succ] at i2
    refine ⟨by omega, ?_, ?_⟩
    · rw [Nat.pow_succ]; omega
    · rw [Nat.pow_succ, Nat.pow_succ]; omega
theorem top_bit (y : Nat) (h0 : 0 < y) (h1 : y < 18446744073709551616) : 64 - Lib.bitLen y ≤ 63 ∧ 9223372036854775808 ≤ y * 2 ^ (64 - Lib.bitLen y) ∧ y * 2 ^ (64 - Lib.bitLen y) < 18446744073709551616 := by
 obtain ⟨i0, i1, i2⟩ := bl_spec y h0 h1
 have hm := Lib.bitLen_le y 64 (by omega) h1
 generalize Lib.bitLen y = b at *
 refine ⟨by omega, ?_, ?_⟩
 · have := Nat.mul_le_mul_right (2 ^ (64 - b)) i1
   rw [← Nat.pow_add, show b - 1 + (64 - b) = 63 by omega] at this
   exact this
 · have := Nat.mul_lt_mul_of_pos_right i2 (Nat.two_pow_pos (64 - b))
   rw [← Nat.pow_add, show b + (64 - b) = 64 by omega] at this
   exact this
theorem wrapS (a s : Nat) (h : a * 2 ^ s < 18446744073709551616) : IntKind.u64.wrap ((a : Int) * 2 ^ s) = ((a * 2 ^ s : Nat) : Int) := by
 rw [IntKind.wrap_u64, show (a : Int) * 2 ^ s = ((a * 2 ^ s : Nat) : Int) by simp]
 omega
theorem wrapSm (a s : Nat) : IntKind.u64.wrap ((a : Int) * 2 ^ s) = ((a * 2 ^ s % 18446744073709551616 : Nat) : Int) := by
 rw [IntKind.wrap_u64, show (a : Int) * 2 ^ s = ((a * 2 ^ s : Nat) : Int) by simp]
 omega
theorem or_parts (a b s : Nat) (hs : s ≤ 64) (ha : a * 2 ^ s < 18446744073709551616) (hb : b < 2 ^ s) : bits .or .u64 ((a * 2 ^ s : Nat) : Int) (b : Int) = ((a * 2 ^ s + b : Nat) : Int) := by
 have h64 : b < 18446744073709551616 := Nat.lt_of_lt_of_le hb (Nat.pow_le_pow_right (by decide) hs)
 rw [u64_or_nat _ _ ha h64, nat_join s (a * 2 ^ s) b (by simp) hb]
theorem wrapDiv (a b : Nat) (h : a < 18446744073709551616) : IntKind.u64.wrap ((a : Int).tdiv (b : Int)) = ((a / b : Nat) : Int) := by
 rw [← Int.ofNat_tdiv, IntKind.wrap_u64]
 have := Nat.div_le_self a b
 generalize a / b = c at *
 omega
theorem wrapDiv' (a b : Nat) (h : a < 18446744073709551616) : IntKind.u64.wrap ((a : Int) / (b : Int)) = ((a / b : Nat) : Int) := by
 rw [← Int.natCast_ediv, IntKind.wrap_u64]
 have := Nat.div_le_self a b
 generalize a / b = c at *
 omega
theorem wrapRem (a b : Nat) (h : a < 18446744073709551616) : IntKind.u64.wrap ((a : Int) - IntKind.u64.wrap (((a / b : Nat) : Int) * (b : Int))) = ((a % b : Nat) : Int) := by
 have e := Nat.div_add_mod' a b
 rw [← Int.natCast_mul]
 simp only [IntKind.wrap_u64]
 generalize a / b * b = c at *
 generalize a % b = d at *
 omega
theorem div_start (hi lo y s : Nat) (hh : hi < y) (hl : lo < 18446744073709551616) (hs : s ≤ 63) (bt : 9223372036854775808 ≤ y * 2 ^ s) (btt : y * 2 ^ s < 18446744073709551616) :
 ∃ Y yn1 yn0 U L un1 un0 : Nat, KnH yn1 yn0 U un1 Y ∧ un0 < 4294967296 ∧ Y < 18446744073709551616 ∧
  IntKind.u64.wrap ((y : Int) * 2 ^ s) = (Y : Int) ∧ (Y : Int) / 4294967296 = (yn1 : Int) ∧ bits .and .u64 (Y : Int) 4294967295 = (yn0 : Int) ∧
  bits .or .u64 (IntKind.u64.wrap ((hi : Int) * 2 ^ s)) ((lo : Int) / 2 ^ (64 - s)) = (U : Int) ∧ IntKind.u64.wrap ((lo : Int) * 2 ^ s) = (L : Int) ∧ (L : Int) / 4294967296 = (un1 : Int) ∧ bits .and .u64 (L : Int) 4294967295 = (un0 : Int) ∧
  (hi * 18446744073709551616 + lo) / y = ((U * 4294967296 + un1) * 4294967296 + un0) / Y := by
 refine ⟨y * 2 ^ s, y * 2 ^ s / 4294967296, y * 2 ^ s % 4294967296, hi * 2 ^ s + lo / 2 ^ (64 - s), lo * 2 ^ s % 18446744073709551616, lo * 2 ^ s % 18446744073709551616 / 4294967296, lo * 2 ^ s % 18446744073709551616 % 4294967296, ?_, by omega, btt, wrapS y s btt, by omega, ?_, ?_, wrapSm lo s, by omega, ?_, ?_⟩
 · refine ⟨by omega, by omega, by omega, by omega, ?_, by omega⟩
   rw [kn_shift_hi hi lo s hs]
   rw [Nat.div_lt_iff_lt_mul (by decide)]
   have : (hi * 18446744073709551616 + lo) * 2 ^ s < (y * 18446744073709551616) * 2 ^ s := Nat.mul_lt_mul_of_pos_right (by omega) (Nat.two_pow_pos s)
   rw [Nat.mul_right_comm] at this
   exact this
 · exact Mul64.maskN _ btt
 · have h1 : hi * 2 ^ s < 18446744073709551616 := Nat.lt_of_le_of_lt (Nat.mul_le_mul_right _ (Nat.le_of_lt hh)) btt
   rw [wrapS hi s h1, show (lo : Int) / 2 ^ (64 - s) = ((lo / 2 ^ (64 - s) : Nat) : Int) by simp]
   refine or_parts hi _ s (by omega) h1 ?_
   rw [Nat.div_lt_iff_lt_mul (Nat.two_pow_pos _), ← Nat.pow_add, show s + (64 - s) = 64 by omega]
   exact hl
 · exact Mul64.maskN _ (Nat.mod_lt _ (by decide))
 · rw [← kn_scale _ y s]
   congr 1
   rw [kn_shift_hi hi lo s hs, kn_shift_lo hi lo s]
   omega
def knM (v : Value) : Nat := 4294967296 - (intOf v).toNat
theorem knM_lt {a b : Nat} (h : a < b) (hb : a < 4294967296) : knM (.int .u64 (b : Int)) < knM (.int .u64 (a : Int)) := by
 show 4294967296 - (b : Int).toNat < 4294967296 - (a : Int).toNat
 omega
theorem kn_un21 (U v Y : Nat) (hY : Y < 18446744073709551616) (h0 : 0 < Y) : IntKind.u64.wrap (IntKind.u64.wrap (IntKind.u64.wrap ((U : Int) * 4294967296) + (v : Int)) - IntKind.u64.wrap ((((U * 4294967296 + v) / Y : Nat) : Int) * (Y : Int))) = (((U * 4294967296 + v) % Y : Nat) : Int) := by
 have e := Nat.div_add_mod' (U * 4294967296 + v) Y
 have h := Nat.mod_lt (U * 4294967296 + v) h0
 rw [← Int.natCast_mul]
 simp only [IntKind.wrap_u64]
 generalize (U * 4294967296 + v) / Y * Y = P at *
 generalize (U * 4294967296 + v) % Y = R at *
 omega
theorem kn_quo (Q q : Nat) (h : Q < 4294967296) (h' : q < 4294967296) : IntKind.u64.wrap (IntKind.u64.wrap ((Q : Int) * 4294967296) + (q : Int)) = ((Q * 4294967296 + q : Nat) : Int) := by
 simp only [IntKind.wrap_u64]
 omega
theorem kn_read {yn1 yn0 u v Y qn rn : Nat} (k : KnH yn1 yn0 u v Y) (h : KnI yn1 u ((u * 4294967296 + v) / Y) qn rn) :
 IntKind.u64.wrap (IntKind.u64.wrap (4294967296 * (rn : Int)) + (v : Int)) = ((4294967296 * rn + v : Nat) : Int) ∧ IntKind.u64.wrap ((qn : Int) * (yn0 : Int)) = ((qn * yn0 : Nat) : Int) ∧ IntKind.u64.wrap ((rn : Int) + (yn1 : Int)) = ((rn + yn1 : Nat) : Int) := by
 obtain ⟨h1, h2⟩ := kn_noover k h
 have := h.small
 have := k.h1'
 rw [← Int.natCast_mul]
 simp only [IntKind.wrap_u64]
 generalize qn * yn0 = P at *
 exact ⟨by omega, by omega, by omega⟩
theorem kn_dec {q : Nat} (h0 : 0 < q) (h : q ≤ 4294967297) : IntKind.u64.wrap ((q : Int) - 1) = ((q - 1 : Nat) : Int) := by
 simp only [IntKind.wrap_u64]
 omega
def Turn (P : Int → Int → Prop) (yn1 yn0 v Q : Nat) : Prop := ∀ qi ri : Int, P qi ri →
    ((4294967296 ≤ qi ∨ IntKind.u64.wrap (IntKind.u64.wrap (4294967296 * ri) + (v : Int)) < IntKind.u64.wrap (qi * (yn0 : Int))) →
      (4294967296 ≤ IntKind.u64.wrap (ri + (yn1 : Int)) → IntKind.u64.wrap (qi - 1) = (Q : Int)) ∧
      (¬ 4294967296 ≤ IntKind.u64.wrap (ri + (yn1 : Int)) → P (IntKind.u64.wrap (qi - 1)) (IntKind.u64.wrap (ri + (yn1 : Int))) ∧ knM (.int .u64 (IntKind.u64.wrap (ri + (yn1 : Int)))) < knM (.int .u64 ri))) ∧
    (¬ (4294967296 ≤ qi ∨ IntKind.u64.wrap (IntKind.u64.wrap (4294967296 * ri) + (v : Int)) < IntKind.u64.wrap (qi * (yn0 : Int))) → qi = (Q : Int))
theorem kn_turn {yn1 yn0 u v Y : Nat} (k : KnH yn1 yn0 u v Y) : Turn (fun qi ri => ∃ qn rn : Nat, qi = (qn : Int) ∧ ri = (rn : Int) ∧ KnI yn1 u ((u * 4294967296 + v) / Y) qn rn) yn1 yn0 v ((u * 4294967296 + v) / Y) := by
 rintro qi ri ⟨qn, rn, rfl, rfl, hI⟩
 obtain ⟨r1, r2, r3⟩ := kn_read k hI
 rw [r1, r2, r3]
 have hcc : (4294967296 ≤ (qn : Int) ∨ ((4294967296 * rn + v : Nat) : Int) < ((qn * yn0 : Nat) : Int)) ↔ (4294967296 ≤ qn ∨ 4294967296 * rn + v < qn * yn0) := by
  constructor
  · rintro (h | h)
    · exact .inl (by omega)
    · exact .inr (Int.ofNat_lt.1 h)
  · rintro (h | h)
    · exact .inl (by omega)
    · exact .inr (Int.ofNat_lt.2 h)
 rw [hcc]
 constructor
 · intro hc
   have hm := kn_more k hI hc
   have hq0 : 0 < qn := Nat.lt_of_le_of_lt (Nat.zero_le _) hm
   rw [kn_dec hq0 hI.top]
   constructor
   · intro hb
     rw [kn_break k hI hc (by omega)]
   · intro hb
     have hlt : rn + yn1 < 4294967296 := by omega
     exact ⟨⟨qn - 1, rn + yn1, rfl, rfl, kn_next k hI hc hlt⟩, knM_lt (by have := k.h1; omega) (by omega)⟩
 · intro hc
   rw [kn_done k hI hc]
theorem div_plan {yn1 yn0 U un1 Y un0 : Nat} (k : KnH yn1 yn0 U un1 Y) (hun0 : un0 < 4294967296) (hY : Y < 18446744073709551616) :
 ∃ (Q R q0 r0 q2 r2 Q2 : Nat) (P1 P2 : Int → Int → Prop),
  IntKind.u64.wrap ((U : Int).tdiv (yn1 : Int)) = (q0 : Int) ∧ IntKind.u64.wrap ((U : Int) - IntKind.u64.wrap ((q0 : Int) * (yn1 : Int))) = (r0 : Int) ∧ P1 q0 r0 ∧ Turn P1 yn1 yn0 un1 Q ∧
  IntKind.u64.wrap (IntKind.u64.wrap (IntKind.u64.wrap ((U : Int) * 4294967296) + (un1 : Int)) - IntKind.u64.wrap ((Q : Int) * (Y : Int))) = (R : Int) ∧
  IntKind.u64.wrap ((R : Int).tdiv (yn1 : Int)) = (q2 : Int) ∧ IntKind.u64.wrap ((R : Int) - IntKind.u64.wrap ((q2 : Int) * (yn1 : Int))) = (r2 : Int) ∧ P2 q2 r2 ∧ Turn P2 yn1 yn0 un0 Q2 ∧
  IntKind.u64.wrap (IntKind.u64.wrap ((Q : Int) * 4294967296) + (Q2 : Int)) = ((((U * 4294967296 + un1) * 4294967296 + un0) / Y : Nat) : Int) := by
 have hR := Nat.mod_lt (U * 4294967296 + un1) (show Y > 0 by have := k.hu; omega)
 have k2 : KnH yn1 yn0 ((U * 4294967296 + un1) % Y) un0 Y := ⟨k.hY, k.h1, k.h1', k.h0, hR, hun0⟩
 refine ⟨(U * 4294967296 + un1) / Y, (U * 4294967296 + un1) % Y, U / yn1, U % yn1, (U * 4294967296 + un1) % Y / yn1, (U * 4294967296 + un1) % Y % yn1, ((U * 4294967296 + un1) % Y * 4294967296 + un0) / Y, _, _,
  wrapDiv U yn1 (by have := k.hu; omega), wrapRem U yn1 (by have := k.hu; omega), ⟨_, _, rfl, rfl, kn_init k⟩, kn_turn k, kn_un21 U un1 Y hY (by omega), wrapDiv _ yn1 (by omega), wrapRem _ yn1 (by omega), ⟨_, _, rfl, rfl, kn_init k2⟩, kn_turn k2, ?_⟩
 rw [kn_quo _ _ (kn_lt k) (kn_lt k2), kn_whole (U * 4294967296 + un1) un0 Y (by have := k.hu; omega)]
set_option maxRecDepth 10000 in
theorem div64_n (hi lo y N : Nat) (hN : Hid (N = (hi * 18446744073709551616 + lo) / y)) (hh : hi < y) (hl : lo < 18446744073709551616) (hy : y < 18446744073709551616) (w : World) :
 Calls Tryz.prog 126 #[.int .u64 hi, .int .u64 lo, .int .u64 y] w fun e w' => ∃ r : Int, e = .returned (.tuple #[.int .u64 (N : Int), .int .u64 r]) ∧ ∃ k, w' = w.drewN k := by
 have y0 : ¬ ((y : Int) = 0) := by omega
 have y1 : ¬ (y = 0) := by omega
 have y2 : ¬ ((y : Int) ≤ (hi : Int)) := by omega
 by_cases hz : hi = 0
 · subst hz
   obtain rfl : N = lo / y := by rw [hN.out, Nat.zero_mul, Nat.zero_add]
   clear hN
   go_enter Tryz.func126, Tryz.ntmps126
   go_wp2_with fail
   go_quiet (fail)
   go_wp2
   go_returns
   exact ⟨(lo : Int) % (y : Int), by rw [← wrapDiv' lo y hl]; rfl, _, rfl⟩
 · have hz' : ¬ ((hi : Int) = 0) := by omega
   obtain ⟨b63, bt, btt⟩ := top_bit y (by omega) hy
   have HL := hQ (fun W : World => lz64_any y W hy)
   generalize 64 - Lib.bitLen y = s at *
   obtain ⟨Y, yn1, yn0, U, L, un1, un0, kh, hun0, hY64, e1, e2, e3, e4, e5, e6, e7, hq⟩ := div_start hi lo y s hh hl b63 bt btt
   have hne : ¬ (IntKind.u64.wrap ((y : Int) * 2 ^ s) / 4294967296 = 0) := by rw [e1, e2]; have := kh.h1; omega
   have hnn : 0 ≤ bits .or .u64 (IntKind.u64.wrap ((hi : Int) * 2 ^ s)) ((lo : Int) / 2 ^ (64 - s)) := by rw [e4]; omega
   have hnn2 : 0 ≤ IntKind.u64.wrap ((y : Int) * 2 ^ s) / 4294967296 := by rw [e1, e2]; omega
   have E := hQ (And.intro e1 (And.intro e2 (And.intro e3 (And.intro e4 (And.intro e5 (And.intro e6 e7))))))
   have HQ := hQ hq
   have HK := hQ kh
   clear e1 e2 e3 e4 e5 e6 e7 hq kh
   go_enter Tryz.func126, Tryz.ntmps126
   go_wp2_with fail
   refine (HL.out _).mono ?_
   rintro e w1 ⟨rfl, rfl⟩
   go_wp2_with fail
   obtain ⟨e1, e2, e3, e4, e5, e6, e7⟩ := E.out
   simp only [e1, e2, e3, e4, e5, e6, e7]
   obtain ⟨Q, R, q0, r0, q2, r2, Q2, P1, P2, d1, d2, d3, d4, d5, d6, d7, d8, d9, d10⟩ := div_plan HK.out hun0 hY64
   rw [← HQ.out, ← hN.out] at d10
   simp only [d1]
   simp only [d2]
   have D3 := hQ d3
   have D4 := hQ d4
   have D5 := hQ d5
   have D6 := hQ d6
   have D7 := hQ d7
   have D8 := hQ d8
   have D9 := hQ d9
   have D10 := hQ d10
   have hyn : ¬ (yn1 = 0) := by have := HK.out.h1; omega
   clear d1 d2 d3 d4 d5 d6 d7 d8 d9 d10 hl hy hun0 hY64 bt btt HQ HK e1 e2 e3 e4 e5 e6 e7 hne hnn hnn2 E HL
   clear hN
   go_loopw [15, 16] (fun q r wr => ∃ qi ri : Int, q = .int .u64 qi ∧ r = .int .u64 ri ∧ wr = w1 ∧ Hid (P1 qi ri)) (fun _ r _ => knM r)
   case atStart => exact ⟨q0, r0, rfl, rfl, rfl, D3⟩
   case round =>
    clear D3
    obtain ⟨qi, ri, rfl, rfl, rfl, hI⟩ := hrel
    have T := hQ (D4.out _ _ hI.out)
    by_cases hc1 : (4294967296 : Int) ≤ qi
    · by_cases hbr : 4294967296 ≤ IntKind.u64.wrap (ri + (yn1 : Int))
      · have eq1 := hQ ((T.out.1 (.inl hc1)).1 hbr)
        clear T hI
        go_wp2_with fail
        simp only [eq1.out]
        simp only [D5.out]
        simp only [D6.out]
        simp only [D7.out]
        go_loopw [18, 16] (fun q r wz => ∃ qi ri : Int, q = .int .u64 qi ∧ r = .int .u64 ri ∧ wz = wr ∧ Hid (P2 qi ri)) (fun _ r _ => knM r)
        case atStart => exact ⟨_, _, rfl, rfl, rfl, D8⟩
        case round =>
         clear eq1 hc1 hbr
         obtain ⟨qi, ri, rfl, rfl, rfl, hJ⟩ := hrel
         have T := hQ (D9.out _ _ hJ.out)
         by_cases hc1 : (4294967296 : Int) ≤ qi
         · by_cases hbr : 4294967296 ≤ IntKind.u64.wrap (ri + (yn1 : Int))
           · have eq2 := hQ ((T.out.1 (.inl hc1)).1 hbr)
             clear T hJ
             go_wp2_with fail
             go_returns
             rw [eq2.out, D10.out]
             first
              | exact ⟨⟨IntKind.u64.wrap (IntKind.u64.wrap (IntKind.u64.wrap ((R : Int) * 4294967296) + (un0 : Int)) - IntKind.u64.wrap ((Q2 : Int) * (Y : Int))) / 2 ^ s, rfl⟩, 0, rfl⟩
              | exact ⟨IntKind.u64.wrap (IntKind.u64.wrap (IntKind.u64.wrap ((R : Int) * 4294967296) + (un0 : Int)) - IntKind.u64.wrap ((Q2 : Int) * (Y : Int))) / 2 ^ s, rfl, 0, rfl⟩
           · have eq2 := hQ ((T.out.1 (.inl hc1)).2 hbr)
             clear T hJ
             go_wp2
             exact ⟨⟨_, _, rfl, rfl, trivial, hQ eq2.out.1⟩, eq2.out.2⟩
         · by_cases hc2 : IntKind.u64.wrap (IntKind.u64.wrap (4294967296 * ri) + (un0 : Int)) < IntKind.u64.wrap (qi * (yn0 : Int))
           · by_cases hbr : 4294967296 ≤ IntKind.u64.wrap (ri + (yn1 : Int))
             · have eq2 := hQ ((T.out.1 (.inr hc2)).1 hbr)
               clear T hJ
               go_wp2_with fail
               go_returns
               rw [eq2.out, D10.out]
               first
                | exact ⟨⟨IntKind.u64.wrap (IntKind.u64.wrap (IntKind.u64.wrap ((R : Int) * 4294967296) + (un0 : Int)) - IntKind.u64.wrap ((Q2 : Int) * (Y : Int))) / 2 ^ s, rfl⟩, 0, rfl⟩
                | exact ⟨IntKind.u64.wrap (IntKind.u64.wrap (IntKind.u64.wrap ((R : Int) * 4294967296) + (un0 : Int)) - IntKind.u64.wrap ((Q2 : Int) * (Y : Int))) / 2 ^ s, rfl, 0, rfl⟩
             · have eq2 := hQ ((T.out.1 (.inr hc2)).2 hbr)
               clear T hJ
               go_wp2
               exact ⟨⟨_, _, rfl, rfl, trivial, hQ eq2.out.1⟩, eq2.out.2⟩
           · have eq2 := hQ (T.out.2 (fun h => h.elim hc1 hc2))
             clear T hJ
             go_wp2_with fail
             go_returns
             rw [eq2.out, D10.out]
             first
              | exact ⟨⟨IntKind.u64.wrap (IntKind.u64.wrap (IntKind.u64.wrap ((R : Int) * 4294967296) + (un0 : Int)) - IntKind.u64.wrap ((Q2 : Int) * (Y : Int))) / 2 ^ s, rfl⟩, 0, rfl⟩
              | exact ⟨IntKind.u64.wrap (IntKind.u64.wrap (IntKind.u64.wrap ((R : Int) * 4294967296) + (un0 : Int)) - IntKind.u64.wrap ((Q2 : Int) * (Y : Int))) / 2 ^ s, rfl, 0, rfl⟩
      · have eq1 := hQ ((T.out.1 (.inl hc1)).2 hbr)
        clear T hI
        go_wp2
        exact ⟨⟨_, _, rfl, rfl, trivial, hQ eq1.out.1⟩, eq1.out.2⟩
    · by_cases hc2 : IntKind.u64.wrap (IntKind.u64.wrap (4294967296 * ri) + (un1 : Int)) < IntKind.u64.wrap (qi * (yn0 : Int))
      · by_cases hbr : 4294967296 ≤ IntKind.u64.wrap (ri + (yn1 : Int))
        · have eq1 := hQ ((T.out.1 (.inr hc2)).1 hbr)
          clear T hI
          go_wp2_with fail
          simp only [eq1.out]
          simp only [D5.out]
          simp only [D6.out]
          simp only [D7.out]
          go_loopw [18, 16] (fun q r wz => ∃ qi ri : Int, q = .int .u64 qi ∧ r = .int .u64 ri ∧ wz = wr ∧ Hid (P2 qi ri)) (fun _ r _ => knM r)
          case atStart => exact ⟨_, _, rfl, rfl, rfl, D8⟩
          case round =>
           clear eq1 hc1 hc2 hbr
           obtain ⟨qi, ri, rfl, rfl, rfl, hJ⟩ := hrel
           have T := hQ (D9.out _ _ hJ.out)
           by_cases hc1 : (4294967296 : Int) ≤ qi
           · by_cases hbr : 4294967296 ≤ IntKind.u64.wrap (ri + (yn1 : Int))
             · have eq2 := hQ ((T.out.1 (.inl hc1)).1 hbr)
               clear T hJ
               go_wp2_with fail
               go_returns
               rw [eq2.out, D10.out]
               first
                | exact ⟨⟨IntKind.u64.wrap (IntKind.u64.wrap (IntKind.u64.wrap ((R : Int) * 4294967296) + (un0 : Int)) - IntKind.u64.wrap ((Q2 : Int) * (Y : Int))) / 2 ^ s, rfl⟩, 0, rfl⟩
                | exact ⟨IntKind.u64.wrap (IntKind.u64.wrap (IntKind.u64.wrap ((R : Int) * 4294967296) + (un0 : Int)) - IntKind.u64.wrap ((Q2 : Int) * (Y : Int))) / 2 ^ s, rfl, 0, rfl⟩
             · have eq2 := hQ ((T.out.1 (.inl hc1)).2 hbr)
               clear T hJ
               go_wp2
               exact ⟨⟨_, _, rfl, rfl, trivial, hQ eq2.out.1⟩, eq2.out.2⟩
           · by_cases hc2 : IntKind.u64.wrap (IntKind.u64.wrap (4294967296 * ri) + (un0 : Int)) < IntKind.u64.wrap (qi * (yn0 : Int))
             · by_cases hbr : 4294967296 ≤ IntKind.u64.wrap (ri + (yn1 : Int))
               · have eq2 := hQ ((T.out.1 (.inr hc2)).1 hbr)
                 clear T hJ
                 go_wp2_with fail
                 go_returns
                 rw [eq2.out, D10.out]
                 first
                  | exact ⟨⟨IntKind.u64.wrap (IntKind.u64.wrap (IntKind.u64.wrap ((R : Int) * 4294967296) + (un0 : Int)) - IntKind.u64.wrap ((Q2 : Int) * (Y : Int))) / 2 ^ s, rfl⟩, 0, rfl⟩
                  | exact ⟨IntKind.u64.wrap (IntKind.u64.wrap (IntKind.u64.wrap ((R : Int) * 4294967296) + (un0 : Int)) - IntKind.u64.wrap ((Q2 : Int) * (Y : Int))) / 2 ^ s, rfl, 0, rfl⟩
               · have eq2 := hQ ((T.out.1 (.inr hc2)).2 hbr)
                 clear T hJ
                 go_wp2
                 exact ⟨⟨_, _, rfl, rfl, trivial, hQ eq2.out.1⟩, eq2.out.2⟩
             · have eq2 := hQ (T.out.2 (fun h => h.elim hc1 hc2))
               clear T hJ
               go_wp2_with fail
               go_returns
               rw [eq2.out, D10.out]
               first
                | exact ⟨⟨IntKind.u64.wrap (IntKind.u64.wrap (IntKind.u64.wrap ((R : Int) * 4294967296) + (un0 : Int)) - IntKind.u64.wrap ((Q2 : Int) * (Y : Int))) / 2 ^ s, rfl⟩, 0, rfl⟩
                | exact ⟨IntKind.u64.wrap (IntKind.u64.wrap (IntKind.u64.wrap ((R : Int) * 4294967296) + (un0 : Int)) - IntKind.u64.wrap ((Q2 : Int) * (Y : Int))) / 2 ^ s, rfl, 0, rfl⟩
        · have eq1 := hQ ((T.out.1 (.inr hc2)).2 hbr)
          clear T hI
          go_wp2
          exact ⟨⟨_, _, rfl, rfl, trivial, hQ eq1.out.1⟩, eq1.out.2⟩
      · have eq1 := hQ (T.out.2 (fun h => h.elim hc1 hc2))
        clear T hI
        go_wp2_with fail
        simp only [eq1.out]
        simp only [D5.out]
        simp only [D6.out]
        simp only [D7.out]
        go_loopw [18, 16] (fun q r wz => ∃ qi ri : Int, q = .int .u64 qi ∧ r = .int .u64 ri ∧ wz = wr ∧ Hid (P2 qi ri)) (fun _ r _ => knM r)
        case atStart => exact ⟨_, _, rfl, rfl, rfl, D8⟩
        case round =>
         clear eq1 hc1 hc2
         obtain ⟨qi, ri, rfl, rfl, rfl, hJ⟩ := hrel
         have T := hQ (D9.out _ _ hJ.out)
         by_cases hc1 : (4294967296 : Int) ≤ qi
         · by_cases hbr : 4294967296 ≤ IntKind.u64.wrap (ri + (yn1 : Int))
           · have eq2 := hQ ((T.out.1 (.inl hc1)).1 hbr)
             clear T hJ
             go_wp2_with fail
             go_returns
             rw [eq2.out, D10.out]
             first
              | exact ⟨⟨IntKind.u64.wrap (IntKind.u64.wrap (IntKind.u64.wrap ((R : Int) * 4294967296) + (un0 : Int)) - IntKind.u64.wrap ((Q2 : Int) * (Y : Int))) / 2 ^ s, rfl⟩, 0, rfl⟩
              | exact ⟨IntKind.u64.wrap (IntKind.u64.wrap (IntKind.u64.wrap ((R : Int) * 4294967296) + (un0 : Int)) - IntKind.u64.wrap ((Q2 : Int) * (Y : Int))) / 2 ^ s, rfl, 0, rfl⟩
           · have eq2 := hQ ((T.out.1 (.inl hc1)).2 hbr)
             clear T hJ
             go_wp2
             exact ⟨⟨_, _, rfl, rfl, trivial, hQ eq2.out.1⟩, eq2.out.2⟩
         · by_cases hc2 : IntKind.u64.wrap (IntKind.u64.wrap (4294967296 * ri) + (un0 : Int)) < IntKind.u64.wrap (qi * (yn0 : Int))
           · by_cases hbr : 4294967296 ≤ IntKind.u64.wrap (ri + (yn1 : Int))
             · have eq2 := hQ ((T.out.1 (.inr hc2)).1 hbr)
               clear T hJ
               go_wp2_with fail
               go_returns
               rw [eq2.out, D10.out]
               first
                | exact ⟨⟨IntKind.u64.wrap (IntKind.u64.wrap (IntKind.u64.wrap ((R : Int) * 4294967296) + (un0 : Int)) - IntKind.u64.wrap ((Q2 : Int) * (Y : Int))) / 2 ^ s, rfl⟩, 0, rfl⟩
                | exact ⟨IntKind.u64.wrap (IntKind.u64.wrap (IntKind.u64.wrap ((R : Int) * 4294967296) + (un0 : Int)) - IntKind.u64.wrap ((Q2 : Int) * (Y : Int))) / 2 ^ s, rfl, 0, rfl⟩
             · have eq2 := hQ ((T.out.1 (.inr hc2)).2 hbr)
               clear T hJ
               go_wp2
               exact ⟨⟨_, _, rfl, rfl, trivial, hQ eq2.out.1⟩, eq2.out.2⟩
           · have eq2 := hQ (T.out.2 (fun h => h.elim hc1 hc2))
             clear T hJ
             go_wp2_with fail
             go_returns
             rw [eq2.out, D10.out]
             first
              | exact ⟨⟨IntKind.u64.wrap (IntKind.u64.wrap (IntKind.u64.wrap ((R : Int) * 4294967296) + (un0 : Int)) - IntKind.u64.wrap ((Q2 : Int) * (Y : Int))) / 2 ^ s, rfl⟩, 0, rfl⟩
              | exact ⟨IntKind.u64.wrap (IntKind.u64.wrap (IntKind.u64.wrap ((R : Int) * 4294967296) + (un0 : Int)) - IntKind.u64.wrap ((Q2 : Int) * (Y : Int))) / 2 ^ s, rfl, 0, rfl⟩
theorem div64_any (hi lo y : Nat) (hh : hi < y) (hl : lo < 18446744073709551616) (hy : y < 18446744073709551616) (w : World) :
 Calls Tryz.prog 126 #[.int .u64 hi, .int .u64 lo, .int .u64 y] w fun e w' => ∃ r : Int, e = .returned (.tuple #[.int .u64 (((hi * 18446744073709551616 + lo) / y : Nat) : Int), .int .u64 r]) ∧ ∃ k, w' = w.drewN k := div64_n hi lo y _ (hQ rfl) hh hl hy w
def lessN (a b c d : Nat) : Bool := decide (vN a b < vN c d)
theorem less_any (a b c d : Nat) (ha : a < 18446744073709551616) (hc : c < 18446744073709551616) (w : World) :
 Calls Tryz.prog 105 #[.agg #[.int .u64 (a : Int), .int .u64 (b : Int)], .agg #[.int .u64 (c : Int), .int .u64 (d : Int)]] w fun e w' => e = .returned (.bool (lessN a b c d)) ∧ Below w.heap.size w w' := by
 rcases Nat.lt_trichotomy b d with h | h | h
 · have hr : lessN a b c d = true := by unfold lessN vN; rw [decide_eq_true_iff]; omega
   rw [hr]
   clear ha hc hr
   have h' : (b : Int) < (d : Int) := by omega
   go_enter Tryz.func105, Tryz.ntmps105
   go_wp2
   go_ret
   exact ⟨rfl, by go_grown⟩
 · subst h
   by_cases h : a < c
   · have hr : lessN a b c b = true := by unfold lessN vN; rw [decide_eq_true_iff]; omega
     rw [hr]
     clear ha hc hr
     have h' : (a : Int) < (c : Int) := by omega
     go_enter Tryz.func105, Tryz.ntmps105
     go_wp2
     go_ret
     exact ⟨by simp [*], by go_grown⟩
   · have hr : lessN a b c b = false := by unfold lessN vN; rw [decide_eq_false_iff_not]; omega
     rw [hr]
     clear ha hc hr
     have h' : ¬ ((a : Int) < (c : Int)) := by omega
     go_enter Tryz.func105, Tryz.ntmps105
     go_wp2
     go_ret
     exact ⟨by simp [*], by go_grown⟩
 · have hr : lessN a b c d = false := by unfold lessN vN; rw [decide_eq_false_iff_not]; omega
   rw [hr]
   clear ha hc hr
   have h' : ¬ ((b : Int) < (d : Int)) := by omega
   have h'' : ¬ ((b : Int) = (d : Int)) := by omega
   have h3 : ¬ (b = d) := by omega
   go_enter Tryz.func105, Tryz.ntmps105
   go_wp2
   go_ret
   exact ⟨by first | rfl | simp [*], by go_grown⟩
theorem truth_any (t : Bool) (w : World) :
 Calls Tryz.prog 104 #[.bool t] w fun e w' => e = fromV (if t = true then 1 else 0) 0 ∧ Below w.heap.size w w' := by
 cases t
 · go_enter Tryz.func104, Tryz.ntmps104
   go_wp2
   go_returns
   exact ⟨rfl, by go_grown⟩
 · go_enter Tryz.func104, Tryz.ntmps104
   go_wp2
   go_returns
   exact ⟨rfl, by go_grown⟩
theorem div_short (a b c : Nat) (hc : 0 < c) (ha : a < 18446744073709551616) : vN a b / vN c 0 = (b % c * 18446744073709551616 + a) / c + 18446744073709551616 * (b / c) := by
 have e : vN a b = (b % c * 18446744073709551616 + a) + c * (18446744073709551616 * (b / c)) := by
  have h := Nat.div_add_mod b c
  unfold vN
  generalize b % c = r at *
  have : c * (18446744073709551616 * (b / c)) = 18446744073709551616 * (c * (b / c)) := Nat.mul_left_comm _ _ _
  rw [this]
  generalize c * (b / c) = p at *
  omega
 rw [e, show vN c 0 = c by unfold vN; omega, Nat.add_mul_div_left _ _ hc]
theorem div_short_lt (a b c : Nat) (hc : 0 < c) (ha : a < 18446744073709551616) : (b % c * 18446744073709551616 + a) / c < 18446744073709551616 := by
 rw [Nat.div_lt_iff_lt_mul hc]
 have := Nat.mod_lt b hc
 generalize b % c = r at *
 omega
theorem vdiv_short (a b c : Nat) (ha : a < 18446744073709551616) (hb : b < 18446744073709551616) (hc : c < 18446744073709551616) (h0 : 0 < c) (w : World) :
 Calls Tryz.prog 103 #[.agg #[.int .u64 (a : Int), .int .u64 (b : Int)], .agg #[.int .u64 (c : Int), .int .u64 0]] w fun e w' => e = fromV (loN (vN a b / vN c 0)) (hiN (vN a b / vN c 0)) ∧ Below w.heap.size w w' := by
 have hm := Nat.mod_lt b h0
 have h1 := fun W : World => div64_any (b % c) a c hm ha hc W
 have hlt := div_short_lt a b c h0 ha
 have hbc := Nat.div_le_self b c
 have hlohi : loN (vN a b / vN c 0) = (b % c * 18446744073709551616 + a) / c ∧ hiN (vN a b / vN c 0) = b / c := by
  rw [div_short a b c h0 ha]
  generalize (b % c * 18446744073709551616 + a) / c = q at *
  generalize b / c = h at *
  unfold loN hiN
  exact ⟨by omega, by omega⟩
 obtain ⟨hlo, hhi⟩ := hlohi
 rw [hlo, hhi]
 have hw := wrapDiv' b c hb
 have H1 := hQ h1
 clear h1 hlo hhi hlt hbc hm ha hb hc
 generalize (b % c * 18446744073709551616 + a) / c = q at *
 have c0 : ¬ ((c : Int) = 0) := by omega
 have c1 : ¬ (c = 0) := by omega
 have HW := hQ hw
 clear hw
 unfold fromV
 go_enter Tryz.func103, Tryz.ntmps103
 go_wp2_with fail
 go_quiet (fail)
 go_wp2_with fail
 refine (H1.out _).mono ?_
 rintro e w1 ⟨r, rfl, k, rfl⟩
 go_wp2
 go_returns
 exact ⟨by rw [HW.out], Below.setCell (Below.setCell (below_drewN (by go_grown) _) (by simp; omega) _) (by simp; omega) _⟩
structure LdI (X Y j q r : Nat) : Prop where
 rest : r = X / 2 ^ j % Y
 quo : q = 2 ^ j * (X / 2 ^ j / Y)
theorem ld_start {a b Y : Nat} (ha : a < 18446744073709551616) (hb : b < 18446744073709551616) (hY : 18446744073709551616 ≤ Y) : LdI (vN a b) Y 64 0 (vN b 0) := by
 have e : vN a b / 2 ^ 64 = b := by unfold vN; omega
 have e2 : vN b 0 = b := by unfold vN; omega
 refine ⟨by rw [e, e2, Nat.mod_eq_of_lt (by omega)], by rw [e, Nat.div_eq_of_lt (by omega)]⟩
theorem ld_bit (X m : Nat) : X / 2 ^ m = 2 * (X / 2 ^ (m + 1)) + X / 2 ^ m % 2 := by
 rw [Nat.pow_succ, ← Nat.div_div_eq_div_mul]; omega
theorem ld_less {X Y m q r : Nat} (hY : 0 < Y) (h : LdI X Y (m + 1) q r) (hlt : 2 * r + X / 2 ^ m % 2 < Y) : LdI X Y m q (2 * r + X / 2 ^ m % 2) := by
 obtain ⟨h1, h2⟩ := h
 have hb := ld_bit X m
 generalize X / 2 ^ (m + 1) = P at *
 generalize X / 2 ^ m % 2 = t at *
 have e := Nat.div_add_mod P Y
 have ed : X / 2 ^ m = (2 * r + t) + Y * (2 * (P / Y)) := by
  rw [hb, h1, Nat.mul_left_comm Y 2]
  generalize Y * (P / Y) = z at *
  generalize P % Y = y at *
  omega
 refine ⟨?_, ?_⟩
 · rw [ed, Nat.add_mul_mod_self_left, Nat.mod_eq_of_lt hlt]
 · rw [ed, Nat.add_mul_div_left _ _ hY, Nat.div_eq_of_lt hlt, Nat.zero_add, h2, Nat.pow_succ, Nat.mul_assoc]
theorem ld_more {X Y m q r : Nat} (hY : 0 < Y) (h : LdI X Y (m + 1) q r) (hr : r < Y) (ht : X / 2 ^ m % 2 < 2) (hge : Y ≤ 2 * r + X / 2 ^ m % 2) : LdI X Y m (q + 2 ^ m) (2 * r + X / 2 ^ m % 2 - Y) := by
 obtain ⟨h1, h2⟩ := h
 have hb := ld_bit X m
 generalize X / 2 ^ (m + 1) = P at *
 generalize X / 2 ^ m % 2 = t at *
 have e := Nat.div_add_mod P Y
 have ed : X / 2 ^ m = (2 * r + t - Y) + Y * (2 * (P / Y) + 1) := by
  rw [hb, h1, Nat.mul_add, Nat.mul_left_comm Y 2, Nat.mul_one]
  rw [h1] at hge
  generalize Y * (P / Y) = z at *
  generalize P % Y = y at *
  omega
 have hlt : 2 * r + t - Y < Y := by omega
 refine ⟨?_, ?_⟩
 · rw [ed, Nat.add_mul_mod_self_left, Nat.mod_eq_of_lt hlt]
 · rw [ed, Nat.add_mul_div_left _ _ hY, Nat.div_eq_of_lt hlt, Nat.zero_add, h2, Nat.pow_succ, Nat.mul_add, Nat.mul_one, Nat.mul_assoc]
theorem ld_word (a b m : Nat) (hm : m < 64) : vN a b / 2 ^ m % 2 = a / 2 ^ m % 2 := by
 have e : vN a b = a + 2 ^ m * (2 ^ (64 - m) * b) := by
  unfold vN
  rw [← Nat.mul_assoc, ← Nat.pow_add, show m + (64 - m) = 64 by omega]
 rw [e, Nat.add_mul_div_left _ _ (Nat.two_pow_pos m), show 64 - m = (63 - m) + 1 by omega, Nat.pow_succ, Nat.mul_right_comm]
 omega
theorem twice_lo (r0 t : Nat) (h0 : r0 < 18446744073709551616) (ht : t < 2) : bits .or .u64 (IntKind.u64.wrap ((r0 : Int) * 2)) (t : Int) = ((2 * r0 % 18446744073709551616 + t : Nat) : Int) := by
 have e : IntKind.u64.wrap ((r0 : Int) * 2) = ((2 * r0 % 18446744073709551616 : Nat) : Int) := by rw [IntKind.wrap_u64]; omega
 rw [e, u64_or_nat _ _ (by omega) (by omega), nat_join 1 _ t (by omega) (by omega)]
theorem twice_hi (r0 r1 : Nat) (h0 : r0 < 18446744073709551616) (h1 : r1 < 18446744073709551616) : bits .or .u64 (IntKind.u64.wrap ((r1 : Int) * 2)) ((r0 : Int) / 9223372036854775808) = ((2 * r1 % 18446744073709551616 + r0 / 9223372036854775808 : Nat) : Int) := by
 have e : IntKind.u64.wrap ((r1 : Int) * 2) = ((2 * r1 % 18446744073709551616 : Nat) : Int) := by rw [IntKind.wrap_u64]; omega
 have e2 : (r0 : Int) / 9223372036854775808 = ((r0 / 9223372036854775808 : Nat) : Int) := by omega
 rw [e, e2, u64_or_nat _ _ (by omega) (by omega), nat_join 1 _ (r0 / 9223372036854775808) (by omega) (by omega)]
theorem twice_vN (r0 r1 t : Nat) (h0 : r0 < 18446744073709551616) (h : 2 * vN r0 r1 + t < M128) (ht : t < 2) : vN (2 * r0 % 18446744073709551616 + t) (2 * r1 % 18446744073709551616 + r0 / 9223372036854775808) = 2 * vN r0 r1 + t := by
 unfold vN M128 at *
 omega
theorem bit_and (a m : Nat) (ha : a < 18446744073709551616) : bits .and .u64 ((a : Int) / 2 ^ m) 1 = ((a / 2 ^ m % 2 : Nat) : Int) := by
 have e : (a : Int) / 2 ^ m = ((a / 2 ^ m : Nat) : Int) := by simp
 have h := Nat.div_le_self a (2 ^ m)
 rw [e]
 generalize a / 2 ^ m = c at *
 have h2 := bits_and_u64_nat c 1 (by omega) (by omega)
 rw [show c &&& 1 = c % 2 from Nat.and_one_is_mod c] at h2
 exact h2
theorem or_bit (q m : Nat) (hq : q < 18446744073709551616) (hm : m < 64) (h : q % 2 ^ (m + 1) = 0) : bits .or .u64 (q : Int) (IntKind.u64.wrap (2 ^ m)) = ((q + 2 ^ m : Nat) : Int) := by
 have hp : 2 ^ m < 18446744073709551616 := Nat.pow_lt_pow_right (by decide) hm
 have e : IntKind.u64.wrap ((2 : Int) ^ m) = ((2 ^ m : Nat) : Int) := by
  rw [IntKind.wrap_u64, show ((2 : Int) ^ m) = ((2 ^ m : Nat) : Int) by simp]; omega
 rw [e, u64_or_nat _ _ hq hp, nat_join (m + 1) q (2 ^ m) h (by rw [Nat.pow_succ]; have := Nat.two_pow_pos m; omega)]
structure LdS (a b c d j q r0 r1 : Nat) : Prop where
 inv : LdI (vN a b) (vN c d) j q (vN r0 r1)
 b0 : r0 < 18446744073709551616
 b1 : r1 < 18446744073709551616
theorem ld_q_lt {X Y j q r : Nat} (h : LdI X Y j q r) (hX : X < M128) (hY : 18446744073709551616 ≤ Y) : q < 18446744073709551616 := by
 have h1 : X / 2 ^ j / Y * Y ≤ X / 2 ^ j := Nat.div_mul_le_self _ _
 have h2 : X / 2 ^ j * 2 ^ j ≤ X := Nat.div_mul_le_self _ _
 have h3 : q * Y ≤ X := by
  rw [h.quo, Nat.mul_assoc, Nat.mul_comm]
  exact Nat.le_trans (Nat.mul_le_mul_right _ h1) h2
 have h4 : q * 18446744073709551616 ≤ q * Y := Nat.mul_le_mul_left q hY
 unfold M128 at hX
 omega
theorem ld_turn {a b c d m q r0 r1 : Nat} (ha : a < 18446744073709551616) (hb : b < 18446744073709551616) (hc : c < 18446744073709551616) (hd : d < 18446744073709551616) (h0 : 0 < d) (hm : m < 64) (h : LdS a b c d (m + 1) q r0 r1) :
 ∃ l u : Nat, bits .or .u64 (IntKind.u64.wrap ((r0 : Int) * 2)) (bits .and .u64 ((a : Int) / 2 ^ m) 1) = (l : Int) ∧ bits .or .u64 (IntKind.u64.wrap ((r1 : Int) * 2)) ((r0 : Int) / 9223372036854775808) = (u : Int) ∧ (l < 18446744073709551616 ∧ u < 18446744073709551616) ∧
  (lessN l u c d = true → LdS a b c d m q l u) ∧
  (lessN l u c d = false → ∃ q' : Nat, bits .or .u64 (q : Int) (IntKind.u64.wrap (2 ^ m)) = (q' : Int) ∧ LdS a b c d m q' (loN (vN l u + (M128 - vN c d))) (hiN (vN l u + (M128 - vN c d)))) := by
 obtain ⟨hi, g0, g1⟩ := h
 have hX := vN_lt ha hb
 have hY := vN_lt hc hd
 have hYY : 18446744073709551616 ≤ vN c d := by unfold vN; omega
 have ht : vN a b / 2 ^ m % 2 < 2 := Nat.mod_lt _ (by decide)
 have hr : vN r0 r1 < vN c d := by rw [hi.rest]; exact Nat.mod_lt _ (by omega)
 have hrx : 2 * vN r0 r1 + vN a b / 2 ^ m % 2 < M128 := by
  have e1 := ld_bit (vN a b) m
  have e2 : vN r0 r1 ≤ vN a b / 2 ^ (m + 1) := by rw [hi.rest]; exact Nat.mod_le _ _
  have e3 := Nat.div_le_self (vN a b) (2 ^ m)
  omega
 have hq := ld_q_lt hi hX hYY
 have hq0 : q % 2 ^ (m + 1) = 0 := by rw [hi.quo]; exact Nat.mul_mod_right _ _
 have hw := ld_word a b m hm
 have e1 := bit_and a m ha
 rw [← hw] at e1
 generalize htt : vN a b / 2 ^ m % 2 = t at *
 have e2 := twice_lo r0 t g0 ht
 have e3 := twice_hi r0 r1 g0 g1
 have e4 := twice_vN r0 r1 t g0 hrx ht
 refine ⟨_, _, by rw [e1]; exact e2, e3, ⟨by omega, ?_⟩, ?_, ?_⟩
 · unfold vN M128 at hrx
   omega
 · intro hl
   have hl : _ < _ := of_decide_eq_true hl
   rw [e4] at hl
   refine ⟨?_, by omega, ?_⟩
   · rw [e4, ← htt]
     exact ld_less (by omega) hi (by rw [htt]; exact hl)
   · unfold vN M128 at hrx
     omega
 · intro hl
   have hl : ¬ (_ < _) := of_decide_eq_false hl
   rw [e4] at hl
   refine ⟨_, or_bit q m hq hm hq0, ?_, loN_lt _, hiN_lt _⟩
   rw [vN_lohi, e4]
   have := ld_more (by omega) hi hr (by rw [htt]; exact ht) (by rw [htt]; omega)
   rw [htt] at this
   have e5 : (2 * vN r0 r1 + t + (M128 - vN c d)) % M128 = 2 * vN r0 r1 + t - vN c d := by
    unfold M128 at *
    omega
   rw [e5]
   exact this
theorem ld_end {a b c d q r0 r1 : Nat} (ha : a < 18446744073709551616) (hb : b < 18446744073709551616) (h0 : 0 < d) (h : LdS a b c d 0 q r0 r1) : loN (vN a b / vN c d) = q ∧ hiN (vN a b / vN c d) = 0 := by
 have hY : 18446744073709551616 ≤ vN c d := by unfold vN; omega
 have hq := ld_q_lt h.inv (vN_lt ha hb) hY
 have e := h.inv.quo
 rw [Nat.pow_zero, Nat.one_mul, Nat.div_one] at e
 rw [← e]
 unfold loN hiN
 exact ⟨by omega, by omega⟩
theorem vdiv_long (a b c d : Nat) (ha : a < 18446744073709551616) (hb : b < 18446744073709551616) (hc : c < 18446744073709551616) (hd : d < 18446744073709551616) (h0 : 0 < d) (w : World) :
 Calls Tryz.prog 103 #[.agg #[.int .u64 (a : Int), .int .u64 (b : Int)], .agg #[.int .u64 (c : Int), .int .u64 (d : Int)]] w fun e w' => e = fromV (loN (vN a b / vN c d)) (hiN (vN a b / vN c d)) ∧ Below w.heap.size w w' := by
 have HST : Hid (LdS a b c d 64 0 b 0) := hQ ⟨ld_start ha hb (by unfold vN; omega), hb, by omega⟩
 have HT := hQ (fun (m q r0 r1 : Nat) (hm : m < 64) (h : LdS a b c d (m + 1) q r0 r1) => ld_turn ha hb hc hd h0 hm h)
 have HE := hQ (fun (q r0 r1 : Nat) (h : LdS a b c d 0 q r0 r1) => ld_end ha hb h0 h)
 have HL := hQ (fun (l u : Nat) (hl : l < 18446744073709551616) (W : World) => less_any l u c d hl hc W)
 have HS := hQ (fun (l u : Nat) (hl : l < 18446744073709551616) (hu : u < 18446744073709551616) (W : World) => vsub_any l u c d hl hu hc hd W)
 unfold fromV at HS
 have d0 : ¬ (d = 0) := by omega
 have d1 : ¬ ((d : Int) = 0) := by omega
 clear ha hb hc hd h0
 unfold fromV
 generalize loN (vN a b / vN c d) = rl at *
 generalize hiN (vN a b / vN c d) = rh at *
 go_enter Tryz.func103, Tryz.ntmps103
 go_wp2_with fail
 have hd0 : ((d : Int) == 0) = false := by simpa using d1
 simp only [hd0]
 go_loopw [9, 11] (fun q k wr => ∃ (j : Nat) (i : Int) (n r0 r1 : Nat), k = .int .i64 i ∧ q = .int .u64 n ∧ Hid (i = (j : Int) - 1 ∧ j ≤ 64) ∧ Hid (LdS a b c d j n r0 r1) ∧ Hid (Below w.heap.size w wr) ∧
  Hid (Blk wr w.heap.size 38 #[.int .u64 (a : Nat), .int .u64 (b : Nat)]) ∧ Hid (Blk wr (w.heap.size + 1) 38 #[.int .u64 (c : Nat), .int .u64 (d : Nat)]) ∧ Hid (Blk wr (w.heap.size + 1 + 1) 38 #[.int .u64 0, .int .u64 0]) ∧ Hid (Blk wr (w.heap.size + 1 + 1 + 1) 38 #[.int .u64 (r0 : Nat), .int .u64 (r1 : Nat)])) (fun _ k _ => (intOf k + 1).toNat)
 case atStart =>
  exact ⟨64, 63, 0, b, 0, rfl, rfl, hQ ⟨by omega, by omega⟩, HST, hQ ((((Below.refl w.heap.size w).alloc nL _).alloc (by simp) _).alloc (by simp; omega) _ |>.alloc (by simp; omega) _),
   hQ ((((Blk.newAt rfl).alloc _).alloc _).alloc _), hQ (((Blk.newAt (by simp)).alloc _).alloc _), hQ ((Blk.newAt (by simp)).alloc _), hQ (Blk.newAt (by simp))⟩
 case round =>
  clear HST
  obtain ⟨j, i, n, r0, r1, rfl, rfl, HI, HR, HB, Kx, Ky, Kz, Kr⟩ := hrel
  obtain ⟨x0, x1, -, -, zx⟩ := Kx.out.two
  obtain ⟨y0, y1, -, -, zy⟩ := Ky.out.two
  obtain ⟨p0, p1, fp0, fp1, zp⟩ := Kz.out.two
  obtain ⟨q0, q1, fq0, fq1, zq⟩ := Kr.out.two
  obtain ⟨hi, hj⟩ := HI.out
  rcases Nat.eq_zero_or_pos j with hj0 | hj0
  · subst hj0
    obtain ⟨g1, g2⟩ := HE.out _ _ _ HR.out
    obtain rfl : i = -1 := by omega
    clear hi hj HT HE HL HS HR
    go_wp2
    refine bodyPost_ret (v := .agg #[.int .u64 (rl : Nat), .int .u64 (rh : Nat)]) (by simp [results, Tryz.results103, go_sem, *]) rfl ?_
    exact ⟨rfl, by first | exact HB.out | exact (HB.out.setCell (by simp; omega) _).setCell (by simp; omega) _⟩
  · obtain ⟨m, rfl⟩ : ∃ m, j = m + 1 := ⟨j - 1, by omega⟩
    obtain rfl : i = (m : Int) := by omega
    obtain ⟨l, u, e1, e2, ⟨hl, hu⟩, t1, t2⟩ := HT.out m n r0 r1 (by omega) HR.out
    have E1 := hQ e1
    have E2 := hQ e2
    have T1 := hQ t1
    have T2 := hQ t2
    have HLU := hQ (And.intro hl hu)
    have hm0 : (0 : Int) ≤ (m : Int) := by omega
    have hm1 : (m : Int) < 64 := by omega
    have HJ := hQ hj
    clear e1 e2 t1 t2 hl hu hi hj hj0 HI
    go_wp2_with fail
    go_region
    simp only [E1.out, E2.out]
    go_wp2_with fail
    refine (HL.out l u HLU.out.1 _).mono ?_
    rintro e w1 ⟨rfl, bel⟩
    have HB1 := hQ ((((HB.out.setCell (p := ⟨w.heap.size + 1 + 1 + 1, 0, none⟩) (by simp; omega) (.int .u64 (l : Nat))).setCell (p := ⟨w.heap.size + 1 + 1 + 1, 1, none⟩) (by simp; omega) (.int .u64 (u : Nat))).drew).trans (bel.mono (by simp [World.setCell]; omega)))
    have Kx1 := hQ (Blk.after ((((Kx.out.far (by show _ ≠ w.heap.size + 1 + 1 + 1; omega) _).far (by show _ ≠ w.heap.size + 1 + 1 + 1; omega) _)).drew) bel)
    have Ky1 := hQ (Blk.after ((((Ky.out.far (by show _ ≠ w.heap.size + 1 + 1 + 1; omega) _).far (by show _ ≠ w.heap.size + 1 + 1 + 1; omega) _)).drew) bel)
    have Kz1 := hQ (Blk.after ((((Kz.out.far (by show _ ≠ w.heap.size + 1 + 1 + 1; omega) _).far (by show _ ≠ w.heap.size + 1 + 1 + 1; omega) _)).drew) bel)
    have Kr1 : Hid (Blk w1 (w.heap.size + 1 + 1 + 1) 38 #[.int .u64 (l : Nat), .int .u64 (u : Nat)]) := hQ (Blk.after (((Kr.out.set_ 0 (.int .u64 (l : Nat))).set_ 1 (.int .u64 (u : Nat))).drew) bel)
    clear bel x0 x1 zx y0 y1 zy p0 p1 fp0 fp1 zp q0 q1 fq0 fq1 zq HB Kx Ky Kz Kr HR HT E1 E2
    obtain ⟨x0, x1, -, -, zx⟩ := Kx1.out.two
    obtain ⟨y0, y1, -, -, zy⟩ := Ky1.out.two
    obtain ⟨q0, q1, fq0, fq1, zq⟩ := Kr1.out.two
    rcases hless : lessN l u c d with _ | _
    · obtain ⟨n', e1, hR⟩ := T2.out hless
      have E1 := hQ e1
      have HR := hQ hR
      clear e1 hR T1 T2 hless
      have HS := hQ (fun W : World => HS.out l u HLU.out.1 HLU.out.2 W)
      generalize loN (vN l u + (M128 - vN c d)) = l2 at *
      generalize hiN (vN l u + (M128 - vN c d)) = u2 at *
      go_wp2_with fail
      refine (HS.out _).mono ?_
      rintro e w2 ⟨rfl, bel⟩
      have HB2 := hQ (HB1.out.trans (bel.mono HB1.out.size))
      have Kx2 := hQ (Blk.after Kx1.out bel)
      have Ky2 := hQ (Blk.after Ky1.out bel)
      have Kz2 := hQ (Blk.after Kz1.out bel)
      have Kr2 := hQ (Blk.after Kr1.out bel)
      clear bel x0 x1 zx y0 y1 zy q0 q1 fq0 fq1 zq HB1 Kx1 Ky1 Kz1 Kr1
      obtain ⟨x0, x1, -, -, zx⟩ := Kx2.out.two
      obtain ⟨y0, y1, -, -, zy⟩ := Ky2.out.two
      obtain ⟨q0, q1, fq0, fq1, zq⟩ := Kr2.out.two
      go_wp2_with fail
      simp only [E1.out]
      go_roundw
      case rel =>
       exact ⟨m, (m : Int) - 1, n', l2, u2, by go_num, rfl, hQ ⟨rfl, by have := HJ.out; omega⟩, HR, (hQ ((HB2.out.setCell (by simp <;> omega) _).setCell (by simp <;> omega) _)), hQ ((Kx2.out.far (by simp <;> omega) _).far (by simp <;> omega) _), hQ ((Ky2.out.far (by simp <;> omega) _).far (by simp <;> omega) _), hQ ((Kz2.out.far (by simp <;> omega) _).far (by simp <;> omega) _), hQ ((Kr2.out.set_ 0 _).set_ 1 _)⟩
      case measure => simp [intOf] <;> omega
    · have HR := hQ (T1.out hless)
      clear T1 T2 hless
      go_wp2
      go_roundw
      case rel => exact ⟨m, (m : Int) - 1, n, l, u, by go_num, rfl, hQ ⟨rfl, by have := HJ.out; omega⟩, HR, HB1, Kx1, Ky1, Kz1, Kr1⟩
      case measure => simp [intOf] <;> omega
def bitsN (o : BinOp) (a c : Nat) : Nat := (bits o .u64 (a : Int) (c : Int)).toNat
theorem bitsN_eq (o : BinOp) (a c : Nat) : bits o .u64 (a : Int) (c : Int) = ((bitsN o a c : Nat) : Int) := by
 unfold bitsN
 have h := wf_bits o .u64 a c
 simp [Lit.wf, IntKind.min, IntKind.max, IntKind.signed, IntKind.bits] at h
 omega
def apR (w : World) (r : (Nat × Nat) × Bool) (e : Ending) (w' : World) : Prop := e = .returned (.tuple #[.agg #[.int .u64 (r.1.1 : Int), .int .u64 (r.1.2 : Int)], .bool r.2]) ∧ Below w.heap.size w w'
theorem ap_div_s (a b c : Nat) (ha : a < 18446744073709551616) (hb : b < 18446744073709551616) (hc : c < 18446744073709551616) (h0 : 0 < c) (w : World) :
 Calls Tryz.prog 73 #[.int .i64 5, .agg #[.int .u64 (a : Int), .int .u64 (b : Int)], .agg #[.int .u64 (c : Int), .int .u64 0]] w (apR w ((loN (vN a b / vN c 0), hiN (vN a b / vN c 0)), true)) := by
 have h1 := fun W : World => vdiv_short a b c ha hb hc h0 W
 unfold fromV at h1
 unfold apR
 generalize loN (vN a b / vN c 0) = lo at *
 generalize hiN (vN a b / vN c 0) = hi at *
 have H1 := hQ h1
 have n0 : ¬ (c = 0) := by omega
 have n1 : ¬ (((c : Nat) : Int) = 0) := by omega
 clear h1 ha hb hc
 go_enter Tryz.func73, Tryz.ntmps73
 go_wp2_with fail
 refine (H1.out _).mono ?_
 rintro e w1 ⟨rfl, bel1⟩
 obtain ⟨hc1, hf1⟩ := bcell bel1
 have hz1 := bel1.size
 simp at hz1
 have z1 : w.heap.size + 1 + 1 < w1.heap.size := (by omega)
 have HB1 := hQ ((((Below.refl w.heap.size w).alloc nL _).alloc (by simp) _).alloc (by simp; omega) _ |>.trans (bel1.mono (by simp; omega)))
 have q0 : w1.cell? ⟨w.heap.size + 1 + 1, 0, none⟩ = some (.int .u64 0) := (by rw [hc1 _ _ (by simp)]; go_simp)
 have q1 : w1.cell? ⟨w.heap.size + 1 + 1, 1, none⟩ = some (.int .u64 0) := (by rw [hc1 _ _ (by simp)]; go_simp)
 have f0 : w1.frozen? ⟨w.heap.size + 1 + 1, 0, none⟩ = false := (by rw [hf1 _ _ (by simp)]; go_simp)
 have f1 : w1.frozen? ⟨w.heap.size + 1 + 1, 1, none⟩ = false := (by rw [hf1 _ _ (by simp)]; go_simp)
 clear hc1 hf1 hz1 bel1
 go_wp2
 refine bodyPost_ret (v := .tuple #[.agg #[.int .u64 (lo : Nat), .int .u64 (hi : Nat)], .bool true]) (by simp [results, Tryz.results73, go_sem, q0, q1]) rfl ?_
 exact ⟨rfl, (HB1.out.setCell (by simp; omega) _).setCell (by simp; omega) _⟩
theorem ap_div_l (a b c d : Nat) (ha : a < 18446744073709551616) (hb : b < 18446744073709551616) (hc : c < 18446744073709551616) (hd : d < 18446744073709551616) (h0 : 0 < d) (w : World) :
 Calls Tryz.prog 73 #[.int .i64 5, .agg #[.int .u64 (a : Int), .int .u64 (b : Int)], .agg #[.int .u64 (c : Int), .int .u64 (d : Int)]] w (apR w ((loN (vN a b / vN c d), hiN (vN a b / vN c d)), true)) := by
 have h1 := fun W : World => vdiv_long a b c d ha hb hc hd h0 W
 unfold fromV at h1
 unfold apR
 generalize loN (vN a b / vN c d) = lo at *
 generalize hiN (vN a b / vN c d) = hi at *
 have H1 := hQ h1
 have n0 : ¬ (d = 0) := by omega
 have n1 : ¬ (((d : Nat) : Int) = 0) := by omega
 clear h1 ha hb hc hd
 go_enter Tryz.func73, Tryz.ntmps73
 go_wp2_with fail
 refine (H1.out _).mono ?_
 rintro e w1 ⟨rfl, bel1⟩
 obtain ⟨hc1, hf1⟩ := bcell bel1
 have hz1 := bel1.size
 simp at hz1
 have z1 : w.heap.size + 1 + 1 < w1.heap.size := (by omega)
 have HB1 := hQ ((((Below.refl w.heap.size w).alloc nL _).alloc (by simp) _).alloc (by simp; omega) _ |>.trans (bel1.mono (by simp; omega)))
 have q0 : w1.cell? ⟨w.heap.size + 1 + 1, 0, none⟩ = some (.int .u64 0) := (by rw [hc1 _ _ (by simp)]; go_simp)
 have q1 : w1.cell? ⟨w.heap.size + 1 + 1, 1, none⟩ = some (.int .u64 0) := (by rw [hc1 _ _ (by simp)]; go_simp)
 have f0 : w1.frozen? ⟨w.heap.size + 1 + 1, 0, none⟩ = false := (by rw [hf1 _ _ (by simp)]; go_simp)
 have f1 : w1.frozen? ⟨w.heap.size + 1 + 1, 1, none⟩ = false := (by rw [hf1 _ _ (by simp)]; go_simp)
 clear hc1 hf1 hz1 bel1
 go_wp2
 refine bodyPost_ret (v := .tuple #[.agg #[.int .u64 (lo : Nat), .int .u64 (hi : Nat)], .bool true]) (by simp [results, Tryz.results73, go_sem, q0, q1]) rfl ?_
 exact ⟨rfl, (HB1.out.setCell (by simp; omega) _).setCell (by simp; omega) _⟩
theorem ap_div_0 (a b : Nat) (w : World) :
 Calls Tryz.prog 73 #[.int .i64 5, .agg #[.int .u64 (a : Int), .int .u64 (b : Int)], .agg #[.int .u64 0, .int .u64 0]] w (apR w ((0, 0), false)) := by
 unfold apR
 go_enter Tryz.func73, Tryz.ntmps73
 go_wp2
 go_returns
 exact ⟨rfl, by go_grown⟩
theorem ap_and (a b c d : Nat) (ha : a < 18446744073709551616) (hb : b < 18446744073709551616) (hc : c < 18446744073709551616) (hd : d < 18446744073709551616) (w : World) :
 Calls Tryz.prog 73 #[.int .i64 6, .agg #[.int .u64 (a : Int), .int .u64 (b : Int)], .agg #[.int .u64 (c : Int), .int .u64 (d : Int)]] w (apR w ((bitsN .and a c, bitsN .and b d), true)) := by
 have e1 := bitsN_eq .and a c
 have e2 := bitsN_eq .and b d
 have E1 := hQ e1
 have E2 := hQ e2
 clear e1 e2
 unfold apR
 go_enter Tryz.func73, Tryz.ntmps73
 go_wp2
 go_returns
 exact ⟨by rw [E1.out, E2.out], by go_grown⟩
theorem ap_or (a b c d : Nat) (ha : a < 18446744073709551616) (hb : b < 18446744073709551616) (hc : c < 18446744073709551616) (hd : d < 18446744073709551616) (w : World) :
 Calls Tryz.prog 73 #[.int .i64 7, .agg #[.int .u64 (a : Int), .int .u64 (b : Int)], .agg #[.int .u64 (c : Int), .int .u64 (d : Int)]] w (apR w ((bitsN .or a c, bitsN .or b d), true)) := by
 have e1 := bitsN_eq .or a c
 have e2 := bitsN_eq .or b d
 have E1 := hQ e1
 have E2 := hQ e2
 clear e1 e2
 unfold apR
 go_enter Tryz.func73, Tryz.ntmps73
 go_wp2
 go_returns
 exact ⟨by rw [E1.out, E2.out], by go_grown⟩
theorem ap_xor (a b c d : Nat) (ha : a < 18446744073709551616) (hb : b < 18446744073709551616) (hc : c < 18446744073709551616) (hd : d < 18446744073709551616) (w : World) :
 Calls Tryz.prog 73 #[.int .i64 8, .agg #[.int .u64 (a : Int), .int .u64 (b : Int)], .agg #[.int .u64 (c : Int), .int .u64 (d : Int)]] w (apR w ((bitsN .xor a c, bitsN .xor b d), true)) := by
 have e1 := bitsN_eq .xor a c
 have e2 := bitsN_eq .xor b d
 have E1 := hQ e1
 have E2 := hQ e2
 clear e1 e2
 unfold apR
 go_enter Tryz.func73, Tryz.ntmps73
 go_wp2
 go_returns
 exact ⟨by rw [E1.out, E2.out], by go_grown⟩
theorem ap_less (a b c d : Nat) (ha : a < 18446744073709551616) (hb : b < 18446744073709551616) (hc : c < 18446744073709551616) (hd : d < 18446744073709551616) (w : World) :
 Calls Tryz.prog 73 #[.int .i64 9, .agg #[.int .u64 (a : Int), .int .u64 (b : Int)], .agg #[.int .u64 (c : Int), .int .u64 (d : Int)]] w (apR w ((if lessN a b c d = true then 1 else 0, 0), true)) := by
 have H1 := hQ (fun W : World => less_any a b c d ha hc W)
 have h2 := fun W : World => truth_any (lessN a b c d) W
 unfold fromV at h2
 unfold apR
 generalize (if lessN a b c d = true then 1 else 0) = t at *
 generalize lessN a b c d = bb at *
 have H2 := hQ h2
 clear h2 ha hb hc hd
 go_enter Tryz.func73, Tryz.ntmps73
 go_wp2_with fail
 refine (H1.out _).mono ?_
 rintro e w1 ⟨rfl, bel1⟩
 obtain ⟨hc1, hf1⟩ := bcell bel1
 have hz1 := bel1.size
 simp at hz1
 have z1 : w.heap.size + 1 + 1 < w1.heap.size := (by omega)
 have HB1 := hQ ((((Below.refl w.heap.size w).alloc nL _).alloc (by simp) _).alloc (by simp; omega) _ |>.trans (bel1.mono (by simp; omega)))
 have q0 : w1.cell? ⟨w.heap.size + 1 + 1, 0, none⟩ = some (.int .u64 0) := (by rw [hc1 _ _ (by simp)]; go_simp)
 have q1 : w1.cell? ⟨w.heap.size + 1 + 1, 1, none⟩ = some (.int .u64 0) := (by rw [hc1 _ _ (by simp)]; go_simp)
 have f0 : w1.frozen? ⟨w.heap.size + 1 + 1, 0, none⟩ = false := (by rw [hf1 _ _ (by simp)]; go_simp)
 have f1 : w1.frozen? ⟨w.heap.size + 1 + 1, 1, none⟩ = false := (by rw [hf1 _ _ (by simp)]; go_simp)
 clear hc1 hf1 hz1 bel1
 go_wp2_with fail
 refine (H2.out _).mono ?_
 rintro e w2 ⟨rfl, bel2⟩
 obtain ⟨hc2, hf2⟩ := bcell bel2
 have hz2 := bel2.size
 have z2 : w.heap.size + 1 + 1 < w2.heap.size := (by omega)
 have HB2 := hQ (HB1.out.trans (bel2.mono (by omega)))
 have q0 : w2.cell? ⟨w.heap.size + 1 + 1, 0, none⟩ = some (.int .u64 0) := (by rw [hc2 _ _ z1]; exact q0)
 have q1 : w2.cell? ⟨w.heap.size + 1 + 1, 1, none⟩ = some (.int .u64 0) := (by rw [hc2 _ _ z1]; exact q1)
 have f0 : w2.frozen? ⟨w.heap.size + 1 + 1, 0, none⟩ = false := (by rw [hf2 _ _ z1]; exact f0)
 have f1 : w2.frozen? ⟨w.heap.size + 1 + 1, 1, none⟩ = false := (by rw [hf2 _ _ z1]; exact f1)
 clear hc2 hf2 hz2 bel2
 go_wp2
 refine bodyPost_ret (v := .tuple #[.agg #[.int .u64 (t : Nat), .int .u64 (0 : Nat)], .bool true]) (by simp [results, Tryz.results73, go_sem, q0, q1]) rfl ?_
 exact ⟨rfl, (HB2.out.setCell (by simp; omega) _).setCell (by simp; omega) _⟩
def eqN (a b c d : Nat) : Nat := if a = c ∧ b = d then 1 else 0
theorem ap_equal (a b c d : Nat) (w : World) :
 Calls Tryz.prog 73 #[.int .i64 10, .agg #[.int .u64 (a : Int), .int .u64 (b : Int)], .agg #[.int .u64 (c : Int), .int .u64 (d : Int)]] w (apR w ((eqN a b c d, 0), true)) := by
 have H2 := hQ (fun (W : World) (t : Bool) => truth_any t W)
 unfold apR
 rcases (show (a = c ∧ b = d) ∨ (a = c ∧ ¬ b = d) ∨ ¬ a = c by omega) with ⟨h1, h2⟩ | ⟨h1, h2⟩ | h1
 · subst h1 h2
   rw [show eqN a b a b = 1 by unfold eqN; rw [if_pos ⟨rfl, rfl⟩]]
   go_enter Tryz.func73, Tryz.ntmps73
   go_wp2_with fail
   refine ((H2.out _ true).mono ?_)
   rintro e w1 ⟨rfl, bel1⟩
   rw [show fromV (if true = true then 1 else 0) 0 = .returned (.agg #[.int .u64 1, .int .u64 0]) from rfl]
   obtain ⟨hc1, hf1⟩ := bcell bel1
   have hz1 := bel1.size
   simp at hz1
   have z1 : w.heap.size + 1 + 1 < w1.heap.size := (by omega)
   have HB1 := hQ ((((Below.refl w.heap.size w).alloc nL _).alloc (by simp) _).alloc (by simp; omega) _ |>.trans (bel1.mono (by simp; omega)))
   have q0 : w1.cell? ⟨w.heap.size + 1 + 1, 0, none⟩ = some (.int .u64 0) := (by rw [hc1 _ _ (by simp)]; go_simp)
   have q1 : w1.cell? ⟨w.heap.size + 1 + 1, 1, none⟩ = some (.int .u64 0) := (by rw [hc1 _ _ (by simp)]; go_simp)
   have f0 : w1.frozen? ⟨w.heap.size + 1 + 1, 0, none⟩ = false := (by rw [hf1 _ _ (by simp)]; go_simp)
   have f1 : w1.frozen? ⟨w.heap.size + 1 + 1, 1, none⟩ = false := (by rw [hf1 _ _ (by simp)]; go_simp)
   clear hc1 hf1 hz1 bel1
   go_wp2
   refine bodyPost_ret (v := .tuple #[.agg #[.int .u64 1, .int .u64 0], .bool true]) (by simp [results, Tryz.results73, go_sem, q0, q1]) rfl ?_
   exact ⟨rfl, (HB1.out.setCell (by simp; omega) _).setCell (by simp; omega) _⟩
 · subst h1
   rw [show eqN a b a d = 0 by unfold eqN; rw [if_neg (fun h => h2 h.2)]]
   have g2 : ¬ ((b : Int) = (d : Int)) := by omega
   go_enter Tryz.func73, Tryz.ntmps73
   go_wp2_with fail
   refine ((H2.out _ false).mono ?_)
   rintro e w1 ⟨rfl, bel1⟩
   rw [show fromV (if false = true then 1 else 0) 0 = .returned (.agg #[.int .u64 0, .int .u64 0]) from rfl]
   obtain ⟨hc1, hf1⟩ := bcell bel1
   have hz1 := bel1.size
   simp at hz1
   have z1 : w.heap.size + 1 + 1 < w1.heap.size := (by omega)
   have HB1 := hQ ((((Below.refl w.heap.size w).alloc nL _).alloc (by simp) _).alloc (by simp; omega) _ |>.trans (bel1.mono (by simp; omega)))
   have q0 : w1.cell? ⟨w.heap.size + 1 + 1, 0, none⟩ = some (.int .u64 0) := (by rw [hc1 _ _ (by simp)]; go_simp)
   have q1 : w1.cell? ⟨w.heap.size + 1 + 1, 1, none⟩ = some (.int .u64 0) := (by rw [hc1 _ _ (by simp)]; go_simp)
   have f0 : w1.frozen? ⟨w.heap.size + 1 + 1, 0, none⟩ = false := (by rw [hf1 _ _ (by simp)]; go_simp)
   have f1 : w1.frozen? ⟨w.heap.size + 1 + 1, 1, none⟩ = false := (by rw [hf1 _ _ (by simp)]; go_simp)
   clear hc1 hf1 hz1 bel1
   go_wp2
   refine bodyPost_ret (v := .tuple #[.agg #[.int .u64 0, .int .u64 0], .bool true]) (by simp [results, Tryz.results73, go_sem, q0, q1]) rfl ?_
   exact ⟨rfl, (HB1.out.setCell (by simp; omega) _).setCell (by simp; omega) _⟩
 · rw [show eqN a b c d = 0 by unfold eqN; rw [if_neg (fun h => h1 h.1)]]
   have g1 : ¬ ((a : Int) = (c : Int)) := by omega
   go_enter Tryz.func73, Tryz.ntmps73
   go_wp2_with fail
   refine ((H2.out _ false).mono ?_)
   rintro e w1 ⟨rfl, bel1⟩
   rw [show fromV (if false = true then 1 else 0) 0 = .returned (.agg #[.int .u64 0, .int .u64 0]) from rfl]
   obtain ⟨hc1, hf1⟩ := bcell bel1
   have hz1 := bel1.size
   simp at hz1
   have z1 : w.heap.size + 1 + 1 < w1.heap.size := (by omega)
   have HB1 := hQ ((((Below.refl w.heap.size w).alloc nL _).alloc (by simp) _).alloc (by simp; omega) _ |>.trans (bel1.mono (by simp; omega)))
   have q0 : w1.cell? ⟨w.heap.size + 1 + 1, 0, none⟩ = some (.int .u64 0) := (by rw [hc1 _ _ (by simp)]; go_simp)
   have q1 : w1.cell? ⟨w.heap.size + 1 + 1, 1, none⟩ = some (.int .u64 0) := (by rw [hc1 _ _ (by simp)]; go_simp)
   have f0 : w1.frozen? ⟨w.heap.size + 1 + 1, 0, none⟩ = false := (by rw [hf1 _ _ (by simp)]; go_simp)
   have f1 : w1.frozen? ⟨w.heap.size + 1 + 1, 1, none⟩ = false := (by rw [hf1 _ _ (by simp)]; go_simp)
   clear hc1 hf1 hz1 bel1
   go_wp2
   refine bodyPost_ret (v := .tuple #[.agg #[.int .u64 0, .int .u64 0], .bool true]) (by simp [results, Tryz.results73, go_sem, q0, q1]) rfl ?_
   exact ⟨rfl, (HB1.out.setCell (by simp; omega) _).setCell (by simp; omega) _⟩
def apV (op : Int) (a b c d : Nat) : (Nat × Nat) × Bool :=
 if op = 2 then ((loN (vN a b + vN c d), hiN (vN a b + vN c d)), true)
 else if op = 3 then ((loN (vN a b + (M128 - vN c d)), hiN (vN a b + (M128 - vN c d))), true)
 else if op = 4 then ((loN (vN a b * vN c d), hiN (vN a b * vN c d)), true)
 else if op = 5 then (if c = 0 ∧ d = 0 then ((0, 0), false) else ((loN (vN a b / vN c d), hiN (vN a b / vN c d)), true))
 else if op = 6 then ((bitsN .and a c, bitsN .and b d), true)
 else if op = 7 then ((bitsN .or a c, bitsN .or b d), true)
 else if op = 8 then ((bitsN .xor a c, bitsN .xor b d), true)
 else if op = 9 then ((if lessN a b c d = true then 1 else 0, 0), true)
 else if op = 10 then ((eqN a b c d, 0), true)
 else ((0, 0), false)
theorem ap_other (op : Int) (hop : op < 2 ∨ 10 < op) (x y : Value) (w : World) (a b c d : Nat) (hx : x = .agg #[.int .u64 (a : Int), .int .u64 (b : Int)]) (hy : y = .agg #[.int .u64 (c : Int), .int .u64 (d : Int)]) :
 Calls Tryz.prog 73 #[.int .i64 op, x, y] w (apR w ((0, 0), false)) := by
 subst hx hy
 unfold apR
 have n2 : ¬ (op = 2) := by omega
 have n3 : ¬ (op = 3) := by omega
 have n4 : ¬ (op = 4) := by omega
 have n5 : ¬ (op = 5) := by omega
 have n6 : ¬ (op = 6) := by omega
 have n7 : ¬ (op = 7) := by omega
 have n8 : ¬ (op = 8) := by omega
 have n9 : ¬ (op = 9) := by omega
 have n10 : ¬ (op = 10) := by omega
 clear hop
 go_enter Tryz.func73, Tryz.ntmps73
 go_wp2
 go_returns
 exact ⟨rfl, by go_grown⟩
theorem apply_any (op : Int) (a b c d : Nat) (ha : a < 18446744073709551616) (hb : b < 18446744073709551616) (hc : c < 18446744073709551616) (hd : d < 18446744073709551616) (w : World) :
 Calls Tryz.prog 73 #[.int .i64 op, .agg #[.int .u64 (a : Int), .int .u64 (b : Int)], .agg #[.int .u64 (c : Int), .int .u64 (d : Int)]] w (apR w (apV op a b c d)) := by
 have hop : op = 2 ∨ op = 3 ∨ op = 4 ∨ op = 5 ∨ op = 6 ∨ op = 7 ∨ op = 8 ∨ op = 9 ∨ op = 10 ∨ (op < 2 ∨ 10 < op) := by omega
 rcases hop with rfl | rfl | rfl | rfl | rfl | rfl | rfl | rfl | rfl | hop
 · exact apply2_any a b c d ha hb hc hd w
 · exact apply3_any a b c d ha hb hc hd w
 · exact apply4_any a b c d ha hb hc hd w
 · by_cases h : c = 0 ∧ d = 0
   · obtain ⟨rfl, rfl⟩ := h
     exact ap_div_0 a b w
   · rw [show apV 5 a b c d = ((loN (vN a b / vN c d), hiN (vN a b / vN c d)), true) by unfold apV; rw [if_neg (by decide), if_neg (by decide), if_neg (by decide), if_pos rfl, if_neg h]]
     rcases Nat.eq_zero_or_pos d with hd0 | hd0
     · subst hd0
       exact ap_div_s a b c ha hb hc (by omega) w
     · exact ap_div_l a b c d ha hb hc hd hd0 w
 · exact ap_and a b c d ha hb hc hd w
 · exact ap_or a b c d ha hb hc hd w
 · exact ap_xor a b c d ha hb hc hd w
 · exact ap_less a b c d ha hb hc hd w
 · exact ap_equal a b c d w
 · rw [show apV op a b c d = ((0, 0), false) by unfold apV; rw [if_neg (by omega), if_neg (by omega), if_neg (by omega), if_neg (by omega), if_neg (by omega), if_neg (by omega), if_neg (by omega), if_neg (by omega), if_neg (by omega)]]
   exact ap_other op hop _ _ w a b c d rfl rfl
end Go.Proofs.YtcnndoefgjbmiaaGreat
