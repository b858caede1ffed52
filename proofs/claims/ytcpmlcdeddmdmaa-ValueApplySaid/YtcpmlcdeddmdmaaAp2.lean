/- Contracts: sums, differences and products of values, and Apply at these. -/
import Derived.Test.YtcpmlcdeddmdmaaAp
namespace Go.Proofs.Ytcpmlcdeddmdmaa
open Go.RowKit
set_option linter.unusedVariables false
set_option maxRecDepth 10000

theorem mulwrap (p a b c d : Nat) : IntKind.u64.wrap (IntKind.u64.wrap ((p : Int) + IntKind.u64.wrap ((a : Int) * d)) + IntKind.u64.wrap ((b : Int) * c)) = (((p + a * d + b * c) % 18446744073709551616 : Nat) : Int) := by
  rw [← Int.natCast_mul a d, ← Int.natCast_mul b c]
  simp only [IntKind.wrap_u64]
  generalize a * d = x
  generalize b * c = y
  omega

set_option maxHeartbeats 1000000 in
theorem vadd_any (a b c d : Nat) (ha : a < 18446744073709551616) (hb : b < 18446744073709551616) (hc : c < 18446744073709551616) (hd : d < 18446744073709551616) (w : World) :
    Calls Try.prog 63 #[.agg #[.int .u64 (a : Int), .int .u64 (b : Int)], .agg #[.int .u64 (c : Int), .int .u64 (d : Int)]] w fun e w' => e = fromV (loN (vN a b + vN c d)) (hiN (vN a b + vN c d)) ∧ Below w.heap.size w w' := by
  have a0 : (0 : Int) ≤ (a : Int) := by omega
  have b0 : (0 : Int) ≤ (b : Int) := by omega
  have c0 : (0 : Int) ≤ (c : Int) := by omega
  have d0 : (0 : Int) ≤ (d : Int) := by omega
  have k0 : 0 ≤ ((a : Int) + c) / 18446744073709551616 := by omega
  have k1 : ((a : Int) + c) / 18446744073709551616 ≤ 1 := by omega
  have e1 := add_lo a b c d
  have e2 := add_hi a b c d
  have E1 := Lib.hid e1
  have E2 := Lib.hid e2
  clear e1 e2
  unfold fromV
  generalize loN (vN a b + vN c d) = lo at *
  generalize hiN (vN a b + vN c d) = hi at *
  go_enter Try.func63, Try.ntmps63
  go_wp2_with (first | simp only [add64_0 a c a0 c0] | simp only [add64 b d _ b0 d0 k0 k1])
  go_returns
  exact ⟨by rw [E1.out, E2.out], by go_grown⟩

set_option maxHeartbeats 1000000 in
theorem vsub_any (a b c d : Nat) (ha : a < 18446744073709551616) (hb : b < 18446744073709551616) (hc : c < 18446744073709551616) (hd : d < 18446744073709551616) (w : World) :
    Calls Try.prog 64 #[.agg #[.int .u64 (a : Int), .int .u64 (b : Int)], .agg #[.int .u64 (c : Int), .int .u64 (d : Int)]] w fun e w' => e = fromV (loN (vN a b + (M128 - vN c d))) (hiN (vN a b + (M128 - vN c d))) ∧ Below w.heap.size w w' := by
  have a0 : (0 : Int) ≤ (a : Int) := by omega
  have b0 : (0 : Int) ≤ (b : Int) := by omega
  have c0 : (0 : Int) ≤ (c : Int) := by omega
  have d0 : (0 : Int) ≤ (d : Int) := by omega
  have k0 := (bor_01 a c).1
  have k1 := (bor_01 a c).2
  have c1 : (c : Int) < 18446744073709551616 := by omega
  have d1 : (d : Int) < 18446744073709551616 := by omega
  have e1 := sub_lo a b c d hc hd
  have e2 := sub_hi a b c d ha hc hd
  have E1 := Lib.hid e1
  have E2 := Lib.hid e2
  clear e1 e2
  unfold fromV
  generalize loN (vN a b + (M128 - vN c d)) = lo at *
  generalize hiN (vN a b + (M128 - vN c d)) = hi at *
  go_enter Try.func64, Try.ntmps64
  go_wp2_with (first | simp only [sub64_0 a c a0 c0 c1] | simp only [sub64 b d _ b0 d0 d1 k0 k1])
  go_returns
  exact ⟨by rw [E1.out, E2.out], by go_grown⟩

set_option maxHeartbeats 1000000 in
theorem vmul_any (a b c d : Nat) (ha : a < 18446744073709551616) (hb : b < 18446744073709551616) (hc : c < 18446744073709551616) (hd : d < 18446744073709551616) (w : World) :
    Calls Try.prog 65 #[.agg #[.int .u64 (a : Int), .int .u64 (b : Int)], .agg #[.int .u64 (c : Int), .int .u64 (d : Int)]] w fun e w' => e = fromV (loN (vN a b * vN c d)) (hiN (vN a b * vN c d)) ∧ Below w.heap.size w w' := by
  have h1 := mul64_any a c ha hc
  have e1 := mul_lo a b c d
  have e2 := mul_hi a b c d
  have H1 := Lib.hid h1
  have E1 := Lib.hid e1
  have E2 := Lib.hid e2
  clear e1 e2 h1
  unfold fromV
  generalize loN (vN a b * vN c d) = lo at *
  generalize hiN (vN a b * vN c d) = hi at *
  go_enter Try.func65, Try.ntmps65
  go_wp2_with fail
  refine (H1.out _).mono ?_
  rintro e w1 ⟨rfl, rfl⟩
  generalize hp : a * c / 18446744073709551616 = p at *
  generalize hq : a * c % 18446744073709551616 = q at *
  go_wp2
  go_returns
  refine ⟨by rw [mulwrap, E2.out, E1.out], by go_grown⟩

set_option maxHeartbeats 1000000 in
theorem apply2_any (a b c d : Nat) (ha : a < 18446744073709551616) (hb : b < 18446744073709551616) (hc : c < 18446744073709551616) (hd : d < 18446744073709551616) (w : World) :
    Calls Try.prog 56 #[.int .i64 2, .agg #[.int .u64 (a : Int), .int .u64 (b : Int)], .agg #[.int .u64 (c : Int), .int .u64 (d : Int)]] w fun e w' => e = .returned (.tuple #[.agg #[.int .u64 (loN (vN a b + vN c d) : Nat), .int .u64 (hiN (vN a b + vN c d) : Nat)], .bool true]) ∧ Below w.heap.size w w' := by
  have h1 := vadd_any a b c d ha hb hc hd
  unfold fromV at h1
  generalize loN (vN a b + vN c d) = lo at *
  generalize hiN (vN a b + vN c d) = hi at *
  have H1 := Lib.hid h1
  clear h1 ha hb hc hd
  go_enter Try.func56, Try.ntmps56
  go_wp2_with fail
  refine (H1.out _).mono ?_
  rintro e w1 ⟨rfl, bel1⟩
  obtain ⟨hc1, hf1⟩ := bcell bel1
  have hz1 := bel1.size
  simp at hz1
  have z1 : w.heap.size + 1 + 1 < w1.heap.size := (by omega)
  have HB1 := Lib.hid ((((Below.refl w.heap.size w).alloc (Nat.le_refl _) _).alloc (by simp) _).alloc (by simp; omega) _ |>.trans (bel1.mono (by simp; omega)))
  clear hz1 bel1
  have q0 : w1.cell? ⟨w.heap.size + 1 + 1, 0, none⟩ = some (.int .u64 0) := (by rw [hc1 _ _ (by simp)]; go_simp)
  have q1 : w1.cell? ⟨w.heap.size + 1 + 1, 1, none⟩ = some (.int .u64 0) := (by rw [hc1 _ _ (by simp)]; go_simp)
  have f0 : w1.frozen? ⟨w.heap.size + 1 + 1, 0, none⟩ = false := (by rw [hf1 _ _ (by simp)]; go_simp)
  have f1 : w1.frozen? ⟨w.heap.size + 1 + 1, 1, none⟩ = false := (by rw [hf1 _ _ (by simp)]; go_simp)
  clear hc1 hf1
  go_wp2
  refine bodyPost_ret (v := .tuple #[.agg #[.int .u64 (lo : Nat), .int .u64 (hi : Nat)], .bool true]) (by simp [results, Try.results56, go_sem, q0, q1]) rfl ?_
  exact ⟨rfl, (HB1.out.setCell (by simp; omega) _).setCell (by simp; omega) _⟩

set_option maxHeartbeats 1000000 in
theorem apply3_any (a b c d : Nat) (ha : a < 18446744073709551616) (hb : b < 18446744073709551616) (hc : c < 18446744073709551616) (hd : d < 18446744073709551616) (w : World) :
    Calls Try.prog 56 #[.int .i64 3, .agg #[.int .u64 (a : Int), .int .u64 (b : Int)], .agg #[.int .u64 (c : Int), .int .u64 (d : Int)]] w fun e w' => e = .returned (.tuple #[.agg #[.int .u64 (loN (vN a b + (M128 - vN c d)) : Nat), .int .u64 (hiN (vN a b + (M128 - vN c d)) : Nat)], .bool true]) ∧ Below w.heap.size w w' := by
  have h1 := vsub_any a b c d ha hb hc hd
  unfold fromV at h1
  generalize loN (vN a b + (M128 - vN c d)) = lo at *
  generalize hiN (vN a b + (M128 - vN c d)) = hi at *
  have H1 := Lib.hid h1
  clear h1 ha hb hc hd
  go_enter Try.func56, Try.ntmps56
  go_wp2_with fail
  refine (H1.out _).mono ?_
  rintro e w1 ⟨rfl, bel1⟩
  obtain ⟨hc1, hf1⟩ := bcell bel1
  have hz1 := bel1.size
  simp at hz1
  have z1 : w.heap.size + 1 + 1 < w1.heap.size := (by omega)
  have HB1 := Lib.hid ((((Below.refl w.heap.size w).alloc (Nat.le_refl _) _).alloc (by simp) _).alloc (by simp; omega) _ |>.trans (bel1.mono (by simp; omega)))
  clear hz1 bel1
  have q0 : w1.cell? ⟨w.heap.size + 1 + 1, 0, none⟩ = some (.int .u64 0) := (by rw [hc1 _ _ (by simp)]; go_simp)
  have q1 : w1.cell? ⟨w.heap.size + 1 + 1, 1, none⟩ = some (.int .u64 0) := (by rw [hc1 _ _ (by simp)]; go_simp)
  have f0 : w1.frozen? ⟨w.heap.size + 1 + 1, 0, none⟩ = false := (by rw [hf1 _ _ (by simp)]; go_simp)
  have f1 : w1.frozen? ⟨w.heap.size + 1 + 1, 1, none⟩ = false := (by rw [hf1 _ _ (by simp)]; go_simp)
  clear hc1 hf1
  go_wp2
  refine bodyPost_ret (v := .tuple #[.agg #[.int .u64 (lo : Nat), .int .u64 (hi : Nat)], .bool true]) (by simp [results, Try.results56, go_sem, q0, q1]) rfl ?_
  exact ⟨rfl, (HB1.out.setCell (by simp; omega) _).setCell (by simp; omega) _⟩

set_option maxHeartbeats 1000000 in
theorem apply4_any (a b c d : Nat) (ha : a < 18446744073709551616) (hb : b < 18446744073709551616) (hc : c < 18446744073709551616) (hd : d < 18446744073709551616) (w : World) :
    Calls Try.prog 56 #[.int .i64 4, .agg #[.int .u64 (a : Int), .int .u64 (b : Int)], .agg #[.int .u64 (c : Int), .int .u64 (d : Int)]] w fun e w' => e = .returned (.tuple #[.agg #[.int .u64 (loN (vN a b * vN c d) : Nat), .int .u64 (hiN (vN a b * vN c d) : Nat)], .bool true]) ∧ Below w.heap.size w w' := by
  have h1 := vmul_any a b c d ha hb hc hd
  unfold fromV at h1
  generalize loN (vN a b * vN c d) = lo at *
  generalize hiN (vN a b * vN c d) = hi at *
  have H1 := Lib.hid h1
  clear h1 ha hb hc hd
  go_enter Try.func56, Try.ntmps56
  go_wp2_with fail
  refine (H1.out _).mono ?_
  rintro e w1 ⟨rfl, bel1⟩
  obtain ⟨hc1, hf1⟩ := bcell bel1
  have hz1 := bel1.size
  simp at hz1
  have z1 : w.heap.size + 1 + 1 < w1.heap.size := (by omega)
  have HB1 := Lib.hid ((((Below.refl w.heap.size w).alloc (Nat.le_refl _) _).alloc (by simp) _).alloc (by simp; omega) _ |>.trans (bel1.mono (by simp; omega)))
  clear hz1 bel1
  have q0 : w1.cell? ⟨w.heap.size + 1 + 1, 0, none⟩ = some (.int .u64 0) := (by rw [hc1 _ _ (by simp)]; go_simp)
  have q1 : w1.cell? ⟨w.heap.size + 1 + 1, 1, none⟩ = some (.int .u64 0) := (by rw [hc1 _ _ (by simp)]; go_simp)
  have f0 : w1.frozen? ⟨w.heap.size + 1 + 1, 0, none⟩ = false := (by rw [hf1 _ _ (by simp)]; go_simp)
  have f1 : w1.frozen? ⟨w.heap.size + 1 + 1, 1, none⟩ = false := (by rw [hf1 _ _ (by simp)]; go_simp)
  clear hc1 hf1
  go_wp2
  refine bodyPost_ret (v := .tuple #[.agg #[.int .u64 (lo : Nat), .int .u64 (hi : Nat)], .bool true]) (by simp [results, Try.results56, go_sem, q0, q1]) rfl ?_
  exact ⟨rfl, (HB1.out.setCell (by simp; omega) _).setCell (by simp; omega) _⟩

end Go.Proofs.Ytcpmlcdeddmdmaa
