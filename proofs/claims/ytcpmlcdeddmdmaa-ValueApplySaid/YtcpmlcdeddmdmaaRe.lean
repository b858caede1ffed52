/- Contracts: Apply of the reference; Apply of both at any number. -/
import Derived.Test.YtcpmlcdeddmdmaaRd2
namespace Go.Proofs.Ytcpmlcdeddmdmaa
open Go.RowKit
set_option linter.unusedVariables false
set_option maxRecDepth 10000
set_option maxHeartbeats 1000000 in
theorem refapply2_any (a b c d : Nat) (ha : a < 18446744073709551616) (hb : b < 18446744073709551616) (hc : c < 18446744073709551616) (hd : d < 18446744073709551616) (w : World) :
    Calls Try.prog 57 #[.int .i64 2, .agg #[.int .u64 (a : Int), .int .u64 (b : Int)], .agg #[.int .u64 (c : Int), .int .u64 (d : Int)]] w fun e w' => e = .returned (.tuple #[.agg #[.int .u64 (loN (vN a b + vN c d) : Nat), .int .u64 (hiN (vN a b + vN c d) : Nat)], .bool true]) ∧ Below w.heap.size w w' := by
  have h1 := refadd_any a b c d ha hb hc hd
  unfold fromV at h1
  generalize loN (vN a b + vN c d) = lo at *
  generalize hiN (vN a b + vN c d) = hi at *
  have H1 := Lib.hid h1
  clear h1 ha hb hc hd
  go_enter Try.func57, Try.ntmps57
  go_wp2_with fail
  refine (H1.out _).mono ?_
  rintro e w1 ⟨rfl, bel1⟩
  obtain ⟨hc1, hf1⟩ := bcell bel1
  have hz1 := bel1.size
  simp at hz1
  have z1 : w.heap.size + 1 + 1 < w1.heap.size := (by omega)
  have HB1 := Lib.hid ((((Below.refl w.heap.size w).alloc (Nat.le_refl _) _).alloc (by simp) _).alloc (by simp; omega) _ |>.trans (bel1.mono (by simp; omega)))
  clear hz1 bel1
  have q0 : w1.cell? ⟨w.heap.size + 1 + 1, 0, none⟩ = some (.int .u64 0) := (by rw [hc1 _ _ (by simp)]; go_simp)
  have q1 : w1.cell? ⟨w.heap.size + 1 + 1, 1, none⟩ = some (.int .u64 0) := (by rw [hc1 _ _ (by simp)]; go_simp)
  have f0 : w1.frozen? ⟨w.heap.size + 1 + 1, 0, none⟩ = false := (by rw [hf1 _ _ (by simp)]; go_simp)
  have f1 : w1.frozen? ⟨w.heap.size + 1 + 1, 1, none⟩ = false := (by rw [hf1 _ _ (by simp)]; go_simp)
  clear hc1 hf1
  go_wp2
  refine bodyPost_ret (v := .tuple #[.agg #[.int .u64 (lo : Nat), .int .u64 (hi : Nat)], .bool true]) (by simp [results, Try.results57, go_sem, q0, q1]) rfl ?_
  exact ⟨rfl, (HB1.out.setCell (by simp; omega) _).setCell (by simp; omega) _⟩

set_option maxHeartbeats 1000000 in
theorem refapply3_any (a b c d : Nat) (ha : a < 18446744073709551616) (hb : b < 18446744073709551616) (hc : c < 18446744073709551616) (hd : d < 18446744073709551616) (w : World) :
    Calls Try.prog 57 #[.int .i64 3, .agg #[.int .u64 (a : Int), .int .u64 (b : Int)], .agg #[.int .u64 (c : Int), .int .u64 (d : Int)]] w fun e w' => e = .returned (.tuple #[.agg #[.int .u64 (loN (vN a b + (M128 - vN c d)) : Nat), .int .u64 (hiN (vN a b + (M128 - vN c d)) : Nat)], .bool true]) ∧ Below w.heap.size w w' := by
  have h1 := refsub_any a b c d ha hb hc hd
  unfold fromV at h1
  generalize loN (vN a b + (M128 - vN c d)) = lo at *
  generalize hiN (vN a b + (M128 - vN c d)) = hi at *
  have H1 := Lib.hid h1
  clear h1 ha hb hc hd
  go_enter Try.func57, Try.ntmps57
  go_wp2_with fail
  refine (H1.out _).mono ?_
  rintro e w1 ⟨rfl, bel1⟩
  obtain ⟨hc1, hf1⟩ := bcell bel1
  have hz1 := bel1.size
  simp at hz1
  have z1 : w.heap.size + 1 + 1 < w1.heap.size := (by omega)
  have HB1 := Lib.hid ((((Below.refl w.heap.size w).alloc (Nat.le_refl _) _).alloc (by simp) _).alloc (by simp; omega) _ |>.trans (bel1.mono (by simp; omega)))
  clear hz1 bel1
  have q0 : w1.cell? ⟨w.heap.size + 1 + 1, 0, none⟩ = some (.int .u64 0) := (by rw [hc1 _ _ (by simp)]; go_simp)
  have q1 : w1.cell? ⟨w.heap.size + 1 + 1, 1, none⟩ = some (.int .u64 0) := (by rw [hc1 _ _ (by simp)]; go_simp)
  have f0 : w1.frozen? ⟨w.heap.size + 1 + 1, 0, none⟩ = false := (by rw [hf1 _ _ (by simp)]; go_simp)
  have f1 : w1.frozen? ⟨w.heap.size + 1 + 1, 1, none⟩ = false := (by rw [hf1 _ _ (by simp)]; go_simp)
  clear hc1 hf1
  go_wp2
  refine bodyPost_ret (v := .tuple #[.agg #[.int .u64 (lo : Nat), .int .u64 (hi : Nat)], .bool true]) (by simp [results, Try.results57, go_sem, q0, q1]) rfl ?_
  exact ⟨rfl, (HB1.out.setCell (by simp; omega) _).setCell (by simp; omega) _⟩

set_option maxHeartbeats 1000000 in
theorem refapply4_any (a b c d : Nat) (ha : a < 18446744073709551616) (hb : b < 18446744073709551616) (hc : c < 18446744073709551616) (hd : d < 18446744073709551616) (w : World) :
    Calls Try.prog 57 #[.int .i64 4, .agg #[.int .u64 (a : Int), .int .u64 (b : Int)], .agg #[.int .u64 (c : Int), .int .u64 (d : Int)]] w fun e w' => e = .returned (.tuple #[.agg #[.int .u64 (loN (vN a b * vN c d) : Nat), .int .u64 (hiN (vN a b * vN c d) : Nat)], .bool true]) ∧ Below w.heap.size w w' := by
  have h1 := refmul_any a b c d ha hb hc hd
  unfold fromV at h1
  generalize loN (vN a b * vN c d) = lo at *
  generalize hiN (vN a b * vN c d) = hi at *
  have H1 := Lib.hid h1
  clear h1 ha hb hc hd
  go_enter Try.func57, Try.ntmps57
  go_wp2_with fail
  refine (H1.out _).mono ?_
  rintro e w1 ⟨rfl, bel1⟩
  obtain ⟨hc1, hf1⟩ := bcell bel1
  have hz1 := bel1.size
  simp at hz1
  have z1 : w.heap.size + 1 + 1 < w1.heap.size := (by omega)
  have HB1 := Lib.hid ((((Below.refl w.heap.size w).alloc (Nat.le_refl _) _).alloc (by simp) _).alloc (by simp; omega) _ |>.trans (bel1.mono (by simp; omega)))
  clear hz1 bel1
  have q0 : w1.cell? ⟨w.heap.size + 1 + 1, 0, none⟩ = some (.int .u64 0) := (by rw [hc1 _ _ (by simp)]; go_simp)
  have q1 : w1.cell? ⟨w.heap.size + 1 + 1, 1, none⟩ = some (.int .u64 0) := (by rw [hc1 _ _ (by simp)]; go_simp)
  have f0 : w1.frozen? ⟨w.heap.size + 1 + 1, 0, none⟩ = false := (by rw [hf1 _ _ (by simp)]; go_simp)
  have f1 : w1.frozen? ⟨w.heap.size + 1 + 1, 1, none⟩ = false := (by rw [hf1 _ _ (by simp)]; go_simp)
  clear hc1 hf1
  go_wp2
  refine bodyPost_ret (v := .tuple #[.agg #[.int .u64 (lo : Nat), .int .u64 (hi : Nat)], .bool true]) (by simp [results, Try.results57, go_sem, q0, q1]) rfl ?_
  exact ⟨rfl, (HB1.out.setCell (by simp; omega) _).setCell (by simp; omega) _⟩


theorem refap_and (a b c d : Nat) (ha : a < 18446744073709551616) (hb : b < 18446744073709551616) (hc : c < 18446744073709551616) (hd : d < 18446744073709551616) (w : World) :
    Calls Try.prog 57 #[.int .i64 6, .agg #[.int .u64 (a : Int), .int .u64 (b : Int)], .agg #[.int .u64 (c : Int), .int .u64 (d : Int)]] w (apR w ((bitsN .and a c, bitsN .and b d), true)) := by
  have e1 := bitsN_eq .and a c
  have e2 := bitsN_eq .and b d
  have E1 := Lib.hid e1
  have E2 := Lib.hid e2
  clear e1 e2
  unfold apR
  go_enter Try.func57, Try.ntmps57
  go_wp2
  go_returns
  exact ⟨by rw [E1.out, E2.out], by go_grown⟩

theorem refap_or (a b c d : Nat) (ha : a < 18446744073709551616) (hb : b < 18446744073709551616) (hc : c < 18446744073709551616) (hd : d < 18446744073709551616) (w : World) :
    Calls Try.prog 57 #[.int .i64 7, .agg #[.int .u64 (a : Int), .int .u64 (b : Int)], .agg #[.int .u64 (c : Int), .int .u64 (d : Int)]] w (apR w ((bitsN .or a c, bitsN .or b d), true)) := by
  have e1 := bitsN_eq .or a c
  have e2 := bitsN_eq .or b d
  have E1 := Lib.hid e1
  have E2 := Lib.hid e2
  clear e1 e2
  unfold apR
  go_enter Try.func57, Try.ntmps57
  go_wp2
  go_returns
  exact ⟨by rw [E1.out, E2.out], by go_grown⟩

theorem refap_xor (a b c d : Nat) (ha : a < 18446744073709551616) (hb : b < 18446744073709551616) (hc : c < 18446744073709551616) (hd : d < 18446744073709551616) (w : World) :
    Calls Try.prog 57 #[.int .i64 8, .agg #[.int .u64 (a : Int), .int .u64 (b : Int)], .agg #[.int .u64 (c : Int), .int .u64 (d : Int)]] w (apR w ((bitsN .xor a c, bitsN .xor b d), true)) := by
  have e1 := bitsN_eq .xor a c
  have e2 := bitsN_eq .xor b d
  have E1 := Lib.hid e1
  have E2 := Lib.hid e2
  clear e1 e2
  unfold apR
  go_enter Try.func57, Try.ntmps57
  go_wp2
  go_returns
  exact ⟨by rw [E1.out, E2.out], by go_grown⟩

set_option maxHeartbeats 1000000 in
theorem refap_less (a b c d : Nat) (ha : a < 18446744073709551616) (hb : b < 18446744073709551616) (hc : c < 18446744073709551616) (hd : d < 18446744073709551616) (w : World) :
    Calls Try.prog 57 #[.int .i64 9, .agg #[.int .u64 (a : Int), .int .u64 (b : Int)], .agg #[.int .u64 (c : Int), .int .u64 (d : Int)]] w (apR w ((if lessN a b c d = true then 1 else 0, 0), true)) := by
  have H1 := Lib.hid (fun W : World => refless_any a b c d ha hc W)
  have h2 := fun W : World => reftruth_any (lessN a b c d) W
  unfold fromV at h2
  unfold apR
  generalize (if lessN a b c d = true then 1 else 0) = t at *
  generalize lessN a b c d = bb at *
  have H2 := Lib.hid h2
  clear h2 ha hb hc hd
  go_enter Try.func57, Try.ntmps57
  go_wp2_with fail
  refine (H1.out _).mono ?_
  rintro e w1 ⟨rfl, bel1⟩
  obtain ⟨hc1, hf1⟩ := bcell bel1
  have hz1 := bel1.size
  simp at hz1
  have z1 : w.heap.size + 1 + 1 < w1.heap.size := (by omega)
  have HB1 := Lib.hid ((((Below.refl w.heap.size w).alloc (Nat.le_refl _) _).alloc (by simp) _).alloc (by simp; omega) _ |>.trans (bel1.mono (by simp; omega)))
  have q0 : w1.cell? ⟨w.heap.size + 1 + 1, 0, none⟩ = some (.int .u64 0) := (by rw [hc1 _ _ (by simp)]; go_simp)
  have q1 : w1.cell? ⟨w.heap.size + 1 + 1, 1, none⟩ = some (.int .u64 0) := (by rw [hc1 _ _ (by simp)]; go_simp)
  have f0 : w1.frozen? ⟨w.heap.size + 1 + 1, 0, none⟩ = false := (by rw [hf1 _ _ (by simp)]; go_simp)
  have f1 : w1.frozen? ⟨w.heap.size + 1 + 1, 1, none⟩ = false := (by rw [hf1 _ _ (by simp)]; go_simp)
  clear hc1 hf1 hz1 bel1
  go_wp2_with fail
  refine (H2.out _).mono ?_
  rintro e w2 ⟨rfl, bel2⟩
  obtain ⟨hc2, hf2⟩ := bcell bel2
  have hz2 := bel2.size
  have z2 : w.heap.size + 1 + 1 < w2.heap.size := (by omega)
  have HB2 := Lib.hid (HB1.out.trans (bel2.mono (by omega)))
  have q0 : w2.cell? ⟨w.heap.size + 1 + 1, 0, none⟩ = some (.int .u64 0) := (by rw [hc2 _ _ z1]; exact q0)
  have q1 : w2.cell? ⟨w.heap.size + 1 + 1, 1, none⟩ = some (.int .u64 0) := (by rw [hc2 _ _ z1]; exact q1)
  have f0 : w2.frozen? ⟨w.heap.size + 1 + 1, 0, none⟩ = false := (by rw [hf2 _ _ z1]; exact f0)
  have f1 : w2.frozen? ⟨w.heap.size + 1 + 1, 1, none⟩ = false := (by rw [hf2 _ _ z1]; exact f1)
  clear hc2 hf2 hz2 bel2
  go_wp2
  refine bodyPost_ret (v := .tuple #[.agg #[.int .u64 (t : Nat), .int .u64 (0 : Nat)], .bool true]) (by simp [results, Try.results57, go_sem, q0, q1]) rfl ?_
  exact ⟨rfl, (HB2.out.setCell (by simp; omega) _).setCell (by simp; omega) _⟩

set_option maxHeartbeats 1000000 in
theorem refap_equal (a b c d : Nat) (w : World) :
    Calls Try.prog 57 #[.int .i64 10, .agg #[.int .u64 (a : Int), .int .u64 (b : Int)], .agg #[.int .u64 (c : Int), .int .u64 (d : Int)]] w (apR w ((eqN a b c d, 0), true)) := by
  have H2 := Lib.hid (fun (W : World) (t : Bool) => reftruth_any t W)
  unfold apR
  rcases (show (a = c ∧ b = d) ∨ (a = c ∧ ¬ b = d) ∨ ¬ a = c by omega) with ⟨h1, h2⟩ | ⟨h1, h2⟩ | h1
  · subst h1 h2
    rw [show eqN a b a b = 1 by unfold eqN; rw [if_pos ⟨rfl, rfl⟩]]
    go_enter Try.func57, Try.ntmps57
    go_wp2_with fail
    refine ((H2.out _ true).mono ?_)
    rintro e w1 ⟨rfl, bel1⟩
    rw [show fromV (if true = true then 1 else 0) 0 = .returned (.agg #[.int .u64 1, .int .u64 0]) from rfl]
    obtain ⟨hc1, hf1⟩ := bcell bel1
    have hz1 := bel1.size
    simp at hz1
    have z1 : w.heap.size + 1 + 1 < w1.heap.size := (by omega)
    have HB1 := Lib.hid ((((Below.refl w.heap.size w).alloc (Nat.le_refl _) _).alloc (by simp) _).alloc (by simp; omega) _ |>.trans (bel1.mono (by simp; omega)))
    have q0 : w1.cell? ⟨w.heap.size + 1 + 1, 0, none⟩ = some (.int .u64 0) := (by rw [hc1 _ _ (by simp)]; go_simp)
    have q1 : w1.cell? ⟨w.heap.size + 1 + 1, 1, none⟩ = some (.int .u64 0) := (by rw [hc1 _ _ (by simp)]; go_simp)
    have f0 : w1.frozen? ⟨w.heap.size + 1 + 1, 0, none⟩ = false := (by rw [hf1 _ _ (by simp)]; go_simp)
    have f1 : w1.frozen? ⟨w.heap.size + 1 + 1, 1, none⟩ = false := (by rw [hf1 _ _ (by simp)]; go_simp)
    clear hc1 hf1 hz1 bel1
    go_wp2
    refine bodyPost_ret (v := .tuple #[.agg #[.int .u64 1, .int .u64 0], .bool true]) (by simp [results, Try.results57, go_sem, q0, q1]) rfl ?_
    exact ⟨rfl, (HB1.out.setCell (by simp; omega) _).setCell (by simp; omega) _⟩
  · subst h1
    rw [show eqN a b a d = 0 by unfold eqN; rw [if_neg (fun h => h2 h.2)]]
    have g2 : ¬ ((b : Int) = (d : Int)) := by omega
    go_enter Try.func57, Try.ntmps57
    go_wp2_with fail
    refine ((H2.out _ false).mono ?_)
    rintro e w1 ⟨rfl, bel1⟩
    rw [show fromV (if false = true then 1 else 0) 0 = .returned (.agg #[.int .u64 0, .int .u64 0]) from rfl]
    obtain ⟨hc1, hf1⟩ := bcell bel1
    have hz1 := bel1.size
    simp at hz1
    have z1 : w.heap.size + 1 + 1 < w1.heap.size := (by omega)
    have HB1 := Lib.hid ((((Below.refl w.heap.size w).alloc (Nat.le_refl _) _).alloc (by simp) _).alloc (by simp; omega) _ |>.trans (bel1.mono (by simp; omega)))
    have q0 : w1.cell? ⟨w.heap.size + 1 + 1, 0, none⟩ = some (.int .u64 0) := (by rw [hc1 _ _ (by simp)]; go_simp)
    have q1 : w1.cell? ⟨w.heap.size + 1 + 1, 1, none⟩ = some (.int .u64 0) := (by rw [hc1 _ _ (by simp)]; go_simp)
    have f0 : w1.frozen? ⟨w.heap.size + 1 + 1, 0, none⟩ = false := (by rw [hf1 _ _ (by simp)]; go_simp)
    have f1 : w1.frozen? ⟨w.heap.size + 1 + 1, 1, none⟩ = false := (by rw [hf1 _ _ (by simp)]; go_simp)
    clear hc1 hf1 hz1 bel1
    go_wp2
    refine bodyPost_ret (v := .tuple #[.agg #[.int .u64 0, .int .u64 0], .bool true]) (by simp [results, Try.results57, go_sem, q0, q1]) rfl ?_
    exact ⟨rfl, (HB1.out.setCell (by simp; omega) _).setCell (by simp; omega) _⟩
  · rw [show eqN a b c d = 0 by unfold eqN; rw [if_neg (fun h => h1 h.1)]]
    have g1 : ¬ ((a : Int) = (c : Int)) := by omega
    go_enter Try.func57, Try.ntmps57
    go_wp2_with fail
    refine ((H2.out _ false).mono ?_)
    rintro e w1 ⟨rfl, bel1⟩
    rw [show fromV (if false = true then 1 else 0) 0 = .returned (.agg #[.int .u64 0, .int .u64 0]) from rfl]
    obtain ⟨hc1, hf1⟩ := bcell bel1
    have hz1 := bel1.size
    simp at hz1
    have z1 : w.heap.size + 1 + 1 < w1.heap.size := (by omega)
    have HB1 := Lib.hid ((((Below.refl w.heap.size w).alloc (Nat.le_refl _) _).alloc (by simp) _).alloc (by simp; omega) _ |>.trans (bel1.mono (by simp; omega)))
    have q0 : w1.cell? ⟨w.heap.size + 1 + 1, 0, none⟩ = some (.int .u64 0) := (by rw [hc1 _ _ (by simp)]; go_simp)
    have q1 : w1.cell? ⟨w.heap.size + 1 + 1, 1, none⟩ = some (.int .u64 0) := (by rw [hc1 _ _ (by simp)]; go_simp)
    have f0 : w1.frozen? ⟨w.heap.size + 1 + 1, 0, none⟩ = false := (by rw [hf1 _ _ (by simp)]; go_simp)
    have f1 : w1.frozen? ⟨w.heap.size + 1 + 1, 1, none⟩ = false := (by rw [hf1 _ _ (by simp)]; go_simp)
    clear hc1 hf1 hz1 bel1
    go_wp2
    refine bodyPost_ret (v := .tuple #[.agg #[.int .u64 0, .int .u64 0], .bool true]) (by simp [results, Try.results57, go_sem, q0, q1]) rfl ?_
    exact ⟨rfl, (HB1.out.setCell (by simp; omega) _).setCell (by simp; omega) _⟩
set_option maxHeartbeats 1000000 in
theorem refap_div1 (a b c d : Nat) (ha : a < 18446744073709551616) (hb : b < 18446744073709551616) (hc : c < 18446744073709551616) (hd : d < 18446744073709551616) (h0 : ¬ c = 0) (w : World) :
    Calls Try.prog 57 #[.int .i64 5, .agg #[.int .u64 (a : Int), .int .u64 (b : Int)], .agg #[.int .u64 (c : Int), .int .u64 (d : Int)]] w (apR w ((loN (vN a b / vN c d), hiN (vN a b / vN c d)), true)) := by
  have h1 := fun W : World => refdiv_any a b c d ha hb hc hd (fun h => h0 h.1) W
  unfold fromV at h1
  unfold apR
  generalize loN (vN a b / vN c d) = lo at *
  generalize hiN (vN a b / vN c d) = hi at *
  have H1 := Lib.hid h1
  have n0 : ¬ (c = 0) := h0
  have n1 : ¬ (((c : Nat) : Int) = 0) := by omega
  clear h1 ha hb hc hd
  go_enter Try.func57, Try.ntmps57
  go_wp2_with fail
  refine (H1.out _).mono ?_
  rintro e w1 ⟨rfl, bel1⟩
  obtain ⟨hc1, hf1⟩ := bcell bel1
  have hz1 := bel1.size
  simp at hz1
  have z1 : w.heap.size + 1 + 1 < w1.heap.size := (by omega)
  have HB1 := Lib.hid ((((Below.refl w.heap.size w).alloc (Nat.le_refl _) _).alloc (by simp) _).alloc (by simp; omega) _ |>.trans (bel1.mono (by simp; omega)))
  have q0 : w1.cell? ⟨w.heap.size + 1 + 1, 0, none⟩ = some (.int .u64 0) := (by rw [hc1 _ _ (by simp)]; go_simp)
  have q1 : w1.cell? ⟨w.heap.size + 1 + 1, 1, none⟩ = some (.int .u64 0) := (by rw [hc1 _ _ (by simp)]; go_simp)
  have f0 : w1.frozen? ⟨w.heap.size + 1 + 1, 0, none⟩ = false := (by rw [hf1 _ _ (by simp)]; go_simp)
  have f1 : w1.frozen? ⟨w.heap.size + 1 + 1, 1, none⟩ = false := (by rw [hf1 _ _ (by simp)]; go_simp)
  clear hc1 hf1 hz1 bel1
  go_wp2
  refine bodyPost_ret (v := .tuple #[.agg #[.int .u64 (lo : Nat), .int .u64 (hi : Nat)], .bool true]) (by simp [results, Try.results57, go_sem, q0, q1]) rfl ?_
  exact ⟨rfl, (HB1.out.setCell (by simp; omega) _).setCell (by simp; omega) _⟩


set_option maxHeartbeats 1000000 in
theorem refap_div2 (a b d : Nat) (ha : a < 18446744073709551616) (hb : b < 18446744073709551616) (hd : d < 18446744073709551616) (h0 : ¬ d = 0) (w : World) :
    Calls Try.prog 57 #[.int .i64 5, .agg #[.int .u64 (a : Int), .int .u64 (b : Int)], .agg #[.int .u64 0, .int .u64 (d : Int)]] w (apR w ((loN (vN a b / vN 0 d), hiN (vN a b / vN 0 d)), true)) := by
  have h1 := fun W : World => refdiv_any a b 0 d ha hb (by omega) hd (fun h => h0 h.2) W
  unfold fromV at h1
  unfold apR
  generalize loN (vN a b / vN 0 d) = lo at *
  generalize hiN (vN a b / vN 0 d) = hi at *
  have H1 := Lib.hid h1
  have n0 : ¬ (d = 0) := h0
  have n1 : ¬ (((d : Nat) : Int) = 0) := by omega
  clear h1 ha hb hd
  go_enter Try.func57, Try.ntmps57
  go_wp2_with fail
  refine (H1.out _).mono ?_
  rintro e w1 ⟨rfl, bel1⟩
  obtain ⟨hc1, hf1⟩ := bcell bel1
  have hz1 := bel1.size
  simp at hz1
  have z1 : w.heap.size + 1 + 1 < w1.heap.size := (by omega)
  have HB1 := Lib.hid ((((Below.refl w.heap.size w).alloc (Nat.le_refl _) _).alloc (by simp) _).alloc (by simp; omega) _ |>.trans (bel1.mono (by simp; omega)))
  have q0 : w1.cell? ⟨w.heap.size + 1 + 1, 0, none⟩ = some (.int .u64 0) := (by rw [hc1 _ _ (by simp)]; go_simp)
  have q1 : w1.cell? ⟨w.heap.size + 1 + 1, 1, none⟩ = some (.int .u64 0) := (by rw [hc1 _ _ (by simp)]; go_simp)
  have f0 : w1.frozen? ⟨w.heap.size + 1 + 1, 0, none⟩ = false := (by rw [hf1 _ _ (by simp)]; go_simp)
  have f1 : w1.frozen? ⟨w.heap.size + 1 + 1, 1, none⟩ = false := (by rw [hf1 _ _ (by simp)]; go_simp)
  clear hc1 hf1 hz1 bel1
  go_wp2
  refine bodyPost_ret (v := .tuple #[.agg #[.int .u64 (lo : Nat), .int .u64 (hi : Nat)], .bool true]) (by simp [results, Try.results57, go_sem, q0, q1]) rfl ?_
  exact ⟨rfl, (HB1.out.setCell (by simp; omega) _).setCell (by simp; omega) _⟩


theorem refap_div_0 (a b : Nat) (w : World) :
    Calls Try.prog 57 #[.int .i64 5, .agg #[.int .u64 (a : Int), .int .u64 (b : Int)], .agg #[.int .u64 0, .int .u64 0]] w (apR w ((0, 0), false)) := by
  unfold apR
  go_enter Try.func57, Try.ntmps57
  go_wp2
  go_returns
  exact ⟨rfl, by go_grown⟩


set_option maxHeartbeats 1000000 in
theorem ap_other (op : Int) (hop : op < 2 ∨ 10 < op) (x y : Value) (w : World) (a b c d : Nat) (hx : x = .agg #[.int .u64 (a : Int), .int .u64 (b : Int)]) (hy : y = .agg #[.int .u64 (c : Int), .int .u64 (d : Int)]) :
    Calls Try.prog 56 #[.int .i64 op, x, y] w (apR w ((0, 0), false)) := by
  subst hx hy
  unfold apR
  have n2 : ¬ (op = 2) := by omega
  have n3 : ¬ (op = 3) := by omega
  have n4 : ¬ (op = 4) := by omega
  have n5 : ¬ (op = 5) := by omega
  have n6 : ¬ (op = 6) := by omega
  have n7 : ¬ (op = 7) := by omega
  have n8 : ¬ (op = 8) := by omega
  have n9 : ¬ (op = 9) := by omega
  have n10 : ¬ (op = 10) := by omega
  clear hop
  go_enter Try.func56, Try.ntmps56
  go_wp2
  go_returns
  exact ⟨rfl, by go_grown⟩

set_option maxHeartbeats 1000000 in
theorem refap_other (op : Int) (hop : op < 2 ∨ 10 < op) (x y : Value) (w : World) (a b c d : Nat) (hx : x = .agg #[.int .u64 (a : Int), .int .u64 (b : Int)]) (hy : y = .agg #[.int .u64 (c : Int), .int .u64 (d : Int)]) :
    Calls Try.prog 57 #[.int .i64 op, x, y] w (apR w ((0, 0), false)) := by
  subst hx hy
  unfold apR
  have n2 : ¬ (op = 2) := by omega
  have n3 : ¬ (op = 3) := by omega
  have n4 : ¬ (op = 4) := by omega
  have n5 : ¬ (op = 5) := by omega
  have n6 : ¬ (op = 6) := by omega
  have n7 : ¬ (op = 7) := by omega
  have n8 : ¬ (op = 8) := by omega
  have n9 : ¬ (op = 9) := by omega
  have n10 : ¬ (op = 10) := by omega
  clear hop
  go_enter Try.func57, Try.ntmps57
  go_wp2
  go_returns
  exact ⟨rfl, by go_grown⟩

/-- what Apply gives -/
def apV (op : Int) (a b c d : Nat) : (Nat × Nat) × Bool :=
  if op = 2 then ((loN (vN a b + vN c d), hiN (vN a b + vN c d)), true)
  else if op = 3 then ((loN (vN a b + (M128 - vN c d)), hiN (vN a b + (M128 - vN c d))), true)
  else if op = 4 then ((loN (vN a b * vN c d), hiN (vN a b * vN c d)), true)
  else if op = 5 then (if c = 0 ∧ d = 0 then ((0, 0), false) else ((loN (vN a b / vN c d), hiN (vN a b / vN c d)), true))
  else if op = 6 then ((bitsN .and a c, bitsN .and b d), true)
  else if op = 7 then ((bitsN .or a c, bitsN .or b d), true)
  else if op = 8 then ((bitsN .xor a c, bitsN .xor b d), true)
  else if op = 9 then ((if lessN a b c d = true then 1 else 0, 0), true)
  else if op = 10 then ((eqN a b c d, 0), true)
  else ((0, 0), false)

theorem apply_any (op : Int) (a b c d : Nat) (ha : a < 18446744073709551616) (hb : b < 18446744073709551616) (hc : c < 18446744073709551616) (hd : d < 18446744073709551616) (w : World) :
    Calls Try.prog 56 #[.int .i64 op, .agg #[.int .u64 (a : Int), .int .u64 (b : Int)], .agg #[.int .u64 (c : Int), .int .u64 (d : Int)]] w (apR w (apV op a b c d)) := by
  have hop : op = 2 ∨ op = 3 ∨ op = 4 ∨ op = 5 ∨ op = 6 ∨ op = 7 ∨ op = 8 ∨ op = 9 ∨ op = 10 ∨ (op < 2 ∨ 10 < op) := by omega
  rcases hop with rfl | rfl | rfl | rfl | rfl | rfl | rfl | rfl | rfl | hop
  · exact apply2_any a b c d ha hb hc hd w
  · exact apply3_any a b c d ha hb hc hd w
  · exact apply4_any a b c d ha hb hc hd w
  · by_cases h : c = 0 ∧ d = 0
    · obtain ⟨rfl, rfl⟩ := h
      exact ap_div_0 a b w
    · rw [show apV 5 a b c d = ((loN (vN a b / vN c d), hiN (vN a b / vN c d)), true) by unfold apV; rw [if_neg (by decide), if_neg (by decide), if_neg (by decide), if_pos rfl, if_neg h]]
      rcases Nat.eq_zero_or_pos d with hd0 | hd0
      · subst hd0
        exact ap_div_s a b c ha hb hc (by omega) w
      · exact ap_div_l a b c d ha hb hc hd hd0 w
  · exact ap_and a b c d ha hb hc hd w
  · exact ap_or a b c d ha hb hc hd w
  · exact ap_xor a b c d ha hb hc hd w
  · exact ap_less a b c d ha hb hc hd w
  · exact ap_equal a b c d w
  · rw [show apV op a b c d = ((0, 0), false) by unfold apV; rw [if_neg (by omega), if_neg (by omega), if_neg (by omega), if_neg (by omega), if_neg (by omega), if_neg (by omega), if_neg (by omega), if_neg (by omega), if_neg (by omega)]]
    exact ap_other op hop _ _ w a b c d rfl rfl

theorem refapply_any (op : Int) (a b c d : Nat) (ha : a < 18446744073709551616) (hb : b < 18446744073709551616) (hc : c < 18446744073709551616) (hd : d < 18446744073709551616) (w : World) :
    Calls Try.prog 57 #[.int .i64 op, .agg #[.int .u64 (a : Int), .int .u64 (b : Int)], .agg #[.int .u64 (c : Int), .int .u64 (d : Int)]] w (apR w (apV op a b c d)) := by
  have hop : op = 2 ∨ op = 3 ∨ op = 4 ∨ op = 5 ∨ op = 6 ∨ op = 7 ∨ op = 8 ∨ op = 9 ∨ op = 10 ∨ (op < 2 ∨ 10 < op) := by omega
  rcases hop with rfl | rfl | rfl | rfl | rfl | rfl | rfl | rfl | rfl | hop
  · exact refapply2_any a b c d ha hb hc hd w
  · exact refapply3_any a b c d ha hb hc hd w
  · exact refapply4_any a b c d ha hb hc hd w
  · by_cases h : c = 0 ∧ d = 0
    · obtain ⟨rfl, rfl⟩ := h
      exact refap_div_0 a b w
    · rw [show apV 5 a b c d = ((loN (vN a b / vN c d), hiN (vN a b / vN c d)), true) by unfold apV; rw [if_neg (by decide), if_neg (by decide), if_neg (by decide), if_pos rfl, if_neg h]]
      by_cases hc0 : c = 0
      · subst hc0
        exact refap_div2 a b d ha hb hd (fun h' => h ⟨rfl, h'⟩) w
      · exact refap_div1 a b c d ha hb hc hd hc0 w
  · exact refap_and a b c d ha hb hc hd w
  · exact refap_or a b c d ha hb hc hd w
  · exact refap_xor a b c d ha hb hc hd w
  · exact refap_less a b c d ha hb hc hd w
  · exact refap_equal a b c d w
  · rw [show apV op a b c d = ((0, 0), false) by unfold apV; rw [if_neg (by omega), if_neg (by omega), if_neg (by omega), if_neg (by omega), if_neg (by omega), if_neg (by omega), if_neg (by omega), if_neg (by omega), if_neg (by omega)]]
    exact refap_other op hop _ _ w a b c d rfl rfl
end Go.Proofs.Ytcpmlcdeddmdmaa
