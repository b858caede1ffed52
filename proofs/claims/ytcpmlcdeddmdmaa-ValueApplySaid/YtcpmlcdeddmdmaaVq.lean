/- Contracts: Apply of the program at the quotient, at the bit operations and at the comparisons. -/
import Derived.Test.YtcpmlcdeddmdmaaVdl
namespace Go.Proofs.Ytcpmlcdeddmdmaa
open Go.RowKit
set_option linter.unusedVariables false
set_option maxRecDepth 10000

/-- a value and whether it is one -/
def bitsN (o : BinOp) (a c : Nat) : Nat := (bits o .u64 (a : Int) (c : Int)).toNat
theorem bitsN_eq (o : BinOp) (a c : Nat) : bits o .u64 (a : Int) (c : Int) = ((bitsN o a c : Nat) : Int) := by
  unfold bitsN
  have h := wf_bits o .u64 a c
  simp [Lit.wf, IntKind.min, IntKind.max, IntKind.signed, IntKind.bits] at h
  omega
def apR (w : World) (r : (Nat × Nat) × Bool) (e : Ending) (w' : World) : Prop := e = .returned (.tuple #[.agg #[.int .u64 (r.1.1 : Int), .int .u64 (r.1.2 : Int)], .bool r.2]) ∧ Below w.heap.size w w'

set_option maxHeartbeats 1000000 in
theorem ap_div_s (a b c : Nat) (ha : a < 18446744073709551616) (hb : b < 18446744073709551616) (hc : c < 18446744073709551616) (h0 : 0 < c) (w : World) :
    Calls Try.prog 56 #[.int .i64 5, .agg #[.int .u64 (a : Int), .int .u64 (b : Int)], .agg #[.int .u64 (c : Int), .int .u64 0]] w (apR w ((loN (vN a b / vN c 0), hiN (vN a b / vN c 0)), true)) := by
  have h1 := fun W : World => vdiv_short a b c ha hb hc h0 W
  unfold fromV at h1
  unfold apR
  generalize loN (vN a b / vN c 0) = lo at *
  generalize hiN (vN a b / vN c 0) = hi at *
  have H1 := Lib.hid h1
  have n0 : ¬ (c = 0) := by omega
  have n1 : ¬ (((c : Nat) : Int) = 0) := by omega
  clear h1 ha hb hc
  go_enter Try.func56, Try.ntmps56
  go_wp2_with fail
  refine (H1.out _).mono ?_
  rintro e w1 ⟨rfl, bel1⟩
  obtain ⟨hc1, hf1⟩ := bcell bel1
  have hz1 := bel1.size
  simp at hz1
  have z1 : w.heap.size + 1 + 1 < w1.heap.size := (by omega)
  have HB1 := Lib.hid ((((Below.refl w.heap.size w).alloc (Nat.le_refl _) _).alloc (by simp) _).alloc (by simp; omega) _ |>.trans (bel1.mono (by simp; omega)))
  have q0 : w1.cell? ⟨w.heap.size + 1 + 1, 0, none⟩ = some (.int .u64 0) := (by rw [hc1 _ _ (by simp)]; go_simp)
  have q1 : w1.cell? ⟨w.heap.size + 1 + 1, 1, none⟩ = some (.int .u64 0) := (by rw [hc1 _ _ (by simp)]; go_simp)
  have f0 : w1.frozen? ⟨w.heap.size + 1 + 1, 0, none⟩ = false := (by rw [hf1 _ _ (by simp)]; go_simp)
  have f1 : w1.frozen? ⟨w.heap.size + 1 + 1, 1, none⟩ = false := (by rw [hf1 _ _ (by simp)]; go_simp)
  clear hc1 hf1 hz1 bel1
  go_wp2
  refine bodyPost_ret (v := .tuple #[.agg #[.int .u64 (lo : Nat), .int .u64 (hi : Nat)], .bool true]) (by simp [results, Try.results56, go_sem, q0, q1]) rfl ?_
  exact ⟨rfl, (HB1.out.setCell (by simp; omega) _).setCell (by simp; omega) _⟩

set_option maxHeartbeats 1000000 in
theorem ap_div_l (a b c d : Nat) (ha : a < 18446744073709551616) (hb : b < 18446744073709551616) (hc : c < 18446744073709551616) (hd : d < 18446744073709551616) (h0 : 0 < d) (w : World) :
    Calls Try.prog 56 #[.int .i64 5, .agg #[.int .u64 (a : Int), .int .u64 (b : Int)], .agg #[.int .u64 (c : Int), .int .u64 (d : Int)]] w (apR w ((loN (vN a b / vN c d), hiN (vN a b / vN c d)), true)) := by
  have h1 := fun W : World => vdiv_long a b c d ha hb hc hd h0 W
  unfold fromV at h1
  unfold apR
  generalize loN (vN a b / vN c d) = lo at *
  generalize hiN (vN a b / vN c d) = hi at *
  have H1 := Lib.hid h1
  have n0 : ¬ (d = 0) := by omega
  have n1 : ¬ (((d : Nat) : Int) = 0) := by omega
  clear h1 ha hb hc hd
  go_enter Try.func56, Try.ntmps56
  go_wp2_with fail
  refine (H1.out _).mono ?_
  rintro e w1 ⟨rfl, bel1⟩
  obtain ⟨hc1, hf1⟩ := bcell bel1
  have hz1 := bel1.size
  simp at hz1
  have z1 : w.heap.size + 1 + 1 < w1.heap.size := (by omega)
  have HB1 := Lib.hid ((((Below.refl w.heap.size w).alloc (Nat.le_refl _) _).alloc (by simp) _).alloc (by simp; omega) _ |>.trans (bel1.mono (by simp; omega)))
  have q0 : w1.cell? ⟨w.heap.size + 1 + 1, 0, none⟩ = some (.int .u64 0) := (by rw [hc1 _ _ (by simp)]; go_simp)
  have q1 : w1.cell? ⟨w.heap.size + 1 + 1, 1, none⟩ = some (.int .u64 0) := (by rw [hc1 _ _ (by simp)]; go_simp)
  have f0 : w1.frozen? ⟨w.heap.size + 1 + 1, 0, none⟩ = false := (by rw [hf1 _ _ (by simp)]; go_simp)
  have f1 : w1.frozen? ⟨w.heap.size + 1 + 1, 1, none⟩ = false := (by rw [hf1 _ _ (by simp)]; go_simp)
  clear hc1 hf1 hz1 bel1
  go_wp2
  refine bodyPost_ret (v := .tuple #[.agg #[.int .u64 (lo : Nat), .int .u64 (hi : Nat)], .bool true]) (by simp [results, Try.results56, go_sem, q0, q1]) rfl ?_
  exact ⟨rfl, (HB1.out.setCell (by simp; omega) _).setCell (by simp; omega) _⟩

theorem ap_div_0 (a b : Nat) (w : World) :
    Calls Try.prog 56 #[.int .i64 5, .agg #[.int .u64 (a : Int), .int .u64 (b : Int)], .agg #[.int .u64 0, .int .u64 0]] w (apR w ((0, 0), false)) := by
  unfold apR
  go_enter Try.func56, Try.ntmps56
  go_wp2
  go_returns
  exact ⟨rfl, by go_grown⟩

theorem ap_and (a b c d : Nat) (ha : a < 18446744073709551616) (hb : b < 18446744073709551616) (hc : c < 18446744073709551616) (hd : d < 18446744073709551616) (w : World) :
    Calls Try.prog 56 #[.int .i64 6, .agg #[.int .u64 (a : Int), .int .u64 (b : Int)], .agg #[.int .u64 (c : Int), .int .u64 (d : Int)]] w (apR w ((bitsN .and a c, bitsN .and b d), true)) := by
  have e1 := bitsN_eq .and a c
  have e2 := bitsN_eq .and b d
  have E1 := Lib.hid e1
  have E2 := Lib.hid e2
  clear e1 e2
  unfold apR
  go_enter Try.func56, Try.ntmps56
  go_wp2
  go_returns
  exact ⟨by rw [E1.out, E2.out], by go_grown⟩

theorem ap_or (a b c d : Nat) (ha : a < 18446744073709551616) (hb : b < 18446744073709551616) (hc : c < 18446744073709551616) (hd : d < 18446744073709551616) (w : World) :
    Calls Try.prog 56 #[.int .i64 7, .agg #[.int .u64 (a : Int), .int .u64 (b : Int)], .agg #[.int .u64 (c : Int), .int .u64 (d : Int)]] w (apR w ((bitsN .or a c, bitsN .or b d), true)) := by
  have e1 := bitsN_eq .or a c
  have e2 := bitsN_eq .or b d
  have E1 := Lib.hid e1
  have E2 := Lib.hid e2
  clear e1 e2
  unfold apR
  go_enter Try.func56, Try.ntmps56
  go_wp2
  go_returns
  exact ⟨by rw [E1.out, E2.out], by go_grown⟩

theorem ap_xor (a b c d : Nat) (ha : a < 18446744073709551616) (hb : b < 18446744073709551616) (hc : c < 18446744073709551616) (hd : d < 18446744073709551616) (w : World) :
    Calls Try.prog 56 #[.int .i64 8, .agg #[.int .u64 (a : Int), .int .u64 (b : Int)], .agg #[.int .u64 (c : Int), .int .u64 (d : Int)]] w (apR w ((bitsN .xor a c, bitsN .xor b d), true)) := by
  have e1 := bitsN_eq .xor a c
  have e2 := bitsN_eq .xor b d
  have E1 := Lib.hid e1
  have E2 := Lib.hid e2
  clear e1 e2
  unfold apR
  go_enter Try.func56, Try.ntmps56
  go_wp2
  go_returns
  exact ⟨by rw [E1.out, E2.out], by go_grown⟩

set_option maxHeartbeats 1000000 in
theorem ap_less (a b c d : Nat) (ha : a < 18446744073709551616) (hb : b < 18446744073709551616) (hc : c < 18446744073709551616) (hd : d < 18446744073709551616) (w : World) :
    Calls Try.prog 56 #[.int .i64 9, .agg #[.int .u64 (a : Int), .int .u64 (b : Int)], .agg #[.int .u64 (c : Int), .int .u64 (d : Int)]] w (apR w ((if lessN a b c d = true then 1 else 0, 0), true)) := by
  have H1 := Lib.hid (fun W : World => less_any a b c d ha hc W)
  have h2 := fun W : World => truth_any (lessN a b c d) W
  unfold fromV at h2
  unfold apR
  generalize (if lessN a b c d = true then 1 else 0) = t at *
  generalize lessN a b c d = bb at *
  have H2 := Lib.hid h2
  clear h2 ha hb hc hd
  go_enter Try.func56, Try.ntmps56
  go_wp2_with fail
  refine (H1.out _).mono ?_
  rintro e w1 ⟨rfl, bel1⟩
  obtain ⟨hc1, hf1⟩ := bcell bel1
  have hz1 := bel1.size
  simp at hz1
  have z1 : w.heap.size + 1 + 1 < w1.heap.size := (by omega)
  have HB1 := Lib.hid ((((Below.refl w.heap.size w).alloc (Nat.le_refl _) _).alloc (by simp) _).alloc (by simp; omega) _ |>.trans (bel1.mono (by simp; omega)))
  have q0 : w1.cell? ⟨w.heap.size + 1 + 1, 0, none⟩ = some (.int .u64 0) := (by rw [hc1 _ _ (by simp)]; go_simp)
  have q1 : w1.cell? ⟨w.heap.size + 1 + 1, 1, none⟩ = some (.int .u64 0) := (by rw [hc1 _ _ (by simp)]; go_simp)
  have f0 : w1.frozen? ⟨w.heap.size + 1 + 1, 0, none⟩ = false := (by rw [hf1 _ _ (by simp)]; go_simp)
  have f1 : w1.frozen? ⟨w.heap.size + 1 + 1, 1, none⟩ = false := (by rw [hf1 _ _ (by simp)]; go_simp)
  clear hc1 hf1 hz1 bel1
  go_wp2_with fail
  refine (H2.out _).mono ?_
  rintro e w2 ⟨rfl, bel2⟩
  obtain ⟨hc2, hf2⟩ := bcell bel2
  have hz2 := bel2.size
  have z2 : w.heap.size + 1 + 1 < w2.heap.size := (by omega)
  have HB2 := Lib.hid (HB1.out.trans (bel2.mono (by omega)))
  have q0 : w2.cell? ⟨w.heap.size + 1 + 1, 0, none⟩ = some (.int .u64 0) := (by rw [hc2 _ _ z1]; exact q0)
  have q1 : w2.cell? ⟨w.heap.size + 1 + 1, 1, none⟩ = some (.int .u64 0) := (by rw [hc2 _ _ z1]; exact q1)
  have f0 : w2.frozen? ⟨w.heap.size + 1 + 1, 0, none⟩ = false := (by rw [hf2 _ _ z1]; exact f0)
  have f1 : w2.frozen? ⟨w.heap.size + 1 + 1, 1, none⟩ = false := (by rw [hf2 _ _ z1]; exact f1)
  clear hc2 hf2 hz2 bel2
  go_wp2
  refine bodyPost_ret (v := .tuple #[.agg #[.int .u64 (t : Nat), .int .u64 (0 : Nat)], .bool true]) (by simp [results, Try.results56, go_sem, q0, q1]) rfl ?_
  exact ⟨rfl, (HB2.out.setCell (by simp; omega) _).setCell (by simp; omega) _⟩

/-- the number of a comparison -/
def eqN (a b c d : Nat) : Nat := if a = c ∧ b = d then 1 else 0
set_option maxHeartbeats 1000000 in
theorem ap_equal (a b c d : Nat) (w : World) :
    Calls Try.prog 56 #[.int .i64 10, .agg #[.int .u64 (a : Int), .int .u64 (b : Int)], .agg #[.int .u64 (c : Int), .int .u64 (d : Int)]] w (apR w ((eqN a b c d, 0), true)) := by
  have H2 := Lib.hid (fun (W : World) (t : Bool) => truth_any t W)
  unfold apR
  rcases (show (a = c ∧ b = d) ∨ (a = c ∧ ¬ b = d) ∨ ¬ a = c by omega) with ⟨h1, h2⟩ | ⟨h1, h2⟩ | h1
  · subst h1 h2
    rw [show eqN a b a b = 1 by unfold eqN; rw [if_pos ⟨rfl, rfl⟩]]
    go_enter Try.func56, Try.ntmps56
    go_wp2_with fail
    refine ((H2.out _ true).mono ?_)
    rintro e w1 ⟨rfl, bel1⟩
    rw [show fromV (if true = true then 1 else 0) 0 = .returned (.agg #[.int .u64 1, .int .u64 0]) from rfl]
    obtain ⟨hc1, hf1⟩ := bcell bel1
    have hz1 := bel1.size
    simp at hz1
    have z1 : w.heap.size + 1 + 1 < w1.heap.size := (by omega)
    have HB1 := Lib.hid ((((Below.refl w.heap.size w).alloc (Nat.le_refl _) _).alloc (by simp) _).alloc (by simp; omega) _ |>.trans (bel1.mono (by simp; omega)))
    have q0 : w1.cell? ⟨w.heap.size + 1 + 1, 0, none⟩ = some (.int .u64 0) := (by rw [hc1 _ _ (by simp)]; go_simp)
    have q1 : w1.cell? ⟨w.heap.size + 1 + 1, 1, none⟩ = some (.int .u64 0) := (by rw [hc1 _ _ (by simp)]; go_simp)
    have f0 : w1.frozen? ⟨w.heap.size + 1 + 1, 0, none⟩ = false := (by rw [hf1 _ _ (by simp)]; go_simp)
    have f1 : w1.frozen? ⟨w.heap.size + 1 + 1, 1, none⟩ = false := (by rw [hf1 _ _ (by simp)]; go_simp)
    clear hc1 hf1 hz1 bel1
    go_wp2
    refine bodyPost_ret (v := .tuple #[.agg #[.int .u64 1, .int .u64 0], .bool true]) (by simp [results, Try.results56, go_sem, q0, q1]) rfl ?_
    exact ⟨rfl, (HB1.out.setCell (by simp; omega) _).setCell (by simp; omega) _⟩
  · subst h1
    rw [show eqN a b a d = 0 by unfold eqN; rw [if_neg (fun h => h2 h.2)]]
    have g2 : ¬ ((b : Int) = (d : Int)) := by omega
    go_enter Try.func56, Try.ntmps56
    go_wp2_with fail
    refine ((H2.out _ false).mono ?_)
    rintro e w1 ⟨rfl, bel1⟩
    rw [show fromV (if false = true then 1 else 0) 0 = .returned (.agg #[.int .u64 0, .int .u64 0]) from rfl]
    obtain ⟨hc1, hf1⟩ := bcell bel1
    have hz1 := bel1.size
    simp at hz1
    have z1 : w.heap.size + 1 + 1 < w1.heap.size := (by omega)
    have HB1 := Lib.hid ((((Below.refl w.heap.size w).alloc (Nat.le_refl _) _).alloc (by simp) _).alloc (by simp; omega) _ |>.trans (bel1.mono (by simp; omega)))
    have q0 : w1.cell? ⟨w.heap.size + 1 + 1, 0, none⟩ = some (.int .u64 0) := (by rw [hc1 _ _ (by simp)]; go_simp)
    have q1 : w1.cell? ⟨w.heap.size + 1 + 1, 1, none⟩ = some (.int .u64 0) := (by rw [hc1 _ _ (by simp)]; go_simp)
    have f0 : w1.frozen? ⟨w.heap.size + 1 + 1, 0, none⟩ = false := (by rw [hf1 _ _ (by simp)]; go_simp)
    have f1 : w1.frozen? ⟨w.heap.size + 1 + 1, 1, none⟩ = false := (by rw [hf1 _ _ (by simp)]; go_simp)
    clear hc1 hf1 hz1 bel1
    go_wp2
    refine bodyPost_ret (v := .tuple #[.agg #[.int .u64 0, .int .u64 0], .bool true]) (by simp [results, Try.results56, go_sem, q0, q1]) rfl ?_
    exact ⟨rfl, (HB1.out.setCell (by simp; omega) _).setCell (by simp; omega) _⟩
  · rw [show eqN a b c d = 0 by unfold eqN; rw [if_neg (fun h => h1 h.1)]]
    have g1 : ¬ ((a : Int) = (c : Int)) := by omega
    go_enter Try.func56, Try.ntmps56
    go_wp2_with fail
    refine ((H2.out _ false).mono ?_)
    rintro e w1 ⟨rfl, bel1⟩
    rw [show fromV (if false = true then 1 else 0) 0 = .returned (.agg #[.int .u64 0, .int .u64 0]) from rfl]
    obtain ⟨hc1, hf1⟩ := bcell bel1
    have hz1 := bel1.size
    simp at hz1
    have z1 : w.heap.size + 1 + 1 < w1.heap.size := (by omega)
    have HB1 := Lib.hid ((((Below.refl w.heap.size w).alloc (Nat.le_refl _) _).alloc (by simp) _).alloc (by simp; omega) _ |>.trans (bel1.mono (by simp; omega)))
    have q0 : w1.cell? ⟨w.heap.size + 1 + 1, 0, none⟩ = some (.int .u64 0) := (by rw [hc1 _ _ (by simp)]; go_simp)
    have q1 : w1.cell? ⟨w.heap.size + 1 + 1, 1, none⟩ = some (.int .u64 0) := (by rw [hc1 _ _ (by simp)]; go_simp)
    have f0 : w1.frozen? ⟨w.heap.size + 1 + 1, 0, none⟩ = false := (by rw [hf1 _ _ (by simp)]; go_simp)
    have f1 : w1.frozen? ⟨w.heap.size + 1 + 1, 1, none⟩ = false := (by rw [hf1 _ _ (by simp)]; go_simp)
    clear hc1 hf1 hz1 bel1
    go_wp2
    refine bodyPost_ret (v := .tuple #[.agg #[.int .u64 0, .int .u64 0], .bool true]) (by simp [results, Try.results56, go_sem, q0, q1]) rfl ?_
    exact ⟨rfl, (HB1.out.setCell (by simp; omega) _).setCell (by simp; omega) _⟩
end Go.Proofs.Ytcpmlcdeddmdmaa
