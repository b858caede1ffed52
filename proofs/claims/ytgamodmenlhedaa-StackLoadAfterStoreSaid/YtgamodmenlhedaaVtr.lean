/- The contract of the reference's Truncate. -/
import Derived.Test.YtgamodmenlhedaaVb0
namespace Go.Proofs.Ytgamodmenlhedaa
open Go.RowKit
set_option linter.unusedVariables false

set_option maxHeartbeats 1000000 in
theorem reftrunc_any (a b : Nat) (ha : a < 18446744073709551616) (hb : b < 18446744073709551616) (x : Int) (h0 : -9223372036854775808 ≤ x) (h1 : x ≤ 9223372036854775807) (w : World) :
    Calls Try.prog 36 #[.agg #[.int .u64 a, .int .u64 b], .int .i64 x] w fun e w' => e = fromV (truncS a b x).1 (truncS a b x).2 ∧ Below w.heap.size w w' := by
  have H1 := Lib.hid (fun W : World => refbytes_r a b ha hb x h0 h1 W)
  have HT : Hid (loV (bytesV a b (szOf x)) = (truncS a b x).1 ∧ hiV (bytesV a b (szOf x)) = (truncS a b x).2) := Lib.hid ⟨loV_bytes a b _, hiV_bytes a b _ (szOf_le x)⟩
  have hs := szOf_le x
  clear ha hb h0 h1
  go_enter Try.func36, Try.ntmps36
  go_wp2_with fail
  refine (H1.out _).mono ?_
  rintro e w1 ⟨A, c, rfl, hb, hc, _, bel⟩
  have hsz := bel.size
  simp at hsz
  have HB := Lib.hid (Below.trans (B := w.heap.size) (a := w) (by go_grown) (bel.mono (by simp <;> omega)))
  obtain ⟨hc1, hf1⟩ := bcell bel
  have z1 : w.heap.size < w1.heap.size := by omega
  have z1' : w.heap.size + 1 < w1.heap.size := by omega
  clear bel
  go_wp2_with fail
  refine (reffrombytes_any A _ c _ w1 _ hb (Nat.le_refl _) (by unfold maxLen; omega) hc).mono ?_
  rintro e w2 ⟨rfl, bel2⟩
  have HB2 := Lib.hid (HB.out.trans (bel2.mono (by omega)))
  obtain ⟨hc2, hf2⟩ := bcell bel2
  have hsz2 := bel2.size
  have z2 : w.heap.size < w2.heap.size := by omega
  have z2' : w.heap.size + 1 < w2.heap.size := by omega
  rw [HT.out.1, HT.out.2]
  unfold fromV
  have q0 : w2.cell? ⟨w.heap.size + 1, 0, none⟩ = some (.int .u64 0) := by rw [hc2 _ _ z1', hc1 _ _ (by simp)]; go_simp
  have q1 : w2.cell? ⟨w.heap.size + 1, 1, none⟩ = some (.int .u64 0) := by rw [hc2 _ _ z1', hc1 _ _ (by simp)]; go_simp
  have f0 : w2.frozen? ⟨w.heap.size + 1, 0, none⟩ = false := by rw [hf2 _ _ z1', hf1 _ _ (by simp)]; go_simp
  have f1 : w2.frozen? ⟨w.heap.size + 1, 1, none⟩ = false := by rw [hf2 _ _ z1', hf1 _ _ (by simp)]; go_simp
  clear bel2 hb hc1 hc2 hf1 hf2
  go_wp2
  exact bodyPost_ret (v := .agg #[.int .u64 ((truncS a b x).1 : Nat), .int .u64 ((truncS a b x).2 : Nat)]) (by simp [results, Try.results36, go_sem, q0, q1]) rfl ⟨rfl, (HB2.out.setCell (by simp) _).setCell (by simp) _⟩

end Go.Proofs.Ytgamodmenlhedaa
