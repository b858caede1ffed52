/- Contracts: Truncate, Pair, High of the program and of the reference; the sanity check of chapter 2. -/
import Derived.Test.YtillopkcmpcokaaDoorVfb
namespace Go.Proofs.YtillopkcmpcokaaDoor
open Go.RowKit
set_option linter.unusedVariables false

/-- so many bytes are taken -/
def szOf (x : Int) : Nat := if sizeB x = true then x.toNat else 0
theorem szOf_le (x : Int) : szOf x ≤ 16 := by
  unfold szOf
  split
  · rename_i h
    have := (sizeB_iff x).1 h
    omega
  · omega
def truncS (a b : Nat) (x : Int) : Nat × Nat := truncV a b (szOf x)

def BytesR (w : World) (a b : Nat) (x : Int) (e : Ending) (w' : World) : Prop :=
  ∃ A c, e = .returned (.slice A (szOf x) c) ∧ Bs w' w'.heap.size A (szOf x) (bytesV a b (szOf x)) ∧ szOf x ≤ c ∧ w'.ownsRow w.heap.size 5 1 (.slice A (szOf x) c) (szOf x) (nb (bytesV a b (szOf x))) ∧ Below w.heap.size w w'
theorem own_cap' {w : World} {base n c : Nat} {e : TypeId} {size : Nat} {A : Option Addr} {xs : List Value} (h : w.ownsRow base e size (.slice A n c) n xs) : n ≤ c := by
  rcases h.2 with ⟨h1, rfl⟩ | ⟨g, cap, cur, h1, _, _, h2, h3, _⟩
  · simp at h1
    omega
  · simp at h1
    omega
theorem bytesR_of {w w' : World} {a b : Nat} {x : Int} {e : Ending} (h : ∃ r, e = .returned r ∧ w'.ownsRow w.heap.size 5 1 r (if sizeB x = true then x.toNat else 0) (nb (bytesV a b (if sizeB x = true then x.toNat else 0))) ∧ Below w.heap.size w w') : BytesR w a b x e w' := by
  obtain ⟨r, rfl, own, bel⟩ := h
  have own : w'.ownsRow w.heap.size 5 1 r (szOf x) (nb (bytesV a b (szOf x))) := own
  obtain ⟨A, c, rfl, _⟩ := own_form own
  exact ⟨A, c, rfl, Bs.of_own own (bytesV_lt _ _ _), own_cap' own, own, bel⟩
theorem bytes_r (a b : Nat) (ha : a < 18446744073709551616) (hb : b < 18446744073709551616) (x : Int) (h0 : -9223372036854775808 ≤ x) (h1 : x ≤ 9223372036854775807) (w : World) :
    Calls Tryd.prog 61 #[.agg #[.int .u64 a, .int .u64 b], .int .i64 x] w (BytesR w a b x) := (bytes_any a b ha hb x h0 h1 w).mono fun _ _ h => bytesR_of h
theorem refbytes_r (a b : Nat) (ha : a < 18446744073709551616) (hb : b < 18446744073709551616) (x : Int) (h0 : -9223372036854775808 ≤ x) (h1 : x ≤ 9223372036854775807) (w : World) :
    Calls Tryd.prog 90 #[.agg #[.int .u64 a, .int .u64 b], .int .i64 x] w (BytesR w a b x) := (refbytes_any a b ha hb x h0 h1 w).mono fun _ _ h => bytesR_of h

set_option maxHeartbeats 1000000 in
theorem trunc_any (a b : Nat) (ha : a < 18446744073709551616) (hb : b < 18446744073709551616) (x : Int) (h0 : -9223372036854775808 ≤ x) (h1 : x ≤ 9223372036854775807) (w : World) :
    Calls Tryd.prog 50 #[.agg #[.int .u64 a, .int .u64 b], .int .i64 x] w fun e w' => e = fromV (truncS a b x).1 (truncS a b x).2 ∧ Below w.heap.size w w' := by
  have H1 := Lib.hid (fun W : World => bytes_r a b ha hb x h0 h1 W)
  have HT : Hid (loV (bytesV a b (szOf x)) = (truncS a b x).1 ∧ hiV (bytesV a b (szOf x)) = (truncS a b x).2) := Lib.hid ⟨loV_bytes a b _, hiV_bytes a b _ (szOf_le x)⟩
  have hs := szOf_le x
  clear ha hb h0 h1
  go_enter Tryd.func50, Tryd.ntmps50
  go_wp2_with fail
  refine (H1.out _).mono ?_
  rintro e w1 ⟨A, c, rfl, hb, hc, _, bel⟩
  have hsz := bel.size
  simp at hsz
  have HB := Lib.hid (Below.trans (B := w.heap.size) (a := w) (by go_grown) (bel.mono (by simp <;> omega)))
  obtain ⟨hc1, hf1⟩ := bcell bel
  have z1 : w.heap.size < w1.heap.size := by omega
  have z1' : w.heap.size + 1 < w1.heap.size := by omega
  clear bel
  go_wp2_with fail
  refine (frombytes_any A _ c _ w1 _ hb (Nat.le_refl _) (by unfold maxLen; omega) hc).mono ?_
  rintro e w2 ⟨rfl, bel2⟩
  have HB2 := Lib.hid (HB.out.trans (bel2.mono (by omega)))
  obtain ⟨hc2, hf2⟩ := bcell bel2
  have hsz2 := bel2.size
  have z2 : w.heap.size < w2.heap.size := by omega
  have z2' : w.heap.size + 1 < w2.heap.size := by omega
  rw [HT.out.1, HT.out.2]
  unfold fromV
  have q0 : w2.cell? ⟨w.heap.size + 1, 0, none⟩ = some (.int .u64 0) := by rw [hc2 _ _ z1', hc1 _ _ (by simp)]; go_simp
  have q1 : w2.cell? ⟨w.heap.size + 1, 1, none⟩ = some (.int .u64 0) := by rw [hc2 _ _ z1', hc1 _ _ (by simp)]; go_simp
  have f0 : w2.frozen? ⟨w.heap.size + 1, 0, none⟩ = false := by rw [hf2 _ _ z1', hf1 _ _ (by simp)]; go_simp
  have f1 : w2.frozen? ⟨w.heap.size + 1, 1, none⟩ = false := by rw [hf2 _ _ z1', hf1 _ _ (by simp)]; go_simp
  clear bel2 hb hc1 hc2 hf1 hf2
  go_wp2
  exact bodyPost_ret (v := .agg #[.int .u64 ((truncS a b x).1 : Nat), .int .u64 ((truncS a b x).2 : Nat)]) (by simp [results, Tryd.results50, go_sem, q0, q1]) rfl ⟨rfl, (HB2.out.setCell (by simp) _).setCell (by simp) _⟩

set_option maxHeartbeats 1000000 in
theorem reftrunc_any (a b : Nat) (ha : a < 18446744073709551616) (hb : b < 18446744073709551616) (x : Int) (h0 : -9223372036854775808 ≤ x) (h1 : x ≤ 9223372036854775807) (w : World) :
    Calls Tryd.prog 70 #[.agg #[.int .u64 a, .int .u64 b], .int .i64 x] w fun e w' => e = fromV (truncS a b x).1 (truncS a b x).2 ∧ Below w.heap.size w w' := by
  have H1 := Lib.hid (fun W : World => refbytes_r a b ha hb x h0 h1 W)
  have HT : Hid (loV (bytesV a b (szOf x)) = (truncS a b x).1 ∧ hiV (bytesV a b (szOf x)) = (truncS a b x).2) := Lib.hid ⟨loV_bytes a b _, hiV_bytes a b _ (szOf_le x)⟩
  have hs := szOf_le x
  clear ha hb h0 h1
  go_enter Tryd.func70, Tryd.ntmps70
  go_wp2_with fail
  refine (H1.out _).mono ?_
  rintro e w1 ⟨A, c, rfl, hb, hc, _, bel⟩
  have hsz := bel.size
  simp at hsz
  have HB := Lib.hid (Below.trans (B := w.heap.size) (a := w) (by go_grown) (bel.mono (by simp <;> omega)))
  obtain ⟨hc1, hf1⟩ := bcell bel
  have z1 : w.heap.size < w1.heap.size := by omega
  have z1' : w.heap.size + 1 < w1.heap.size := by omega
  clear bel
  go_wp2_with fail
  refine (reffrombytes_any A _ c _ w1 _ hb (Nat.le_refl _) (by unfold maxLen; omega) hc).mono ?_
  rintro e w2 ⟨rfl, bel2⟩
  have HB2 := Lib.hid (HB.out.trans (bel2.mono (by omega)))
  obtain ⟨hc2, hf2⟩ := bcell bel2
  have hsz2 := bel2.size
  have z2 : w.heap.size < w2.heap.size := by omega
  have z2' : w.heap.size + 1 < w2.heap.size := by omega
  rw [HT.out.1, HT.out.2]
  unfold fromV
  have q0 : w2.cell? ⟨w.heap.size + 1, 0, none⟩ = some (.int .u64 0) := by rw [hc2 _ _ z1', hc1 _ _ (by simp)]; go_simp
  have q1 : w2.cell? ⟨w.heap.size + 1, 1, none⟩ = some (.int .u64 0) := by rw [hc2 _ _ z1', hc1 _ _ (by simp)]; go_simp
  have f0 : w2.frozen? ⟨w.heap.size + 1, 0, none⟩ = false := by rw [hf2 _ _ z1', hf1 _ _ (by simp)]; go_simp
  have f1 : w2.frozen? ⟨w.heap.size + 1, 1, none⟩ = false := by rw [hf2 _ _ z1', hf1 _ _ (by simp)]; go_simp
  clear bel2 hb hc1 hc2 hf1 hf2
  go_wp2
  exact bodyPost_ret (v := .agg #[.int .u64 ((truncS a b x).1 : Nat), .int .u64 ((truncS a b x).2 : Nat)]) (by simp [results, Tryd.results70, go_sem, q0, q1]) rfl ⟨rfl, (HB2.out.setCell (by simp) _).setCell (by simp) _⟩

theorem pair_any (a b c d : Nat) (w : World) :
    Calls Tryd.prog 62 #[.agg #[.int .u64 (a : Int), .int .u64 (b : Int)], .agg #[.int .u64 (c : Int), .int .u64 (d : Int)]] w fun e w' => e = fromV a c ∧ Below w.heap.size w w' := by
  go_enter Tryd.func62, Tryd.ntmps62
  go_wp2
  go_returns
  exact ⟨rfl, by go_grown⟩
theorem refpair_any (a b c d : Nat) (w : World) :
    Calls Tryd.prog 71 #[.agg #[.int .u64 (a : Int), .int .u64 (b : Int)], .agg #[.int .u64 (c : Int), .int .u64 (d : Int)]] w fun e w' => e = fromV a c ∧ Below w.heap.size w w' := by
  go_enter Tryd.func71, Tryd.ntmps71
  go_wp2
  go_returns
  exact ⟨rfl, by go_grown⟩
theorem high_any (a b : Nat) (w : World) :
    Calls Tryd.prog 63 #[.agg #[.int .u64 (a : Int), .int .u64 (b : Int)]] w fun e w' => e = fromV b 0 ∧ Below w.heap.size w w' := by
  go_enter Tryd.func63, Tryd.ntmps63
  go_wp2
  go_returns
  exact ⟨rfl, by go_grown⟩
theorem refhigh_any (a b : Nat) (w : World) :
    Calls Tryd.prog 72 #[.agg #[.int .u64 (a : Int), .int .u64 (b : Int)]] w fun e w' => e = fromV b 0 ∧ Below w.heap.size w w' := by
  go_enter Tryd.func72, Tryd.ntmps72
  go_wp2
  go_returns
  exact ⟨rfl, by go_grown⟩
end Go.Proofs.YtillopkcmpcokaaDoor
