/- ValueBytesReturn: the walk of the law. -/
import Derived.Test.YtcpmlcdeddmdmaaVt
import Derived.Deep.RegionHeld3
namespace Go.Proofs.Ytcpmlcdeddmdmaa.vu
open Go.RowKit
set_option linter.unusedVariables false

theorem keep2 {wr W W' : World} {g h M : Nat} {x0 x1 y0 y1 : Value} (hs : (W.cell? ⟨g, 0, none⟩ = some x0 ∧ W.cell? ⟨g, 1, none⟩ = some x1) ∧ (W.cell? ⟨h, 0, none⟩ = some y0 ∧ W.cell? ⟨h, 1, none⟩ = some y1) ∧ g < W.heap.size ∧ h < W.heap.size ∧ M ≤ W.heap.size ∧ Below M wr W) (bel : Below W.heap.size W W') :
    (W'.cell? ⟨g, 0, none⟩ = some x0 ∧ W'.cell? ⟨g, 1, none⟩ = some x1) ∧ (W'.cell? ⟨h, 0, none⟩ = some y0 ∧ W'.cell? ⟨h, 1, none⟩ = some y1) ∧ g < W'.heap.size ∧ h < W'.heap.size ∧ M ≤ W'.heap.size ∧ Below M wr W' := by
  obtain ⟨⟨h0, h1⟩, ⟨h2, h3⟩, h4, h5, h6, h7⟩ := hs
  have hc := (bcell bel).1
  have hz := bel.size
  exact ⟨⟨(hc _ _ h4).trans h0, (hc _ _ h4).trans h1⟩, ⟨(hc _ _ h5).trans h2, (hc _ _ h5).trans h3⟩, by omega, by omega, by omega, h7.trans (bel.mono h6)⟩
theorem szOf_nat (y : Nat) (h : sizeB (y : Int) = true) : szOf (y : Int) = y := by unfold szOf; rw [if_pos h]; rfl

set_option maxHeartbeats 8000000 in
set_option maxRecDepth 10000 in
theorem law (a b : Nat) (ha : a < 18446744073709551616) (hb : b < 18446744073709551616) (w : World) :
    Calls Try.prog 8 #[.agg #[.int .u64 a, .int .u64 b]] w fun e w' => e = .returned (.bool true) ∧ Below w.heap.size w w' := by
  have HA := Lib.hid ha
  have HB := Lib.hid hb
  clear ha hb
  go_enter Try.func8, Try.ntmps8
  go_wp2_with fail
  refine (awake02 _).mono ?_
  rintro e w1 ⟨rfl, rfl⟩
  go_wp2_with fail
  go_loopw [10] (fun i wr => ∃ k : Nat, k ≤ 5 ∧ i = .int .i64 k ∧ Hid (Below w.heap.size w wr) ∧ w.heap.size + 1 < wr.heap.size ∧
      (wr.cell? ⟨w.heap.size, 0, none⟩ = some (.int .u64 a) ∧ wr.cell? ⟨w.heap.size, 1, none⟩ = some (.int .u64 b)) ∧
      Hid (∀ j, j < 5 → ∃ y : Nat, y ≤ 16 ∧ sizeB (y : Int) = true ∧ wr.cell? ⟨w.heap.size + 1, j, none⟩ = some (.int .i64 y))) (fun i _ => 5 - (intOf i).toNat)
  case atStart =>
    refine ⟨0, by omega, rfl, Lib.hid (by go_grown), by simp, ⟨?_, ?_⟩, ?_⟩
    · go_simp
    · go_simp
    · intro j hj
      have hj6 : j = 0 ∨ j = 1 ∨ j = 2 ∨ j = 3 ∨ j = 4 := by omega
      rcases hj6 with rfl | rfl | rfl | rfl | rfl
      · exact ⟨1, by omega, by decide, by go_simp⟩
      · exact ⟨2, by omega, by decide, by go_simp⟩
      · exact ⟨4, by omega, by decide, by go_simp⟩
      · exact ⟨8, by omega, by decide, by go_simp⟩
      · exact ⟨16, by omega, by decide, by go_simp⟩
  case round =>
    obtain ⟨k, hk, rfl, HBel, hz, ⟨p0, p1⟩, HS⟩ := hrel
    have z0 : w.heap.size < wr.heap.size := by omega
    by_cases hk6 : k < 5
    · obtain ⟨y, hy16, hyb, hcy⟩ := HS.out k hk6
      have hki : (k : Int) < 5 := by omega
      have hk0 : (0 : Int) ≤ (k : Int) := by omega
      have hsz := szOf_nat y hyb
      have hlt : (truncS a b y).1 < 18446744073709551616 ∧ (truncS a b y).2 < 18446744073709551616 := truncV_lt a b _ HA.out HB.out
      have hid : truncS (truncS a b y).1 (truncS a b y).2 y = truncS a b y := truncV_idem a b _
      have hlo : loV (bytesV a b y) = (truncS a b y).1 := by have := loV_bytes a b (szOf y); rw [hsz] at this; rw [this]; unfold truncS; rw [hsz]
      have hhi : hiV (bytesV a b y) = (truncS a b y).2 := by have := hiV_bytes a b (szOf y) (by omega); rw [hsz] at this; rw [this]; unfold truncS; rw [hsz]
      have C1 := fun W : World => trunc_any a b HA.out HB.out y (by omega) (by omega) W
      have C2 := fun W : World => trunc_any _ _ hlt.1 hlt.2 y (by omega) (by omega) W
      have C3 : ∀ W : World, Calls Try.prog 42 #[.agg #[.int .u64 a, .int .u64 b], .int .i64 y] W fun e w' => ∃ A c, e = .returned (.slice A y c) ∧ Bs w' w'.heap.size A y (bytesV a b y) ∧ y ≤ c ∧ Below W.heap.size W w' := fun W =>
        (bytes_r a b HA.out HB.out y (by omega) (by omega) W).mono fun e w' h => by
          obtain ⟨A, c, he, h1, h2, _, h3⟩ := h
          rw [hsz] at he h1 h2
          exact ⟨A, c, he, h1, h2, h3⟩
      have C4 : ∀ (W : World) (A : Option Addr) (c : Nat), Bs W W.heap.size A y (bytesV a b y) → y ≤ c → Calls Try.prog 46 #[.slice A y c] W fun e w' => e = fromV (truncS a b y).1 (truncS a b y).2 ∧ Below W.heap.size W w' := fun W A c h1 h2 =>
        (frombytes_any A y c _ W _ h1 (Nat.le_refl _) (by unfold maxLen; omega) h2).mono fun e w' h => by rw [hlo, hhi] at h; exact h
      rw [hid] at C2
      clear hid hlo hhi hlt hyb hsz
      generalize (truncS a b y).1 = t1 at *
      generalize (truncS a b y).2 = t2 at *
      unfold fromV at C1 C2 C4
      have D1 := Lib.hid C1
      have D2 := Lib.hid C2
      have D3 := Lib.hid C3
      have D4 := Lib.hid C4
      clear C1 C2 C3 C4
      go_wp2_with fail
      refine (D1.out _).mono ?_
      rintro e w1 ⟨rfl, bel1⟩
      obtain ⟨hc1, hf1⟩ := bcell bel1
      have hz1 := bel1.size
      have q0 := (hc1 _ 0 z0).trans p0
      have q1 := (hc1 _ 1 z0).trans p1
      have z1 : w.heap.size < w1.heap.size := by omega
      have HB1 := Lib.hid bel1
      clear bel1 hc1 hf1 p0 p1
      go_wp2_with fail
      have hS0 := keep2 (wr := wr) (M := w.heap.size + 2) (W := w1.alloc (.cells #[.int .u64 t1, .int .u64 t2] 58)) (g := w.heap.size) (h := w1.heap.size) (x0 := .int .u64 a) (x1 := .int .u64 b) (y0 := .int .u64 t1) (y1 := .int .u64 t2) ⟨⟨by go_simp, by go_simp⟩, ⟨by go_simp, by go_simp⟩, by simp; omega, by simp, by simp; omega, (HB1.out.mono (by omega)).alloc (by omega) _⟩ ((Below.refl _ _).drew)
      have HS0 := Lib.hid hS0
      clear hS0
      go_region_held3 (fun W => (W.cell? ⟨w.heap.size, 0, none⟩ = some (.int .u64 a) ∧ W.cell? ⟨w.heap.size, 1, none⟩ = some (.int .u64 b)) ∧ (W.cell? ⟨w1.heap.size, 0, none⟩ = some (.int .u64 t1) ∧ W.cell? ⟨w1.heap.size, 1, none⟩ = some (.int .u64 t2)) ∧ w.heap.size < W.heap.size ∧ w1.heap.size < W.heap.size ∧ w.heap.size + 2 ≤ W.heap.size ∧ Below (w.heap.size + 2) wr W)
        (first | exact keep2 (by assumption) bel7 | exact keep2 (by assumption) bel6 | exact keep2 (by assumption) bel5 | exact HS0.out)
        (first
        | (go_at_call 42; refine (D3.out _).mono ?_; rintro e w5 ⟨A5, c5, rfl, b5, hc5, bel5⟩)
        | (go_at_call 46; refine (D4.out _ _ _ b5 hc5).mono ?_; rintro e w6 ⟨rfl, bel6⟩)
        | (go_at_call 44; refine (D2.out _).mono ?_; rintro e w7 ⟨rfl, bel7⟩))
      have hfin := (show (_ ∧ _) ∧ (_ ∧ _) ∧ _ ∧ _ ∧ _ ∧ Below (w.heap.size + 2) wr w5 from by assumption)
      have HF := Lib.hid hfin
      clear hfin bel5 bel6 bel7 b5 hc5 HS0 q0 q1 hcy D1 D2 D3 D4
      go_wp2
      go_roundw
      case rel =>
        obtain ⟨⟨h0, h1⟩, -, h4, h5, h6, h7⟩ := HF.out
        refine ⟨k + 1, by omega, by go_num, Lib.hid (HBel.out.trans (h7.mono (by omega))), by omega, ⟨h0, h1⟩, Lib.hid fun j hj => ?_⟩
        obtain ⟨y', g0, g1, g2⟩ := HS.out j hj
        exact ⟨y', g0, g1, (h7.cell (p := ⟨w.heap.size + 1, j, none⟩) (by show w.heap.size + 1 < w.heap.size + 2; omega)).trans g2⟩
      case measure => simp [intOf]; omega
    · have hk66 : k = 5 := by omega
      subst hk66
      have C1 := fun W : World => trunc_any a b HA.out HB.out 16 (by omega) (by omega) W
      have h16 : truncS a b 16 = (a, b) := by
        unfold truncS
        rw [show szOf 16 = 16 from rfl]
        exact truncV_16 a b HA.out HB.out
      rw [h16] at C1
      have C2 := fun W : World => high_any a b W
      have C3 := fun W : World => pair_any a b b 0 W
      unfold fromV at C1 C2 C3
      have D1 := Lib.hid C1
      have D2 := Lib.hid C2
      have D3 := Lib.hid C3
      have hS0 := keep2 (wr := wr) (M := w.heap.size + 2) (W := wr) ⟨⟨p0, p1⟩, ⟨p0, p1⟩, z0, z0, by omega, Below.refl _ _⟩ ((Below.refl _ _).drew)
      have HS0 := Lib.hid hS0
      clear C1 C2 C3 h16 hS0 HS
      go_wp2_with fail
      go_region_held3 (fun W => (W.cell? ⟨w.heap.size, 0, none⟩ = some (.int .u64 a) ∧ W.cell? ⟨w.heap.size, 1, none⟩ = some (.int .u64 b)) ∧ (W.cell? ⟨w.heap.size, 0, none⟩ = some (.int .u64 a) ∧ W.cell? ⟨w.heap.size, 1, none⟩ = some (.int .u64 b)) ∧ w.heap.size < W.heap.size ∧ w.heap.size < W.heap.size ∧ w.heap.size + 2 ≤ W.heap.size ∧ Below (w.heap.size + 2) wr W)
        (first | exact keep2 (by assumption) bel7 | exact keep2 (by assumption) bel6 | exact keep2 (by assumption) bel5 | exact HS0.out)
        (first
        | (go_at_call 44; refine (D1.out _).mono ?_; rintro e w5 ⟨rfl, bel5⟩)
        | (go_at_call 50; refine (D2.out _).mono ?_; rintro e w6 ⟨rfl, bel6⟩)
        | (go_at_call 48; refine (D3.out _).mono ?_; rintro e w7 ⟨rfl, bel7⟩))
      have hfin := (show (_ ∧ _) ∧ (_ ∧ _) ∧ _ ∧ _ ∧ _ ∧ Below (w.heap.size + 2) wr w7 from by assumption).2.2.2.2.2
      have HF := Lib.hid (HBel.out.trans (hfin.mono (by omega)))
      clear hfin bel5 bel6 bel7 HS0 p0 p1 D1 D2 D3
      go_wp2
      go_ret
      exact ⟨rfl, HF.out⟩
end Go.Proofs.Ytcpmlcdeddmdmaa.vu
