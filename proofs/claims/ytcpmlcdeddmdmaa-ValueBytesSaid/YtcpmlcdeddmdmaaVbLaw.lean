/- ValueBytes: the walk of the law. -/
import Derived.Test.YtcpmlcdeddmdmaaVt
import Derived.Test.YtcpmlcdeddmdmaaZig
import Derived.Deep.RegionHeld3
namespace Go.Proofs.Ytcpmlcdeddmdmaa.vb
open Go.RowKit
set_option linter.unusedVariables false

theorem keepS {wr W W' : World} {g M : Nat} {x0 x1 y0 y1 : Value} (h : (W.cell? ⟨g, 0, none⟩ = some x0 ∧ W.cell? ⟨g, 1, none⟩ = some x1) ∧ (W.cell? ⟨g + 1, 0, none⟩ = some y0 ∧ W.cell? ⟨g + 1, 1, none⟩ = some y1) ∧ g + 1 < W.heap.size ∧ M ≤ W.heap.size ∧ Below M wr W) (bel : Below W.heap.size W W') :
    (W'.cell? ⟨g, 0, none⟩ = some x0 ∧ W'.cell? ⟨g, 1, none⟩ = some x1) ∧ (W'.cell? ⟨g + 1, 0, none⟩ = some y0 ∧ W'.cell? ⟨g + 1, 1, none⟩ = some y1) ∧ g + 1 < W'.heap.size ∧ M ≤ W'.heap.size ∧ Below M wr W' := by
  obtain ⟨⟨h0, h1⟩, ⟨h2, h3⟩, h4, h5, h6⟩ := h
  have hc := (bcell bel).1
  have hs := bel.size
  exact ⟨⟨(hc _ _ (by omega)).trans h0, (hc _ _ (by omega)).trans h1⟩, ⟨(hc _ _ (by omega)).trans h2, (hc _ _ (by omega)).trans h3⟩, by omega, by omega, h6.trans (bel.mono h5)⟩

set_option maxHeartbeats 8000000 in
set_option maxRecDepth 10000 in
theorem law (a b : Nat) (ha : a < 18446744073709551616) (hb : b < 18446744073709551616) (c d : Nat) (hc : c < 18446744073709551616) (hd : d < 18446744073709551616) (x : Int) (hx0 : -9223372036854775808 ≤ x) (hx1 : x ≤ 9223372036854775807)
    (A : Option Addr) (n cap : Nat) (l : List Nat) (w : World) (hbs : Bs w w.heap.size A n l) (hn : n ≤ maxLen) (hcap : n ≤ cap) :
    Calls Try.prog 7 #[.agg #[.int .u64 a, .int .u64 b], .agg #[.int .u64 c, .int .u64 d], .int .i64 x, .slice A n cap] w fun e w' => e = .returned (.bool true) ∧ Below w.heap.size w w' := by
  have HA := Lib.hid ha
  have HB := Lib.hid hb
  have HC := Lib.hid hc
  have HD := Lib.hid hd
  have HX0 := Lib.hid hx0
  have HX1 := Lib.hid hx1
  have HM := Lib.hid hn
  clear ha hb hc hd hx0 hx1
  unfold maxLen at hn
  by_cases hle : n ≤ 100
  · go_enter Try.func7, Try.ntmps7
    go_wp2_with fail
    refine (awake02 _).mono ?_
    rintro e w1 ⟨rfl, rfl⟩
    go_wp2_with fail
    go_loopw [24] (fun i wr => ∃ k : Nat, k ≤ 6 ∧ i = .int .i64 k ∧ Hid (Below w.heap.size w wr) ∧ w.heap.size + 2 < wr.heap.size ∧
        ((wr.cell? ⟨w.heap.size, 0, none⟩ = some (.int .u64 a) ∧ wr.cell? ⟨w.heap.size, 1, none⟩ = some (.int .u64 b)) ∧ (wr.cell? ⟨w.heap.size + 1, 0, none⟩ = some (.int .u64 c) ∧ wr.cell? ⟨w.heap.size + 1, 1, none⟩ = some (.int .u64 d))) ∧
        Hid (∀ j, j < 6 → ∃ y : Int, -9223372036854775808 ≤ y ∧ y ≤ 9223372036854775807 ∧ wr.cell? ⟨w.heap.size + 2, j, none⟩ = some (.int .i64 y))) (fun i _ => 6 - (intOf i).toNat)
    case atStart =>
      refine ⟨0, by omega, rfl, Lib.hid (by go_grown), by simp, ⟨⟨?_, ?_⟩, ⟨?_, ?_⟩⟩, ?_⟩
      · go_simp
      · go_simp
      · go_simp
      · go_simp
      · intro j hj
        have hj6 : j = 0 ∨ j = 1 ∨ j = 2 ∨ j = 3 ∨ j = 4 ∨ j = 5 := by omega
        rcases hj6 with rfl | rfl | rfl | rfl | rfl | rfl
        · exact ⟨x, HX0.out, HX1.out, by go_simp⟩
        · exact ⟨1, by omega, by omega, by go_simp⟩
        · exact ⟨2, by omega, by omega, by go_simp⟩
        · exact ⟨4, by omega, by omega, by go_simp⟩
        · exact ⟨8, by omega, by omega, by go_simp⟩
        · exact ⟨16, by omega, by omega, by go_simp⟩
    case round =>
      obtain ⟨k, hk, rfl, HBel, hz, ⟨⟨p0, p1⟩, ⟨p2, p3⟩⟩, HS⟩ := hrel
      have z0 : w.heap.size < wr.heap.size := by omega
      have z1 : w.heap.size + 1 < wr.heap.size := by omega
      by_cases hk6 : k < 6
      · obtain ⟨y, hy0, hy1, hcy⟩ := HS.out k hk6
        have HY0 := Lib.hid hy0
        have HY1 := Lib.hid hy1
        have hki : (k : Int) < 6 := by omega
        have hk0 : (0 : Int) ≤ (k : Int) := by omega
        clear hy0 hy1 hbs
        have hS0 := keepS (M := w.heap.size + 3) ⟨⟨p0, p1⟩, ⟨p2, p3⟩, z1, by omega, Below.refl _ _⟩ ((Below.refl wr.heap.size wr).drew)
        have HS0 := Lib.hid hS0
        clear hS0
        have C1 := Lib.hid (fun W : World => size_any y HY0.out HY1.out W)
        have C2 := Lib.hid (fun W : World => refsize_any y HY0.out HY1.out W)
        have C3 := Lib.hid (fun W : World => bytes_r a b HA.out HB.out y HY0.out HY1.out W)
        have C4 := Lib.hid (fun W : World => refbytes_r a b HA.out HB.out y HY0.out HY1.out W)
        have C5 := Lib.hid (fun W : World => trunc_any a b HA.out HB.out y HY0.out HY1.out W)
        have C6 := Lib.hid (fun W : World => reftrunc_any a b HA.out HB.out y HY0.out HY1.out W)
        have hsz16 := szOf_le y
        unfold fromV at C5 C6
        go_wp2_with fail
        go_region_held3 (fun W => (W.cell? ⟨w.heap.size, 0, none⟩ = some (.int .u64 a) ∧ W.cell? ⟨w.heap.size, 1, none⟩ = some (.int .u64 b)) ∧ (W.cell? ⟨w.heap.size + 1, 0, none⟩ = some (.int .u64 c) ∧ W.cell? ⟨w.heap.size + 1, 1, none⟩ = some (.int .u64 d)) ∧ w.heap.size + 1 < W.heap.size ∧ w.heap.size + 3 ≤ W.heap.size ∧ Below (w.heap.size + 3) wr W)
          (first | exact keepS (by assumption) bel9 | exact keepS (by assumption) bel8 | exact keepS (by assumption) (below_drewN (Below.refl _ _) qq) | exact keepS (by assumption) bel6 | exact keepS (by assumption) bel5 | exact HS0.out)
          (first
          | (go_at_call 40; refine (C1.out _).mono ?_; rintro e w' ⟨rfl, rfl⟩)
          | (go_at_call 41; refine (C2.out _).mono ?_; rintro e w' ⟨rfl, rfl⟩)
          | (go_at_call 42; refine (C3.out _).mono ?_; rintro e w5 ⟨A5, c5, rfl, b5, -, -, bel5⟩)
          | (go_at_call 43; refine (C4.out _).mono ?_; rintro e w6 ⟨A6, c6, rfl, b6, -, -, bel6⟩)
          | (go_at_call 32; refine (same_true A5 A6 _ c5 _ c6 _ _ _ ((b5.below bel6).more bel6.size) b6 (by unfold maxLen; omega) (by unfold maxLen; omega)).mono ?_; rintro e w7 ⟨rfl, qq, rfl⟩)
          | (go_at_call 44; refine (C5.out _).mono ?_; rintro e w8 ⟨rfl, bel8⟩)
          | (go_at_call 45; refine (C6.out _).mono ?_; rintro e w9 ⟨rfl, bel9⟩))
        have hfin := (show (_ ∧ _) ∧ (_ ∧ _) ∧ _ ∧ _ ∧ Below (w.heap.size + 3) wr w9 from by assumption)
        have HF := Lib.hid hfin
        clear hfin bel5 bel6 bel8 bel9 b5 b6 HS0 p0 p1 p2 p3 hcy C1 C2 C3 C4 C5 C6
        go_wp2
        go_roundw
        case rel =>
          obtain ⟨⟨h0, h1⟩, ⟨h2, h3⟩, h4, h5, h6⟩ := HF.out
          refine ⟨k + 1, by omega, by go_num, Lib.hid (HBel.out.trans (h6.mono (by omega))), by omega, ⟨⟨h0, h1⟩, ⟨h2, h3⟩⟩, Lib.hid fun j hj => ?_⟩
          obtain ⟨y', g0, g1, g2⟩ := HS.out j hj
          exact ⟨y', g0, g1, (h6.cell (p := ⟨w.heap.size + 2, j, none⟩) (by show w.heap.size + 2 < w.heap.size + 3; omega)).trans g2⟩
        case measure => simp [intOf]; omega
      · have hk66 : k = 6 := by omega
        subst hk66
        have hS0 := keepS (M := w.heap.size + 3) ⟨⟨p0, p1⟩, ⟨p2, p3⟩, z1, by omega, Below.refl _ _⟩ ((Below.refl wr.heap.size wr).drew)
        have HS0 := Lib.hid hS0
        have hbr := hbs.below HBel.out
        have HBR := Lib.hid hbr
        clear hS0 hbs hbr HS
        have C1 := Lib.hid (fun (W : World) (h : Below (w.heap.size + 3) wr W) => frombytes_any A n cap l W w.heap.size (HBR.out.below (h.mono (by omega))) (by have := h.size; omega) HM.out hcap)
        have C2 := Lib.hid (fun (W : World) (h : Below (w.heap.size + 3) wr W) => reffrombytes_any A n cap l W w.heap.size (HBR.out.below (h.mono (by omega))) (by have := h.size; omega) HM.out hcap)
        have C3 := Lib.hid (fun W : World => pair_any a b c d W)
        have C4 := Lib.hid (fun W : World => refpair_any a b c d W)
        have C5 := Lib.hid (fun W : World => high_any a b W)
        have C6 := Lib.hid (fun W : World => refhigh_any a b W)
        unfold fromV at C1 C2 C3 C4 C5 C6
        go_wp2_with fail
        go_region_held3 (fun W => (W.cell? ⟨w.heap.size, 0, none⟩ = some (.int .u64 a) ∧ W.cell? ⟨w.heap.size, 1, none⟩ = some (.int .u64 b)) ∧ (W.cell? ⟨w.heap.size + 1, 0, none⟩ = some (.int .u64 c) ∧ W.cell? ⟨w.heap.size + 1, 1, none⟩ = some (.int .u64 d)) ∧ w.heap.size + 1 < W.heap.size ∧ w.heap.size + 3 ≤ W.heap.size ∧ Below (w.heap.size + 3) wr W)
          (first | exact keepS (by assumption) bel9 | exact keepS (by assumption) bel8 | exact keepS (by assumption) bel7 | exact keepS (by assumption) bel6 | exact keepS (by assumption) bel5 | exact keepS (by assumption) bel4 | exact HS0.out)
          (first
          | (go_at_call 46; refine (C1.out _ (by first | exact HS0.out.2.2.2.2)).mono ?_; rintro e w4 ⟨rfl, bel4⟩)
          | (go_at_call 47; refine (C2.out _ (HS0.out.2.2.2.2.trans (bel4.mono HS0.out.2.2.2.1))).mono ?_; rintro e w5 ⟨rfl, bel5⟩)
          | (go_at_call 48; refine (C3.out _).mono ?_; rintro e w6 ⟨rfl, bel6⟩)
          | (go_at_call 49; refine (C4.out _).mono ?_; rintro e w7 ⟨rfl, bel7⟩)
          | (go_at_call 50; refine (C5.out _).mono ?_; rintro e w8 ⟨rfl, bel8⟩)
          | (go_at_call 51; refine (C6.out _).mono ?_; rintro e w9 ⟨rfl, bel9⟩))
        have hfin := (show (_ ∧ _) ∧ (_ ∧ _) ∧ _ ∧ _ ∧ Below (w.heap.size + 3) wr w9 from by assumption).2.2.2.2
        have HF := Lib.hid (HBel.out.trans (hfin.mono (by omega)))
        clear hfin bel4 bel5 bel6 bel7 bel8 bel9 HS0 p0 p1 p2 p3 C1 C2 C3 C4 C5 C6
        go_wp2
        go_ret
        exact ⟨rfl, HF.out⟩
  · have hgt : (100 : Int) < (n : Int) := by omega
    go_enter Try.func7, Try.ntmps7
    go_wp2_with fail
    refine (awake02 _).mono ?_
    rintro e w1 ⟨rfl, rfl⟩
    go_wp2
    go_ret
    exact ⟨rfl, by go_grown⟩
end Go.Proofs.Ytcpmlcdeddmdmaa.vb
