/- Contract: the quotient of values, where the divisor has two words: the walk. -/
import Derived.Test.YtcpmlcdeddmdmaaVdPlain
namespace Go.Proofs.Ytcpmlcdeddmdmaa
open Go.RowKit
set_option linter.unusedVariables false
set_option maxRecDepth 10000

set_option maxHeartbeats 4000000 in
theorem vdiv_long (a b c d : Nat) (ha : a < 18446744073709551616) (hb : b < 18446744073709551616) (hc : c < 18446744073709551616) (hd : d < 18446744073709551616) (h0 : 0 < d) (w : World) :
    Calls Try.prog 66 #[.agg #[.int .u64 (a : Int), .int .u64 (b : Int)], .agg #[.int .u64 (c : Int), .int .u64 (d : Int)]] w fun e w' => e = fromV (loN (vN a b / vN c d)) (hiN (vN a b / vN c d)) ∧ Below w.heap.size w w' := by
  have HST : Hid (LdS a b c d 64 0 b 0) := Lib.hid ⟨ld_start ha hb (by unfold vN; omega), hb, by omega⟩
  have HT := Lib.hid (fun (m q r0 r1 : Nat) (hm : m < 64) (h : LdS a b c d (m + 1) q r0 r1) => ld_turn ha hb hc hd h0 hm h)
  have HE := Lib.hid (fun (q r0 r1 : Nat) (h : LdS a b c d 0 q r0 r1) => ld_end ha hb h0 h)
  have HL := Lib.hid (fun (l u : Nat) (hl : l < 18446744073709551616) (W : World) => less_any l u c d hl hc W)
  have HS := Lib.hid (fun (l u : Nat) (hl : l < 18446744073709551616) (hu : u < 18446744073709551616) (W : World) => vsub_any l u c d hl hu hc hd W)
  unfold fromV at HS
  have d0 : ¬ (d = 0) := by omega
  have d1 : ¬ ((d : Int) = 0) := by omega
  clear ha hb hc hd h0
  unfold fromV
  generalize loN (vN a b / vN c d) = rl at *
  generalize hiN (vN a b / vN c d) = rh at *
  go_enter Try.func66, Try.ntmps66
  go_wp2_with fail
  have hd0 : ((d : Int) == 0) = false := by simpa using d1
  simp only [hd0]
  go_loopw [9, 11] (fun q k wr => ∃ (j : Nat) (i : Int) (n r0 r1 : Nat), k = .int .i64 i ∧ q = .int .u64 n ∧ Hid (i = (j : Int) - 1 ∧ j ≤ 64) ∧ Hid (LdS a b c d j n r0 r1) ∧ Hid (Below w.heap.size w wr) ∧
      Hid (Blk wr w.heap.size 58 #[.int .u64 (a : Nat), .int .u64 (b : Nat)]) ∧ Hid (Blk wr (w.heap.size + 1) 58 #[.int .u64 (c : Nat), .int .u64 (d : Nat)]) ∧ Hid (Blk wr (w.heap.size + 1 + 1) 58 #[.int .u64 0, .int .u64 0]) ∧ Hid (Blk wr (w.heap.size + 1 + 1 + 1) 58 #[.int .u64 (r0 : Nat), .int .u64 (r1 : Nat)])) (fun _ k _ => (intOf k + 1).toNat)
  case atStart =>
    exact ⟨64, 63, 0, b, 0, rfl, rfl, Lib.hid ⟨by omega, by omega⟩, HST, Lib.hid ((((Below.refl w.heap.size w).alloc (Nat.le_refl _) _).alloc (by simp) _).alloc (by simp; omega) _ |>.alloc (by simp; omega) _),
      Lib.hid ((((Blk.newAt rfl).alloc _).alloc _).alloc _), Lib.hid (((Blk.newAt (by simp)).alloc _).alloc _), Lib.hid ((Blk.newAt (by simp)).alloc _), Lib.hid (Blk.newAt (by simp))⟩
  case round =>
    clear HST
    obtain ⟨j, i, n, r0, r1, rfl, rfl, HI, HR, HB, Kx, Ky, Kz, Kr⟩ := hrel
    obtain ⟨x0, x1, -, -, zx⟩ := Kx.out.two
    obtain ⟨y0, y1, -, -, zy⟩ := Ky.out.two
    obtain ⟨p0, p1, fp0, fp1, zp⟩ := Kz.out.two
    obtain ⟨q0, q1, fq0, fq1, zq⟩ := Kr.out.two
    obtain ⟨hi, hj⟩ := HI.out
    rcases Nat.eq_zero_or_pos j with hj0 | hj0
    · subst hj0
      obtain ⟨g1, g2⟩ := HE.out _ _ _ HR.out
      obtain rfl : i = -1 := by omega
      clear hi hj HT HE HL HS HR
      go_wp2
      refine bodyPost_ret (v := .agg #[.int .u64 (rl : Nat), .int .u64 (rh : Nat)]) (by simp [results, Try.results66, go_sem, *]) rfl ?_
      exact ⟨rfl, by first | exact HB.out | exact (HB.out.setCell (by simp; omega) _).setCell (by simp; omega) _⟩
    · obtain ⟨m, rfl⟩ : ∃ m, j = m + 1 := ⟨j - 1, by omega⟩
      obtain rfl : i = (m : Int) := by omega
      obtain ⟨l, u, e1, e2, ⟨hl, hu⟩, t1, t2⟩ := HT.out m n r0 r1 (by omega) HR.out
      have E1 := Lib.hid e1
      have E2 := Lib.hid e2
      have T1 := Lib.hid t1
      have T2 := Lib.hid t2
      have HLU := Lib.hid (And.intro hl hu)
      have hm0 : (0 : Int) ≤ (m : Int) := by omega
      have hm1 : (m : Int) < 64 := by omega
      have HJ := Lib.hid hj
      clear e1 e2 t1 t2 hl hu hi hj hj0 HI
      go_wp2_with fail
      go_region
      simp only [E1.out, E2.out]
      go_wp2_with fail
      refine (HL.out l u HLU.out.1 _).mono ?_
      rintro e w1 ⟨rfl, bel⟩
      have HB1 := Lib.hid ((((HB.out.setCell (p := ⟨w.heap.size + 1 + 1 + 1, 0, none⟩) (by simp; omega) (.int .u64 (l : Nat))).setCell (p := ⟨w.heap.size + 1 + 1 + 1, 1, none⟩) (by simp; omega) (.int .u64 (u : Nat))).drew).trans (bel.mono (by simp [World.setCell]; omega)))
      have Kx1 := Lib.hid (Blk.after ((((Kx.out.far (by show _ ≠ w.heap.size + 1 + 1 + 1; omega) _).far (by show _ ≠ w.heap.size + 1 + 1 + 1; omega) _)).drew) bel)
      have Ky1 := Lib.hid (Blk.after ((((Ky.out.far (by show _ ≠ w.heap.size + 1 + 1 + 1; omega) _).far (by show _ ≠ w.heap.size + 1 + 1 + 1; omega) _)).drew) bel)
      have Kz1 := Lib.hid (Blk.after ((((Kz.out.far (by show _ ≠ w.heap.size + 1 + 1 + 1; omega) _).far (by show _ ≠ w.heap.size + 1 + 1 + 1; omega) _)).drew) bel)
      have Kr1 : Hid (Blk w1 (w.heap.size + 1 + 1 + 1) 58 #[.int .u64 (l : Nat), .int .u64 (u : Nat)]) := Lib.hid (Blk.after (((Kr.out.set_ 0 (.int .u64 (l : Nat))).set_ 1 (.int .u64 (u : Nat))).drew) bel)
      clear bel x0 x1 zx y0 y1 zy p0 p1 fp0 fp1 zp q0 q1 fq0 fq1 zq HB Kx Ky Kz Kr HR HT E1 E2
      obtain ⟨x0, x1, -, -, zx⟩ := Kx1.out.two
      obtain ⟨y0, y1, -, -, zy⟩ := Ky1.out.two
      obtain ⟨q0, q1, fq0, fq1, zq⟩ := Kr1.out.two
      rcases hless : lessN l u c d with _ | _
      · obtain ⟨n', e1, hR⟩ := T2.out hless
        have E1 := Lib.hid e1
        have HR := Lib.hid hR
        clear e1 hR T1 T2 hless
        have HS := Lib.hid (fun W : World => HS.out l u HLU.out.1 HLU.out.2 W)
        generalize loN (vN l u + (M128 - vN c d)) = l2 at *
        generalize hiN (vN l u + (M128 - vN c d)) = u2 at *
        go_wp2_with fail
        refine (HS.out _).mono ?_
        rintro e w2 ⟨rfl, bel⟩
        have HB2 := Lib.hid (HB1.out.trans (bel.mono HB1.out.size))
        have Kx2 := Lib.hid (Blk.after Kx1.out bel)
        have Ky2 := Lib.hid (Blk.after Ky1.out bel)
        have Kz2 := Lib.hid (Blk.after Kz1.out bel)
        have Kr2 := Lib.hid (Blk.after Kr1.out bel)
        clear bel x0 x1 zx y0 y1 zy q0 q1 fq0 fq1 zq HB1 Kx1 Ky1 Kz1 Kr1
        obtain ⟨x0, x1, -, -, zx⟩ := Kx2.out.two
        obtain ⟨y0, y1, -, -, zy⟩ := Ky2.out.two
        obtain ⟨q0, q1, fq0, fq1, zq⟩ := Kr2.out.two
        go_wp2_with fail
        simp only [E1.out]
        go_roundw
        case rel =>
          exact ⟨m, (m : Int) - 1, n', l2, u2, by go_num, rfl, Lib.hid ⟨rfl, by have := HJ.out; omega⟩, HR, (Lib.hid ((HB2.out.setCell (by simp <;> omega) _).setCell (by simp <;> omega) _)), Lib.hid ((Kx2.out.far (by simp <;> omega) _).far (by simp <;> omega) _), Lib.hid ((Ky2.out.far (by simp <;> omega) _).far (by simp <;> omega) _), Lib.hid ((Kz2.out.far (by simp <;> omega) _).far (by simp <;> omega) _), Lib.hid ((Kr2.out.set_ 0 _).set_ 1 _)⟩
        case measure => simp [intOf] <;> omega
      · have HR := Lib.hid (T1.out hless)
        clear T1 T2 hless
        go_wp2
        go_roundw
        case rel => exact ⟨m, (m : Int) - 1, n, l, u, by go_num, rfl, Lib.hid ⟨rfl, by have := HJ.out; omega⟩, HR, HB1, Kx1, Ky1, Kz1, Kr1⟩
        case measure => simp [intOf] <;> omega
end Go.Proofs.Ytcpmlcdeddmdmaa
