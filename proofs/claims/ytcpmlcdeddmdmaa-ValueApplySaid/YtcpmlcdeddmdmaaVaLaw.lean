/- ValueApply: the walk of the law. -/
import Derived.Test.YtcpmlcdeddmdmaaRe
namespace Go.Proofs.Ytcpmlcdeddmdmaa.va
open Go.RowKit
set_option linter.unusedVariables false
set_option maxRecDepth 10000

set_option maxHeartbeats 8000000 in
theorem law (op : Int) (hop0 : -9223372036854775808 ≤ op) (hop1 : op ≤ 9223372036854775807) (a b : Nat) (ha : a < 18446744073709551616) (hb : b < 18446744073709551616) (c d : Nat) (hc : c < 18446744073709551616) (hd : d < 18446744073709551616) (w : World) :
    Calls Try.prog 12 #[.int .i64 op, .agg #[.int .u64 (a : Nat), .int .u64 (b : Nat)], .agg #[.int .u64 (c : Nat), .int .u64 (d : Nat)]] w fun e w' => e = .returned (.bool true) ∧ Below w.heap.size w w' := by
  have HP := Lib.hid (fun (k : Int) (W : World) => apply_any k a b c d ha hb hc hd W)
  have HR := Lib.hid (fun (k : Int) (W : World) => refapply_any k a b c d ha hb hc hd W)
  unfold apR at HP HR
  have h1 := fun W : World => HP.out op W
  have h2 := fun W : World => HR.out op W
  generalize apV op a b c d = r at h1 h2
  obtain ⟨⟨r0, r1⟩, rb⟩ := r
  have H1 := Lib.hid h1
  have H2 := Lib.hid h2
  clear h1 h2 ha hb hc hd hop0 hop1
  go_enter Try.func12, Try.ntmps12
  go_wp2_with fail
  refine (awake02 _).mono ?_
  rintro e w0 ⟨rfl, hw0⟩
  have HB0 : Hid (Below w.heap.size w w0) := Lib.hid (by rw [← hw0]; exact ((Below.refl w.heap.size w).alloc (Nat.le_refl _) _).alloc (by simp) _)
  have Kx0 : Hid (Blk w0 w.heap.size 58 #[.int .u64 (a : Nat), .int .u64 (b : Nat)]) := Lib.hid (by rw [← hw0]; exact (Blk.newAt rfl).alloc _)
  have Ky0 : Hid (Blk w0 (w.heap.size + 1) 58 #[.int .u64 (c : Nat), .int .u64 (d : Nat)]) := Lib.hid (by rw [← hw0]; exact Blk.newAt (by simp))
  clear hw0
  obtain ⟨x0, x1, -, -, zx⟩ := Kx0.out.two
  obtain ⟨y0, y1, -, -, zy⟩ := Ky0.out.two
  go_wp2_with fail
  refine (H1.out _).mono ?_
  rintro e w1 ⟨rfl, bel⟩
  clear x0 x1 zx y0 y1 zy H1
  have Kx1 := Lib.hid (Kx0.out.after bel)
  have Ky1 := Lib.hid (Ky0.out.after bel)
  have HB1 := Lib.hid (Below.step HB0.out bel)
  clear bel Kx0 Ky0 HB0
  obtain ⟨x0, x1, -, -, zx⟩ := Kx1.out.two
  obtain ⟨y0, y1, -, -, zy⟩ := Ky1.out.two
  go_wp2_with fail
  refine (H2.out _).mono ?_
  rintro e w2 ⟨rfl, bel⟩
  clear H2
  have Kx2 := Lib.hid ((Kx1.out.alloc _).after bel)
  have Ky2 := Lib.hid ((Ky1.out.alloc _).after bel)
  have Kv2 := Lib.hid ((Blk.new w1 58 #[.int .u64 (r0 : Nat), .int .u64 (r1 : Nat)]).after bel)
  have HB2 := Lib.hid (Below.step (HB1.out.alloc HB1.out.size _) bel)
  have gv : w.heap.size + 1 < w1.heap.size := by omega
  have gw : w1.heap.size < w2.heap.size := Kv2.out.lt
  have gm : w.heap.size ≤ w1.heap.size := by omega
  clear bel Kx1 Ky1 HB1 x0 x1 zx y0 y1 zy
  obtain ⟨x0, x1, -, -, zx⟩ := Kx2.out.two
  obtain ⟨y0, y1, -, -, zy⟩ := Ky2.out.two
  obtain ⟨v0, v1, fv0, fv1, zv⟩ := Kv2.out.two
  go_wp2_with fail
  go_loopw [8, 10, 11] (fun ok is k wr => ∃ (q : Nat) (i : Int) (b1 b2 : Bool) (p0 p1 s0 s1 : Nat), k = .int .i64 i ∧ ok = .bool b1 ∧ is = .bool b2 ∧ Hid (i = (q : Int) ∧ q ≤ 11) ∧ Hid (Below w.heap.size w wr) ∧
      Hid (Blk wr w.heap.size 58 #[.int .u64 (a : Nat), .int .u64 (b : Nat)]) ∧ Hid (Blk wr (w.heap.size + 1) 58 #[.int .u64 (c : Nat), .int .u64 (d : Nat)]) ∧ Hid (Blk wr w1.heap.size 58 #[.int .u64 (p0 : Nat), .int .u64 (p1 : Nat)]) ∧ Hid (Blk wr w2.heap.size 58 #[.int .u64 (s0 : Nat), .int .u64 (s1 : Nat)])) (fun _ _ k _ => (11 - intOf k).toNat)
  case atStart =>
    exact ⟨2, 2, _, _, r0, r1, r0, r1, rfl, rfl, rfl, Lib.hid ⟨by omega, by omega⟩, Lib.hid (HB2.out.alloc HB2.out.size _), Lib.hid (Kx2.out.alloc _), Lib.hid (Ky2.out.alloc _), Lib.hid (Kv2.out.alloc _), Lib.hid (Blk.new w2 _ _)⟩
  case round =>
    clear HB2 Kx2 Ky2 Kv2 x0 x1 zx y0 y1 zy v0 v1 fv0 fv1 zv
    obtain ⟨q, i, b1, b2, p0, p1, s0, s1, rfl, rfl, rfl, HI, HB3, Kx3, Ky3, Kv3, Kw3⟩ := hrel
    obtain ⟨hi, hq⟩ := HI.out
    obtain ⟨x0, x1, -, -, zx⟩ := Kx3.out.two
    obtain ⟨y0, y1, -, -, zy⟩ := Ky3.out.two
    obtain ⟨v0, v1, fv0, fv1, zv⟩ := Kv3.out.two
    obtain ⟨u0, u1, fu0, fu1, zu⟩ := Kw3.out.two
    by_cases hle : i ≤ 10
    · have h1 := fun W : World => HP.out i W
      have h2 := fun W : World => HR.out i W
      generalize apV i a b c d = t at h1 h2
      obtain ⟨⟨t0, t1⟩, tb⟩ := t
      have H1 := Lib.hid h1
      have H2 := Lib.hid h2
      have HII := Lib.hid hi
      have HQ := Lib.hid hq
      have hi0 : 0 ≤ i := by omega
      clear h1 h2 hi hq HI
      go_wp2_with fail
      refine (H1.out _).mono ?_
      rintro e w4 ⟨rfl, bel⟩
      have Kx4 := Lib.hid (Kx3.out.after bel)
      have Ky4 := Lib.hid (Ky3.out.after bel)
      have Kv4 := Lib.hid (Kv3.out.after bel)
      have Kw4 := Lib.hid (Kw3.out.after bel)
      have HB4 := Lib.hid (Below.step HB3.out bel)
      clear bel H1 Kx3 Ky3 Kv3 Kw3 HB3 x0 x1 zx y0 y1 zy v0 v1 fv0 fv1 zv u0 u1 fu0 fu1 zu
      obtain ⟨x0, x1, -, -, zx⟩ := Kx4.out.two
      obtain ⟨y0, y1, -, -, zy⟩ := Ky4.out.two
      obtain ⟨v0, v1, fv0, fv1, zv⟩ := Kv4.out.two
      go_wp2_with fail
      refine (H2.out _).mono ?_
      rintro e w5 ⟨rfl, bel⟩
      have Kx5 := Lib.hid (((Kx4.out.far (by simp <;> omega) _).far (by simp <;> omega) _).after bel)
      have Ky5 := Lib.hid (((Ky4.out.far (by simp <;> omega) _).far (by simp <;> omega) _).after bel)
      have Kw5 := Lib.hid (((Kw4.out.far (by simp <;> omega) _).far (by simp <;> omega) _).after bel)
      have Kv5 : Hid (Blk w5 w1.heap.size 58 #[.int .u64 (t0 : Nat), .int .u64 (t1 : Nat)]) := Lib.hid (((Kv4.out.set_ 0 (.int .u64 (t0 : Nat))).set_ 1 (.int .u64 (t1 : Nat))).after bel)
      have HB5 := Lib.hid (Below.step ((HB4.out.setCell (p := ⟨w1.heap.size, 0, none⟩) (by simp <;> omega) (.int .u64 (t0 : Nat))).setCell (p := ⟨w1.heap.size, 1, none⟩) (by simp <;> omega) (.int .u64 (t1 : Nat))) bel)
      clear bel H2 Kx4 Ky4 Kv4 Kw4 HB4 x0 x1 zx y0 y1 zy v0 v1 fv0 fv1 zv
      obtain ⟨v0, v1, fv0, fv1, zv⟩ := Kv5.out.two
      obtain ⟨u0, u1, fu0, fu1, zu⟩ := Kw5.out.two
      go_wp2
      go_roundw
      case rel =>
        exact ⟨q + 1, i + 1, tb, tb, t0, t1, t0, t1, by go_num, rfl, rfl, Lib.hid ⟨by have := HII.out; omega, by have := HII.out; omega⟩, Lib.hid ((HB5.out.setCell (by simp <;> omega) _).setCell (by simp <;> omega) _), Lib.hid ((Kx5.out.far (by simp <;> omega) _).far (by simp <;> omega) _), Lib.hid ((Ky5.out.far (by simp <;> omega) _).far (by simp <;> omega) _), Lib.hid ((Kv5.out.far (by simp <;> omega) _).far (by simp <;> omega) _), Lib.hid ((Kw5.out.set_ 0 _).set_ 1 _)⟩
      case measure => simp [intOf] <;> omega
    · have hi' : 10 < i := by omega
      clear hi hq HI hle HP HR
      go_wp2
      go_ret
      exact ⟨rfl, HB3.out⟩
end Go.Proofs.Ytcpmlcdeddmdmaa.va
