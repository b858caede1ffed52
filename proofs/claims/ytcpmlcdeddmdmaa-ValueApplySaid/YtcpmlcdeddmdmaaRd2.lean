/- Contract of the reference of chapter 2: the quotient. -/
import Derived.Test.YtcpmlcdeddmdmaaRdPl
namespace Go.Proofs.Ytcpmlcdeddmdmaa
open Go.RowKit
set_option linter.unusedVariables false
set_option maxRecDepth 10000

set_option maxHeartbeats 16000000 in
theorem refdiv_any (a b c d : Nat) (ha : a < 18446744073709551616) (hb : b < 18446744073709551616) (hc : c < 18446744073709551616) (hd : d < 18446744073709551616) (h0 : ¬ (c = 0 ∧ d = 0)) (w : World) :
    Calls Try.prog 72 #[.agg #[.int .u64 (a : Int), .int .u64 (b : Int)], .agg #[.int .u64 (c : Int), .int .u64 (d : Int)]] w fun e w' => e = fromV (loN (vN a b / vN c d)) (hiN (vN a b / vN c d)) ∧ Below w.heap.size w w' := by
  have HS : Hid (DvS a b c d 128 0 0 0 0) := Lib.hid (dv_start a b c d ha hb)
  have HE : Hid (∀ o0 o1 r0 r1 : Nat, DvS a b c d 0 o0 o1 r0 r1 → o0 = loN (vN a b / vN c d) ∧ o1 = hiN (vN a b / vN c d)) := Lib.hid (fun o0 o1 r0 r1 h => dv_end ha hb h)
  have HT := Lib.hid (fun (m o0 o1 r0 r1 : Nat) (hm : m < 128) (h : DvS a b c d (m + 1) o0 o1 r0 r1) => dv_turn ha hb hc hd h0 hm h)
  have HBX := Lib.hid (fun (k : Nat) (hk : k < 128) (W : World) => bit_any a b k ha hb hk W)
  have HTW := Lib.hid (fun (o0 o1 : Nat) (h0 : o0 < 18446744073709551616) (h1 : o1 < 18446744073709551616) (W : World) => twice_any o0 o1 h0 h1 W)
  have HLE := Lib.hid (fun (l u : Nat) (h0 : l < 18446744073709551616) (W : World) => refless_any l u c d h0 hc W)
  have HSU := Lib.hid (fun (l u : Nat) (h0 : l < 18446744073709551616) (h1 : u < 18446744073709551616) (W : World) => refsub_any l u c d h0 h1 hc hd W)
  have HSE := Lib.hid (fun (o0 o1 k : Nat) (h0 : o0 < 18446744073709551616) (h1 : o1 < 18446744073709551616) (hk : k < 128) (h : vN o0 o1 / 2 ^ k % 2 = 0) (W : World) => set_any o0 o1 k h0 h1 hk h W)
  unfold fromV at HTW HSU HSE
  clear ha hb hc hd h0
  unfold fromV
  generalize loN (vN a b / vN c d) = lo at *
  generalize hiN (vN a b / vN c d) = hi at *
  go_enter Try.func72, Try.ntmps72
  go_wp2_with fail
  go_loopw [7] (fun i wr => ∃ (j : Nat) (κ : Int) (o0 o1 r0 r1 : Nat), i = .int .i64 κ ∧ Hid (κ = (j : Int) - 1 ∧ j ≤ 128) ∧ Hid (DvS a b c d j o0 o1 r0 r1) ∧ Hid (Below w.heap.size w wr) ∧
      Hid (Blk wr (w.heap.size) 58 #[.int .u64 (a : Nat), .int .u64 (b : Nat)]) ∧ Hid (Blk wr (w.heap.size + 1) 58 #[.int .u64 (c : Nat), .int .u64 (d : Nat)]) ∧ Hid (Blk wr (w.heap.size + 1 + 1) 58 #[.int .u64 0, .int .u64 0]) ∧ Hid (Blk wr (w.heap.size + 1 + 1 + 1) 58 #[.int .u64 (o0 : Nat), .int .u64 (o1 : Nat)]) ∧ Hid (Blk wr (w.heap.size + 1 + 1 + 1 + 1) 58 #[.int .u64 (r0 : Nat), .int .u64 (r1 : Nat)])) (fun i _ => (intOf i + 1).toNat)
  case atStart =>
    exact ⟨128, 127, 0, 0, 0, 0, rfl, Lib.hid ⟨by omega, by omega⟩, HS, Lib.hid ((((Below.refl w.heap.size w).alloc (Nat.le_refl _) _).alloc (by simp) _).alloc (by simp; omega) _ |>.alloc (by simp; omega) _ |>.alloc (by simp; omega) _),
      Lib.hid (((((Blk.newAt rfl).alloc _).alloc _).alloc _).alloc _), Lib.hid ((((Blk.newAt (by simp)).alloc _).alloc _).alloc _), Lib.hid (((Blk.newAt (by simp)).alloc _).alloc _), Lib.hid ((Blk.newAt (by simp)).alloc _), Lib.hid (Blk.newAt (by simp))⟩
  case round =>
    clear HS
    obtain ⟨j, κ, o0, o1, r0, r1, rfl, HK, HI, HB, Kx, Ky, Kz, Ko, Kr⟩ := hrel
    obtain ⟨hκ, hj⟩ := HK.out
    obtain ⟨x0, x1, -, -, zx⟩ := Kx.out.two
    obtain ⟨y0, y1, -, -, zy⟩ := Ky.out.two
    obtain ⟨p0, p1, fp0, fp1, zp⟩ := Kz.out.two
    obtain ⟨q0, q1, fq0, fq1, zq⟩ := Ko.out.two
    obtain ⟨s0, s1, fs0, fs1, zs⟩ := Kr.out.two
    rcases Nat.eq_zero_or_pos j with hj0 | hj0
    · subst hj0
      obtain rfl : κ = -1 := by omega
      obtain ⟨e1, e2⟩ := HE.out _ _ _ _ HI.out
      clear HE HI HK hκ hj HT HBX HTW HLE HSU HSE s0 s1 fs0 fs1
      go_wp2
      refine bodyPost_ret (v := .agg #[.int .u64 (lo : Nat), .int .u64 (hi : Nat)]) (by simp [results, Try.results72, go_sem, *]) rfl ?_
      exact ⟨rfl, by first | exact HB.out | exact (HB.out.setCell (by simp; omega) _).setCell (by simp; omega) _⟩
    · obtain ⟨m, rfl⟩ : ∃ m, j = m + 1 := ⟨j - 1, by omega⟩
      obtain rfl : κ = (m : Int) := by omega
      obtain ⟨l1, u1, l2, t, f1, f2, f3, f4, ⟨hl1, hu1, hl2⟩, f6, f7, f8⟩ := HT.out m o0 o1 r0 r1 (by omega) HI.out
      have htw := fun W : World => HTW.out r0 r1 HI.out.b0 HI.out.b1 W
      rw [f1, f2] at htw
      have hbx := fun W : World => HBX.out m (by omega) W
      rw [f3] at hbx
      have hse := fun W : World => HSE.out o0 o1 m HI.out.a0 HI.out.a1 (by omega) f6 W
      have hsu := fun W : World => HSU.out l2 u1 hl2 hu1 W
      have hle := fun W : World => HLE.out l2 u1 hl2 W
      have H1 := Lib.hid htw
      have H2 := Lib.hid hbx
      have H3 := Lib.hid hse
      have H4 := Lib.hid hsu
      have H5 := Lib.hid hle
      have F4 := Lib.hid f4
      have F7 := Lib.hid f7
      have F8 := Lib.hid f8
      have HJ := Lib.hid hj
      have hm0 : (0 : Int) ≤ (m : Int) := by omega
      have hm1 : (m : Int) < 128 := by omega
      generalize loN (vN o0 o1 + 2 ^ m) = o2 at *
      generalize hiN (vN o0 o1 + 2 ^ m) = o3 at *
      generalize loN (vN l2 u1 + (M128 - vN c d)) = r2 at *
      generalize hiN (vN l2 u1 + (M128 - vN c d)) = r3 at *
      generalize hless : lessN l2 u1 c d = lt at *
      clear htw hbx hse hsu hle f1 f2 f3 f4 f6 f7 f8 hl1 hu1 hl2 hκ hj hj0 HT HBX HTW HLE HSU HSE HK HI hless
      by_cases hov : r1 / 9223372036854775808 = 1
      · have hov' : (r1 : Int) / 9223372036854775808 = 1 := by omega
        have HO := Lib.hid hov
        clear hov
        go_wp2_with fail
        refine (H1.out _).mono ?_
        rintro e w1 ⟨rfl, bel⟩
        have Kx1 : Hid (Blk w1 (w.heap.size) 58 #[.int .u64 (a : Nat), .int .u64 (b : Nat)]) := Lib.hid (Blk.after Kx.out bel)
        have Ky1 : Hid (Blk w1 (w.heap.size + 1) 58 #[.int .u64 (c : Nat), .int .u64 (d : Nat)]) := Lib.hid (Blk.after Ky.out bel)
        have Kz1 : Hid (Blk w1 (w.heap.size + 1 + 1) 58 #[.int .u64 0, .int .u64 0]) := Lib.hid (Blk.after Kz.out bel)
        have Ko1 : Hid (Blk w1 (w.heap.size + 1 + 1 + 1) 58 #[.int .u64 (o0 : Nat), .int .u64 (o1 : Nat)]) := Lib.hid (Blk.after Ko.out bel)
        have Kr1 : Hid (Blk w1 (w.heap.size + 1 + 1 + 1 + 1) 58 #[.int .u64 (r0 : Nat), .int .u64 (r1 : Nat)]) := Lib.hid (Blk.after Kr.out bel)
        have HB1 := Lib.hid (Below.step HB.out bel)
        clear bel x0 x1 zx y0 y1 zy p0 p1 fp0 fp1 zp q0 q1 fq0 fq1 zq s0 s1 fs0 fs1 zs Kx Ky Kz Ko Kr HB
        obtain ⟨x0, x1, -, -, zx⟩ := Kx1.out.two
        obtain ⟨y0, y1, -, -, zy⟩ := Ky1.out.two
        obtain ⟨p0, p1, fp0, fp1, zp⟩ := Kz1.out.two
        obtain ⟨q0, q1, fq0, fq1, zq⟩ := Ko1.out.two
        obtain ⟨s0, s1, fs0, fs1, zs⟩ := Kr1.out.two
        go_wp2_with fail
        go_region_with (first | (go_at_call 79; refine (H2.out _).mono ?_; rintro e w2 ⟨rfl, bel⟩; obtain ⟨hc2, hf2⟩ := bcell bel; have zb := bel.size; simp [World.setCell] at zb; have g1 : w.heap.size < w2.heap.size := (by omega); have g2 : w.heap.size + 1 < w2.heap.size := (by omega); have g3 : w.heap.size + 1 + 1 < w2.heap.size := (by omega); have g4 : w.heap.size + 1 + 1 + 1 < w2.heap.size := (by omega); have g5 : w.heap.size + 1 + 1 + 1 + 1 < w2.heap.size := (by omega)))
        all_goals
          clear hc2 hf2 zb g1 g2 g3 g4 g5
          have Kx2 : Hid (Blk w2 (w.heap.size) 58 #[.int .u64 (a : Nat), .int .u64 (b : Nat)]) := Lib.hid (Blk.after (Blk.drew ((Kx1.out.far (by simp <;> omega) _).far (by simp <;> omega) _)) bel)
          have Ky2 : Hid (Blk w2 (w.heap.size + 1) 58 #[.int .u64 (c : Nat), .int .u64 (d : Nat)]) := Lib.hid (Blk.after (Blk.drew ((Ky1.out.far (by simp <;> omega) _).far (by simp <;> omega) _)) bel)
          have Kz2 : Hid (Blk w2 (w.heap.size + 1 + 1) 58 #[.int .u64 0, .int .u64 0]) := Lib.hid (Blk.after (Blk.drew ((Kz1.out.far (by simp <;> omega) _).far (by simp <;> omega) _)) bel)
          have Ko2 : Hid (Blk w2 (w.heap.size + 1 + 1 + 1) 58 #[.int .u64 (o0 : Nat), .int .u64 (o1 : Nat)]) := Lib.hid (Blk.after (Blk.drew ((Ko1.out.far (by simp <;> omega) _).far (by simp <;> omega) _)) bel)
          have Kr2 : Hid (Blk w2 (w.heap.size + 1 + 1 + 1 + 1) 58 #[.int .u64 (l1 : Nat), .int .u64 (u1 : Nat)]) := Lib.hid (Blk.after (Blk.drew ((Kr1.out.set_ 0 (.int .u64 (l1 : Nat))).set_ 1 (.int .u64 (u1 : Nat)))) bel)
          have HB2 := Lib.hid (Below.step (((HB1.out.setCell (p := ⟨w.heap.size + 1 + 1 + 1 + 1, 0, none⟩) (by simp <;> omega) (.int .u64 (l1 : Nat))).setCell (p := ⟨w.heap.size + 1 + 1 + 1 + 1, 1, none⟩) (by simp <;> omega) (.int .u64 (u1 : Nat))).drew) bel)
          clear bel x0 x1 zx y0 y1 zy p0 p1 fp0 fp1 zp q0 q1 fq0 fq1 zq s0 s1 fs0 fs1 zs Kx1 Ky1 Kz1 Ko1 Kr1 HB1
          obtain ⟨x0, x1, -, -, zx⟩ := Kx2.out.two
          obtain ⟨y0, y1, -, -, zy⟩ := Ky2.out.two
          obtain ⟨p0, p1, fp0, fp1, zp⟩ := Kz2.out.two
          obtain ⟨q0, q1, fq0, fq1, zq⟩ := Ko2.out.two
          obtain ⟨s0, s1, fs0, fs1, zs⟩ := Kr2.out.two
          simp only [F4.out]
          go_wp2_with fail
          refine (H4.out _).mono ?_
          rintro e w3 ⟨rfl, bel⟩
          have Kx3 : Hid (Blk w3 (w.heap.size) 58 #[.int .u64 (a : Nat), .int .u64 (b : Nat)]) := Lib.hid (Blk.after (Kx2.out.far (by simp <;> omega) _) bel)
          have Ky3 : Hid (Blk w3 (w.heap.size + 1) 58 #[.int .u64 (c : Nat), .int .u64 (d : Nat)]) := Lib.hid (Blk.after (Ky2.out.far (by simp <;> omega) _) bel)
          have Kz3 : Hid (Blk w3 (w.heap.size + 1 + 1) 58 #[.int .u64 0, .int .u64 0]) := Lib.hid (Blk.after (Kz2.out.far (by simp <;> omega) _) bel)
          have Ko3 : Hid (Blk w3 (w.heap.size + 1 + 1 + 1) 58 #[.int .u64 (o0 : Nat), .int .u64 (o1 : Nat)]) := Lib.hid (Blk.after (Ko2.out.far (by simp <;> omega) _) bel)
          have Kr3 : Hid (Blk w3 (w.heap.size + 1 + 1 + 1 + 1) 58 #[.int .u64 (l2 : Nat), .int .u64 (u1 : Nat)]) := Lib.hid (Blk.after (Kr2.out.set_ 0 (.int .u64 (l2 : Nat))) bel)
          have HB3 := Lib.hid (Below.step (HB2.out.setCell (p := ⟨w.heap.size + 1 + 1 + 1 + 1, 0, none⟩) (by simp <;> omega) (.int .u64 (l2 : Nat))) bel)
          clear bel x0 x1 zx y0 y1 zy p0 p1 fp0 fp1 zp q0 q1 fq0 fq1 zq s0 s1 fs0 fs1 zs Kx2 Ky2 Kz2 Ko2 Kr2 HB2
          obtain ⟨x0, x1, -, -, zx⟩ := Kx3.out.two
          obtain ⟨y0, y1, -, -, zy⟩ := Ky3.out.two
          obtain ⟨p0, p1, fp0, fp1, zp⟩ := Kz3.out.two
          obtain ⟨q0, q1, fq0, fq1, zq⟩ := Ko3.out.two
          obtain ⟨s0, s1, fs0, fs1, zs⟩ := Kr3.out.two
          go_wp2_with fail
          refine (H3.out _).mono ?_
          rintro e w4 ⟨rfl, bel⟩
          have Kx4 : Hid (Blk w4 (w.heap.size) 58 #[.int .u64 (a : Nat), .int .u64 (b : Nat)]) := Lib.hid (Blk.after ((Kx3.out.far (by simp <;> omega) _).far (by simp <;> omega) _) bel)
          have Ky4 : Hid (Blk w4 (w.heap.size + 1) 58 #[.int .u64 (c : Nat), .int .u64 (d : Nat)]) := Lib.hid (Blk.after ((Ky3.out.far (by simp <;> omega) _).far (by simp <;> omega) _) bel)
          have Kz4 : Hid (Blk w4 (w.heap.size + 1 + 1) 58 #[.int .u64 0, .int .u64 0]) := Lib.hid (Blk.after ((Kz3.out.far (by simp <;> omega) _).far (by simp <;> omega) _) bel)
          have Ko4 : Hid (Blk w4 (w.heap.size + 1 + 1 + 1) 58 #[.int .u64 (o0 : Nat), .int .u64 (o1 : Nat)]) := Lib.hid (Blk.after ((Ko3.out.far (by simp <;> omega) _).far (by simp <;> omega) _) bel)
          have Kr4 : Hid (Blk w4 (w.heap.size + 1 + 1 + 1 + 1) 58 #[.int .u64 (r2 : Nat), .int .u64 (r3 : Nat)]) := Lib.hid (Blk.after ((Kr3.out.set_ 0 (.int .u64 (r2 : Nat))).set_ 1 (.int .u64 (r3 : Nat))) bel)
          have HB4 := Lib.hid (Below.step ((HB3.out.setCell (p := ⟨w.heap.size + 1 + 1 + 1 + 1, 0, none⟩) (by simp <;> omega) (.int .u64 (r2 : Nat))).setCell (p := ⟨w.heap.size + 1 + 1 + 1 + 1, 1, none⟩) (by simp <;> omega) (.int .u64 (r3 : Nat))) bel)
          clear bel x0 x1 zx y0 y1 zy p0 p1 fp0 fp1 zp q0 q1 fq0 fq1 zq s0 s1 fs0 fs1 zs Kx3 Ky3 Kz3 Ko3 Kr3 HB3
          obtain ⟨x0, x1, -, -, zx⟩ := Kx4.out.two
          obtain ⟨y0, y1, -, -, zy⟩ := Ky4.out.two
          obtain ⟨p0, p1, fp0, fp1, zp⟩ := Kz4.out.two
          obtain ⟨q0, q1, fq0, fq1, zq⟩ := Ko4.out.two
          obtain ⟨s0, s1, fs0, fs1, zs⟩ := Kr4.out.two
          go_wp2
          go_roundw
          case rel =>
            exact ⟨m, (m : Int) - 1, o2, o3, r2, r3, by go_num, Lib.hid ⟨rfl, by have := HJ.out; omega⟩, Lib.hid (F7.out (.inl HO.out)), Lib.hid ((HB4.out.setCell (by simp <;> omega) _).setCell (by simp <;> omega) _), Lib.hid ((Kx4.out.far (by simp <;> omega) _).far (by simp <;> omega) _), Lib.hid ((Ky4.out.far (by simp <;> omega) _).far (by simp <;> omega) _), Lib.hid ((Kz4.out.far (by simp <;> omega) _).far (by simp <;> omega) _), Lib.hid ((Ko4.out.set_ 0 _).set_ 1 _), Lib.hid ((Kr4.out.far (by simp <;> omega) _).far (by simp <;> omega) _)⟩
          case measure => simp [intOf] <;> omega
      · have hov' : ¬ ((r1 : Int) / 9223372036854775808 = 1) := by omega
        have HO := Lib.hid hov
        clear hov
        go_wp2_with fail
        refine (H1.out _).mono ?_
        rintro e w1 ⟨rfl, bel⟩
        have Kx1 : Hid (Blk w1 (w.heap.size) 58 #[.int .u64 (a : Nat), .int .u64 (b : Nat)]) := Lib.hid (Blk.after Kx.out bel)
        have Ky1 : Hid (Blk w1 (w.heap.size + 1) 58 #[.int .u64 (c : Nat), .int .u64 (d : Nat)]) := Lib.hid (Blk.after Ky.out bel)
        have Kz1 : Hid (Blk w1 (w.heap.size + 1 + 1) 58 #[.int .u64 0, .int .u64 0]) := Lib.hid (Blk.after Kz.out bel)
        have Ko1 : Hid (Blk w1 (w.heap.size + 1 + 1 + 1) 58 #[.int .u64 (o0 : Nat), .int .u64 (o1 : Nat)]) := Lib.hid (Blk.after Ko.out bel)
        have Kr1 : Hid (Blk w1 (w.heap.size + 1 + 1 + 1 + 1) 58 #[.int .u64 (r0 : Nat), .int .u64 (r1 : Nat)]) := Lib.hid (Blk.after Kr.out bel)
        have HB1 := Lib.hid (Below.step HB.out bel)
        clear bel x0 x1 zx y0 y1 zy p0 p1 fp0 fp1 zp q0 q1 fq0 fq1 zq s0 s1 fs0 fs1 zs Kx Ky Kz Ko Kr HB
        obtain ⟨x0, x1, -, -, zx⟩ := Kx1.out.two
        obtain ⟨y0, y1, -, -, zy⟩ := Ky1.out.two
        obtain ⟨p0, p1, fp0, fp1, zp⟩ := Kz1.out.two
        obtain ⟨q0, q1, fq0, fq1, zq⟩ := Ko1.out.two
        obtain ⟨s0, s1, fs0, fs1, zs⟩ := Kr1.out.two
        go_wp2_with fail
        go_region_with (first | (go_at_call 79; refine (H2.out _).mono ?_; rintro e w2 ⟨rfl, bel⟩; obtain ⟨hc2, hf2⟩ := bcell bel; have zb := bel.size; simp [World.setCell] at zb; have g1 : w.heap.size < w2.heap.size := (by omega); have g2 : w.heap.size + 1 < w2.heap.size := (by omega); have g3 : w.heap.size + 1 + 1 < w2.heap.size := (by omega); have g4 : w.heap.size + 1 + 1 + 1 < w2.heap.size := (by omega); have g5 : w.heap.size + 1 + 1 + 1 + 1 < w2.heap.size := (by omega)))
        all_goals
          clear hc2 hf2 zb g1 g2 g3 g4 g5
          have Kx2 : Hid (Blk w2 (w.heap.size) 58 #[.int .u64 (a : Nat), .int .u64 (b : Nat)]) := Lib.hid (Blk.after (Blk.drew ((Kx1.out.far (by simp <;> omega) _).far (by simp <;> omega) _)) bel)
          have Ky2 : Hid (Blk w2 (w.heap.size + 1) 58 #[.int .u64 (c : Nat), .int .u64 (d : Nat)]) := Lib.hid (Blk.after (Blk.drew ((Ky1.out.far (by simp <;> omega) _).far (by simp <;> omega) _)) bel)
          have Kz2 : Hid (Blk w2 (w.heap.size + 1 + 1) 58 #[.int .u64 0, .int .u64 0]) := Lib.hid (Blk.after (Blk.drew ((Kz1.out.far (by simp <;> omega) _).far (by simp <;> omega) _)) bel)
          have Ko2 : Hid (Blk w2 (w.heap.size + 1 + 1 + 1) 58 #[.int .u64 (o0 : Nat), .int .u64 (o1 : Nat)]) := Lib.hid (Blk.after (Blk.drew ((Ko1.out.far (by simp <;> omega) _).far (by simp <;> omega) _)) bel)
          have Kr2 : Hid (Blk w2 (w.heap.size + 1 + 1 + 1 + 1) 58 #[.int .u64 (l1 : Nat), .int .u64 (u1 : Nat)]) := Lib.hid (Blk.after (Blk.drew ((Kr1.out.set_ 0 (.int .u64 (l1 : Nat))).set_ 1 (.int .u64 (u1 : Nat)))) bel)
          have HB2 := Lib.hid (Below.step (((HB1.out.setCell (p := ⟨w.heap.size + 1 + 1 + 1 + 1, 0, none⟩) (by simp <;> omega) (.int .u64 (l1 : Nat))).setCell (p := ⟨w.heap.size + 1 + 1 + 1 + 1, 1, none⟩) (by simp <;> omega) (.int .u64 (u1 : Nat))).drew) bel)
          clear bel x0 x1 zx y0 y1 zy p0 p1 fp0 fp1 zp q0 q1 fq0 fq1 zq s0 s1 fs0 fs1 zs Kx1 Ky1 Kz1 Ko1 Kr1 HB1
          obtain ⟨x0, x1, -, -, zx⟩ := Kx2.out.two
          obtain ⟨y0, y1, -, -, zy⟩ := Ky2.out.two
          obtain ⟨p0, p1, fp0, fp1, zp⟩ := Kz2.out.two
          obtain ⟨q0, q1, fq0, fq1, zq⟩ := Ko2.out.two
          obtain ⟨s0, s1, fs0, fs1, zs⟩ := Kr2.out.two
          simp only [F4.out]
          go_wp2_with fail
          refine (H5.out _).mono ?_
          rintro e w5 ⟨rfl, bel⟩
          have Kx5 : Hid (Blk w5 (w.heap.size) 58 #[.int .u64 (a : Nat), .int .u64 (b : Nat)]) := Lib.hid (Blk.after (Kx2.out.far (by simp <;> omega) _) bel)
          have Ky5 : Hid (Blk w5 (w.heap.size + 1) 58 #[.int .u64 (c : Nat), .int .u64 (d : Nat)]) := Lib.hid (Blk.after (Ky2.out.far (by simp <;> omega) _) bel)
          have Kz5 : Hid (Blk w5 (w.heap.size + 1 + 1) 58 #[.int .u64 0, .int .u64 0]) := Lib.hid (Blk.after (Kz2.out.far (by simp <;> omega) _) bel)
          have Ko5 : Hid (Blk w5 (w.heap.size + 1 + 1 + 1) 58 #[.int .u64 (o0 : Nat), .int .u64 (o1 : Nat)]) := Lib.hid (Blk.after (Ko2.out.far (by simp <;> omega) _) bel)
          have Kr5 : Hid (Blk w5 (w.heap.size + 1 + 1 + 1 + 1) 58 #[.int .u64 (l2 : Nat), .int .u64 (u1 : Nat)]) := Lib.hid (Blk.after (Kr2.out.set_ 0 (.int .u64 (l2 : Nat))) bel)
          have HB5 := Lib.hid (Below.step (HB2.out.setCell (p := ⟨w.heap.size + 1 + 1 + 1 + 1, 0, none⟩) (by simp <;> omega) (.int .u64 (l2 : Nat))) bel)
          clear bel x0 x1 zx y0 y1 zy p0 p1 fp0 fp1 zp q0 q1 fq0 fq1 zq s0 s1 fs0 fs1 zs Kx2 Ky2 Kz2 Ko2 Kr2 HB2
          obtain ⟨x0, x1, -, -, zx⟩ := Kx5.out.two
          obtain ⟨y0, y1, -, -, zy⟩ := Ky5.out.two
          obtain ⟨p0, p1, fp0, fp1, zp⟩ := Kz5.out.two
          obtain ⟨q0, q1, fq0, fq1, zq⟩ := Ko5.out.two
          obtain ⟨s0, s1, fs0, fs1, zs⟩ := Kr5.out.two
          cases lt with
          | true =>
            have HS2 := Lib.hid (F8.out HO.out rfl)
            go_wp2
            go_roundw
            case rel => exact ⟨m, (m : Int) - 1, o0, o1, l2, u1, by go_num, Lib.hid ⟨rfl, by have := HJ.out; omega⟩, HS2, HB5, Kx5, Ky5, Kz5, Ko5, Kr5⟩
            case measure => simp [intOf] <;> omega
          | false =>
            go_wp2_with fail
            refine (H4.out _).mono ?_
            rintro e w3 ⟨rfl, bel⟩
            have Kx3 : Hid (Blk w3 (w.heap.size) 58 #[.int .u64 (a : Nat), .int .u64 (b : Nat)]) := Lib.hid (Blk.after Kx5.out bel)
            have Ky3 : Hid (Blk w3 (w.heap.size + 1) 58 #[.int .u64 (c : Nat), .int .u64 (d : Nat)]) := Lib.hid (Blk.after Ky5.out bel)
            have Kz3 : Hid (Blk w3 (w.heap.size + 1 + 1) 58 #[.int .u64 0, .int .u64 0]) := Lib.hid (Blk.after Kz5.out bel)
            have Ko3 : Hid (Blk w3 (w.heap.size + 1 + 1 + 1) 58 #[.int .u64 (o0 : Nat), .int .u64 (o1 : Nat)]) := Lib.hid (Blk.after Ko5.out bel)
            have Kr3 : Hid (Blk w3 (w.heap.size + 1 + 1 + 1 + 1) 58 #[.int .u64 (l2 : Nat), .int .u64 (u1 : Nat)]) := Lib.hid (Blk.after Kr5.out bel)
            have HB3 := Lib.hid (Below.step HB5.out bel)
            clear bel x0 x1 zx y0 y1 zy p0 p1 fp0 fp1 zp q0 q1 fq0 fq1 zq s0 s1 fs0 fs1 zs Kx5 Ky5 Kz5 Ko5 Kr5 HB5
            obtain ⟨x0, x1, -, -, zx⟩ := Kx3.out.two
            obtain ⟨y0, y1, -, -, zy⟩ := Ky3.out.two
            obtain ⟨p0, p1, fp0, fp1, zp⟩ := Kz3.out.two
            obtain ⟨q0, q1, fq0, fq1, zq⟩ := Ko3.out.two
            obtain ⟨s0, s1, fs0, fs1, zs⟩ := Kr3.out.two
            go_wp2_with fail
            refine (H3.out _).mono ?_
            rintro e w4 ⟨rfl, bel⟩
            have Kx4 : Hid (Blk w4 (w.heap.size) 58 #[.int .u64 (a : Nat), .int .u64 (b : Nat)]) := Lib.hid (Blk.after ((Kx3.out.far (by simp <;> omega) _).far (by simp <;> omega) _) bel)
            have Ky4 : Hid (Blk w4 (w.heap.size + 1) 58 #[.int .u64 (c : Nat), .int .u64 (d : Nat)]) := Lib.hid (Blk.after ((Ky3.out.far (by simp <;> omega) _).far (by simp <;> omega) _) bel)
            have Kz4 : Hid (Blk w4 (w.heap.size + 1 + 1) 58 #[.int .u64 0, .int .u64 0]) := Lib.hid (Blk.after ((Kz3.out.far (by simp <;> omega) _).far (by simp <;> omega) _) bel)
            have Ko4 : Hid (Blk w4 (w.heap.size + 1 + 1 + 1) 58 #[.int .u64 (o0 : Nat), .int .u64 (o1 : Nat)]) := Lib.hid (Blk.after ((Ko3.out.far (by simp <;> omega) _).far (by simp <;> omega) _) bel)
            have Kr4 : Hid (Blk w4 (w.heap.size + 1 + 1 + 1 + 1) 58 #[.int .u64 (r2 : Nat), .int .u64 (r3 : Nat)]) := Lib.hid (Blk.after ((Kr3.out.set_ 0 (.int .u64 (r2 : Nat))).set_ 1 (.int .u64 (r3 : Nat))) bel)
            have HB4 := Lib.hid (Below.step ((HB3.out.setCell (p := ⟨w.heap.size + 1 + 1 + 1 + 1, 0, none⟩) (by simp <;> omega) (.int .u64 (r2 : Nat))).setCell (p := ⟨w.heap.size + 1 + 1 + 1 + 1, 1, none⟩) (by simp <;> omega) (.int .u64 (r3 : Nat))) bel)
            clear bel x0 x1 zx y0 y1 zy p0 p1 fp0 fp1 zp q0 q1 fq0 fq1 zq s0 s1 fs0 fs1 zs Kx3 Ky3 Kz3 Ko3 Kr3 HB3
            obtain ⟨x0, x1, -, -, zx⟩ := Kx4.out.two
            obtain ⟨y0, y1, -, -, zy⟩ := Ky4.out.two
            obtain ⟨p0, p1, fp0, fp1, zp⟩ := Kz4.out.two
            obtain ⟨q0, q1, fq0, fq1, zq⟩ := Ko4.out.two
            obtain ⟨s0, s1, fs0, fs1, zs⟩ := Kr4.out.two
            go_wp2
            go_roundw
            case rel =>
              exact ⟨m, (m : Int) - 1, o2, o3, r2, r3, by go_num, Lib.hid ⟨rfl, by have := HJ.out; omega⟩, Lib.hid (F7.out (by simp)), Lib.hid ((HB4.out.setCell (by simp <;> omega) _).setCell (by simp <;> omega) _), Lib.hid ((Kx4.out.far (by simp <;> omega) _).far (by simp <;> omega) _), Lib.hid ((Ky4.out.far (by simp <;> omega) _).far (by simp <;> omega) _), Lib.hid ((Kz4.out.far (by simp <;> omega) _).far (by simp <;> omega) _), Lib.hid ((Ko4.out.set_ 0 _).set_ 1 _), Lib.hid ((Kr4.out.far (by simp <;> omega) _).far (by simp <;> omega) _)⟩
            case measure => simp [intOf] <;> omega
end Go.Proofs.Ytcpmlcdeddmdmaa
