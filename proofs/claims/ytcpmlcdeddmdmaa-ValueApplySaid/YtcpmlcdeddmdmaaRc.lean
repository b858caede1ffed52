/- Contracts of the reference of chapter 2: the difference and the product. -/
import Derived.Test.YtcpmlcdeddmdmaaRb
namespace Go.Proofs.Ytcpmlcdeddmdmaa
open Go.RowKit
set_option linter.unusedVariables false
set_option maxRecDepth 10000

theorem xor_ones (c : Nat) (hc : c < 18446744073709551616) : bits .xor .u64 IntKind.u64.max (c : Int) = ((18446744073709551615 - c : Nat) : Int) := by
  have e : IntKind.u64.max = ((18446744073709551615 : Nat) : Int) := by decide
  rw [e, bits_xor_u64_nat _ _ (by omega) hc]
  congr 1
  have h : (BitVec.allOnes 64 ^^^ BitVec.ofNat 64 c).toNat = (~~~ BitVec.ofNat 64 c).toNat := by rw [BitVec.allOnes_xor]
  rw [BitVec.toNat_xor, BitVec.toNat_not, BitVec.toNat_ofNat, BitVec.toNat_allOnes, Nat.mod_eq_of_lt (show c < 2 ^ 64 from hc)] at h
  exact h
set_option maxHeartbeats 4000000 in
theorem refsub_any (a b c d : Nat) (ha : a < 18446744073709551616) (hb : b < 18446744073709551616) (hc : c < 18446744073709551616) (hd : d < 18446744073709551616) (w : World) :
    Calls Try.prog 70 #[.agg #[.int .u64 (a : Int), .int .u64 (b : Int)], .agg #[.int .u64 (c : Int), .int .u64 (d : Int)]] w fun e w' => e = fromV (loN (vN a b + (M128 - vN c d))) (hiN (vN a b + (M128 - vN c d))) ∧ Below w.heap.size w w' := by
  have hl := loN_lt (vN a b + vN (18446744073709551615 - c) (18446744073709551615 - d))
  have hh := hiN_lt (vN a b + vN (18446744073709551615 - c) (18446744073709551615 - d))
  have h1 := fun W : World => refadd_any a b (18446744073709551615 - c) (18446744073709551615 - d) ha hb (by omega) (by omega) W
  have h2 := fun W : World => refadd_any (loN (vN a b + vN (18446744073709551615 - c) (18446744073709551615 - d))) (hiN (vN a b + vN (18446744073709551615 - c) (18446744073709551615 - d))) 1 0 hl hh (by omega) (by omega) W
  have hv := vN_lohi (vN a b + vN (18446744073709551615 - c) (18446744073709551615 - d))
  have he : loN (vN (loN (vN a b + vN (18446744073709551615 - c) (18446744073709551615 - d))) (hiN (vN a b + vN (18446744073709551615 - c) (18446744073709551615 - d))) + vN 1 0) = loN (vN a b + (M128 - vN c d)) ∧ hiN (vN (loN (vN a b + vN (18446744073709551615 - c) (18446744073709551615 - d))) (hiN (vN a b + vN (18446744073709551615 - c) (18446744073709551615 - d))) + vN 1 0) = hiN (vN a b + (M128 - vN c d)) := by
    apply lohi_congr
    rw [hv]
    have e1 : vN (18446744073709551615 - c) (18446744073709551615 - d) + vN c d + 1 = M128 := by unfold vN M128; omega
    have e2 : vN 1 0 = 1 := rfl
    have hX := vN_lt ha hb
    have hY := vN_lt hc hd
    rw [e2]
    generalize vN (18446744073709551615 - c) (18446744073709551615 - d) = z at *
    unfold M128 at *
    omega
  rw [he.1, he.2] at h2
  have c1 := xor_ones c hc
  have d1 := xor_ones d hd
  unfold fromV at h1 h2 ⊢
  generalize loN (vN a b + vN (18446744073709551615 - c) (18446744073709551615 - d)) = l1 at *
  generalize hiN (vN a b + vN (18446744073709551615 - c) (18446744073709551615 - d)) = u1 at *
  generalize loN (vN a b + (M128 - vN c d)) = lo at *
  generalize hiN (vN a b + (M128 - vN c d)) = hi at *
  generalize 18446744073709551615 - c = c2 at *
  generalize 18446744073709551615 - d = d2 at *
  have H1 := Lib.hid h1
  have H2 := Lib.hid h2
  have C1 := Lib.hid c1
  have D1 := Lib.hid d1
  clear h1 h2 hl hh hv he ha hb hc hd c1 d1
  go_enter Try.func70, Try.ntmps70
  go_wp2_with fail
  simp only [C1.out, D1.out]
  refine (H1.out _).mono ?_
  rintro e w1 ⟨rfl, bel1⟩
  have z1 := bel1.size
  simp at z1
  have HB1 := Lib.hid (Below.step ((((Below.refl w.heap.size w).alloc (Nat.le_refl _) _).alloc (by simp) _).alloc (by simp; omega) _) bel1)
  have Kz1 := Lib.hid (Blk.after (show Blk _ (w.heap.size + 1 + 1) 58 #[.int .u64 0, .int .u64 0] from Blk.newAt (by simp)) bel1)
  clear bel1 z1 H1
  go_wp2_with fail
  refine (H2.out _).mono ?_
  rintro e w2 ⟨rfl, bel2⟩
  have HB2 := Lib.hid (Below.step HB1.out bel2)
  have Kz2 := Lib.hid (Blk.after Kz1.out bel2)
  clear bel2 H2 HB1 Kz1
  obtain ⟨q0, q1, f0, f1, zq⟩ := Kz2.out.two
  go_wp2
  refine bodyPost_ret (v := .agg #[.int .u64 (lo : Nat), .int .u64 (hi : Nat)]) (by simp [results, Try.results70, go_sem, *]) rfl ?_
  exact ⟨rfl, (HB2.out.setCell (by simp; omega) _).setCell (by simp; omega) _⟩

set_option maxHeartbeats 8000000 in
theorem refmul_any (a b c d : Nat) (ha : a < 18446744073709551616) (hb : b < 18446744073709551616) (hc : c < 18446744073709551616) (hd : d < 18446744073709551616) (w : World) :
    Calls Try.prog 71 #[.agg #[.int .u64 (a : Int), .int .u64 (b : Int)], .agg #[.int .u64 (c : Int), .int .u64 (d : Int)]] w fun e w' => e = fromV (loN (vN a b * vN c d)) (hiN (vN a b * vN c d)) ∧ Below w.heap.size w w' := by
  have HS : Hid (MulI (vN a b) (vN c d) 128 (vN 0 0)) := Lib.hid (mulI_start _ _ (vN_lt hc hd))
  have HE : Hid (∀ o0 o1 : Nat, o0 < 18446744073709551616 → o1 < 18446744073709551616 → MulI (vN a b) (vN c d) 0 (vN o0 o1) → o0 = loN (vN a b * vN c d) ∧ o1 = hiN (vN a b * vN c d)) :=
    Lib.hid (fun o0 o1 h0 h1 h => pair_eq h0 h1 (mulI_end h))
  have HBY := Lib.hid (fun (k : Nat) (hk : k < 128) (W : World) => bit_any c d k hc hd hk W)
  have HTW := Lib.hid (fun (o0 o1 : Nat) (h0 : o0 < 18446744073709551616) (h1 : o1 < 18446744073709551616) (W : World) => twice_any o0 o1 h0 h1 W)
  have HAD := Lib.hid (fun (o0 o1 : Nat) (h0 : o0 < 18446744073709551616) (h1 : o1 < 18446744073709551616) (W : World) => refadd_any o0 o1 a b h0 h1 ha hb W)
  unfold fromV at HTW HAD
  clear ha hb hc hd
  unfold fromV
  generalize loN (vN a b * vN c d) = lo at *
  generalize hiN (vN a b * vN c d) = hi at *
  go_enter Try.func71, Try.ntmps71
  go_wp2_with fail
  go_loopw [6] (fun i wr => ∃ (j : Nat) (κ : Int) (o0 o1 : Nat), i = .int .i64 κ ∧ Hid (κ = (j : Int) - 1 ∧ j ≤ 128 ∧ o0 < 18446744073709551616 ∧ o1 < 18446744073709551616) ∧ Hid (MulI (vN a b) (vN c d) j (vN o0 o1)) ∧ Hid (Below w.heap.size w wr) ∧
      Hid (Blk wr w.heap.size 58 #[.int .u64 (a : Nat), .int .u64 (b : Nat)]) ∧ Hid (Blk wr (w.heap.size + 1) 58 #[.int .u64 (c : Nat), .int .u64 (d : Nat)]) ∧ Hid (Blk wr (w.heap.size + 1 + 1) 58 #[.int .u64 0, .int .u64 0]) ∧ Hid (Blk wr (w.heap.size + 1 + 1 + 1) 58 #[.int .u64 (o0 : Nat), .int .u64 (o1 : Nat)])) (fun i _ => (intOf i + 1).toNat)
  case atStart =>
    exact ⟨128, 127, 0, 0, rfl, Lib.hid ⟨by omega, by omega, by omega, by omega⟩, HS, Lib.hid ((((Below.refl w.heap.size w).alloc (Nat.le_refl _) _).alloc (by simp) _).alloc (by simp; omega) _ |>.alloc (by simp; omega) _),
      Lib.hid ((((Blk.newAt rfl).alloc _).alloc _).alloc _), Lib.hid (((Blk.newAt (by simp)).alloc _).alloc _), Lib.hid ((Blk.newAt (by simp)).alloc _), Lib.hid (Blk.newAt (by simp))⟩
  case round =>
    clear HS
    obtain ⟨j, κ, o0, o1, rfl, HK, HI, HB, Kx, Ky, Kz, Ko⟩ := hrel
    obtain ⟨hκ, hj, ho0, ho1⟩ := HK.out
    obtain ⟨x0, x1, -, -, zx⟩ := Kx.out.two
    obtain ⟨y0, y1, -, -, zy⟩ := Ky.out.two
    obtain ⟨p0, p1, fp0, fp1, zp⟩ := Kz.out.two
    obtain ⟨q0, q1, fq0, fq1, zq⟩ := Ko.out.two
    rcases Nat.eq_zero_or_pos j with hj0 | hj0
    · subst hj0
      obtain rfl : κ = -1 := by omega
      obtain ⟨e1, e2⟩ := HE.out o0 o1 ho0 ho1 HI.out
      clear HE HI HK hκ hj ho0 ho1 HBY HTW HAD
      go_wp2
      refine bodyPost_ret (v := .agg #[.int .u64 (lo : Nat), .int .u64 (hi : Nat)]) (by simp [results, Try.results71, go_sem, *]) rfl ?_
      exact ⟨rfl, by first | exact HB.out | exact (HB.out.setCell (by simp; omega) _).setCell (by simp; omega) _⟩
    · obtain ⟨m, rfl⟩ : ∃ m, j = m + 1 := ⟨j - 1, by omega⟩
      obtain rfl : κ = (m : Int) := by omega
      obtain ⟨m1, m2⟩ := mulI_step HI.out
      have hk8 : m < 128 := by omega
      have e3 := vN_lohi (2 * vN o0 o1)
      have hl := loN_lt (2 * vN o0 o1)
      have hh := hiN_lt (2 * vN o0 o1)
      have htw := fun W : World => HTW.out o0 o1 ho0 ho1 W
      rw [← e3] at m1 m2
      generalize loN (2 * vN o0 o1) = l1 at *
      generalize hiN (2 * vN o0 o1) = u1 at *
      have hb2 : vN c d / 2 ^ m % 2 < 2 := Nat.mod_lt _ (by decide)
      have hby := fun W : World => HBY.out m hk8 W
      generalize vN c d / 2 ^ m % 2 = t at *
      have H1 := Lib.hid htw
      have H2 := Lib.hid hby
      have M1 := Lib.hid m1
      have M2 := Lib.hid m2
      have HT2 := Lib.hid hb2
      have HL := Lib.hid (And.intro hl hh)
      have HK8 := Lib.hid hk8
      have hm0 : (0 : Int) ≤ (m : Int) := by omega
      have hm1 : (m : Int) < 128 := by omega
      clear htw hby m1 m2 hb2 hl hh hk8 e3 HK hκ hj hj0 ho0 ho1 HBY HTW HI
      go_wp2_with fail
      refine (H1.out _).mono ?_
      rintro e w1 ⟨rfl, bel⟩
      have Kx1 := Lib.hid (Blk.after Kx.out bel)
      have Ky1 := Lib.hid (Blk.after Ky.out bel)
      have Kz1 := Lib.hid (Blk.after Kz.out bel)
      have Ko1 := Lib.hid (Blk.after Ko.out bel)
      have HB1 := Lib.hid (Below.step HB.out bel)
      clear bel x0 x1 zx y0 y1 zy p0 p1 fp0 fp1 zp q0 q1 fq0 fq1 zq Kx Ky Kz Ko HB H1
      obtain ⟨x0, x1, -, -, zx⟩ := Kx1.out.two
      obtain ⟨y0, y1, -, -, zy⟩ := Ky1.out.two
      obtain ⟨q0, q1, fq0, fq1, zq⟩ := Ko1.out.two
      go_wp2_with fail
      refine (H2.out _).mono ?_
      rintro e w2 ⟨rfl, bel⟩
      have Kx2 := Lib.hid (Blk.after ((Kx1.out.far (by simp <;> omega) _).far (by simp <;> omega) _) bel)
      have Ky2 := Lib.hid (Blk.after ((Ky1.out.far (by simp <;> omega) _).far (by simp <;> omega) _) bel)
      have Kz2 := Lib.hid (Blk.after ((Kz1.out.far (by simp <;> omega) _).far (by simp <;> omega) _) bel)
      have Ko2 : Hid (Blk w2 (w.heap.size + 1 + 1 + 1) 58 #[.int .u64 (l1 : Nat), .int .u64 (u1 : Nat)]) := Lib.hid (Blk.after ((Ko1.out.set_ 0 (.int .u64 (l1 : Nat))).set_ 1 (.int .u64 (u1 : Nat))) bel)
      have HB2 := Lib.hid (Below.step ((HB1.out.setCell (p := ⟨w.heap.size + 1 + 1 + 1, 0, none⟩) (by simp <;> omega) (.int .u64 (l1 : Nat))).setCell (p := ⟨w.heap.size + 1 + 1 + 1, 1, none⟩) (by simp <;> omega) (.int .u64 (u1 : Nat))) bel)
      clear bel x0 x1 zx y0 y1 zy q0 q1 fq0 fq1 zq Kx1 Ky1 Kz1 Ko1 HB1 H2
      obtain ⟨x0, x1, -, -, zx⟩ := Kx2.out.two
      obtain ⟨y0, y1, -, -, zy⟩ := Ky2.out.two
      obtain ⟨q0, q1, fq0, fq1, zq⟩ := Ko2.out.two
      rcases (show t = 1 ∨ t = 0 by have := HT2.out; omega) with rfl | rfl
      · have e4 := vN_lohi (vN l1 u1 + vN a b)
        have hI := M2.out rfl
        rw [← e4] at hI
        have hl := loN_lt (vN l1 u1 + vN a b)
        have hh := hiN_lt (vN l1 u1 + vN a b)
        have had := fun W : World => HAD.out l1 u1 HL.out.1 HL.out.2 W
        generalize loN (vN l1 u1 + vN a b) = l2 at *
        generalize hiN (vN l1 u1 + vN a b) = u2 at *
        have H3 := Lib.hid had
        have HI2 := Lib.hid hI
        have HL2 := Lib.hid (And.intro hl hh)
        clear e4 hI hl hh had M1 M2 HT2
        go_wp2_with fail
        refine (H3.out _).mono ?_
        rintro e w3 ⟨rfl, bel⟩
        have Kx3 := Lib.hid (Blk.after Kx2.out bel)
        have Ky3 := Lib.hid (Blk.after Ky2.out bel)
        have Kz3 := Lib.hid (Blk.after Kz2.out bel)
        have Ko3 := Lib.hid (Blk.after Ko2.out bel)
        have HB3 := Lib.hid (Below.step HB2.out bel)
        clear bel x0 x1 zx y0 y1 zy q0 q1 fq0 fq1 zq Kx2 Ky2 Kz2 Ko2 HB2 H3
        obtain ⟨q0, q1, fq0, fq1, zq⟩ := Ko3.out.two
        go_wp2
        go_roundw
        case rel =>
          exact ⟨m, (m : Int) - 1, l2, u2, by go_num, Lib.hid ⟨rfl, by have := HK8.out; omega, HL2.out.1, HL2.out.2⟩, HI2, Lib.hid ((HB3.out.setCell (by simp <;> omega) _).setCell (by simp <;> omega) _), Lib.hid ((Kx3.out.far (by simp <;> omega) _).far (by simp <;> omega) _), Lib.hid ((Ky3.out.far (by simp <;> omega) _).far (by simp <;> omega) _), Lib.hid ((Kz3.out.far (by simp <;> omega) _).far (by simp <;> omega) _), Lib.hid ((Ko3.out.set_ 0 _).set_ 1 _)⟩
        case measure => simp [intOf] <;> omega
      · have HI2 := Lib.hid (M1.out rfl)
        clear M1 M2 HT2
        go_wp2
        go_roundw
        case rel =>
          exact ⟨m, (m : Int) - 1, l1, u1, by go_num, Lib.hid ⟨rfl, by have := HK8.out; omega, HL.out.1, HL.out.2⟩, HI2, HB2, Kx2, Ky2, Kz2, Ko2⟩
        case measure => simp [intOf] <;> omega
end Go.Proofs.Ytcpmlcdeddmdmaa
