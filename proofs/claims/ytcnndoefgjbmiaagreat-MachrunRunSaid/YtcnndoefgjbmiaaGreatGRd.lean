/- The quotient bit by bit, in the walk's words. -/
import Derived.Test.YtcnndoefgjbmiaaGreatGRa
set_option linter.unusedVariables false
set_option maxRecDepth 10000
set_option maxHeartbeats 8000000
namespace Go.Proofs.YtcnndoefgjbmiaaGreat
structure DvS (a b c d j o0 o1 r0 r1 : Nat) : Prop where
 inv : LdI (vN a b) (vN c d) j (vN o0 o1) (vN r0 r1)
 a0 : o0 < 18446744073709551616
 a1 : o1 < 18446744073709551616
 b0 : r0 < 18446744073709551616
 b1 : r1 < 18446744073709551616
theorem dv_start (a b c d : Nat) (ha : a < 18446744073709551616) (hb : b < 18446744073709551616) : DvS a b c d 128 0 0 0 0 :=
 ⟨divI_start _ _ (vN_lt ha hb), by omega, by omega, by omega, by omega⟩
theorem dv_end {a b c d o0 o1 r0 r1 : Nat} (ha : a < 18446744073709551616) (hb : b < 18446744073709551616) (h : DvS a b c d 0 o0 o1 r0 r1) : o0 = loN (vN a b / vN c d) ∧ o1 = hiN (vN a b / vN c d) := by
 refine pair_eq h.a0 h.a1 ?_
 rw [divI_end h.inv]
 exact (Nat.mod_eq_of_lt (Nat.lt_of_le_of_lt (Nat.div_le_self _ _) (vN_lt ha hb))).symm
theorem dv_turn {a b c d m o0 o1 r0 r1 : Nat} (ha : a < 18446744073709551616) (hb : b < 18446744073709551616) (hc : c < 18446744073709551616) (hd : d < 18446744073709551616) (h0 : ¬ (c = 0 ∧ d = 0)) (hm : m < 128) (h : DvS a b c d (m + 1) o0 o1 r0 r1) :
 ∃ l1 u1 l2 t : Nat, loN (2 * vN r0 r1) = l1 ∧ hiN (2 * vN r0 r1) = u1 ∧ vN a b / 2 ^ m % 2 = t ∧ bits .or .u64 (l1 : Int) (t : Int) = (l2 : Int) ∧ (l1 < 18446744073709551616 ∧ u1 < 18446744073709551616 ∧ l2 < 18446744073709551616) ∧ vN o0 o1 / 2 ^ m % 2 = 0 ∧
  (r1 / 9223372036854775808 = 1 ∨ lessN l2 u1 c d = false → DvS a b c d m (loN (vN o0 o1 + 2 ^ m)) (hiN (vN o0 o1 + 2 ^ m)) (loN (vN l2 u1 + (M128 - vN c d))) (hiN (vN l2 u1 + (M128 - vN c d)))) ∧
  (¬ (r1 / 9223372036854775808 = 1) → lessN l2 u1 c d = true → DvS a b c d m o0 o1 l2 u1) := by
 obtain ⟨hi, g0, g1, g2, g3⟩ := h
 have hX := vN_lt ha hb
 have hY := vN_lt hc hd
 have hY0 : 0 < vN c d := by unfold vN; omega
 obtain ⟨t1, t2, t3, t4, t5⟩ := divI_turn hX hY0 hY hm hi
 have ht : vN a b / 2 ^ m % 2 < 2 := Nat.mod_lt _ (by decide)
 generalize vN a b / 2 ^ m % 2 = t at *
 have ev : loN (2 * vN r0 r1) % 2 = 0 := by unfold loN; omega
 have hl := loN_lt (2 * vN r0 r1)
 have e1 : bits .or .u64 (loN (2 * vN r0 r1) : Int) (t : Int) = ((loN (2 * vN r0 r1) + t : Nat) : Int) := by
  rw [u64_or_nat _ _ hl (by omega), nat_join 1 _ t ev (by omega)]
 have e2 : vN (loN (2 * vN r0 r1) + t) (hiN (2 * vN r0 r1)) = (2 * vN r0 r1) % M128 + t := by
  have := vN_lohi (2 * vN r0 r1)
  unfold vN at *
  omega
 have hov : r1 / 9223372036854775808 = 1 ↔ 9223372036854775808 * 18446744073709551616 ≤ vN r0 r1 := by unfold vN; omega
 refine ⟨_, _, _, t, rfl, rfl, rfl, e1, ⟨hl, hiN_lt _, by omega⟩, t2, ?_, ?_⟩
 · intro hc
   unfold lessN at hc
   rw [e2, decide_eq_false_iff_not, hov] at hc
   have := t5 hc
   refine ⟨?_, loN_lt _, hiN_lt _, loN_lt _, hiN_lt _⟩
   rw [vN_lohi, vN_lohi, e2, Nat.mod_eq_of_lt t3]
   exact this
 · intro h1 h2
   unfold lessN at h2
   rw [e2, decide_eq_true_iff] at h2
   rw [hov] at h1
   have := t4 (fun h => h.elim h1 (fun h => h h2))
   exact ⟨by rw [e2]; exact this, g0, g1, by omega, hiN_lt _⟩
open Go.RowKit
theorem refdiv_any (a b c d : Nat) (ha : a < 18446744073709551616) (hb : b < 18446744073709551616) (hc : c < 18446744073709551616) (hd : d < 18446744073709551616) (h0 : ¬ (c = 0 ∧ d = 0)) (w : World) :
 Calls Tryz.prog 118 #[.agg #[.int .u64 (a : Int), .int .u64 (b : Int)], .agg #[.int .u64 (c : Int), .int .u64 (d : Int)]] w fun e w' => e = fromV (loN (vN a b / vN c d)) (hiN (vN a b / vN c d)) ∧ Below w.heap.size w w' := by
 have HS : Hid (DvS a b c d 128 0 0 0 0) := hQ (dv_start a b c d ha hb)
 have HE : Hid (∀ o0 o1 r0 r1 : Nat, DvS a b c d 0 o0 o1 r0 r1 → o0 = loN (vN a b / vN c d) ∧ o1 = hiN (vN a b / vN c d)) := hQ (fun o0 o1 r0 r1 h => dv_end ha hb h)
 have HT := hQ (fun (m o0 o1 r0 r1 : Nat) (hm : m < 128) (h : DvS a b c d (m + 1) o0 o1 r0 r1) => dv_turn ha hb hc hd h0 hm h)
 have HBX := hQ (fun (k : Nat) (hk : k < 128) (W : World) => bit_any a b k ha hb hk W)
 have HTW := hQ (fun (o0 o1 : Nat) (h0 : o0 < 18446744073709551616) (h1 : o1 < 18446744073709551616) (W : World) => twice_any o0 o1 h0 h1 W)
 have HLE := hQ (fun (l u : Nat) (h0 : l < 18446744073709551616) (W : World) => refless_any l u c d h0 hc W)
 have HSU := hQ (fun (l u : Nat) (h0 : l < 18446744073709551616) (h1 : u < 18446744073709551616) (W : World) => refsub_any l u c d h0 h1 hc hd W)
 have HSE := hQ (fun (o0 o1 k : Nat) (h0 : o0 < 18446744073709551616) (h1 : o1 < 18446744073709551616) (hk : k < 128) (h : vN o0 o1 / 2 ^ k % 2 = 0) (W : World) => set_any o0 o1 k h0 h1 hk h W)
 unfold fromV at HTW HSU HSE
 clear ha hb hc hd h0
 unfold fromV
 generalize loN (vN a b / vN c d) = lo at *
 generalize hiN (vN a b / vN c d) = hi at *
 go_enter Tryz.func118, Tryz.ntmps118
 go_wp2_with fail
 go_loopw [7] (fun i wr => ∃ (j : Nat) (κ : Int) (o0 o1 r0 r1 : Nat), i = .int .i64 κ ∧ Hid (κ = (j : Int) - 1 ∧ j ≤ 128) ∧ Hid (DvS a b c d j o0 o1 r0 r1) ∧ Hid (Below w.heap.size w wr) ∧
  Hid (Blk wr (w.heap.size) 38 #[.int .u64 (a : Nat), .int .u64 (b : Nat)]) ∧ Hid (Blk wr (w.heap.size + 1) 38 #[.int .u64 (c : Nat), .int .u64 (d : Nat)]) ∧ Hid (Blk wr (w.heap.size + 1 + 1) 38 #[.int .u64 0, .int .u64 0]) ∧ Hid (Blk wr (w.heap.size + 1 + 1 + 1) 38 #[.int .u64 (o0 : Nat), .int .u64 (o1 : Nat)]) ∧ Hid (Blk wr (w.heap.size + 1 + 1 + 1 + 1) 38 #[.int .u64 (r0 : Nat), .int .u64 (r1 : Nat)])) (fun i _ => (intOf i + 1).toNat)
 case atStart =>
  exact ⟨128, 127, 0, 0, 0, 0, rfl, hQ ⟨by omega, by omega⟩, HS, hQ ((((Below.refl w.heap.size w).alloc nL _).alloc (by simp) _).alloc (by simp; omega) _ |>.alloc (by simp; omega) _ |>.alloc (by simp; omega) _),
   hQ (((((Blk.newAt rfl).alloc _).alloc _).alloc _).alloc _), hQ ((((Blk.newAt (by simp)).alloc _).alloc _).alloc _), hQ (((Blk.newAt (by simp)).alloc _).alloc _), hQ ((Blk.newAt (by simp)).alloc _), hQ (Blk.newAt (by simp))⟩
 case round =>
  clear HS
  obtain ⟨j, κ, o0, o1, r0, r1, rfl, HK, HI, HB, Kx, Ky, Kz, Ko, Kr⟩ := hrel
  obtain ⟨hκ, hj⟩ := HK.out
  obtain ⟨x0, x1, -, -, zx⟩ := Kx.out.two
  obtain ⟨y0, y1, -, -, zy⟩ := Ky.out.two
  obtain ⟨p0, p1, fp0, fp1, zp⟩ := Kz.out.two
  obtain ⟨q0, q1, fq0, fq1, zq⟩ := Ko.out.two
  obtain ⟨s0, s1, fs0, fs1, zs⟩ := Kr.out.two
  rcases Nat.eq_zero_or_pos j with hj0 | hj0
  · subst hj0
    obtain rfl : κ = -1 := by omega
    obtain ⟨e1, e2⟩ := HE.out _ _ _ _ HI.out
    clear HE HI HK hκ hj HT HBX HTW HLE HSU HSE s0 s1 fs0 fs1
    go_wp2
    refine bodyPost_ret (v := .agg #[.int .u64 (lo : Nat), .int .u64 (hi : Nat)]) (by simp [results, Tryz.results118, go_sem, *]) rfl ?_
    exact ⟨rfl, by first | exact HB.out | exact (HB.out.setCell (by simp; omega) _).setCell (by simp; omega) _⟩
  · obtain ⟨m, rfl⟩ : ∃ m, j = m + 1 := ⟨j - 1, by omega⟩
    obtain rfl : κ = (m : Int) := by omega
    obtain ⟨l1, u1, l2, t, f1, f2, f3, f4, ⟨hl1, hu1, hl2⟩, f6, f7, f8⟩ := HT.out m o0 o1 r0 r1 (by omega) HI.out
    have htw := fun W : World => HTW.out r0 r1 HI.out.b0 HI.out.b1 W
    rw [f1, f2] at htw
    have hbx := fun W : World => HBX.out m (by omega) W
    rw [f3] at hbx
    have hse := fun W : World => HSE.out o0 o1 m HI.out.a0 HI.out.a1 (by omega) f6 W
    have hsu := fun W : World => HSU.out l2 u1 hl2 hu1 W
    have hle := fun W : World => HLE.out l2 u1 hl2 W
    have H1 := hQ htw
    have H2 := hQ hbx
    have H3 := hQ hse
    have H4 := hQ hsu
    have H5 := hQ hle
    have F4 := hQ f4
    have F7 := hQ f7
    have F8 := hQ f8
    have HJ := hQ hj
    have hm0 : (0 : Int) ≤ (m : Int) := by omega
    have hm1 : (m : Int) < 128 := by omega
    generalize loN (vN o0 o1 + 2 ^ m) = o2 at *
    generalize hiN (vN o0 o1 + 2 ^ m) = o3 at *
    generalize loN (vN l2 u1 + (M128 - vN c d)) = r2 at *
    generalize hiN (vN l2 u1 + (M128 - vN c d)) = r3 at *
    generalize hless : lessN l2 u1 c d = lt at *
    clear htw hbx hse hsu hle f1 f2 f3 f4 f6 f7 f8 hl1 hu1 hl2 hκ hj hj0 HT HBX HTW HLE HSU HSE HK HI hless
    by_cases hov : r1 / 9223372036854775808 = 1
    · have hov' : (r1 : Int) / 9223372036854775808 = 1 := by omega
      have HO := hQ hov
      clear hov
      go_wp2_with fail
      refine (H1.out _).mono ?_
      rintro e w1 ⟨rfl, bel⟩
      have Kx1 : Hid (Blk w1 (w.heap.size) 38 #[.int .u64 (a : Nat), .int .u64 (b : Nat)]) := hQ (Blk.after Kx.out bel)
      have Ky1 : Hid (Blk w1 (w.heap.size + 1) 38 #[.int .u64 (c : Nat), .int .u64 (d : Nat)]) := hQ (Blk.after Ky.out bel)
      have Kz1 : Hid (Blk w1 (w.heap.size + 1 + 1) 38 #[.int .u64 0, .int .u64 0]) := hQ (Blk.after Kz.out bel)
      have Ko1 : Hid (Blk w1 (w.heap.size + 1 + 1 + 1) 38 #[.int .u64 (o0 : Nat), .int .u64 (o1 : Nat)]) := hQ (Blk.after Ko.out bel)
      have Kr1 : Hid (Blk w1 (w.heap.size + 1 + 1 + 1 + 1) 38 #[.int .u64 (r0 : Nat), .int .u64 (r1 : Nat)]) := hQ (Blk.after Kr.out bel)
      have HB1 := hQ (Below.step HB.out bel)
      clear bel x0 x1 zx y0 y1 zy p0 p1 fp0 fp1 zp q0 q1 fq0 fq1 zq s0 s1 fs0 fs1 zs Kx Ky Kz Ko Kr HB
      obtain ⟨x0, x1, -, -, zx⟩ := Kx1.out.two
      obtain ⟨y0, y1, -, -, zy⟩ := Ky1.out.two
      obtain ⟨p0, p1, fp0, fp1, zp⟩ := Kz1.out.two
      obtain ⟨q0, q1, fq0, fq1, zq⟩ := Ko1.out.two
      obtain ⟨s0, s1, fs0, fs1, zs⟩ := Kr1.out.two
      go_wp2_with fail
      go_region_with (first | (go_at_call 128; refine (H2.out _).mono ?_; rintro e w2 ⟨rfl, bel⟩; obtain ⟨hc2, hf2⟩ := bcell bel; have zb := bel.size; simp [World.setCell] at zb; have g1 : w.heap.size < w2.heap.size := (by omega); have g2 : w.heap.size + 1 < w2.heap.size := (by omega); have g3 : w.heap.size + 1 + 1 < w2.heap.size := (by omega); have g4 : w.heap.size + 1 + 1 + 1 < w2.heap.size := (by omega); have g5 : w.heap.size + 1 + 1 + 1 + 1 < w2.heap.size := (by omega)))
      all_goals
       clear hc2 hf2 zb g1 g2 g3 g4 g5
       have Kx2 : Hid (Blk w2 (w.heap.size) 38 #[.int .u64 (a : Nat), .int .u64 (b : Nat)]) := hQ (Blk.after (Blk.drew ((Kx1.out.far (by simp <;> omega) _).far (by simp <;> omega) _)) bel)
       have Ky2 : Hid (Blk w2 (w.heap.size + 1) 38 #[.int .u64 (c : Nat), .int .u64 (d : Nat)]) := hQ (Blk.after (Blk.drew ((Ky1.out.far (by simp <;> omega) _).far (by simp <;> omega) _)) bel)
       have Kz2 : Hid (Blk w2 (w.heap.size + 1 + 1) 38 #[.int .u64 0, .int .u64 0]) := hQ (Blk.after (Blk.drew ((Kz1.out.far (by simp <;> omega) _).far (by simp <;> omega) _)) bel)
       have Ko2 : Hid (Blk w2 (w.heap.size + 1 + 1 + 1) 38 #[.int .u64 (o0 : Nat), .int .u64 (o1 : Nat)]) := hQ (Blk.after (Blk.drew ((Ko1.out.far (by simp <;> omega) _).far (by simp <;> omega) _)) bel)
       have Kr2 : Hid (Blk w2 (w.heap.size + 1 + 1 + 1 + 1) 38 #[.int .u64 (l1 : Nat), .int .u64 (u1 : Nat)]) := hQ (Blk.after (Blk.drew ((Kr1.out.set_ 0 (.int .u64 (l1 : Nat))).set_ 1 (.int .u64 (u1 : Nat)))) bel)
       have HB2 := hQ (Below.step (((HB1.out.setCell (p := ⟨w.heap.size + 1 + 1 + 1 + 1, 0, none⟩) (by simp <;> omega) (.int .u64 (l1 : Nat))).setCell (p := ⟨w.heap.size + 1 + 1 + 1 + 1, 1, none⟩) (by simp <;> omega) (.int .u64 (u1 : Nat))).drew) bel)
       clear bel x0 x1 zx y0 y1 zy p0 p1 fp0 fp1 zp q0 q1 fq0 fq1 zq s0 s1 fs0 fs1 zs Kx1 Ky1 Kz1 Ko1 Kr1 HB1
       obtain ⟨x0, x1, -, -, zx⟩ := Kx2.out.two
       obtain ⟨y0, y1, -, -, zy⟩ := Ky2.out.two
       obtain ⟨p0, p1, fp0, fp1, zp⟩ := Kz2.out.two
       obtain ⟨q0, q1, fq0, fq1, zq⟩ := Ko2.out.two
       obtain ⟨s0, s1, fs0, fs1, zs⟩ := Kr2.out.two
       simp only [F4.out]
       go_wp2_with fail
       refine (H4.out _).mono ?_
       rintro e w3 ⟨rfl, bel⟩
       have Kx3 : Hid (Blk w3 (w.heap.size) 38 #[.int .u64 (a : Nat), .int .u64 (b : Nat)]) := hQ (Blk.after (Kx2.out.far (by simp <;> omega) _) bel)
       have Ky3 : Hid (Blk w3 (w.heap.size + 1) 38 #[.int .u64 (c : Nat), .int .u64 (d : Nat)]) := hQ (Blk.after (Ky2.out.far (by simp <;> omega) _) bel)
       have Kz3 : Hid (Blk w3 (w.heap.size + 1 + 1) 38 #[.int .u64 0, .int .u64 0]) := hQ (Blk.after (Kz2.out.far (by simp <;> omega) _) bel)
       have Ko3 : Hid (Blk w3 (w.heap.size + 1 + 1 + 1) 38 #[.int .u64 (o0 : Nat), .int .u64 (o1 : Nat)]) := hQ (Blk.after (Ko2.out.far (by simp <;> omega) _) bel)
       have Kr3 : Hid (Blk w3 (w.heap.size + 1 + 1 + 1 + 1) 38 #[.int .u64 (l2 : Nat), .int .u64 (u1 : Nat)]) := hQ (Blk.after (Kr2.out.set_ 0 (.int .u64 (l2 : Nat))) bel)
       have HB3 := hQ (Below.step (HB2.out.setCell (p := ⟨w.heap.size + 1 + 1 + 1 + 1, 0, none⟩) (by simp <;> omega) (.int .u64 (l2 : Nat))) bel)
       clear bel x0 x1 zx y0 y1 zy p0 p1 fp0 fp1 zp q0 q1 fq0 fq1 zq s0 s1 fs0 fs1 zs Kx2 Ky2 Kz2 Ko2 Kr2 HB2
       obtain ⟨x0, x1, -, -, zx⟩ := Kx3.out.two
       obtain ⟨y0, y1, -, -, zy⟩ := Ky3.out.two
       obtain ⟨p0, p1, fp0, fp1, zp⟩ := Kz3.out.two
       obtain ⟨q0, q1, fq0, fq1, zq⟩ := Ko3.out.two
       obtain ⟨s0, s1, fs0, fs1, zs⟩ := Kr3.out.two
       go_wp2_with fail
       refine (H3.out _).mono ?_
       rintro e w4 ⟨rfl, bel⟩
       have Kx4 : Hid (Blk w4 (w.heap.size) 38 #[.int .u64 (a : Nat), .int .u64 (b : Nat)]) := hQ (Blk.after ((Kx3.out.far (by simp <;> omega) _).far (by simp <;> omega) _) bel)
       have Ky4 : Hid (Blk w4 (w.heap.size + 1) 38 #[.int .u64 (c : Nat), .int .u64 (d : Nat)]) := hQ (Blk.after ((Ky3.out.far (by simp <;> omega) _).far (by simp <;> omega) _) bel)
       have Kz4 : Hid (Blk w4 (w.heap.size + 1 + 1) 38 #[.int .u64 0, .int .u64 0]) := hQ (Blk.after ((Kz3.out.far (by simp <;> omega) _).far (by simp <;> omega) _) bel)
       have Ko4 : Hid (Blk w4 (w.heap.size + 1 + 1 + 1) 38 #[.int .u64 (o0 : Nat), .int .u64 (o1 : Nat)]) := hQ (Blk.after ((Ko3.out.far (by simp <;> omega) _).far (by simp <;> omega) _) bel)
       have Kr4 : Hid (Blk w4 (w.heap.size + 1 + 1 + 1 + 1) 38 #[.int .u64 (r2 : Nat), .int .u64 (r3 : Nat)]) := hQ (Blk.after ((Kr3.out.set_ 0 (.int .u64 (r2 : Nat))).set_ 1 (.int .u64 (r3 : Nat))) bel)
       have HB4 := hQ (Below.step ((HB3.out.setCell (p := ⟨w.heap.size + 1 + 1 + 1 + 1, 0, none⟩) (by simp <;> omega) (.int .u64 (r2 : Nat))).setCell (p := ⟨w.heap.size + 1 + 1 + 1 + 1, 1, none⟩) (by simp <;> omega) (.int .u64 (r3 : Nat))) bel)
       clear bel x0 x1 zx y0 y1 zy p0 p1 fp0 fp1 zp q0 q1 fq0 fq1 zq s0 s1 fs0 fs1 zs Kx3 Ky3 Kz3 Ko3 Kr3 HB3
       obtain ⟨x0, x1, -, -, zx⟩ := Kx4.out.two
       obtain ⟨y0, y1, -, -, zy⟩ := Ky4.out.two
       obtain ⟨p0, p1, fp0, fp1, zp⟩ := Kz4.out.two
       obtain ⟨q0, q1, fq0, fq1, zq⟩ := Ko4.out.two
       obtain ⟨s0, s1, fs0, fs1, zs⟩ := Kr4.out.two
       go_wp2
       go_roundw
       case rel =>
        exact ⟨m, (m : Int) - 1, o2, o3, r2, r3, by go_num, hQ ⟨rfl, by have := HJ.out; omega⟩, hQ (F7.out (.inl HO.out)), hQ ((HB4.out.setCell (by simp <;> omega) _).setCell (by simp <;> omega) _), hQ ((Kx4.out.far (by simp <;> omega) _).far (by simp <;> omega) _), hQ ((Ky4.out.far (by simp <;> omega) _).far (by simp <;> omega) _), hQ ((Kz4.out.far (by simp <;> omega) _).far (by simp <;> omega) _), hQ ((Ko4.out.set_ 0 _).set_ 1 _), hQ ((Kr4.out.far (by simp <;> omega) _).far (by simp <;> omega) _)⟩
       case measure => simp [intOf] <;> omega
    · have hov' : ¬ ((r1 : Int) / 9223372036854775808 = 1) := by omega
      have HO := hQ hov
      clear hov
      go_wp2_with fail
      refine (H1.out _).mono ?_
      rintro e w1 ⟨rfl, bel⟩
      have Kx1 : Hid (Blk w1 (w.heap.size) 38 #[.int .u64 (a : Nat), .int .u64 (b : Nat)]) := hQ (Blk.after Kx.out bel)
      have Ky1 : Hid (Blk w1 (w.heap.size + 1) 38 #[.int .u64 (c : Nat), .int .u64 (d : Nat)]) := hQ (Blk.after Ky.out bel)
      have Kz1 : Hid (Blk w1 (w.heap.size + 1 + 1) 38 #[.int .u64 0, .int .u64 0]) := hQ (Blk.after Kz.out bel)
      have Ko1 : Hid (Blk w1 (w.heap.size + 1 + 1 + 1) 38 #[.int .u64 (o0 : Nat), .int .u64 (o1 : Nat)]) := hQ (Blk.after Ko.out bel)
      have Kr1 : Hid (Blk w1 (w.heap.size + 1 + 1 + 1 + 1) 38 #[.int .u64 (r0 : Nat), .int .u64 (r1 : Nat)]) := hQ (Blk.after Kr.out bel)
      have HB1 := hQ (Below.step HB.out bel)
      clear bel x0 x1 zx y0 y1 zy p0 p1 fp0 fp1 zp q0 q1 fq0 fq1 zq s0 s1 fs0 fs1 zs Kx Ky Kz Ko Kr HB
      obtain ⟨x0, x1, -, -, zx⟩ := Kx1.out.two
      obtain ⟨y0, y1, -, -, zy⟩ := Ky1.out.two
      obtain ⟨p0, p1, fp0, fp1, zp⟩ := Kz1.out.two
      obtain ⟨q0, q1, fq0, fq1, zq⟩ := Ko1.out.two
      obtain ⟨s0, s1, fs0, fs1, zs⟩ := Kr1.out.two
      go_wp2_with fail
      go_region_with (first | (go_at_call 128; refine (H2.out _).mono ?_; rintro e w2 ⟨rfl, bel⟩; obtain ⟨hc2, hf2⟩ := bcell bel; have zb := bel.size; simp [World.setCell] at zb; have g1 : w.heap.size < w2.heap.size := (by omega); have g2 : w.heap.size + 1 < w2.heap.size := (by omega); have g3 : w.heap.size + 1 + 1 < w2.heap.size := (by omega); have g4 : w.heap.size + 1 + 1 + 1 < w2.heap.size := (by omega); have g5 : w.heap.size + 1 + 1 + 1 + 1 < w2.heap.size := (by omega)))
      all_goals
       clear hc2 hf2 zb g1 g2 g3 g4 g5
       have Kx2 : Hid (Blk w2 (w.heap.size) 38 #[.int .u64 (a : Nat), .int .u64 (b : Nat)]) := hQ (Blk.after (Blk.drew ((Kx1.out.far (by simp <;> omega) _).far (by simp <;> omega) _)) bel)
       have Ky2 : Hid (Blk w2 (w.heap.size + 1) 38 #[.int .u64 (c : Nat), .int .u64 (d : Nat)]) := hQ (Blk.after (Blk.drew ((Ky1.out.far (by simp <;> omega) _).far (by simp <;> omega) _)) bel)
       have Kz2 : Hid (Blk w2 (w.heap.size + 1 + 1) 38 #[.int .u64 0, .int .u64 0]) := hQ (Blk.after (Blk.drew ((Kz1.out.far (by simp <;> omega) _).far (by simp <;> omega) _)) bel)
       have Ko2 : Hid (Blk w2 (w.heap.size + 1 + 1 + 1) 38 #[.int .u64 (o0 : Nat), .int .u64 (o1 : Nat)]) := hQ (Blk.after (Blk.drew ((Ko1.out.far (by simp <;> omega) _).far (by simp <;> omega) _)) bel)
       have Kr2 : Hid (Blk w2 (w.heap.size + 1 + 1 + 1 + 1) 38 #[.int .u64 (l1 : Nat), .int .u64 (u1 : Nat)]) := hQ (Blk.after (Blk.drew ((Kr1.out.set_ 0 (.int .u64 (l1 : Nat))).set_ 1 (.int .u64 (u1 : Nat)))) bel)
       have HB2 := hQ (Below.step (((HB1.out.setCell (p := ⟨w.heap.size + 1 + 1 + 1 + 1, 0, none⟩) (by simp <;> omega) (.int .u64 (l1 : Nat))).setCell (p := ⟨w.heap.size + 1 + 1 + 1 + 1, 1, none⟩) (by simp <;> omega) (.int .u64 (u1 : Nat))).drew) bel)
       clear bel x0 x1 zx y0 y1 zy p0 p1 fp0 fp1 zp q0 q1 fq0 fq1 zq s0 s1 fs0 fs1 zs Kx1 Ky1 Kz1 Ko1 Kr1 HB1
       obtain ⟨x0, x1, -, -, zx⟩ := Kx2.out.two
       obtain ⟨y0, y1, -, -, zy⟩ := Ky2.out.two
       obtain ⟨p0, p1, fp0, fp1, zp⟩ := Kz2.out.two
       obtain ⟨q0, q1, fq0, fq1, zq⟩ := Ko2.out.two
       obtain ⟨s0, s1, fs0, fs1, zs⟩ := Kr2.out.two
       simp only [F4.out]
       go_wp2_with fail
       refine (H5.out _).mono ?_
       rintro e w5 ⟨rfl, bel⟩
       have Kx5 : Hid (Blk w5 (w.heap.size) 38 #[.int .u64 (a : Nat), .int .u64 (b : Nat)]) := hQ (Blk.after (Kx2.out.far (by simp <;> omega) _) bel)
       have Ky5 : Hid (Blk w5 (w.heap.size + 1) 38 #[.int .u64 (c : Nat), .int .u64 (d : Nat)]) := hQ (Blk.after (Ky2.out.far (by simp <;> omega) _) bel)
       have Kz5 : Hid (Blk w5 (w.heap.size + 1 + 1) 38 #[.int .u64 0, .int .u64 0]) := hQ (Blk.after (Kz2.out.far (by simp <;> omega) _) bel)
       have Ko5 : Hid (Blk w5 (w.heap.size + 1 + 1 + 1) 38 #[.int .u64 (o0 : Nat), .int .u64 (o1 : Nat)]) := hQ (Blk.after (Ko2.out.far (by simp <;> omega) _) bel)
       have Kr5 : Hid (Blk w5 (w.heap.size + 1 + 1 + 1 + 1) 38 #[.int .u64 (l2 : Nat), .int .u64 (u1 : Nat)]) := hQ (Blk.after (Kr2.out.set_ 0 (.int .u64 (l2 : Nat))) bel)
       have HB5 := hQ (Below.step (HB2.out.setCell (p := ⟨w.heap.size + 1 + 1 + 1 + 1, 0, none⟩) (by simp <;> omega) (.int .u64 (l2 : Nat))) bel)
       clear bel x0 x1 zx y0 y1 zy p0 p1 fp0 fp1 zp q0 q1 fq0 fq1 zq s0 s1 fs0 fs1 zs Kx2 Ky2 Kz2 Ko2 Kr2 HB2
       obtain ⟨x0, x1, -, -, zx⟩ := Kx5.out.two
       obtain ⟨y0, y1, -, -, zy⟩ := Ky5.out.two
       obtain ⟨p0, p1, fp0, fp1, zp⟩ := Kz5.out.two
       obtain ⟨q0, q1, fq0, fq1, zq⟩ := Ko5.out.two
       obtain ⟨s0, s1, fs0, fs1, zs⟩ := Kr5.out.two
       cases lt with
       | true =>
        have HS2 := hQ (F8.out HO.out rfl)
        go_wp2
        go_roundw
        case rel => exact ⟨m, (m : Int) - 1, o0, o1, l2, u1, by go_num, hQ ⟨rfl, by have := HJ.out; omega⟩, HS2, HB5, Kx5, Ky5, Kz5, Ko5, Kr5⟩
        case measure => simp [intOf] <;> omega
       | false =>
        go_wp2_with fail
        refine (H4.out _).mono ?_
        rintro e w3 ⟨rfl, bel⟩
        have Kx3 : Hid (Blk w3 (w.heap.size) 38 #[.int .u64 (a : Nat), .int .u64 (b : Nat)]) := hQ (Blk.after Kx5.out bel)
        have Ky3 : Hid (Blk w3 (w.heap.size + 1) 38 #[.int .u64 (c : Nat), .int .u64 (d : Nat)]) := hQ (Blk.after Ky5.out bel)
        have Kz3 : Hid (Blk w3 (w.heap.size + 1 + 1) 38 #[.int .u64 0, .int .u64 0]) := hQ (Blk.after Kz5.out bel)
        have Ko3 : Hid (Blk w3 (w.heap.size + 1 + 1 + 1) 38 #[.int .u64 (o0 : Nat), .int .u64 (o1 : Nat)]) := hQ (Blk.after Ko5.out bel)
        have Kr3 : Hid (Blk w3 (w.heap.size + 1 + 1 + 1 + 1) 38 #[.int .u64 (l2 : Nat), .int .u64 (u1 : Nat)]) := hQ (Blk.after Kr5.out bel)
        have HB3 := hQ (Below.step HB5.out bel)
        clear bel x0 x1 zx y0 y1 zy p0 p1 fp0 fp1 zp q0 q1 fq0 fq1 zq s0 s1 fs0 fs1 zs Kx5 Ky5 Kz5 Ko5 Kr5 HB5
        obtain ⟨x0, x1, -, -, zx⟩ := Kx3.out.two
        obtain ⟨y0, y1, -, -, zy⟩ := Ky3.out.two
        obtain ⟨p0, p1, fp0, fp1, zp⟩ := Kz3.out.two
        obtain ⟨q0, q1, fq0, fq1, zq⟩ := Ko3.out.two
        obtain ⟨s0, s1, fs0, fs1, zs⟩ := Kr3.out.two
        go_wp2_with fail
        refine (H3.out _).mono ?_
        rintro e w4 ⟨rfl, bel⟩
        have Kx4 : Hid (Blk w4 (w.heap.size) 38 #[.int .u64 (a : Nat), .int .u64 (b : Nat)]) := hQ (Blk.after ((Kx3.out.far (by simp <;> omega) _).far (by simp <;> omega) _) bel)
        have Ky4 : Hid (Blk w4 (w.heap.size + 1) 38 #[.int .u64 (c : Nat), .int .u64 (d : Nat)]) := hQ (Blk.after ((Ky3.out.far (by simp <;> omega) _).far (by simp <;> omega) _) bel)
        have Kz4 : Hid (Blk w4 (w.heap.size + 1 + 1) 38 #[.int .u64 0, .int .u64 0]) := hQ (Blk.after ((Kz3.out.far (by simp <;> omega) _).far (by simp <;> omega) _) bel)
        have Ko4 : Hid (Blk w4 (w.heap.size + 1 + 1 + 1) 38 #[.int .u64 (o0 : Nat), .int .u64 (o1 : Nat)]) := hQ (Blk.after ((Ko3.out.far (by simp <;> omega) _).far (by simp <;> omega) _) bel)
        have Kr4 : Hid (Blk w4 (w.heap.size + 1 + 1 + 1 + 1) 38 #[.int .u64 (r2 : Nat), .int .u64 (r3 : Nat)]) := hQ (Blk.after ((Kr3.out.set_ 0 (.int .u64 (r2 : Nat))).set_ 1 (.int .u64 (r3 : Nat))) bel)
        have HB4 := hQ (Below.step ((HB3.out.setCell (p := ⟨w.heap.size + 1 + 1 + 1 + 1, 0, none⟩) (by simp <;> omega) (.int .u64 (r2 : Nat))).setCell (p := ⟨w.heap.size + 1 + 1 + 1 + 1, 1, none⟩) (by simp <;> omega) (.int .u64 (r3 : Nat))) bel)
        clear bel x0 x1 zx y0 y1 zy p0 p1 fp0 fp1 zp q0 q1 fq0 fq1 zq s0 s1 fs0 fs1 zs Kx3 Ky3 Kz3 Ko3 Kr3 HB3
        obtain ⟨x0, x1, -, -, zx⟩ := Kx4.out.two
        obtain ⟨y0, y1, -, -, zy⟩ := Ky4.out.two
        obtain ⟨p0, p1, fp0, fp1, zp⟩ := Kz4.out.two
        obtain ⟨q0, q1, fq0, fq1, zq⟩ := Ko4.out.two
        obtain ⟨s0, s1, fs0, fs1, zs⟩ := Kr4.out.two
        go_wp2
        go_roundw
        case rel =>
         exact ⟨m, (m : Int) - 1, o2, o3, r2, r3, by go_num, hQ ⟨rfl, by have := HJ.out; omega⟩, hQ (F7.out (by simp)), hQ ((HB4.out.setCell (by simp <;> omega) _).setCell (by simp <;> omega) _), hQ ((Kx4.out.far (by simp <;> omega) _).far (by simp <;> omega) _), hQ ((Ky4.out.far (by simp <;> omega) _).far (by simp <;> omega) _), hQ ((Kz4.out.far (by simp <;> omega) _).far (by simp <;> omega) _), hQ ((Ko4.out.set_ 0 _).set_ 1 _), hQ ((Kr4.out.far (by simp <;> omega) _).far (by simp <;> omega) _)⟩
        case measure => simp [intOf] <;> omega
theorem refapply2_any (a b c d : Nat) (ha : a < 18446744073709551616) (hb : b < 18446744073709551616) (hc : c < 18446744073709551616) (hd : d < 18446744073709551616) (w : World) :
 Calls Tryz.prog 85 #[.int .i64 2, .agg #[.int .u64 (a : Int), .int .u64 (b : Int)], .agg #[.int .u64 (c : Int), .int .u64 (d : Int)]] w fun e w' => e = .returned (.tuple #[.agg #[.int .u64 (loN (vN a b + vN c d) : Nat), .int .u64 (hiN (vN a b + vN c d) : Nat)], .bool true]) ∧ Below w.heap.size w w' := by
 have h1 := refadd_any a b c d ha hb hc hd
 unfold fromV at h1
 generalize loN (vN a b + vN c d) = lo at *
 generalize hiN (vN a b + vN c d) = hi at *
 have H1 := hQ h1
 clear h1 ha hb hc hd
 go_enter Tryz.func85, Tryz.ntmps85
 go_wp2_with fail
 refine (H1.out _).mono ?_
 rintro e w1 ⟨rfl, bel1⟩
 obtain ⟨hc1, hf1⟩ := bcell bel1
 have hz1 := bel1.size
 simp at hz1
 have z1 : w.heap.size + 1 + 1 < w1.heap.size := (by omega)
 have HB1 := hQ ((((Below.refl w.heap.size w).alloc nL _).alloc (by simp) _).alloc (by simp; omega) _ |>.trans (bel1.mono (by simp; omega)))
 clear hz1 bel1
 have q0 : w1.cell? ⟨w.heap.size + 1 + 1, 0, none⟩ = some (.int .u64 0) := (by rw [hc1 _ _ (by simp)]; go_simp)
 have q1 : w1.cell? ⟨w.heap.size + 1 + 1, 1, none⟩ = some (.int .u64 0) := (by rw [hc1 _ _ (by simp)]; go_simp)
 have f0 : w1.frozen? ⟨w.heap.size + 1 + 1, 0, none⟩ = false := (by rw [hf1 _ _ (by simp)]; go_simp)
 have f1 : w1.frozen? ⟨w.heap.size + 1 + 1, 1, none⟩ = false := (by rw [hf1 _ _ (by simp)]; go_simp)
 clear hc1 hf1
 go_wp2
 refine bodyPost_ret (v := .tuple #[.agg #[.int .u64 (lo : Nat), .int .u64 (hi : Nat)], .bool true]) (by simp [results, Tryz.results85, go_sem, q0, q1]) rfl ?_
 exact ⟨rfl, (HB1.out.setCell (by simp; omega) _).setCell (by simp; omega) _⟩
theorem refapply3_any (a b c d : Nat) (ha : a < 18446744073709551616) (hb : b < 18446744073709551616) (hc : c < 18446744073709551616) (hd : d < 18446744073709551616) (w : World) :
 Calls Tryz.prog 85 #[.int .i64 3, .agg #[.int .u64 (a : Int), .int .u64 (b : Int)], .agg #[.int .u64 (c : Int), .int .u64 (d : Int)]] w fun e w' => e = .returned (.tuple #[.agg #[.int .u64 (loN (vN a b + (M128 - vN c d)) : Nat), .int .u64 (hiN (vN a b + (M128 - vN c d)) : Nat)], .bool true]) ∧ Below w.heap.size w w' := by
 have h1 := refsub_any a b c d ha hb hc hd
 unfold fromV at h1
 generalize loN (vN a b + (M128 - vN c d)) = lo at *
 generalize hiN (vN a b + (M128 - vN c d)) = hi at *
 have H1 := hQ h1
 clear h1 ha hb hc hd
 go_enter Tryz.func85, Tryz.ntmps85
 go_wp2_with fail
 refine (H1.out _).mono ?_
 rintro e w1 ⟨rfl, bel1⟩
 obtain ⟨hc1, hf1⟩ := bcell bel1
 have hz1 := bel1.size
 simp at hz1
 have z1 : w.heap.size + 1 + 1 < w1.heap.size := (by omega)
 have HB1 := hQ ((((Below.refl w.heap.size w).alloc nL _).alloc (by simp) _).alloc (by simp; omega) _ |>.trans (bel1.mono (by simp; omega)))
 clear hz1 bel1
 have q0 : w1.cell? ⟨w.heap.size + 1 + 1, 0, none⟩ = some (.int .u64 0) := (by rw [hc1 _ _ (by simp)]; go_simp)
 have q1 : w1.cell? ⟨w.heap.size + 1 + 1, 1, none⟩ = some (.int .u64 0) := (by rw [hc1 _ _ (by simp)]; go_simp)
 have f0 : w1.frozen? ⟨w.heap.size + 1 + 1, 0, none⟩ = false := (by rw [hf1 _ _ (by simp)]; go_simp)
 have f1 : w1.frozen? ⟨w.heap.size + 1 + 1, 1, none⟩ = false := (by rw [hf1 _ _ (by simp)]; go_simp)
 clear hc1 hf1
 go_wp2
 refine bodyPost_ret (v := .tuple #[.agg #[.int .u64 (lo : Nat), .int .u64 (hi : Nat)], .bool true]) (by simp [results, Tryz.results85, go_sem, q0, q1]) rfl ?_
 exact ⟨rfl, (HB1.out.setCell (by simp; omega) _).setCell (by simp; omega) _⟩
theorem refapply4_any (a b c d : Nat) (ha : a < 18446744073709551616) (hb : b < 18446744073709551616) (hc : c < 18446744073709551616) (hd : d < 18446744073709551616) (w : World) :
 Calls Tryz.prog 85 #[.int .i64 4, .agg #[.int .u64 (a : Int), .int .u64 (b : Int)], .agg #[.int .u64 (c : Int), .int .u64 (d : Int)]] w fun e w' => e = .returned (.tuple #[.agg #[.int .u64 (loN (vN a b * vN c d) : Nat), .int .u64 (hiN (vN a b * vN c d) : Nat)], .bool true]) ∧ Below w.heap.size w w' := by
 have h1 := refmul_any a b c d ha hb hc hd
 unfold fromV at h1
 generalize loN (vN a b * vN c d) = lo at *
 generalize hiN (vN a b * vN c d) = hi at *
 have H1 := hQ h1
 clear h1 ha hb hc hd
 go_enter Tryz.func85, Tryz.ntmps85
 go_wp2_with fail
 refine (H1.out _).mono ?_
 rintro e w1 ⟨rfl, bel1⟩
 obtain ⟨hc1, hf1⟩ := bcell bel1
 have hz1 := bel1.size
 simp at hz1
 have z1 : w.heap.size + 1 + 1 < w1.heap.size := (by omega)
 have HB1 := hQ ((((Below.refl w.heap.size w).alloc nL _).alloc (by simp) _).alloc (by simp; omega) _ |>.trans (bel1.mono (by simp; omega)))
 clear hz1 bel1
 have q0 : w1.cell? ⟨w.heap.size + 1 + 1, 0, none⟩ = some (.int .u64 0) := (by rw [hc1 _ _ (by simp)]; go_simp)
 have q1 : w1.cell? ⟨w.heap.size + 1 + 1, 1, none⟩ = some (.int .u64 0) := (by rw [hc1 _ _ (by simp)]; go_simp)
 have f0 : w1.frozen? ⟨w.heap.size + 1 + 1, 0, none⟩ = false := (by rw [hf1 _ _ (by simp)]; go_simp)
 have f1 : w1.frozen? ⟨w.heap.size + 1 + 1, 1, none⟩ = false := (by rw [hf1 _ _ (by simp)]; go_simp)
 clear hc1 hf1
 go_wp2
 refine bodyPost_ret (v := .tuple #[.agg #[.int .u64 (lo : Nat), .int .u64 (hi : Nat)], .bool true]) (by simp [results, Tryz.results85, go_sem, q0, q1]) rfl ?_
 exact ⟨rfl, (HB1.out.setCell (by simp; omega) _).setCell (by simp; omega) _⟩
theorem refap_and (a b c d : Nat) (ha : a < 18446744073709551616) (hb : b < 18446744073709551616) (hc : c < 18446744073709551616) (hd : d < 18446744073709551616) (w : World) :
 Calls Tryz.prog 85 #[.int .i64 6, .agg #[.int .u64 (a : Int), .int .u64 (b : Int)], .agg #[.int .u64 (c : Int), .int .u64 (d : Int)]] w (apR w ((bitsN .and a c, bitsN .and b d), true)) := by
 have e1 := bitsN_eq .and a c
 have e2 := bitsN_eq .and b d
 have E1 := hQ e1
 have E2 := hQ e2
 clear e1 e2
 unfold apR
 go_enter Tryz.func85, Tryz.ntmps85
 go_wp2
 go_returns
 exact ⟨by rw [E1.out, E2.out], by go_grown⟩
theorem refap_or (a b c d : Nat) (ha : a < 18446744073709551616) (hb : b < 18446744073709551616) (hc : c < 18446744073709551616) (hd : d < 18446744073709551616) (w : World) :
 Calls Tryz.prog 85 #[.int .i64 7, .agg #[.int .u64 (a : Int), .int .u64 (b : Int)], .agg #[.int .u64 (c : Int), .int .u64 (d : Int)]] w (apR w ((bitsN .or a c, bitsN .or b d), true)) := by
 have e1 := bitsN_eq .or a c
 have e2 := bitsN_eq .or b d
 have E1 := hQ e1
 have E2 := hQ e2
 clear e1 e2
 unfold apR
 go_enter Tryz.func85, Tryz.ntmps85
 go_wp2
 go_returns
 exact ⟨by rw [E1.out, E2.out], by go_grown⟩
theorem refap_xor (a b c d : Nat) (ha : a < 18446744073709551616) (hb : b < 18446744073709551616) (hc : c < 18446744073709551616) (hd : d < 18446744073709551616) (w : World) :
 Calls Tryz.prog 85 #[.int .i64 8, .agg #[.int .u64 (a : Int), .int .u64 (b : Int)], .agg #[.int .u64 (c : Int), .int .u64 (d : Int)]] w (apR w ((bitsN .xor a c, bitsN .xor b d), true)) := by
 have e1 := bitsN_eq .xor a c
 have e2 := bitsN_eq .xor b d
 have E1 := hQ e1
 have E2 := hQ e2
 clear e1 e2
 unfold apR
 go_enter Tryz.func85, Tryz.ntmps85
 go_wp2
 go_returns
 exact ⟨by rw [E1.out, E2.out], by go_grown⟩
theorem refap_less (a b c d : Nat) (ha : a < 18446744073709551616) (hb : b < 18446744073709551616) (hc : c < 18446744073709551616) (hd : d < 18446744073709551616) (w : World) :
 Calls Tryz.prog 85 #[.int .i64 9, .agg #[.int .u64 (a : Int), .int .u64 (b : Int)], .agg #[.int .u64 (c : Int), .int .u64 (d : Int)]] w (apR w ((if lessN a b c d = true then 1 else 0, 0), true)) := by
 have H1 := hQ (fun W : World => refless_any a b c d ha hc W)
 have h2 := fun W : World => reftruth_any (lessN a b c d) W
 unfold fromV at h2
 unfold apR
 generalize (if lessN a b c d = true then 1 else 0) = t at *
 generalize lessN a b c d = bb at *
 have H2 := hQ h2
 clear h2 ha hb hc hd
 go_enter Tryz.func85, Tryz.ntmps85
 go_wp2_with fail
 refine (H1.out _).mono ?_
 rintro e w1 ⟨rfl, bel1⟩
 obtain ⟨hc1, hf1⟩ := bcell bel1
 have hz1 := bel1.size
 simp at hz1
 have z1 : w.heap.size + 1 + 1 < w1.heap.size := (by omega)
 have HB1 := hQ ((((Below.refl w.heap.size w).alloc nL _).alloc (by simp) _).alloc (by simp; omega) _ |>.trans (bel1.mono (by simp; omega)))
 have q0 : w1.cell? ⟨w.heap.size + 1 + 1, 0, none⟩ = some (.int .u64 0) := (by rw [hc1 _ _ (by simp)]; go_simp)
 have q1 : w1.cell? ⟨w.heap.size + 1 + 1, 1, none⟩ = some (.int .u64 0) := (by rw [hc1 _ _ (by simp)]; go_simp)
 have f0 : w1.frozen? ⟨w.heap.size + 1 + 1, 0, none⟩ = false := (by rw [hf1 _ _ (by simp)]; go_simp)
 have f1 : w1.frozen? ⟨w.heap.size + 1 + 1, 1, none⟩ = false := (by rw [hf1 _ _ (by simp)]; go_simp)
 clear hc1 hf1 hz1 bel1
 go_wp2_with fail
 refine (H2.out _).mono ?_
 rintro e w2 ⟨rfl, bel2⟩
 obtain ⟨hc2, hf2⟩ := bcell bel2
 have hz2 := bel2.size
 have z2 : w.heap.size + 1 + 1 < w2.heap.size := (by omega)
 have HB2 := hQ (HB1.out.trans (bel2.mono (by omega)))
 have q0 : w2.cell? ⟨w.heap.size + 1 + 1, 0, none⟩ = some (.int .u64 0) := (by rw [hc2 _ _ z1]; exact q0)
 have q1 : w2.cell? ⟨w.heap.size + 1 + 1, 1, none⟩ = some (.int .u64 0) := (by rw [hc2 _ _ z1]; exact q1)
 have f0 : w2.frozen? ⟨w.heap.size + 1 + 1, 0, none⟩ = false := (by rw [hf2 _ _ z1]; exact f0)
 have f1 : w2.frozen? ⟨w.heap.size + 1 + 1, 1, none⟩ = false := (by rw [hf2 _ _ z1]; exact f1)
 clear hc2 hf2 hz2 bel2
 go_wp2
 refine bodyPost_ret (v := .tuple #[.agg #[.int .u64 (t : Nat), .int .u64 (0 : Nat)], .bool true]) (by simp [results, Tryz.results85, go_sem, q0, q1]) rfl ?_
 exact ⟨rfl, (HB2.out.setCell (by simp; omega) _).setCell (by simp; omega) _⟩
theorem refap_equal (a b c d : Nat) (w : World) :
 Calls Tryz.prog 85 #[.int .i64 10, .agg #[.int .u64 (a : Int), .int .u64 (b : Int)], .agg #[.int .u64 (c : Int), .int .u64 (d : Int)]] w (apR w ((eqN a b c d, 0), true)) := by
 have H2 := hQ (fun (W : World) (t : Bool) => reftruth_any t W)
 unfold apR
 rcases (show (a = c ∧ b = d) ∨ (a = c ∧ ¬ b = d) ∨ ¬ a = c by omega) with ⟨h1, h2⟩ | ⟨h1, h2⟩ | h1
 · subst h1 h2
   rw [show eqN a b a b = 1 by unfold eqN; rw [if_pos ⟨rfl, rfl⟩]]
   go_enter Tryz.func85, Tryz.ntmps85
   go_wp2_with fail
   refine ((H2.out _ true).mono ?_)
   rintro e w1 ⟨rfl, bel1⟩
   rw [show fromV (if true = true then 1 else 0) 0 = .returned (.agg #[.int .u64 1, .int .u64 0]) from rfl]
   obtain ⟨hc1, hf1⟩ := bcell bel1
   have hz1 := bel1.size
   simp at hz1
   have z1 : w.heap.size + 1 + 1 < w1.heap.size := (by omega)
   have HB1 := hQ ((((Below.refl w.heap.size w).alloc nL _).alloc (by simp) _).alloc (by simp; omega) _ |>.trans (bel1.mono (by simp; omega)))
   have q0 : w1.cell? ⟨w.heap.size + 1 + 1, 0, none⟩ = some (.int .u64 0) := (by rw [hc1 _ _ (by simp)]; go_simp)
   have q1 : w1.cell? ⟨w.heap.size + 1 + 1, 1, none⟩ = some (.int .u64 0) := (by rw [hc1 _ _ (by simp)]; go_simp)
   have f0 : w1.frozen? ⟨w.heap.size + 1 + 1, 0, none⟩ = false := (by rw [hf1 _ _ (by simp)]; go_simp)
   have f1 : w1.frozen? ⟨w.heap.size + 1 + 1, 1, none⟩ = false := (by rw [hf1 _ _ (by simp)]; go_simp)
   clear hc1 hf1 hz1 bel1
   go_wp2
   refine bodyPost_ret (v := .tuple #[.agg #[.int .u64 1, .int .u64 0], .bool true]) (by simp [results, Tryz.results85, go_sem, q0, q1]) rfl ?_
   exact ⟨rfl, (HB1.out.setCell (by simp; omega) _).setCell (by simp; omega) _⟩
 · subst h1
   rw [show eqN a b a d = 0 by unfold eqN; rw [if_neg (fun h => h2 h.2)]]
   have g2 : ¬ ((b : Int) = (d : Int)) := by omega
   go_enter Tryz.func85, Tryz.ntmps85
   go_wp2_with fail
   refine ((H2.out _ false).mono ?_)
   rintro e w1 ⟨rfl, bel1⟩
   rw [show fromV (if false = true then 1 else 0) 0 = .returned (.agg #[.int .u64 0, .int .u64 0]) from rfl]
   obtain ⟨hc1, hf1⟩ := bcell bel1
   have hz1 := bel1.size
   simp at hz1
   have z1 : w.heap.size + 1 + 1 < w1.heap.size := (by omega)
   have HB1 := hQ ((((Below.refl w.heap.size w).alloc nL _).alloc (by simp) _).alloc (by simp; omega) _ |>.trans (bel1.mono (by simp; omega)))
   have q0 : w1.cell? ⟨w.heap.size + 1 + 1, 0, none⟩ = some (.int .u64 0) := (by rw [hc1 _ _ (by simp)]; go_simp)
   have q1 : w1.cell? ⟨w.heap.size + 1 + 1, 1, none⟩ = some (.int .u64 0) := (by rw [hc1 _ _ (by simp)]; go_simp)
   have f0 : w1.frozen? ⟨w.heap.size + 1 + 1, 0, none⟩ = false := (by rw [hf1 _ _ (by simp)]; go_simp)
   have f1 : w1.frozen? ⟨w.heap.size + 1 + 1, 1, none⟩ = false := (by rw [hf1 _ _ (by simp)]; go_simp)
   clear hc1 hf1 hz1 bel1
   go_wp2
   refine bodyPost_ret (v := .tuple #[.agg #[.int .u64 0, .int .u64 0], .bool true]) (by simp [results, Tryz.results85, go_sem, q0, q1]) rfl ?_
   exact ⟨rfl, (HB1.out.setCell (by simp; omega) _).setCell (by simp; omega) _⟩
 · rw [show eqN a b c d = 0 by unfold eqN; rw [if_neg (fun h => h1 h.1)]]
   have g1 : ¬ ((a : Int) = (c : Int)) := by omega
   go_enter Tryz.func85, Tryz.ntmps85
   go_wp2_with fail
   refine ((H2.out _ false).mono ?_)
   rintro e w1 ⟨rfl, bel1⟩
   rw [show fromV (if false = true then 1 else 0) 0 = .returned (.agg #[.int .u64 0, .int .u64 0]) from rfl]
   obtain ⟨hc1, hf1⟩ := bcell bel1
   have hz1 := bel1.size
   simp at hz1
   have z1 : w.heap.size + 1 + 1 < w1.heap.size := (by omega)
   have HB1 := hQ ((((Below.refl w.heap.size w).alloc nL _).alloc (by simp) _).alloc (by simp; omega) _ |>.trans (bel1.mono (by simp; omega)))
   have q0 : w1.cell? ⟨w.heap.size + 1 + 1, 0, none⟩ = some (.int .u64 0) := (by rw [hc1 _ _ (by simp)]; go_simp)
   have q1 : w1.cell? ⟨w.heap.size + 1 + 1, 1, none⟩ = some (.int .u64 0) := (by rw [hc1 _ _ (by simp)]; go_simp)
   have f0 : w1.frozen? ⟨w.heap.size + 1 + 1, 0, none⟩ = false := (by rw [hf1 _ _ (by simp)]; go_simp)
   have f1 : w1.frozen? ⟨w.heap.size + 1 + 1, 1, none⟩ = false := (by rw [hf1 _ _ (by simp)]; go_simp)
   clear hc1 hf1 hz1 bel1
   go_wp2
   refine bodyPost_ret (v := .tuple #[.agg #[.int .u64 0, .int .u64 0], .bool true]) (by simp [results, Tryz.results85, go_sem, q0, q1]) rfl ?_
   exact ⟨rfl, (HB1.out.setCell (by simp; omega) _).setCell (by simp; omega) _⟩
theorem refap_div1 (a b c d : Nat) (ha : a < 18446744073709551616) (hb : b < 18446744073709551616) (hc : c < 18446744073709551616) (hd : d < 18446744073709551616) (h0 : ¬ c = 0) (w : World) :
 Calls Tryz.prog 85 #[.int .i64 5, .agg #[.int .u64 (a : Int), .int .u64 (b : Int)], .agg #[.int .u64 (c : Int), .int .u64 (d : Int)]] w (apR w ((loN (vN a b / vN c d), hiN (vN a b / vN c d)), true)) := by
 have h1 := fun W : World => refdiv_any a b c d ha hb hc hd (fun h => h0 h.1) W
 unfold fromV at h1
 unfold apR
 generalize loN (vN a b / vN c d) = lo at *
 generalize hiN (vN a b / vN c d) = hi at *
 have H1 := hQ h1
 have n0 : ¬ (c = 0) := h0
 have n1 : ¬ (((c : Nat) : Int) = 0) := by omega
 clear h1 ha hb hc hd
 go_enter Tryz.func85, Tryz.ntmps85
 go_wp2_with fail
 refine (H1.out _).mono ?_
 rintro e w1 ⟨rfl, bel1⟩
 obtain ⟨hc1, hf1⟩ := bcell bel1
 have hz1 := bel1.size
 simp at hz1
 have z1 : w.heap.size + 1 + 1 < w1.heap.size := (by omega)
 have HB1 := hQ ((((Below.refl w.heap.size w).alloc nL _).alloc (by simp) _).alloc (by simp; omega) _ |>.trans (bel1.mono (by simp; omega)))
 have q0 : w1.cell? ⟨w.heap.size + 1 + 1, 0, none⟩ = some (.int .u64 0) := (by rw [hc1 _ _ (by simp)]; go_simp)
 have q1 : w1.cell? ⟨w.heap.size + 1 + 1, 1, none⟩ = some (.int .u64 0) := (by rw [hc1 _ _ (by simp)]; go_simp)
 have f0 : w1.frozen? ⟨w.heap.size + 1 + 1, 0, none⟩ = false := (by rw [hf1 _ _ (by simp)]; go_simp)
 have f1 : w1.frozen? ⟨w.heap.size + 1 + 1, 1, none⟩ = false := (by rw [hf1 _ _ (by simp)]; go_simp)
 clear hc1 hf1 hz1 bel1
 go_wp2
 refine bodyPost_ret (v := .tuple #[.agg #[.int .u64 (lo : Nat), .int .u64 (hi : Nat)], .bool true]) (by simp [results, Tryz.results85, go_sem, q0, q1]) rfl ?_
 exact ⟨rfl, (HB1.out.setCell (by simp; omega) _).setCell (by simp; omega) _⟩
theorem refap_div2 (a b d : Nat) (ha : a < 18446744073709551616) (hb : b < 18446744073709551616) (hd : d < 18446744073709551616) (h0 : ¬ d = 0) (w : World) :
 Calls Tryz.prog 85 #[.int .i64 5, .agg #[.int .u64 (a : Int), .int .u64 (b : Int)], .agg #[.int .u64 0, .int .u64 (d : Int)]] w (apR w ((loN (vN a b / vN 0 d), hiN (vN a b / vN 0 d)), true)) := by
 have h1 := fun W : World => refdiv_any a b 0 d ha hb (by omega) hd (fun h => h0 h.2) W
 unfold fromV at h1
 unfold apR
 generalize loN (vN a b / vN 0 d) = lo at *
 generalize hiN (vN a b / vN 0 d) = hi at *
 have H1 := hQ h1
 have n0 : ¬ (d = 0) := h0
 have n1 : ¬ (((d : Nat) : Int) = 0) := by omega
 clear h1 ha hb hd
 go_enter Tryz.func85, Tryz.ntmps85
 go_wp2_with fail
 refine (H1.out _).mono ?_
 rintro e w1 ⟨rfl, bel1⟩
 obtain ⟨hc1, hf1⟩ := bcell bel1
 have hz1 := bel1.size
 simp at hz1
 have z1 : w.heap.size + 1 + 1 < w1.heap.size := (by omega)
 have HB1 := hQ ((((Below.refl w.heap.size w).alloc nL _).alloc (by simp) _).alloc (by simp; omega) _ |>.trans (bel1.mono (by simp; omega)))
 have q0 : w1.cell? ⟨w.heap.size + 1 + 1, 0, none⟩ = some (.int .u64 0) := (by rw [hc1 _ _ (by simp)]; go_simp)
 have q1 : w1.cell? ⟨w.heap.size + 1 + 1, 1, none⟩ = some (.int .u64 0) := (by rw [hc1 _ _ (by simp)]; go_simp)
 have f0 : w1.frozen? ⟨w.heap.size + 1 + 1, 0, none⟩ = false := (by rw [hf1 _ _ (by simp)]; go_simp)
 have f1 : w1.frozen? ⟨w.heap.size + 1 + 1, 1, none⟩ = false := (by rw [hf1 _ _ (by simp)]; go_simp)
 clear hc1 hf1 hz1 bel1
 go_wp2
 refine bodyPost_ret (v := .tuple #[.agg #[.int .u64 (lo : Nat), .int .u64 (hi : Nat)], .bool true]) (by simp [results, Tryz.results85, go_sem, q0, q1]) rfl ?_
 exact ⟨rfl, (HB1.out.setCell (by simp; omega) _).setCell (by simp; omega) _⟩
theorem refap_div_0 (a b : Nat) (w : World) :
 Calls Tryz.prog 85 #[.int .i64 5, .agg #[.int .u64 (a : Int), .int .u64 (b : Int)], .agg #[.int .u64 0, .int .u64 0]] w (apR w ((0, 0), false)) := by
 unfold apR
 go_enter Tryz.func85, Tryz.ntmps85
 go_wp2
 go_returns
 exact ⟨rfl, by go_grown⟩
theorem refap_other (op : Int) (hop : op < 2 ∨ 10 < op) (x y : Value) (w : World) (a b c d : Nat) (hx : x = .agg #[.int .u64 (a : Int), .int .u64 (b : Int)]) (hy : y = .agg #[.int .u64 (c : Int), .int .u64 (d : Int)]) :
 Calls Tryz.prog 85 #[.int .i64 op, x, y] w (apR w ((0, 0), false)) := by
 subst hx hy
 unfold apR
 have n2 : ¬ (op = 2) := by omega
 have n3 : ¬ (op = 3) := by omega
 have n4 : ¬ (op = 4) := by omega
 have n5 : ¬ (op = 5) := by omega
 have n6 : ¬ (op = 6) := by omega
 have n7 : ¬ (op = 7) := by omega
 have n8 : ¬ (op = 8) := by omega
 have n9 : ¬ (op = 9) := by omega
 have n10 : ¬ (op = 10) := by omega
 clear hop
 go_enter Tryz.func85, Tryz.ntmps85
 go_wp2
 go_returns
 exact ⟨rfl, by go_grown⟩
theorem refapply_any (op : Int) (a b c d : Nat) (ha : a < 18446744073709551616) (hb : b < 18446744073709551616) (hc : c < 18446744073709551616) (hd : d < 18446744073709551616) (w : World) :
 Calls Tryz.prog 85 #[.int .i64 op, .agg #[.int .u64 (a : Int), .int .u64 (b : Int)], .agg #[.int .u64 (c : Int), .int .u64 (d : Int)]] w (apR w (apV op a b c d)) := by
 have hop : op = 2 ∨ op = 3 ∨ op = 4 ∨ op = 5 ∨ op = 6 ∨ op = 7 ∨ op = 8 ∨ op = 9 ∨ op = 10 ∨ (op < 2 ∨ 10 < op) := by omega
 rcases hop with rfl | rfl | rfl | rfl | rfl | rfl | rfl | rfl | rfl | hop
 · exact refapply2_any a b c d ha hb hc hd w
 · exact refapply3_any a b c d ha hb hc hd w
 · exact refapply4_any a b c d ha hb hc hd w
 · by_cases h : c = 0 ∧ d = 0
   · obtain ⟨rfl, rfl⟩ := h
     exact refap_div_0 a b w
   · rw [show apV 5 a b c d = ((loN (vN a b / vN c d), hiN (vN a b / vN c d)), true) by unfold apV; rw [if_neg (by decide), if_neg (by decide), if_neg (by decide), if_pos rfl, if_neg h]]
     by_cases hc0 : c = 0
     · subst hc0
       exact refap_div2 a b d ha hb hd (fun h' => h ⟨rfl, h'⟩) w
     · exact refap_div1 a b c d ha hb hc hd hc0 w
 · exact refap_and a b c d ha hb hc hd w
 · exact refap_or a b c d ha hb hc hd w
 · exact refap_xor a b c d ha hb hc hd w
 · exact refap_less a b c d ha hb hc hd w
 · exact refap_equal a b c d w
 · rw [show apV op a b c d = ((0, 0), false) by unfold apV; rw [if_neg (by omega), if_neg (by omega), if_neg (by omega), if_neg (by omega), if_neg (by omega), if_neg (by omega), if_neg (by omega), if_neg (by omega), if_neg (by omega)]]
   exact refap_other op hop _ _ w a b c d rfl rfl
end Go.Proofs.YtcnndoefgjbmiaaGreat
