/- SircodeEncodeInvertsDecode: the walk of the law. -/
import Derived.Test.YtinfeglhjmnlaaaDoorYp
import Derived.Test.YtinfeglhjmnlaaaDoorYr
import Derived.Test.YtinfeglhjmnlaaaDoorGYh
import Derived.Test.YtinfeglhjmnlaaaDoorGPe
namespace Go.Proofs.YtinfeglhjmnlaaaDoor.pm
open Go.RowKit
set_option linter.unusedVariables false
set_option maxRecDepth 10000

set_option maxHeartbeats 8000000 in
theorem si_law (A : Option Addr) (n c : Nat) (l : List Nat) (A2 : Option Addr) (n2 c2 : Nat) (l2 : List Nat) (x : Int) (x0 : -9223372036854775808 ≤ x) (x1 : x ≤ 9223372036854775807) (y : Nat) (hy : y < 256) (w : World) (hT : Dt w) (hS : Tb w)
    (hb : Bs w w.heap.size A n l) (hn : n ≤ maxLen) (hc : n ≤ c) (hcm : c ≤ maxLen) (hb2 : Bs w w.heap.size A2 n2 l2) (hn2 : n2 ≤ maxLen) (hc2 : n2 ≤ c2) :
    Calls Tryd.prog 10 #[.slice A n c, .slice A2 n2 c2, .int .i64 x, .int .u8 y] w fun e w' => e = .returned (.bool true) ∧ Below w.heap.size w w' := by
  have HB := Lib.hid hb
  have HBB := Lib.hid hb2
  have HT := Lib.hid hT
  have HSB := Lib.hid hS
  have HX0 := Lib.hid x0
  have HX1 := Lib.hid x1
  clear hb hb2 hT hS x0 x1
  obtain ⟨i0, hi0, hz0, hz1, hz2⟩ := info_parts info_u8
  by_cases hbig : 500 < n
  · have hbi : (500 : Int) < (n : Int) := by omega
    clear hbig
    go_enter Tryd.func10, Tryd.ntmps10
    go_wp2_with fail
    refine (awake06 _ HT.out HSB.out).mono ?_
    rintro e w1 ⟨rfl, b1⟩
    go_wp2
    go_ret
    exact ⟨rfl, b1⟩
  have hbi : ¬ (500 : Int) < (n : Int) := by omega
  have hn500 : n ≤ 500 := by omega
  clear hbig
  go_enter Tryd.func10, Tryd.ntmps10
  go_wp2_with fail
  refine (awake06 _ HT.out HSB.out).mono ?_
  rintro e w1 ⟨rfl, b1⟩
  have HB1 := Lib.hid b1
  have hs1 := b1.size
  have HBS1 : Hid (Bs w1 w1.heap.size A2 n2 l2) := Lib.hid ((HBB.out.below b1).more hs1)
  clear b1
  go_wp2_with fail
  refine (newcodes_any A2 n2 c2 l2 200 _ hn2 hc2 (by omega)).mono ?_
  rintro e w2 ⟨rfl, hw2⟩
  have HC2 : Hid (CodesAt w2 w1.heap.size w1.heap.size A2 (min n2 200) c2 (l2.take (min n2 200)) 0) := Lib.hid (by
    rw [hw2]
    exact ⟨Blk.newAt rfl, ((HBS1.out.take (Nat.min_le_left _ _)).alloc (by omega) _), Nat.zero_le _, Nat.le_refl _, by omega⟩)
  have HB2 : Hid (Below w.heap.size w w2) := Lib.hid (by rw [hw2]; exact HB1.out.alloc (by omega) _)
  have hs2 : w2.heap.size = w1.heap.size + 1 := by rw [hw2]; simp
  generalize min n2 200 = m at *
  generalize l2.take m = l' at *
  clear hw2 HBS1 HBB
  go_wp2_with fail
  refine (program_d _ _ _ _ _ _ _ 3 8 _ HC2.out (by omega) (by omega) (by omega)).mono ?_
  rintro e w3 ⟨t0, Ax, cx, p3, rfl, htx, hcx, hgx, c3, g3⟩
  have HB3 : Hid (Below w.heap.size w w3) := Lib.hid (HB2.out.trans (below_of_grown g3 hs1 HB2.out.size))
  have hde := drawn_sen htx (by omega)
  have hx5 : t0.length ≤ maxLen := by have := htx.2.1; unfold maxLen; omega
  have hlb := sen_bytes hde.2.1
  obtain ⟨L, hL⟩ : ∃ L, L = senB t0 := ⟨_, rfl⟩
  rw [← hL] at hde hlb
  obtain ⟨N, hN⟩ : ∃ N, L.length = N := ⟨_, rfl⟩
  have HN := Lib.hid hN
  have hN1 : 9 ≤ N ∧ N ≤ 600000 := by have := hde.2.2; omega
  have HLB : Hid (∀ x ∈ L, x < 256) := Lib.hid hlb
  have HEN : Hid (Calls Tryd.prog 26 #[.agg #[.slice Ax t0.length cx]] w3 fun e w' => ∃ V c, e = .returned (.tuple #[.slice V N c, .int .i64 0]) ∧ w'.ownsRow w3.heap.size 5 1 (.slice V N c) N (nb L) ∧ Below w3.heap.size w3 w') := Lib.hid ((refsenc_any Ax t0 cx w2.heap.size w3.heap.size w3 hgx (Nat.le_refl _) hx5 (pr_fnr htx) hde.2.1).mono (by
    rintro e w' ⟨V, c, rfl, ho, hb⟩
    rw [← hL, hN] at ho
    exact ⟨V, c, by rw [← hL, hN, hde.1], ho, hb⟩))
  clear c3 g3 hgx htx HC2 hcx HB2 hde hlb hL hN
  go_wp2_with fail
  refine HEN.out.mono ?_
  rintro e w4 ⟨V4, c4, rfl, own4, bel4⟩
  have HB4 := Lib.hid (HB3.out.trans (bel4.mono HB3.out.size))
  have HO4 := Lib.hid own4
  have HC4 := Lib.hid (own_capM own4)
  have HV4 : Hid (Bs w4 w4.heap.size V4 N L) := Lib.hid (Bs.of_own own4 HLB.out)
  have hs4 : w.heap.size ≤ w4.heap.size := HB4.out.size
  clear own4 bel4 HEN HB3 HB1
  have hNp : (0 : Int) < (N : Int) := by omega
  go_upto_region 4 with (fail)
  go_upto_region 5 with (at_builtin; refine wpList_append_any _ rfl (.const (.slice none 0 0)) (.tmp 35) _ rfl w4.heap.size 5 i0 _ 1 1 Tryd.underlying22 hi0 hz0 hz1 hz2 rfl (by omega) (.slice none 0 0) 0 [] rfl (World.ownsRow_nil _ _ _ _) _ V4 N c4 (nb L) rfl HV4.out.1 (nb_one L) (by unfold maxLen; omega) (by omega) (by simp) ?_; intro o1 w5 own5' hg5' hat5'; have own5 : w5.ownsRow w4.heap.size 5 1 o1 N (nb L) := (by simpa using own5'); obtain ⟨g, cap, rfl, hg, hglt⟩ := own5.form (by omega))
  have bel5 : Below w4.heap.size w4 w5 := below_append (Below.refl _ _) (World.ownsRow_nil w4 w4.heap.size 5 1) hg5' (Nat.le_refl _) (by simp)
  have HB5 := Lib.hid (HB4.out.trans (bel5.mono hs4))
  have HO5 := Lib.hid (own_keep HO4.out bel5 (Nat.le_refl _))
  have HCP := Lib.hid (own_capM own5)
  have HW5 := Lib.hid own5
  have hgw : w.heap.size ≤ g := by omega
  clear own5' hg5' hat5' bel5 own5
  go_wp2_with fail
  refine (mod_any x HX0.out HX1.out N (by omega) (by omega) w5).mono ?_
  rintro e w6 ⟨rfl, rfl⟩
  have hk := modOf_lt x N (by omega)
  generalize modOf x N = k at *
  have hk0 : (0 : Int) ≤ (k : Int) := by omega
  have hki : (k : Int) < (N : Int) := by omega
  have hkL : k < L.length := by have := HN.out; omega
  have hcell := HW5.out.cellAt k (by omega)
  have hfr := HW5.out.frozenAt k
  rw [nb_get, List.getElem?_eq_getElem hkL] at hcell
  obtain ⟨u, hu⟩ : ∃ u, u = L[k] := ⟨_, rfl⟩
  have hcell2 : w5.cell? ⟨g, k, none⟩ = some (.int .u8 ((u : Nat) : Int)) := by rw [hu]; exact hcell
  have hx8 : u < 256 := by rw [hu]; exact HLB.out (L[k]) (List.getElem_mem _)
  have hxy := u8_xor_nat u y hx8 hy
  obtain ⟨z, hz⟩ : ∃ z, z = u ^^^ y := ⟨_, rfl⟩
  have hz256 : z < 256 := by rw [hz]; exact Nat.xor_lt_two_pow (n := 8) hx8 hy
  rw [← hz] at hxy
  clear hcell hz hu
  go_upto_region 6 with (fail)
  obtain ⟨own6, hgr⟩ := HW5.out.stored k (.int .u8 (z : Nat))
  obtain ⟨W6, hW6⟩ : ∃ W6, W6 = w5.setCell ⟨g, k, none⟩ (.int .u8 (z : Nat)) := ⟨_, rfl⟩
  rw [← hW6] at own6 ⊢
  have HB6 : Hid (Below w.heap.size w W6) := Lib.hid (by rw [hW6]; exact HB5.out.setCell hgw _)
  have HO6 : Hid (W6.ownsRow w3.heap.size 5 1 (.slice V4 N c4) N (nb L)) := Lib.hid (by rw [hW6]; exact HO5.out.kept (gset6 _ _ _) (.inr (fun e => by have := (HO4.out.lt g e).2; omega)))
  have hset : (nb L).set k (.int .u8 (z : Nat)) = nb (L.set k z) := by simp [nb, List.map_set]
  rw [hset] at own6
  obtain ⟨L2, hL2⟩ : ∃ L2, L2 = L.set k z := ⟨_, rfl⟩
  rw [← hL2] at own6
  have HL2B : Hid (∀ x ∈ L2, x < 256) := Lib.hid (fun x hx => by
    rw [hL2] at hx
    rcases List.mem_or_eq_of_mem_set hx with h | h
    · exact HLB.out x h
    · omega)
  have HL2N : Hid (L2.length = N) := Lib.hid (by rw [hL2, List.length_set]; exact HN.out)
  have HV6 : Hid (Bs W6 W6.heap.size (some ⟨g, 0, none⟩) N L2) := Lib.hid (Bs.of_own own6 HL2B.out)
  have hs6 : w.heap.size ≤ W6.heap.size := HB6.out.size
  clear hW6 own6 hgr hset hL2 hcell2 hfr hxy HW5 HO5 HO4 HV4 HB5 HB4
  have HMD := Lib.hid (mended06_any (some ⟨g, 0, none⟩) N cap L2 W6 HV6.out (by omega) HCP.out.1 HCP.out.2)
  have HM2 : Hid ((mend L2).length = N) := Lib.hid (by rw [mend_len]; exact HL2N.out)
  obtain ⟨M2, hM2⟩ : ∃ M, M = mend L2 := ⟨_, rfl⟩
  rw [← hM2] at HMD HM2
  clear hM2
  have HMD' : Hid (Calls Tryd.prog 27 #[.slice (some ⟨g, 0, none⟩) N cap] W6 fun e w' => ∃ V c, e = .returned (.slice V N c) ∧ Bs w' w'.heap.size V N M2 ∧ (N ≤ c ∧ c ≤ maxLen) ∧ Below W6.heap.size W6 w') := Lib.hid (HMD.out.mono (by
    rintro e w' ⟨V, c, rfl, h1, h2, h3, h4⟩
    rw [HM2.out] at h1 h2
    exact ⟨V, c, by rw [HM2.out], h1, ⟨h2, h3⟩, h4⟩))
  clear HMD
  go_wp2_with fail
  refine HMD'.out.mono ?_
  rintro e w7 ⟨V7, c7, rfl, hb7, hc7, bel7⟩
  have HB7 := Lib.hid (HB6.out.trans (bel7.mono hs6))
  have HV7 := Lib.hid hb7
  have HC7 := Lib.hid hc7
  have HO7 := Lib.hid (own_keep HO6.out bel7 (Nat.le_refl _))
  have hs7 : w.heap.size ≤ w7.heap.size := HB7.out.size
  clear bel7 hb7 hc7 HMD' HO6 HB6 HV6
  have hcv := Lib.run_convert_bytes_const (P := Tryd.prog) w7 22 5 #[.int .u8 83, .int .u8 73, .int .u8 82, .int .u8 49] 4 4 Tryd.underlying22 Tryd.underlying5
  obtain ⟨W8, hW8⟩ : ∃ W8, W8 = w7.alloc (.cells #[.int .u8 83, .int .u8 73, .int .u8 82, .int .u8 49] 5 (4, 5)) := ⟨_, rfl⟩
  have hbl8 : Below w7.heap.size w7 W8 := by rw [hW8]; exact (Below.refl _ _).alloc (Nat.le_refl _) _
  have HOW : Hid (OwM W8 w7.heap.size (.slice (some ⟨w7.heap.size, 0, none⟩) 4 4) 4 (nb mgS)) := Lib.hid (.inr ⟨w7.heap.size, #[.int .u8 83, .int .u8 73, .int .u8 82, .int .u8 49], (4, 5), rfl, Nat.le_refl _, by rw [hW8, heap_alloc_new], rfl, rfl, by decide⟩)
  have HBL8 := Lib.hid hbl8
  have HVB8 : Hid (Bs W8 W8.heap.size A n l) := Lib.hid ((HB.out.below (HB7.out.trans (hbl8.mono hs7))).more (Nat.le_trans hs7 hbl8.size))
  have HLN := Lib.hid HB.out.len
  have hs8 : w7.heap.size ≤ W8.heap.size := hbl8.size
  have HW8 := Lib.hid hW8
  clear hW8 hbl8
  go_wp2_with (first
    | (rw [← HW8.out]; at_builtin; refine wpList_append_o _ rfl (.tmp 52) (.tmp 53) _ rfl w7.heap.size i0 Tryd.underlying22 hi0 hz0 hz1 hz2 _ 4 (nb mgS) rfl HOW.out _ A n c (nb l) rfl HVB8.out.1 (nb_one l) (by unfold maxLen; omega) (by omega) (by omega) ?_; intro o9 w9 own9 hg9)
    | (at_builtin; refine wpList_append_o _ rfl (.tmp 54) (.tmp 55) _ rfl w7.heap.size i0 Tryd.underlying22 hi0 hz0 hz1 hz2 _ (4 + n) (nb mgS ++ nb l) rfl (own9.alloc _) (w9.heap.size + 1) (some ⟨w9.heap.size, 0, none⟩) 4 4 (nb [0, 0, 0, 0]) rfl (reads_lit w9 _ (nb [0, 0, 0, 0])) (nb_one _) (by unfold maxLen; omega) (by omega) (by have := hg9.size; simp; omega) ?_; intro o10 w10 own10 hg10; obtain ⟨V10, c10, rfl, hm10⟩ := own10.form))
  have hb9 : Below w7.heap.size W8 w9 := HOW.out.below hg9 hs8
  have hb10 : Below w7.heap.size W8 w10 := (hb9.alloc (by have := hg9.size; omega) _).trans ((own9.alloc _).below hg10 (by have := hg9.size; simp; omega))
  have HBL10 := Lib.hid (HBL8.out.trans hb10)
  have hs10 : w7.heap.size ≤ w10.heap.size := HBL10.out.size
  obtain ⟨L10, hL10⟩ : ∃ L, L = mgS ++ l ++ [0, 0, 0, 0] := ⟨_, rfl⟩
  obtain ⟨N10, hN10⟩ : ∃ N, N = 4 + n + 4 := ⟨_, rfl⟩
  have HB10 : Hid (∀ x ∈ L10, x < 256) := Lib.hid (by
    intro x hx
    rw [hL10] at hx
    rcases List.mem_append.1 hx with h | h
    · rcases List.mem_append.1 h with h | h
      · simp [mgS] at h; omega
      · exact HB.out.2 x h
    · simp at h; omega)
  have ho10 : OwM w10 w7.heap.size (.slice V10 N10 c10) N10 (nb L10) := by
    rw [hL10, hN10, nb_append, nb_append]
    exact own10
  have HLL : Hid (L10.length = N10) := Lib.hid (by rw [hL10, hN10]; simp [mgS, HLN.out]; omega)
  have hC10 := own_capO ho10
  have HM3 : Hid ((mend L10).length = N10) := Lib.hid (by rw [mend_len]; exact HLL.out)
  have hn10 : N10 ≤ 700000 := by omega
  have HMD := Lib.hid (mended06_any V10 N10 c10 L10 w10 (ho10.bs HB10.out) (by omega) hC10.1 hC10.2)
  obtain ⟨M3, hM3⟩ : ∃ M, M = mend L10 := ⟨_, rfl⟩
  rw [← hM3] at HMD HM3
  have HMD' : Hid (Calls Tryd.prog 27 #[.slice V10 N10 c10] w10 fun e w' => ∃ V c, e = .returned (.slice V N10 c) ∧ Bs w' w'.heap.size V N10 M3 ∧ (N10 ≤ c ∧ c ≤ maxLen) ∧ Below w10.heap.size w10 w') := Lib.hid (HMD.out.mono (by
    rintro e w' ⟨V, c, rfl, h1, h2, h3, h4⟩
    rw [HM3.out] at h1 h2
    exact ⟨V, c, by rw [HM3.out], h1, ⟨h2, h3⟩, h4⟩))
  rw [← hN10]
  clear own9 own10 hg9 hg10 hm10 hb9 hb10 ho10 hM3 HMD hcv HW8 hL10 hN10 hC10
  go_wp2_with fail
  refine HMD'.out.mono ?_
  rintro e w11 ⟨V11, c11, rfl, hb11, hc11, bel11⟩
  have HBL11 : Hid (Below w7.heap.size w7 w11) := Lib.hid (HBL10.out.trans (bel11.mono hs10))
  go_upto_region 7 with (fail)
  obtain ⟨W12, hW12⟩ : ∃ W12, W12 = w11.alloc (.cells #[.slice A n c, .slice V4 N c4, .slice V7 N c7, .slice V11 N10 c11] 22) := ⟨_, rfl⟩
  obtain ⟨gl, hgl⟩ : ∃ g, g = w11.heap.size := ⟨_, rfl⟩
  rw [← hW12, ← hgl]
  have hb12 : Below w11.heap.size w11 W12 := by rw [hW12]; exact (Below.refl _ _).alloc (Nat.le_refl _) _
  have HKL : Hid (Blk W12 gl 22 #[.slice A n c, .slice V4 N c4, .slice V7 N c7, .slice V11 N10 c11]) := Lib.hid (by rw [hW12, hgl]; exact Blk.new _ _ _)
  have hb712 : Below w7.heap.size w7 W12 := HBL11.out.trans (hb12.mono HBL11.out.size)
  have HB12 : Hid (Below w.heap.size w W12) := Lib.hid (HB7.out.trans (hb712.mono hs7))
  have hs12 : w.heap.size ≤ W12.heap.size := HB12.out.size
  have HX : Hid (∀ k, k < 4 → SlB W12 gl k) := Lib.hid (by
    intro k hk
    have hk' : k = 0 ∨ k = 1 ∨ k = 2 ∨ k = 3 := by omega
    rcases hk' with rfl | rfl | rfl | rfl
    · exact ⟨A, n, c, l, HKL.out.cell 0, (HB.out.below HB12.out).more hs12, by omega, hc, hcm⟩
    · exact ⟨V4, N, c4, L, HKL.out.cell 1, Bs.of_own (own_keep HO7.out hb712 (Nat.le_refl _)) HLB.out, by omega, HC4.out.1, HC4.out.2⟩
    · exact ⟨V7, N, c7, M2, HKL.out.cell 2, (HV7.out.below hb712).more hb712.size, by omega, HC7.out.1, HC7.out.2⟩
    · exact ⟨V11, N10, c11, M3, HKL.out.cell 3, (hb11.below hb12).more hb12.size, by omega, hc11.1, hc11.2⟩)
  have HT12 : Hid (Dt W12) := Lib.hid (HT.out.below HB12.out HT.out.1)
  have HS12 : Hid (Tb W12) := Lib.hid (HSB.out.below HB12.out)
  have hglz : gl < W12.heap.size := HKL.out.lt
  clear hW12 hgl hb12 hb712 hb11 hc11 bel11 HBL11 HMD' HKL HB7 HO7 HV7 HC7 HC4 HBL10 HBL8 HOW HVB8 HB HLB
  go_loopw [60] (fun x wr => ∃ k : Nat, k ≤ 4 ∧ x = .int .i64 k ∧ Hid (Below W12.heap.size W12 wr)) (fun x _ => 4 - (intOf x).toNat)
  case atStart => exact ⟨0, by omega, rfl, Lib.hid (Below.refl _ _)⟩
  case round =>
    obtain ⟨j, hj, rfl, HBr⟩ := hrel
    by_cases hlt : j < 4
    · have hj0 : (0 : Int) ≤ (j : Int) := by omega
      have hj1 : (j : Int) < 4 := by omega
      obtain ⟨A', n', c', l', hcell, hbs, hn', hc', hcm'⟩ := (HX.out j hlt).after HBr.out
      have hsr := HBr.out.size
      have hTr : Tb wr := HS12.out.below HBr.out
      have HD := Lib.hid (sDecode_any A' n' c' l' wr hTr hbs (by unfold maxLen; omega) hc' hcm')
      have HBS := Lib.hid hbs
      have hglr : gl < wr.heap.size := by omega
      clear hbs hTr
      generalize wr = wo at *
      go_wp2_with fail
      refine HD.out.mono ?_
      rintro e w13 ⟨At, ct, rfl, hg, hct, hbl⟩
      have HBL13 := Lib.hid (HBr.out.trans (hbl.mono hsr))
      go_upto_region 10 with (fail)
      obtain ⟨W14, hW14⟩ : ∃ W14, W14 = w13.alloc (.cells #[.slice At (decP l').length ct] 44) := ⟨_, rfl⟩
      obtain ⟨gt, hgt⟩ : ∃ g, g = w13.heap.size := ⟨_, rfl⟩
      rw [← hW14, ← hgt]
      obtain ⟨t, ht⟩ : ∃ t, t = decP l' := ⟨_, rfl⟩
      rw [← ht] at hg hct hW14
      have hb14 : Below w13.heap.size w13 W14 := by rw [hW14]; exact (Below.refl _ _).alloc (Nat.le_refl _) _
      have HKT : Hid (Blk W14 gt 44 #[.slice At t.length ct]) := Lib.hid (by rw [hW14, hgt]; exact Blk.new _ _ _)
      have HB14 := Lib.hid (HBL13.out.trans (hb14.mono HBL13.out.size))
      have HG14 : Hid (Fx W14 wo.heap.size w13.heap.size At t) := Lib.hid (hg.keep (Kp.of_below hb14 (Nat.le_refl _)))
      have hs14 : w13.heap.size ≤ W14.heap.size := hb14.size
      have hbo : Below wo.heap.size wo W14 := hbl.trans (hb14.mono hbl.size)
      have HBS14 : Hid (Bs W14 W14.heap.size A' n' l') := Lib.hid ((HBS.out.below hbo).more hbo.size)
      have HTE := Lib.hid ht
      clear hW14 hgt hb14 hg hbl hcell hbo ht
      by_cases h1 : decS l' = 0
      · have hsd := sen_dec HBS.out.2 h1
        have htp : t = parF l' := by rw [HTE.out]; unfold decP; rw [if_pos h1]
        have htl := parF_len l'
        have hfr := parF_fnr l'
        rw [← htp] at hsd htl hfr
        rw [h1]
        have hln := HBS.out.len
        have HEN : Hid (Calls Tryd.prog 25 #[.agg #[.slice At t.length ct]] W14 fun e w' => ∃ V c, e = .returned (.tuple #[.slice V n' c, .int .i64 0]) ∧ Bs w' w'.heap.size V n' l' ∧ Below W14.heap.size W14 w') := Lib.hid ((senc_any At t ct wo.heap.size w13.heap.size W14 (HT12.out.below HB14.out HT12.out.1) (HS12.out.below HB14.out) HG14.out hs14 (by unfold maxLen; omega) hfr hsd.1).mono (by
          rintro e w' ⟨V, c, rfl, ho, hb⟩
          rw [hsd.2.2, hln] at ho
          exact ⟨V, c, by rw [hsd.2.2, hln, hsd.2.1], Bs.of_own ho HBS.out.2, hb⟩))
        obtain ⟨q0, -, qz⟩ := HKT.out.c1
        clear h1 hsd htp htl hfr hln
        go_wp2_with fail
        refine HEN.out.mono ?_
        rintro e w15 ⟨V15, c15, rfl, hb15, bel15⟩
        have HB15 := Lib.hid (HB14.out.trans (bel15.mono HB14.out.size))
        have HSB := Lib.hid (same_bytes A' V15 n' c' n' c15 l' l' w15 w15.heap.size ((HBS14.out.below bel15).more bel15.size) hb15 (by unfold maxLen; omega) (by unfold maxLen; omega))
        rw [show decide (l' = l') = true by simp] at HSB
        clear hb15 bel15 q0 qz HEN
        go_wp2_with fail
        refine HSB.out.mono ?_
        rintro e w16 ⟨rfl, k16, rfl⟩
        go_wp2
        go_roundw
        case rel => exact ⟨j + 1, by omega, by go_num, Lib.hid (below_drewN HB15.out _)⟩
        case measure => simp [intOf]; omega
      · have hne : (decS l' != 0) = true := by simpa using h1
        generalize decS l' = de at *
        go_wp2
        go_roundw
        case rel => exact ⟨j + 1, by omega, by go_num, HB14⟩
        case measure => simp [intOf]; omega
    · have hj4 : j = 4 := by omega
      subst hj4
      go_wp2
      go_ret
      exact ⟨rfl, HB12.out.trans (HBr.out.mono hs12)⟩
theorem si_lawB (A : Option Addr) (n c : Nat) (l : List Nat) (A2 : Option Addr) (n2 c2 : Nat) (l2 : List Nat) (x : Int) (x0 : -9223372036854775808 ≤ x) (x1 : x ≤ 9223372036854775807) (y : Nat) (hy : y < 256) (w : World) (h : Dt w ∧ Tb w)
    (hb : Bs w w.heap.size A n l) (hn : n ≤ maxLen) (hc : n ≤ c) (hcm : c ≤ maxLen) (hb2 : Bs w w.heap.size A2 n2 l2) (hn2 : n2 ≤ maxLen) (hc2 : n2 ≤ c2) :
    Calls Tryd.prog 10 #[.slice A n c, .slice A2 n2 c2, .int .i64 x, .int .u8 y] w fun e w' => e = .returned (.bool true) ∧ Below w.heap.size w w' := si_law A n c l A2 n2 c2 l2 x x0 x1 y hy w h.1 h.2 hb hn hc hcm hb2 hn2 hc2
end Go.Proofs.YtinfeglhjmnlaaaDoor.pm
