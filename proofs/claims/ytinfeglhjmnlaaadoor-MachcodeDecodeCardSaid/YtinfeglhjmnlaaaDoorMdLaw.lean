/- MachcodeDecode: the walk of the law. -/
import Derived.Test.YtinfeglhjmnlaaaDoorId
import Derived.Test.YtinfeglhjmnlaaaDoorIe
import Derived.Test.YtinfeglhjmnlaaaDoorIf
import Derived.Test.YtinfeglhjmnlaaaDoorGKy
import Derived.Test.YtinfeglhjmnlaaaDoorIm
namespace Go.Proofs.YtinfeglhjmnlaaaDoor.pm
open Go.RowKit
set_option linter.unusedVariables false
set_option maxRecDepth 10000

def SlB (w : World) (g : Nat) (k : Nat) : Prop := ∃ (A : Option Addr) (n c : Nat) (l : List Nat), w.cell? ⟨g, k, none⟩ = some (.slice A n c) ∧ Bs w w.heap.size A n l ∧ n ≤ 700000 ∧ n ≤ c ∧ c ≤ maxLen
theorem SlB.after {w w' : World} {g k : Nat} (h : SlB w g k) (hb : Below w.heap.size w w') : SlB w' g k := by
 obtain ⟨A, n, c, l, h1, h2, h3⟩ := h
 have hlt : g < w.heap.size := cell_lt h1
 exact ⟨A, n, c, l, (hb.cell (p := ⟨g, k, none⟩) hlt).trans h1, (h2.below hb).more hb.size, h3⟩
theorem own_capO {w : World} {base n c : Nat} {A : Option Addr} {xs : List Value} (h : OwM w base (.slice A n c) n xs) : n ≤ c ∧ c ≤ maxLen := by
 rcases h with h | ⟨g, cur, fz, hv, hb, hh, e, r, mm⟩
 · exact own_capM h
 · injection hv with h1 h2 h3
   omega
theorem dec_eq {l : List Nat} {al bd al' bd' : Int} {t t' : List Fr} (h : (decE l = 0 ∧ decT false l = some (al, bd, t)) ∨ (decE l ≠ 0 ∧ al = 0 ∧ bd = 0 ∧ t = [])) (h' : (decE l = 0 ∧ decT false l = some (al', bd', t')) ∨ (decE l ≠ 0 ∧ al' = 0 ∧ bd' = 0 ∧ t' = [])) : al = al' ∧ bd = bd' ∧ t = t' := by
 rcases h with ⟨h1, h2⟩ | ⟨h1, rfl, rfl, rfl⟩ <;> rcases h' with ⟨h3, h4⟩ | ⟨h3, rfl, rfl, rfl⟩
 · rw [h2] at h4
   injection h4 with h4
   simp only [Prod.mk.injEq] at h4
   exact ⟨h4.1, h4.2.1, h4.2.2⟩
 · exact absurd h1 h3
 · exact absurd h3 h1
 · exact ⟨rfl, rfl, rfl⟩
set_option maxHeartbeats 8000000 in
theorem md_law (A : Option Addr) (n c : Nat) (l : List Nat) (A2 : Option Addr) (n2 c2 : Nat) (l2 : List Nat) (x : Int) (x0 : -9223372036854775808 ≤ x) (x1 : x ≤ 9223372036854775807) (y : Nat) (hy : y < 256) (w : World) (hT : Dt w)
 (hb : Bs w w.heap.size A n l) (hn : n ≤ maxLen) (hc : n ≤ c) (hcm : c ≤ maxLen) (hb2 : Bs w w.heap.size A2 n2 l2) (hn2 : n2 ≤ maxLen) (hc2 : n2 ≤ c2) :
 Calls Tryd.prog 3 #[.slice A n c, .slice A2 n2 c2, .int .i64 x, .int .u8 y] w fun e w' => e = .returned (.bool true) ∧ Below w.heap.size w w' := by
 have HB := hI hb
 have HBB := hI hb2
 have HT := hI hT
 have HX0 := hI x0
 have HX1 := hI x1
 clear hb hb2 hT x0 x1
 obtain ⟨i0, hi0, hz0, hz1, hz2⟩ := info_parts info_u8
 by_cases hbig : 500 < n
 · have hbi : (500 : Int) < (n : Int) := by omega
   clear hbig
   go_enter Tryd.func3, Tryd.ntmps3
   go_wp2_with fail
   refine (awake11 _ HT.out).mono ?_
   rintro e w1 ⟨rfl, b1⟩
   go_wp2
   go_ret
   exact ⟨rfl, b1⟩
 have hbi : ¬ (500 : Int) < (n : Int) := by omega
 have hn500 : n ≤ 500 := by omega
 clear hbig
 go_enter Tryd.func3, Tryd.ntmps3
 go_wp2_with fail
 refine (awake11 _ HT.out).mono ?_
 rintro e w1 ⟨rfl, b1⟩
 have HB1 := hI b1
 have hs1 := b1.size
 have HBS1 : Hid (Bs w1 w1.heap.size A2 n2 l2) := hI ((HBB.out.below b1).more hs1)
 clear b1
 go_wp2_with fail
 refine (newcodes_any A2 n2 c2 l2 250 _ hn2 hc2 (by omega)).mono ?_
 rintro e w2 ⟨rfl, hw2⟩
 have HC2 : Hid (CodesAt w2 w1.heap.size w1.heap.size A2 (min n2 250) c2 (l2.take (min n2 250)) 0) := hI (by
  rw [hw2]
  exact ⟨Blk.newAt rfl, ((HBS1.out.take (Nat.min_le_left _ _)).alloc (by omega) _), Nat.zero_le _, Nat.le_refl _, by omega⟩)
 have HB2 : Hid (Below w.heap.size w w2) := hI (by rw [hw2]; exact HB1.out.alloc (by omega) _)
 have hs2 : w2.heap.size = w1.heap.size + 1 := by rw [hw2]; simp
 generalize min n2 250 = m at *
 generalize l2.take m = l' at *
 clear hw2 HBS1 HBB
 go_wp2_with fail
 refine (target_d _ _ _ _ _ _ _ 3 8 _ HC2.out (by omega) (by omega) (by omega)).mono ?_
 rintro e w3 ⟨ax, t0, Ax, cx, p3, rfl, htx, hgx, hcx, c3, g3⟩
 have HB3 : Hid (Below w.heap.size w w3) := hI (HB2.out.trans (below_of_grown g3 hs1 HB2.out.size))
 have hde := drawn_enc (bd := 48) (by omega) htx (by omega)
 have hx5 : t0.length ≤ maxLen := by have := htx.2.2.1; unfold maxLen; omega
 obtain ⟨L, hL⟩ : ∃ L, L = encB ax 48 t0 := ⟨_, rfl⟩
 rw [← hL] at hde
 obtain ⟨N, hN⟩ : ∃ N, L.length = N := ⟨_, rfl⟩
 have HN := hI hN
 have hN1 : 10 ≤ N ∧ N ≤ 600000 := by have := hde.2.2; omega
 have HLB : Hid (∀ x ∈ L, x < 256) := hI hde.2.2.2.2
 have HEN : Hid (Calls Tryd.prog 12 #[.agg #[.int .i64 ax, .slice Ax t0.length cx], .int .i64 48] w3 fun e w' => ∃ V c, e = .returned (.tuple #[.slice V N c, .int .i64 0]) ∧ w'.ownsRow w3.heap.size 5 1 (.slice V N c) N (nb L) ∧ Below w3.heap.size w3 w') := hI ((refenc_any (ct := cx) hde.2.1 ⟨by omega, by omega⟩ w3 hgx.gx (Nat.le_refl _) hx5).mono (by
  rintro e w' ⟨V, c, rfl, ho, hb⟩
  rw [← hL, hN] at ho
  exact ⟨V, c, by rw [← hL, hN, hde.1], ho, hb⟩))
 clear c3 g3 hgx htx HC2 hcx HB2 hde hL hN
 go_wp2_with fail
 refine HEN.out.mono ?_
 rintro e w4 ⟨V4, c4, rfl, own4, bel4⟩
 have HB4 := hI (HB3.out.trans (bel4.mono HB3.out.size))
 have HO4 := hI own4
 have HC4 := hI (own_capM own4)
 have HV4 : Hid (Bs w4 w4.heap.size V4 N L) := hI (Bs.of_own own4 HLB.out)
 have hs4 : w.heap.size ≤ w4.heap.size := HB4.out.size
 clear own4 bel4 HEN HB3 HB1
 have hNp : (0 : Int) < (N : Int) := by omega
 go_upto_region 4 with (fail)
 go_upto_region 5 with (at_builtin; refine wpList_append_any _ rfl (.const (.slice none 0 0)) (.tmp 39) _ rfl w4.heap.size 5 i0 _ 1 1 Tryd.underlying22 hi0 hz0 hz1 hz2 rfl (by omega) (.slice none 0 0) 0 [] rfl (World.ownsRow_nil _ _ _ _) _ V4 N c4 (nb L) rfl HV4.out.1 (nb_one L) (by unfold maxLen; omega) (by omega) (by simp) ?_; intro o1 w5 own5' hg5' hat5'; have own5 : w5.ownsRow w4.heap.size 5 1 o1 N (nb L) := (by simpa using own5'); obtain ⟨g, cap, rfl, hg, hglt⟩ := own5.form (by omega))
 have bel5 : Below w4.heap.size w4 w5 := below_append (Below.refl _ _) (World.ownsRow_nil w4 w4.heap.size 5 1) hg5' (Nat.le_refl _) (by simp)
 have HB5 := hI (HB4.out.trans (bel5.mono hs4))
 have HO5 := hI (own_keep HO4.out bel5 (Nat.le_refl _))
 have HCP := hI (own_capM own5)
 have HW5 := hI own5
 have hgw : w.heap.size ≤ g := by omega
 clear own5' hg5' hat5' bel5 own5
 go_wp2_with fail
 refine (mod_any x HX0.out HX1.out N (by omega) (by omega) w5).mono ?_
 rintro e w6 ⟨rfl, rfl⟩
 have hk := modOf_lt x N (by omega)
 obtain ⟨k, hkm⟩ : ∃ k, k = modOf x N := ⟨_, rfl⟩
 have HKM := hI hkm
 rw [← hkm] at hk ⊢
 clear hkm
 have hk0 : (0 : Int) ≤ (k : Int) := by omega
 have hki : (k : Int) < (N : Int) := by omega
 have hkL : k < L.length := by have := HN.out; omega
 have hcell := HW5.out.cellAt k (by omega)
 have hfr := HW5.out.frozenAt k
 rw [nb_get, List.getElem?_eq_getElem hkL] at hcell
 obtain ⟨u, hu⟩ : ∃ u, u = L[k] := ⟨_, rfl⟩
 have hcell2 : w5.cell? ⟨g, k, none⟩ = some (.int .u8 ((u : Nat) : Int)) := by rw [hu]; exact hcell
 have hx8 : u < 256 := by rw [hu]; exact HLB.out (L[k]) (List.getElem_mem _)
 have hxy := u8_xor_nat u y hx8 hy
 obtain ⟨z, hz⟩ : ∃ z, z = u ^^^ y := ⟨_, rfl⟩
 have hz256 : z < 256 := by rw [hz]; exact Nat.xor_lt_two_pow (n := 8) hx8 hy
 rw [← hz] at hxy
 clear hcell hz hu
 go_upto_region 6 with (fail)
 obtain ⟨own6, hgr⟩ := HW5.out.stored k (.int .u8 (z : Nat))
 obtain ⟨W6, hW6⟩ : ∃ W6, W6 = w5.setCell ⟨g, k, none⟩ (.int .u8 (z : Nat)) := ⟨_, rfl⟩
 rw [← hW6] at own6 ⊢
 have HB6 : Hid (Below w.heap.size w W6) := hI (by rw [hW6]; exact HB5.out.setCell hgw _)
 have HO6 : Hid (W6.ownsRow w3.heap.size 5 1 (.slice V4 N c4) N (nb L)) := hI (by rw [hW6]; exact HO5.out.kept (grown_set _ _ _) (.inr (fun e => by have := (HO4.out.lt g e).2; omega)))
 have hset : (nb L).set k (.int .u8 (z : Nat)) = nb (L.set k z) := by simp [nb, List.map_set]
 rw [hset] at own6
 obtain ⟨L2, hL2⟩ : ∃ L2, L2 = L.set k z := ⟨_, rfl⟩
 rw [← hL2] at own6
 have HL2B : Hid (∀ x ∈ L2, x < 256) := hI (fun x hx => by
  rw [hL2] at hx
  rcases List.mem_or_eq_of_mem_set hx with h | h
  · exact HLB.out x h
  · omega)
 have HL2N : Hid (L2.length = N) := hI (by rw [hL2, List.length_set]; exact HN.out)
 have HV6 : Hid (Bs W6 W6.heap.size (some ⟨g, 0, none⟩) N L2) := hI (Bs.of_own own6 HL2B.out)
 have hs6 : w.heap.size ≤ W6.heap.size := HB6.out.size
 clear hW6 own6 hgr hset hL2 hcell2 hfr hxy HW5 HO5 HO4 HV4 HB5 HB4
 have hNc4 := HC4.out.1
 have hc4m := HC4.out.2
 have hni4 : (N : Int) ≤ (c4 : Int) := by omega
 have hcc4 : (c4 : Int) ≤ 9223372036854775807 := by unfold maxLen at hc4m; omega
 have hkc4 : k ≤ c4 := by omega
 have hkci4 : (k : Int) ≤ (c4 : Int) := by omega
 have HKC : Hid (k ≤ c4 ∧ k ≤ 600000) := hI ⟨by omega, by omega⟩
 have HMO := hI (mod_any x HX0.out HX1.out N (by omega) (by omega) W6)
 rw [← HKM.out] at HMO
 go_wp2_with fail
 refine HMO.out.mono ?_
 rintro e w6' ⟨rfl, rfl⟩
 have HVK : Hid (Bs W6 W6.heap.size V4 k (L.take k)) := hI ((Bs.of_own HO6.out HLB.out).take (by omega))
 have HKL : Hid ((L.take k).length = k) := hI (by rw [List.length_take, HN.out]; omega)
 obtain ⟨LK, hLK⟩ : ∃ M, M = L.take k := ⟨_, rfl⟩
 rw [← hLK] at HVK HKL
 clear hLK HMO
 go_upto_region 7 with (fail)
 clear hNc4 hc4m hni4 hcc4 hkc4 hkci4
 have hcv := Lib.run_convert_bytes_const (P := Tryd.prog) W6 22 5 #[.int .u8 70, .int .u8 82, .int .u8 77, .int .u8 49] 4 4 Tryd.underlying22 Tryd.underlying5
 obtain ⟨W8, hW8⟩ : ∃ W8, W8 = W6.alloc (.cells #[.int .u8 70, .int .u8 82, .int .u8 77, .int .u8 49] 5 (4, 5)) := ⟨_, rfl⟩
 have hbl8 : Below W6.heap.size W6 W8 := by rw [hW8]; exact (Below.refl _ _).alloc (Nat.le_refl _) _
 have HOW : Hid (OwM W8 W6.heap.size (.slice (some ⟨W6.heap.size, 0, none⟩) 4 4) 4 (nb mgT)) := hI (.inr ⟨W6.heap.size, #[.int .u8 70, .int .u8 82, .int .u8 77, .int .u8 49], (4, 5), rfl, Nat.le_refl _, by rw [hW8, heap_alloc_new], rfl, rfl, by decide⟩)
 have HBL8 := hI hbl8
 have HVB8 : Hid (Bs W8 W8.heap.size A n l) := hI ((HB.out.below (HB6.out.trans (hbl8.mono hs6))).more (Nat.le_trans hs6 hbl8.size))
 have HLN := hI HB.out.len
 have hs8 : W6.heap.size ≤ W8.heap.size := hbl8.size
 have HW8 := hI hW8
 clear hW8 hbl8
 go_upto_region 8 with (first
  | (rw [← HW8.out]; at_builtin; refine wpList_append_o _ rfl (.tmp 58) (.tmp 59) _ rfl W6.heap.size i0 Tryd.underlying22 hi0 hz0 hz1 hz2 _ 4 (nb mgT) rfl HOW.out _ A n c (nb l) rfl HVB8.out.1 (nb_one l) (by unfold maxLen; omega) (by omega) (by omega) ?_; intro o9 w9 own9 hg9)
  | (at_builtin; refine wpList_append_o _ rfl (.tmp 60) (.tmp 61) _ rfl W6.heap.size i0 Tryd.underlying22 hi0 hz0 hz1 hz2 _ (4 + n) (nb mgT ++ nb l) rfl (own9.alloc _) (w9.heap.size + 1) (some ⟨w9.heap.size, 0, none⟩) 4 4 (nb [0, 0, 0, 0]) rfl (reads_lit w9 _ (nb [0, 0, 0, 0])) (nb_one _) (by unfold maxLen; omega) (by omega) (by have := hg9.size; simp; omega) ?_; intro o10 w10 own10 hg10; obtain ⟨V10, c10, rfl, hm10⟩ := own10.form))
 have hb9 : Below W6.heap.size W8 w9 := HOW.out.below hg9 hs8
 have hb10 : Below W6.heap.size W8 w10 := (hb9.alloc (by have := hg9.size; omega) _).trans ((own9.alloc _).below hg10 (by have := hg9.size; simp; omega))
 have HBL10 : Hid (Below W6.heap.size W6 w10) := hI (HBL8.out.trans hb10)
 have hs10 : W6.heap.size ≤ w10.heap.size := HBL10.out.size
 obtain ⟨L10, hL10⟩ : ∃ L, L = mgT ++ l ++ [0, 0, 0, 0] := ⟨_, rfl⟩
 obtain ⟨N10, hN10⟩ : ∃ N, N = 4 + n + 4 := ⟨_, rfl⟩
 have HB10 : Hid (∀ x ∈ L10, x < 256) := hI (by
  intro x hx
  rw [hL10] at hx
  rcases List.mem_append.1 hx with h | h
  · rcases List.mem_append.1 h with h | h
    · simp [mgT] at h; omega
    · exact HB.out.2 x h
  · simp at h; omega)
 have ho10 : OwM w10 W6.heap.size (.slice V10 N10 c10) N10 (nb L10) := by
  rw [hL10, hN10, nb_append, nb_append]
  exact own10
 have HLL : Hid (L10.length = N10) := hI (by rw [hL10, hN10]; simp [mgT, HLN.out]; omega)
 have HC10 := hI (own_capO ho10)
 have hn10 : N10 ≤ 700000 := by omega
 have HV10 : Hid (Bs w10 w10.heap.size V10 N10 L10) := hI (ho10.bs HB10.out)
 have HMN := hI (fun (W : World) (A' : Option Addr) (n' c' : Nat) (l' : List Nat) (h : Bs W W.heap.size A' n' l') (h1 : n' ≤ 700000) (h2 : n' ≤ c') (h3 : c' ≤ maxLen) => (show Calls Tryd.prog 16 #[.slice A' n' c'] W fun e w' => ∃ V c l2, e = .returned (.slice V n' c) ∧ Bs w' w'.heap.size V n' l2 ∧ (n' ≤ c ∧ c ≤ maxLen) ∧ Below W.heap.size W w' from (mended11_any A' n' c' l' W h (by omega) h2 h3).mono (by
  rintro e w' ⟨V, c, rfl, h4, h5, h6, h7⟩
  have hl : (mend l').length = n' := by rw [mend_len, h.len]
  rw [hl] at h4 h5
  exact ⟨V, c, _, by rw [hl], h4, ⟨h5, h6⟩, h7⟩)))
 rw [← hN10]
 clear own9 own10 hg9 hg10 hm10 hb9 hb10 ho10 hcv HW8 hL10 hN10 HOW HVB8 HBL8
 have HM1 := hI (HMN.out w10 (some ⟨g, 0, none⟩) N cap L2 ((HV6.out.below HBL10.out).more hs10) (by omega) HCP.out.1 HCP.out.2)
 go_wp2_with fail
 refine HM1.out.mono ?_
 rintro e w11 ⟨V11, c11, L11, rfl, hb11, hc11, bel11⟩
 have HB11 : Hid (Below W6.heap.size W6 w11) := hI (HBL10.out.trans (bel11.mono hs10))
 have hs11 : W6.heap.size ≤ w11.heap.size := HB11.out.size
 have HV11 := hI hb11
 have HC11 := hI hc11
 have HV10b : Hid (Bs w11 w11.heap.size V10 N10 L10) := hI ((HV10.out.below bel11).more bel11.size)
 clear bel11 hb11 hc11 HM1 HV10 HBL10
 have HM2 := hI (HMN.out w11 V4 k c4 LK ((HVK.out.below HB11.out).more hs11) (by omega) HKC.out.1 HC4.out.2)
 go_wp2_with fail
 refine HM2.out.mono ?_
 rintro e w12 ⟨V12, c12, L12, rfl, hb12, hc12, bel12⟩
 have HB12 : Hid (Below W6.heap.size W6 w12) := hI (HB11.out.trans (bel12.mono hs11))
 have hs12 : W6.heap.size ≤ w12.heap.size := HB12.out.size
 have HV12 := hI hb12
 have HC12 := hI hc12
 have HV11b : Hid (Bs w12 w12.heap.size V11 N L11) := hI ((HV11.out.below bel12).more bel12.size)
 have HM3 := hI (HMN.out w12 V10 N10 c10 L10 ((HV10b.out.below bel12).more bel12.size) hn10 HC10.out.1 HC10.out.2)
 clear bel12 hb12 hc12 HM2 HV11 HV10b HB11
 go_wp2_with fail
 refine HM3.out.mono ?_
 rintro e w13 ⟨V13, c13, L13, rfl, hb13, hc13, bel13⟩
 have HB13 : Hid (Below W6.heap.size W6 w13) := hI (HB12.out.trans (bel13.mono hs12))
 go_upto_region 9 with (fail)
 obtain ⟨W14, hW14⟩ : ∃ W14, W14 = w13.alloc (.cells #[.slice A n c, .slice V4 N c4, .slice (some ⟨g, 0, none⟩) N cap, .slice V11 N c11, .slice V4 k c4, .slice V12 k c12, .slice V13 N10 c13] 22) := ⟨_, rfl⟩
 obtain ⟨gl, hgl⟩ : ∃ g, g = w13.heap.size := ⟨_, rfl⟩
 rw [← hW14, ← hgl]
 have hb14 : Below w13.heap.size w13 W14 := by rw [hW14]; exact (Below.refl _ _).alloc (Nat.le_refl _) _
 have HKLB : Hid (Blk W14 gl 22 #[.slice A n c, .slice V4 N c4, .slice (some ⟨g, 0, none⟩) N cap, .slice V11 N c11, .slice V4 k c4, .slice V12 k c12, .slice V13 N10 c13]) := hI (by rw [hW14, hgl]; exact Blk.new _ _ _)
 have hb614 : Below W6.heap.size W6 W14 := HB13.out.trans (hb14.mono HB13.out.size)
 have HB14 : Hid (Below w.heap.size w W14) := hI (HB6.out.trans (hb614.mono hs6))
 have hs14 : w.heap.size ≤ W14.heap.size := HB14.out.size
 have hz614 : W6.heap.size ≤ W14.heap.size := hb614.size
 have hb1214 : Below w12.heap.size w12 W14 := bel13.trans (hb14.mono bel13.size)
 have HX : Hid (∀ k, k < 7 → SlB W14 gl k) := hI (by
  intro j hj
  have hj' : j = 0 ∨ j = 1 ∨ j = 2 ∨ j = 3 ∨ j = 4 ∨ j = 5 ∨ j = 6 := by omega
  rcases hj' with rfl | rfl | rfl | rfl | rfl | rfl | rfl
  · exact ⟨A, n, c, l, HKLB.out.cell 0, (HB.out.below HB14.out).more hs14, by omega, hc, hcm⟩
  · exact ⟨V4, N, c4, L, HKLB.out.cell 1, Bs.of_own (own_keep HO6.out hb614 (Nat.le_refl _)) HLB.out, by omega, HC4.out.1, HC4.out.2⟩
  · exact ⟨some ⟨g, 0, none⟩, N, cap, L2, HKLB.out.cell 2, (HV6.out.below hb614).more hz614, by omega, HCP.out.1, HCP.out.2⟩
  · exact ⟨V11, N, c11, L11, HKLB.out.cell 3, (HV11b.out.below hb1214).more hb1214.size, by omega, HC11.out.1, HC11.out.2⟩
  · exact ⟨V4, k, c4, LK, HKLB.out.cell 4, (HVK.out.below hb614).more hz614, by omega, HKC.out.1, HC4.out.2⟩
  · exact ⟨V12, k, c12, L12, HKLB.out.cell 5, (HV12.out.below hb1214).more hb1214.size, by omega, HC12.out.1, HC12.out.2⟩
  · exact ⟨V13, N10, c13, L13, HKLB.out.cell 6, (hb13.below hb14).more hb14.size, by omega, hc13.1, hc13.2⟩)
 have HT14 : Hid (Dt W14) := hI (HT.out.below HB14.out HT.out.1)
 have hglz : gl < W14.heap.size := HKLB.out.lt
 clear hW14 hgl hb14 hb614 hb13 hc13 bel13 hb1214 HB13 HM3 HKLB HB12 HV12 HV11b HVK HO6 HV6 HB HLB HMN HC10 HC11 HC12 HC4 HCP
 go_loopw [75] (fun x wr => ∃ k : Nat, k ≤ 7 ∧ x = .int .i64 k ∧ Hid (Below W14.heap.size W14 wr)) (fun x _ => 7 - (intOf x).toNat)
 case atStart => exact ⟨0, by omega, rfl, hI (Below.refl _ _)⟩
 case round =>
  obtain ⟨j, hj, rfl, HBr⟩ := hrel
  by_cases hlt : j < 7
  · have hj0 : (0 : Int) ≤ (j : Int) := by omega
    have hj1 : (j : Int) < 7 := by omega
    obtain ⟨A', n', c', l', hcell, hbs, hn', hc', hcm'⟩ := (HX.out j hlt).after HBr.out
    have hsr := HBr.out.size
    have hTr : Dt wr := HT14.out.below HBr.out HT14.out.1
    have HD := hI (dec_any A' n' c' l' wr hTr hbs (by unfold maxLen; omega) hc' hcm')
    have HDR := hI (fun (W : World) (hb : Below wr.heap.size wr W) => refdec_any A' n' c' l' W (hTr.below hb hTr.1) ((hbs.below hb).more hb.size) (by unfold maxLen; omega) hc' hcm')
    have hglr : gl < wr.heap.size := by omega
    clear hbs hTr
    generalize wr = wo at *
    go_wp2_with fail
    refine HD.out.mono ?_
    rintro e w15 ⟨al, bd, t, At, ct, rfl, hor, hg, hct, h80, hrg, hbl⟩
    go_upto_region 12 with (fail)
    obtain ⟨W16, hW16⟩ : ∃ W16, W16 = w15.alloc (.cells #[.int .i64 al, .slice At t.length ct] 29) := ⟨_, rfl⟩
    obtain ⟨gt, hgt⟩ : ∃ g, g = w15.heap.size := ⟨_, rfl⟩
    rw [← hW16, ← hgt]
    have hb16 : Below w15.heap.size w15 W16 := by rw [hW16]; exact (Below.refl _ _).alloc (Nat.le_refl _) _
    have HKT : Hid (Blk W16 gt 29 #[.int .i64 al, .slice At t.length ct]) := hI (by rw [hW16, hgt]; exact Blk.new _ _ _)
    have hbo : Below wo.heap.size wo W16 := hbl.trans (hb16.mono hbl.size)
    have HBO := hI hbo
    have HG16 : Hid (Gx W16 wo.heap.size W16.heap.size At t) := hI ((hg.keep (Kp.of_below hb16 (Nat.le_refl _))).more (Nat.le_refl _) hb16.size)
    have HDR16 := hI (HDR.out W16 hbo)
    have HOR := hI hor
    clear hW16 hgt hb16 hg hbl hcell hbo hor
    go_wp2_with fail
    refine HDR16.out.mono ?_
    rintro e w17 ⟨al', bd', t', At', ct', rfl, hor', hg', hct', h80', hrg', hbl'⟩
    obtain ⟨e1, e2, e3⟩ := dec_eq HOR.out hor'
    subst e1 e2 e3
    go_upto_region 13 with (fail)
    obtain ⟨W18, hW18⟩ : ∃ W18, W18 = w17.alloc (.cells #[.int .i64 al, .slice At' t.length ct'] 29) := ⟨_, rfl⟩
    obtain ⟨gu, hgu⟩ : ∃ g, g = w17.heap.size := ⟨_, rfl⟩
    rw [← hW18, ← hgu]
    have hb18 : Below w17.heap.size w17 W18 := by rw [hW18]; exact (Below.refl _ _).alloc (Nat.le_refl _) _
    have HKU : Hid (Blk W18 gu 29 #[.int .i64 al, .slice At' t.length ct']) := hI (by rw [hW18, hgu]; exact Blk.new _ _ _)
    have hb1618 : Below W16.heap.size W16 W18 := hbl'.trans (hb18.mono hbl'.size)
    have HKT18 := hI (HKT.out.after hb1618)
    have hm : t.length ≤ maxLen := by unfold maxLen; omega
    have HSM : Hid (Calls Tryd.prog 19 #[.agg #[.int .i64 al, .slice At t.length ct], .agg #[.int .i64 al, .slice At' t.length ct']] W18 fun e w' => e = .returned (.bool true) ∧ Below W18.heap.size W18 w') := hI ((refmsame_any al al At At' t t ct ct' W18 wo.heap.size W16.heap.size W16.heap.size w17.heap.size hb1618.size hb18.size (HG16.out.keep (Kp.of_below hb1618 (Nat.le_refl _))) (hg'.keep (Kp.of_below hb18 (Nat.le_refl _))) hm hm).mono (by
     rintro e w' ⟨rfl, hb⟩
     exact ⟨by rw [sameTg_refl'], hb⟩))
    have HB18 : Hid (Below W14.heap.size W14 W18) := hI (HBr.out.trans ((HBO.out.trans (hb1618.mono HBO.out.size)).mono hsr))
    clear hW18 hgu hb18 hb1618 hg' hbl' hct hct' h80 h80' hrg hrg' hor' HKT HG16 HDR HDR16 HOR HBO
    generalize decE l' = de at *
    obtain ⟨q0, q1, -, -, qz⟩ := HKT18.out.c2
    obtain ⟨p0, p1, -, -, pz⟩ := HKU.out.c2
    go_wp2_with fail
    refine HSM.out.mono ?_
    rintro e w19 ⟨rfl, bel19⟩
    have HB19 := hI (HB18.out.trans (bel19.mono HB18.out.size))
    clear bel19 q0 q1 qz p0 p1 pz HSM HKT18 HKU
    go_wp2
    go_roundw
    case rel => exact ⟨j + 1, by omega, by go_num, HB19⟩
    case measure => simp [intOf]; omega
  · have hj7 : j = 7 := by omega
    subst hj7
    go_wp2
    go_ret
    exact ⟨rfl, HB14.out.trans (HBr.out.mono hs14)⟩
end Go.Proofs.YtinfeglhjmnlaaaDoor.pm
