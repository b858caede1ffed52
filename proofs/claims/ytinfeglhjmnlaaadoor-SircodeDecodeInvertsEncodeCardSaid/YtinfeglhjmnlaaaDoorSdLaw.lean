/- SircodeDecodeInvertsEncode: the walk of the law. -/
import Derived.Test.YtinfeglhjmnlaaaDoorYp
import Derived.Test.YtinfeglhjmnlaaaDoorYq
import Derived.Test.YtinfeglhjmnlaaaDoorGPe
namespace Go.Proofs.YtinfeglhjmnlaaaDoor.pm
open Go.RowKit
set_option linter.unusedVariables false
set_option maxRecDepth 10000

theorem sdec_at {p : List Fn} {L : List Nat} (h : decS L = 0) (hp : parF L = p) (A : Option Addr) (N c : Nat) (w : World) (hT : Tb w) (hb : Bs w w.heap.size A N L) (hn : N ≤ maxLen) (hc : N ≤ c) (hcm : c ≤ maxLen) :
    Calls Tryd.prog 32 #[.slice A N c] w fun e w' => ∃ At ct, e = .returned (.tuple #[.agg #[.slice At p.length ct], .int .i64 0]) ∧ Fx w' w.heap.size w'.heap.size At p ∧ p.length ≤ ct ∧ Below w.heap.size w w' := by
  refine (sDecode_any A N c L w hT hb hn hc hcm).mono ?_
  rintro e w' ⟨At, ct, rfl, hf, hct, hbl⟩
  have h2 : decP L = p := by unfold decP; rw [if_pos h, hp]
  rw [h2] at hf hct ⊢
  exact ⟨At, ct, by rw [h], hf, hct, hbl⟩
theorem sdec_no {L : List Nat} {r : Int} (h : decS L = r) (h0 : r ≠ 0) (A : Option Addr) (N c : Nat) (w : World) (hT : Tb w) (hb : Bs w w.heap.size A N L) (hn : N ≤ maxLen) (hc : N ≤ c) (hcm : c ≤ maxLen) :
    Calls Tryd.prog 32 #[.slice A N c] w fun e w' => ∃ At ct, e = .returned (.tuple #[.agg #[.slice At 0 ct], .int .i64 r]) ∧ Below w.heap.size w w' := by
  refine (sDecode_any A N c L w hT hb hn hc hcm).mono ?_
  rintro e w' ⟨At, ct, rfl, hf, hct, hbl⟩
  have h2 : decP L = [] := by unfold decP; rw [if_neg (by rw [h]; exact h0)]
  exact ⟨At, ct, by rw [h, h2]; rfl, hbl⟩
set_option maxHeartbeats 8000000 in
theorem sd_law (A : Option Addr) (n c : Nat) (l : List Nat) (x : Int) (x0 : -9223372036854775808 ≤ x) (x1 : x ≤ 9223372036854775807) (y : Nat) (hy : y < 256) (w : World) (hT : Dt w) (hS : Tb w) (hb : Bs w w.heap.size A n l) (hn : n ≤ maxLen) (hc : n ≤ c) :
    Calls Tryd.prog 9 #[.slice A n c, .int .i64 x, .int .u8 y] w fun e w' => e = .returned (.bool true) ∧ Below w.heap.size w w' := by
  have HB := Lib.hid hb
  have HT := Lib.hid hT
  have HSB := Lib.hid hS
  have HX0 := Lib.hid x0
  have HX1 := Lib.hid x1
  clear hb hT hS x0 x1
  obtain ⟨i0, hi0, hz0, hz1, hz2⟩ := info_parts info_u8
  go_enter Tryd.func9, Tryd.ntmps9
  go_wp2_with fail
  refine (awake06 _ HT.out HSB.out).mono ?_
  rintro e w1 ⟨rfl, b1⟩
  have HB1 := Lib.hid b1
  have hs1 := b1.size
  have HBS1 : Hid (Bs w1 w1.heap.size A n l) := Lib.hid ((HB.out.below b1).more hs1)
  clear b1
  go_wp2_with fail
  refine (newcodes_any A n c l 300 _ hn hc (by omega)).mono ?_
  rintro e w2 ⟨rfl, hw2⟩
  have HC2 : Hid (CodesAt w2 w1.heap.size w1.heap.size A (min n 300) c (l.take (min n 300)) 0) := Lib.hid (by
    rw [hw2]
    exact ⟨Blk.newAt rfl, ((HBS1.out.take (Nat.min_le_left _ _)).alloc (by omega) _), Nat.zero_le _, Nat.le_refl _, by omega⟩)
  have HB2 : Hid (Below w.heap.size w w2) := Lib.hid (by rw [hw2]; exact HB1.out.alloc (by omega) _)
  have hs2 : w2.heap.size = w1.heap.size + 1 := by rw [hw2]; simp
  generalize min n 300 = m at *
  generalize l.take m = l' at *
  clear hw2 HBS1
  go_wp2_with fail
  refine (program_d _ _ _ _ _ _ _ 5 12 _ HC2.out (by omega) (by omega) (by omega)).mono ?_
  rintro e w3 ⟨t0, Ax, cx, p3, rfl, htx, hcx, hgx, c3, g3⟩
  have HGX := Lib.hid hgx
  have HTP := Lib.hid htx
  have HB3 : Hid (Below w.heap.size w w3) := Lib.hid (HB2.out.trans (below_of_grown g3 hs1 HB2.out.size))
  have hs3 : w2.heap.size ≤ w3.heap.size := g3.size
  clear c3 g3 hgx htx HC2 hcx
  go_upto_region 4 with (fail)
  obtain ⟨W4, hW4⟩ : ∃ W4, W4 = w3.alloc (.cells #[.slice Ax t0.length cx] 44) := ⟨_, rfl⟩
  obtain ⟨g9, hg9⟩ : ∃ g, g = w3.heap.size := ⟨_, rfl⟩
  rw [← hW4, ← hg9]
  have hb4 : Below w3.heap.size w3 W4 := by rw [hW4]; exact (Below.refl _ _).alloc (Nat.le_refl _) _
  have HK4 : Hid (Blk W4 g9 44 #[.slice Ax t0.length cx]) := Lib.hid (by rw [hW4, hg9]; exact Blk.new _ _ _)
  have HGX4 : Hid (Fx W4 w2.heap.size w3.heap.size Ax t0) := Lib.hid (HGX.out.keep (Kp.of_below hb4 (Nat.le_refl _)))
  have HB4 := Lib.hid (HB3.out.trans (hb4.mono HB3.out.size))
  have hs4 : w3.heap.size ≤ W4.heap.size := hb4.size
  have hx5 : t0.length ≤ maxLen := by have := HTP.out.2.1; unfold maxLen; omega
  have HT4 : Hid (Dt W4) := Lib.hid (HT.out.below HB4.out HT.out.1)
  have HS4 : Hid (Tb W4) := Lib.hid (HSB.out.below HB4.out)
  clear hW4 hb4 HGX HB3 HB2 hg9
  have hde := drawn_sen HTP.out (by omega)
  obtain ⟨L, hL⟩ : ∃ L, L = senB t0 := ⟨_, rfl⟩
  have hdd := dec_sen hde.2.1 hde.1
  have HCH : Hid (∀ k z, k < L.length → z < 256 → (∀ h : k < L.length, z ≠ L[k]) → decS (L.set k z) = 2) := Lib.hid (fun k z hk hz hne => by
    subst hL
    exact (sen_changed hde.2.1 hde.1 hk hz (hne hk)).2)
  have hlb := sen_bytes hde.2.1
  rw [← hL] at hde hdd hlb
  obtain ⟨N, hN⟩ : ∃ N, L.length = N := ⟨_, rfl⟩
  have HN := Lib.hid hN
  have hN1 : 9 ≤ N ∧ N ≤ 600000 := by have := hde.2.2; omega
  have hN2 : N ≤ maxLen := by unfold maxLen; omega
  have HLB : Hid (∀ x ∈ L, x < 256) := Lib.hid hlb
  have HEN : Hid (Calls Tryd.prog 25 #[.agg #[.slice Ax t0.length cx]] W4 fun e w' => ∃ V c, e = .returned (.tuple #[.slice V N c, .int .i64 0]) ∧ w'.ownsRow W4.heap.size 5 1 (.slice V N c) N (nb L) ∧ Below W4.heap.size W4 w') := Lib.hid ((senc_any Ax t0 cx w2.heap.size w3.heap.size W4 HT4.out HS4.out HGX4.out hs4 hx5 (pr_fnr HTP.out) hde.2.1).mono (by
    rintro e w' ⟨V, c, rfl, ho, hb⟩
    rw [← hL, hN] at ho
    exact ⟨V, c, by rw [← hL, hN, hde.1], ho, hb⟩))
  have HDC := Lib.hid (fun (W : World) (V : Option Addr) (c : Nat) (ht : Tb W) (hb : Bs W W.heap.size V N L) (h1 : N ≤ c) (h2 : c ≤ maxLen) => sdec_at hdd.2.2.2 hdd.2.1 V N c W ht hb hN2 h1 h2)
  clear hde hdd hlb hL hN
  obtain ⟨q0, -, qz⟩ := HK4.out.c1
  go_wp2_with fail
  refine HEN.out.mono ?_
  rintro e w5 ⟨V5, c5, rfl, own5, bel5⟩
  have HB5 := Lib.hid (HB4.out.trans (bel5.mono HB4.out.size))
  have HK5 := Lib.hid (HK4.out.after bel5)
  have HO5 := Lib.hid own5
  have HGX5 : Hid (Fx w5 w2.heap.size w3.heap.size Ax t0) := Lib.hid (HGX4.out.keep (Kp.of_below bel5 hs4))
  have hs5 : W4.heap.size ≤ w5.heap.size := bel5.size
  have HD5 := Lib.hid (HDC.out w5 V5 c5 (HSB.out.below HB5.out) (Bs.of_own own5 HLB.out) (own_capM own5).1 (own_capM own5).2)
  clear own5 bel5 q0 qz HEN HK4 HGX4 HB4 HT4
  go_wp2_with fail
  refine HD5.out.mono ?_
  rintro e w6 ⟨A6, c6, rfl, hg6, hc6, bel6⟩
  have HB6 := Lib.hid (HB5.out.trans (bel6.mono HB5.out.size))
  have HK6 := Lib.hid (HK5.out.after bel6)
  have HO6 := Lib.hid (own_keep HO5.out bel6 (Nat.le_refl _))
  have HGX6 : Hid (Fx w6 w2.heap.size w3.heap.size Ax t0) := Lib.hid (HGX5.out.keep (Kp.of_below bel6 (by omega)))
  have hs6 : w5.heap.size ≤ w6.heap.size := bel6.size
  have HGY6 := Lib.hid hg6
  clear bel6 hg6 hc6 HD5 HK5 HO5 HGX5 HB5
  go_upto_region 6 with (fail)
  obtain ⟨W7, hW7⟩ : ∃ W7, W7 = w6.alloc (.cells #[.slice A6 t0.length c6] 44) := ⟨_, rfl⟩
  obtain ⟨g13, hg13⟩ : ∃ g, g = w6.heap.size := ⟨_, rfl⟩
  rw [← hW7, ← hg13]
  have hb7 : Below w6.heap.size w6 W7 := by rw [hW7]; exact (Below.refl _ _).alloc (Nat.le_refl _) _
  have HK7 := Lib.hid (HK6.out.after hb7)
  have HY7 : Hid (Blk W7 g13 44 #[.slice A6 t0.length c6]) := Lib.hid (by rw [hW7, hg13]; exact Blk.new _ _ _)
  have HB7 := Lib.hid (HB6.out.trans (hb7.mono HB6.out.size))
  have hs7 : w6.heap.size ≤ W7.heap.size := hb7.size
  have HO7 := Lib.hid (own_keep HO6.out hb7 (Nat.le_refl _))
  have HSM : Hid (Calls Tryd.prog 34 #[.agg #[.slice Ax t0.length cx], .agg #[.slice A6 t0.length c6]] W7 fun e w' => e = .returned (.bool true) ∧ Below W7.heap.size W7 w') := Lib.hid ((refsame_any Ax A6 t0 t0 cx c6 W7 w2.heap.size w3.heap.size w5.heap.size w6.heap.size (by omega) hs7 (HGX6.out.keep (Kp.of_below hb7 (by omega))) (HGY6.out.keep (Kp.of_below hb7 (Nat.le_refl _))) hx5 hx5).mono (by
    rintro e w' ⟨rfl, hb⟩
    exact ⟨by rw [eqF_refl], hb⟩))
  clear hW7 hb7 hg13 HK6 HO6 HGX6 HGY6 HB6
  obtain ⟨q0, -, qz⟩ := HK7.out.c1
  obtain ⟨y0, -, yz⟩ := HY7.out.c1
  have hN0 : ((N : Int) == 0) = false := by simp; omega
  go_wp2_with fail
  refine HSM.out.mono ?_
  rintro e w8 ⟨rfl, bel8⟩
  have HB8 := Lib.hid (HB7.out.trans (bel8.mono HB7.out.size))
  have HO8 := Lib.hid (own_keep HO7.out bel8 (Nat.le_refl _))
  clear bel8 q0 qz y0 yz HSM HK7 HY7 HO7 HB7
  have hNp : (0 : Int) < (N : Int) := by omega
  have hs8 : w.heap.size ≤ w8.heap.size := HB8.out.size
  have HBS8 : Hid (Bs w8 w8.heap.size V5 N L) := Lib.hid (Bs.of_own HO8.out HLB.out)
  go_upto_region 8 with (fail)
  go_wp2_with (at_builtin; refine wpList_append_any _ rfl (.const (.slice none 0 0)) (.tmp 47) _ rfl w8.heap.size 5 i0 _ 1 1 Tryd.underlying22 hi0 hz0 hz1 hz2 rfl (by omega) (.slice none 0 0) 0 [] rfl (World.ownsRow_nil _ _ _ _) _ V5 N c5 (nb L) rfl HBS8.out.1 (nb_one L) (by unfold maxLen; omega) (by omega) (by simp) ?_; intro o1 w9 own9' hg9' hat9'; have own9 : w9.ownsRow w8.heap.size 5 1 o1 N (nb L) := (by simpa using own9'); obtain ⟨g, cap, rfl, hg, hglt⟩ := own9.form (by omega))
  have bel9 : Below w8.heap.size w8 w9 := below_append (Below.refl _ _) (World.ownsRow_nil w8 w8.heap.size 5 1) hg9' (Nat.le_refl _) (by simp)
  have HB9 := Lib.hid (HB8.out.trans (bel9.mono hs8))
  clear own9' hg9' hat9' bel9
  refine (mod_any x HX0.out HX1.out N (by omega) (by omega) w9).mono ?_
  rintro e w10 ⟨rfl, rfl⟩
  have hk := modOf_lt x N (by omega)
  generalize modOf x N = k at *
  have HCP := Lib.hid (own_capM own9)
  have hk0 : (0 : Int) ≤ (k : Int) := by omega
  have hki : (k : Int) < (N : Int) := by omega
  have hkL : k < L.length := by have := HN.out; omega
  have hcell := own9.cellAt k (by omega)
  have hfr := own9.frozenAt k
  rw [nb_get, List.getElem?_eq_getElem hkL] at hcell
  obtain ⟨u, hu⟩ : ∃ u, u = L[k] := ⟨_, rfl⟩
  have hcell2 : w9.cell? ⟨g, k, none⟩ = some (.int .u8 ((u : Nat) : Int)) := by rw [hu]; exact hcell
  have hst := own9.stored k
  have HS := Lib.hid hst
  have HKL := Lib.hid hkL
  have hx8 : u < 256 := by rw [hu]; exact HLB.out (L[k]) (List.getElem_mem _)
  have hgw : w.heap.size ≤ g := by omega
  clear hcell hst own9
  have HU := Lib.hid hu
  clear hu
  have hx1 : bits .xor .u8 (u : Int) 1 = ((u ^^^ 1 : Nat) : Int) := u8_xor_nat u 1 hx8 (by decide)
  have hxy := u8_xor_nat u y hx8 hy
  go_wp2_with fail
  all_goals clear hx1 hxy
  have hzz : ∃ z : Nat, z = u ^^^ 1 ∧ z < 256 ∧ z ≠ u := ⟨_, rfl, Nat.xor_lt_two_pow (n := 8) hx8 (by decide), xor_ne (by decide)⟩
  rotate_left
  have hzz : ∃ z : Nat, z = u ^^^ y ∧ z < 256 ∧ z ≠ u := ⟨_, rfl, Nat.xor_lt_two_pow (n := 8) hx8 hy, xor_ne (by omega)⟩
  all_goals
    obtain ⟨z, hz, hz256, hzu⟩ := hzz
    rw [← hz]
    clear hz
    obtain ⟨own11, hgr⟩ := HS.out (.int .u8 (z : Nat))
    have bel11 : Below w.heap.size w (w9.setCell ⟨g, k, none⟩ (.int .u8 (z : Nat))) := HB9.out.setCell hgw _
    have hset : (nb L).set k (.int .u8 (z : Nat)) = nb (L.set k z) := by simp [nb, List.map_set]
    rw [hset] at own11
    have hl2 : ∀ x ∈ L.set k z, x < 256 := fun x hx => by
      rcases List.mem_or_eq_of_mem_set hx with h | h
      · exact HLB.out x h
      · omega
    have B2 := Bs.of_own own11 hl2
    have H2 := Lib.hid bel11
    have HDE := Lib.hid (sdec_no (HCH.out k z HKL.out hz256 (fun h => by have := HU.out; omega)) (by decide) (some ⟨g, 0, none⟩) N cap _ (HSB.out.below bel11) B2 hN2 HCP.out.1 HCP.out.2)
    clear hcell2 hfr hgr own11 hl2 bel11 hset HS B2
    generalize w9.setCell ⟨g, k, none⟩ (.int .u8 (z : Nat)) = W11 at *
    refine HDE.out.mono ?_
    rintro e w12 ⟨A12, c12, rfl, bel12⟩
    have H3 := Lib.hid ((H2.out.trans (bel12.mono H2.out.size)).alloc (Nat.le_trans H2.out.size bel12.size) (.cells #[.slice A12 0 c12] 44))
    clear bel12 HDE
    go_wp2
    go_ret
    exact ⟨rfl, H3.out⟩
theorem sd_lawB (A : Option Addr) (n c : Nat) (l : List Nat) (x : Int) (x0 : -9223372036854775808 ≤ x) (x1 : x ≤ 9223372036854775807) (y : Nat) (hy : y < 256) (w : World) (h : Dt w ∧ Tb w) (hb : Bs w w.heap.size A n l) (hn : n ≤ maxLen) (hc : n ≤ c) :
    Calls Tryd.prog 9 #[.slice A n c, .int .i64 x, .int .u8 y] w fun e w' => e = .returned (.bool true) ∧ Below w.heap.size w w' := sd_law A n c l x x0 x1 y hy w h.1 h.2 hb hn hc
end Go.Proofs.YtinfeglhjmnlaaaDoor.pm
