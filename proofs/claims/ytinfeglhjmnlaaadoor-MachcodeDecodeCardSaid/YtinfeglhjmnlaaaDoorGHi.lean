/- Bytes of targets, the reference: Encode, a right target. -/
import Derived.Test.YtinfeglhjmnlaaaDoorGHh
namespace Go.Proofs.YtinfeglhjmnlaaaDoor.pm
open Go.RowKit
set_option linter.unusedVariables false
set_option maxRecDepth 10000
attribute [local go_sem ↓] Go.wp_at_zero Go.wp_at_succ

section
variable {al bd : Int} {t : List Fr} {A : Option Addr} {ct lo hi : Nat}
set_option maxHeartbeats 4000000 in
theorem refencode_ok (h64 : RgT al t) (ht : tgE al t = 0) (hbd : 0 ≤ bd ∧ bd ≤ 2147483647) (w : World) (hg : Gx w lo hi A t) (hh : hi ≤ w.heap.size) (hm : t.length ≤ maxLen) :
    Calls Tryd.prog 12 #[.agg #[.int .i64 al, .slice A t.length ct], .int .i64 bd] w (EncD al bd t w) := by
  have het := et_of (h64.rt ht)
  obtain ⟨W1, hW1⟩ : ∃ W1, W1 = w.alloc (.cells #[.int .i64 al, .slice A t.length ct] 29) := ⟨_, rfl⟩
  have hB1 : Below w.heap.size w W1 := by rw [hW1]; exact (Below.refl _ _).alloc (Nat.le_refl _) _
  have HKT : Hid (Blk W1 w.heap.size 29 #[.int .i64 al, .slice A t.length ct]) := Lib.hid (by rw [hW1]; exact Blk.new _ _ _)
  have HC := Lib.hid (ht ▸ refcheck10_any A ct h64.1 W1 lo hi (hg.keep (Kp.of_below hB1 hh)) (by have := hB1.size; omega) hm)
  have HB1 := Lib.hid hB1
  have HW1 := Lib.hid hW1
  obtain ⟨c0, c1, -, -, cz⟩ := HKT.out.c2
  obtain ⟨i0, hi0, hz0, hz1, hz2⟩ := info_parts info_u8
  have HET := Lib.hid het
  obtain ⟨kk, hkk, hal⟩ := het.pw
  have hlog : Nat.log2 al.toNat = kk := by rw [hal, Int.toNat_natCast, Nat.log2_two_pow]
  have HG := Lib.hid hg
  have HLOG := Lib.hid hlog
  have hcap := het.len
  obtain ⟨nf, hnf⟩ : ∃ n, n = t.length := ⟨_, rfl⟩
  have HNF := Lib.hid hnf
  have HBD := Lib.hid hbd
  have HTE := Lib.hid ht
  have hbb : bndB bd = true := by unfold bndB; exact inB_t.2 (by omega)
  have HBN := Lib.hid (fun W => hbb ▸ refbnd_any bd W)
  have hal1 := het.pos
  have HAL := Lib.hid hal
  clear hg hW1 hB1 h64 ht hbd het hal hlog hbb
  rw [← hnf] at HC HKT HW1 c1 hcap ⊢
  clear hnf
  go_enter Tryd.func12, Tryd.ntmps12
  go_upto_region 1 with (fail)
  rw [← HW1.out]
  go_wp2_with fail
  refine HC.out.mono ?_
  rintro e w2 ⟨rfl, bel⟩
  have HB2 := Lib.hid (HB1.out.trans (bel.mono HB1.out.size))
  have HKT2 := Lib.hid (HKT.out.after bel)
  clear bel HC HKT c0 c1 cz
  obtain ⟨c0, c1, -, -, cz⟩ := HKT2.out.c2
  go_wp2_with fail
  refine (HBN.out _).mono ?_
  rintro e w' ⟨rfl, rfl⟩
  clear HBN
  go_upto_region 8 with (fail)
  clear c0 c1 cz
  go_loopw [7, 8] (fun x y wr => ∃ (m i : Nat) (z : Int), m + i = kk ∧ z = ((2 ^ m : Nat) : Int) ∧ x = .int .u64 (i : Int) ∧ y = .int .i64 z ∧ w2 = wr) (fun _ y _ => (intOf y).toNat)
  case atStart => exact ⟨kk, 0, al, by omega, HAL.out, rfl, rfl, rfl⟩
  case round =>
    obtain ⟨m, i, z, hmi, hz, rfl, rfl, rfl⟩ := hrel
    rcases m with _ | m
    · have hz' : z = 1 := by rw [hz]; rfl
      have hi : i = kk := by omega
      subst hz' hi
      clear hz hmi
      have hcv := Lib.run_convert_bytes_const (P := Tryd.prog) w2 22 5 #[.int .u8 70, .int .u8 82, .int .u8 77, .int .u8 49] 4 4 Tryd.underlying22 Tryd.underlying5
      obtain ⟨W3, hW3⟩ : ∃ W3, W3 = w2.alloc (.cells #[.int .u8 70, .int .u8 82, .int .u8 77, .int .u8 49] 5 (4, 5)) := ⟨_, rfl⟩
      have hbl : Below w2.heap.size w2 W3 := by rw [hW3]; exact (Below.refl _ _).alloc (Nat.le_refl _) _
      have hz2 : w.heap.size ≤ w2.heap.size := HB2.out.size
      have HOW : Hid (OwM W3 w.heap.size (.slice (some ⟨w2.heap.size, 0, none⟩) 4 4) 4 (nb mgT)) := Lib.hid (.inr ⟨w2.heap.size, #[.int .u8 70, .int .u8 82, .int .u8 77, .int .u8 49], (4, 5), rfl, hz2, by rw [hW3, heap_alloc_new], rfl, rfl, by decide⟩)
      have HMB : Hid (Bs W3 W3.heap.size (some ⟨w2.heap.size, 0, none⟩) 4 mgT) := Lib.hid (HOW.out.bs (by decide))
      have HB3 := Lib.hid (HB2.out.trans (hbl.mono hz2))
      have HKT3 := Lib.hid (HKT2.out.after hbl)
      have HPU := Lib.hid (refput_any (some ⟨w2.heap.size, 0, none⟩) 4 4 mgT i (by omega) W3 W3.heap.size HMB.out (Nat.le_refl _) (by decide))
      have hz3 : w.heap.size ≤ W3.heap.size := HB3.out.size
      have HW3 := Lib.hid hW3
      clear hW3 hbl HOW HMB
      go_wp2_with (rw [← HW3.out]; refine HPU.out.mono ?_; rintro e w4 ⟨r4, rfl, own4, bel4⟩)
      obtain ⟨L4, hL4⟩ : ∃ l, l = mgT ++ put i := ⟨_, rfl⟩
      rw [← hL4] at own4
      obtain ⟨V4, c4, rfl, _⟩ := own_form own4
      have HO4 : Hid (OwL w.heap.size L4 V4 c4 w4) := Lib.hid (own_less own4 hz3)
      have HB4 := Lib.hid (HB3.out.trans (bel4.mono hz3))
      have HKT4 := Lib.hid (HKT3.out.after bel4)
      have hz4 : w.heap.size ≤ w4.heap.size := HB4.out.size
      have hll4 : L4.length ≤ 14 := by
        have h1 := (put_len i).2
        rw [hL4]
        simp only [List.length_append, mgT, List.length_cons, List.length_nil]
        omega
      have HBY4 : Hid (∀ y ∈ L4, y < 256) := Lib.hid (by
        rw [hL4]
        exact put_bytes (by decide) (by omega))
      have HL4 := Lib.hid hL4
      clear own4 bel4 HPU HW3 HKT3 HB3 hcv hL4 hz2 HKT2 HB2
      obtain ⟨bn, hbn⟩ : ∃ n : Nat, (n : Int) = bd := ⟨bd.toNat, by have := HBD.out; omega⟩
      have hbn31 : bn ≤ 2147483647 := by have := HBD.out; omega
      have hw2 : IntKind.u64.wrap bd = (bn : Int) := by rw [← hbn]; exact IntWalk.u64_in _ (by omega)
      have hw3 : IntKind.u64.wrap (nf : Int) = (nf : Int) := IntWalk.u64_in _ (by omega)
      have HBN := Lib.hid hbn
      have HKK := Lib.hid hkk
      have HBN31 := Lib.hid hbn31
      have HLL4 := Lib.hid hll4
      have HCAP := Lib.hid hcap
      clear hbn hkk hbn31 hll4 hcap
      obtain ⟨L5, hL5⟩ : ∃ l, l = L4 ++ put bn := ⟨_, rfl⟩
      obtain ⟨L6, hL6⟩ : ∃ l, l = L5 ++ put nf := ⟨_, rfl⟩
      have HL5 := Lib.hid hL5
      have HL6 := Lib.hid hL6
      have HBY5 : Hid (∀ y ∈ L5, y < 256) := Lib.hid (by rw [hL5]; exact put_bytes HBY4.out (by have := HBN31.out; omega))
      have HBY6 : Hid (∀ y ∈ L6, y < 256) := Lib.hid (by rw [hL6]; exact put_bytes HBY5.out (by have := HCAP.out; omega))
      have HLL6 : Hid (L5.length ≤ 24 ∧ L6.length ≤ 34) := Lib.hid (by
        have h1 := (put_len bn).2
        have h2 := (put_len nf).2
        have h3 := HLL4.out
        rw [hL6, hL5]
        simp only [List.length_append]
        omega)
      have HPA := Lib.hid (fun (W : World) (h : Below w4.heap.size w4 W) => hL5 ▸ HO4.out.put h HBY4.out (show bn < 18446744073709551616 by have := HBN31.out; omega) (by have := HLL4.out; omega) hz4)
      have HPB := Lib.hid (fun (V : Option Addr) (c : Nat) (W : World) (h : OwL w.heap.size L5 V c W) (hz : w.heap.size ≤ W.heap.size) => hL6 ▸ h.put (Below.refl _ _) HBY5.out (show nf < 18446744073709551616 by have := HCAP.out; omega) (by have := HLL6.out; omega) hz)
      clear hL5 hL6
      obtain ⟨c0, c1, -, -, cz⟩ := HKT4.out.c2
      go_cut [9] (fun s wx => ∃ V c, s = .slice V L6.length c ∧ OwL w.heap.size L6 V c wx ∧ Below w4.heap.size w4 wx)
      case first =>
        go_region_with (first
          | (have hX := CC1; go_at_call 37; refine (HPB.out _ _ _ CC1.out.1 (by have := CC1.out.2.size; omega)).mono ?_; rintro e v2 ⟨V6, c6, rfl, own6, bel6⟩; have CC2 := Lib.hid (CC1.out.2.trans (bel6.mono CC1.out.2.size)))
          | (go_at_call 37; refine (HPA.out _ ?_).mono ?_; (first | exact (Below.refl _ _).drew | exact (Below.refl _ _)); rintro e v1 ⟨V5, c5, rfl, own5, bel5⟩; have hbel5 : Below w4.heap.size w4 v1 := ((Below.refl _ _).drew).trans bel5; have CC1 := Lib.hid (⟨own5, hbel5⟩ : OwL w.heap.size L5 V5 c5 v1 ∧ Below w4.heap.size w4 v1); obtain ⟨k0, k1, -, -, kz⟩ := (HKT4.out.after hbel5).c2))
        all_goals (go_wp2_with fail; go_meet; exact ⟨V6, c6, rfl, own6, CC2.out⟩)
      case rest =>
        obtain ⟨V6, c6, rfl, own6, bel6⟩ := hcut
        have HL6E : Hid (L6 = headT al bd t.length) := Lib.hid (by
          rw [HL6.out, HL5.out, HL4.out]
          unfold headT
          rw [HLOG.out, ← HBN.out, Int.toNat_natCast, HNF.out])
        have HO6 := Lib.hid own6
        have HB6 := Lib.hid (HB4.out.trans (bel6.mono hz4))
        have HKT6 := Lib.hid (HKT4.out.after bel6)
        have hz6 : w.heap.size ≤ wc.heap.size := HB6.out.size
        have hll6 : L6.length ≤ 34 := HLL6.out.2
        clear own6 bel6 HPA HPB HO4 HB4 HKT4 hz4 HBY4 HL4 hw2 hw3 HBN HKK HBN31 HLL4 HL5 HL6 HBY5 HLL6 c0 c1 cz hz3 HLOG
        generalize wc = w6 at *
        go_upto_region 14 with (fail)
        go_loopw [9, 10] (fun b x wr => ∃ (k : Nat) (V : Option Addr) (c : Nat) (L : List Nat), k ≤ nf ∧ x = .int .i64 k ∧ b = .slice V L.length c ∧ Hid (L = L6 ++ (t.take k).flatMap (encF al)) ∧ Hid (OwL w.heap.size L V c wr) ∧ Hid (NB w.heap.size w6 wr)) (fun _ x _ => nf - (intOf x).toNat)
        case atStart => exact ⟨0, V6, c6, L6, by omega, rfl, rfl, Lib.hid (by simp), HO6, Lib.hid (NB.refl _ _)⟩
        case round =>
          obtain ⟨k, V, c, L, hk, rfl, rfl, HL, HO, HP⟩ := hrel
          clear HO6
          obtain ⟨d0, d1, -, -, dz⟩ := (HP.out.blk HKT6.out (by decide)).c2
          by_cases hlt : k < nf
          · have hk0 : (0 : Int) ≤ (k : Int) := by omega
            have hk1 : (k : Int) < (nf : Int) := by omega
            have hkt : k < t.length := by rw [← HNF.out]; exact hlt
            have hk80 : k ≤ 80 := by have := HCAP.out; omega
            have HBW := Lib.hid (HB6.out.trans HP.out.2)
            obtain ⟨ad, Ai, ci, rfl, hb, f0, f1, f2, -, -, nx, hn1, hn2⟩ := (HG.out.keep (Kp.of_below HBW.out hh)).whole hkt
            obtain ⟨f, hff⟩ : ∃ f, f = t.getD k Fr.z := ⟨_, rfl⟩
            rw [← hff] at f0 f1 f2 nx hn1 hn2
            have HEF : Hid (EF al f) := Lib.hid (by rw [hff]; exact HET.out.fr _ (getD_mem' hkt))
            have HTK := Lib.hid (hff ▸ flat_take (encF al) t hkt Fr.z)
            obtain ⟨prm, sz, code⟩ := f
            obtain ⟨nc, hnc⟩ : ∃ nc, nc = code.length := ⟨_, rfl⟩
            simp only at f0 f1 f2 nx hn1 hn2
            rw [← hnc] at f2 hn1 hn2
            have HNC := Lib.hid hnc
            have HNX := Lib.hid nx
            have hwz := HP.out.1.1
            clear hff hnc nx hb
            generalize wr = wo at *
            go_upto_region 17 with (fail)
            obtain ⟨W7, hW7⟩ : ∃ W7, W7 = wo.alloc (.cells #[.int .i64 prm, .int .i64 sz, .slice Ai nc ci] 61) := ⟨_, rfl⟩
            obtain ⟨gf, hgf⟩ : ∃ g, g = wo.heap.size := ⟨_, rfl⟩
            have hbl7 : Below wo.heap.size wo W7 := by rw [hW7]; exact (Below.refl _ _).alloc (Nat.le_refl _) _
            have HKF : Hid (Blk W7 gf 61 #[.int .i64 prm, .int .i64 sz, .slice Ai nc ci]) := Lib.hid (by rw [hW7, hgf]; exact Blk.new _ _ _)
            have HO7 : Hid (OwL w.heap.size L V c W7) := Lib.hid (own_keep HO.out hbl7 (Nat.le_refl _))
            have HP7 : Hid (NB w.heap.size w6 W7) := Lib.hid (HP.out.trans (NB.of_below hbl7 (by omega)))
            have HWO7 : Hid (Below w.heap.size wo W7) := Lib.hid (hbl7.mono (by omega))
            have HKT7 := Lib.hid (HP7.out.blk HKT6.out (by decide))
            rw [← hW7, ← hgf]
            have hw7 : w.heap.size ≤ W7.heap.size := by have := hbl7.size; omega
            clear hW7 hgf HO HP f0 f1 f2 d0 d1 dz hwz HBW hbl7
            obtain ⟨pn, hpn⟩ : ∃ n : Nat, (n : Int) = prm := ⟨prm.toNat, by have := HEF.out.prm; simp only at this; omega⟩
            have hdv := div_le' hal1 HEF.out.size.1
            simp only at hdv
            obtain ⟨qn, hqn⟩ : ∃ n : Nat, (n : Int) = sz / al := ⟨(sz / al).toNat, by omega⟩
            have hpr := HEF.out.prm
            have hsr := HEF.out.size
            have hcr := HEF.out.nc
            simp only at hpr hsr hcr
            rw [← HNC.out] at hcr
            have hw1 : IntKind.u64.wrap prm = (pn : Int) := by rw [← hpn]; exact IntWalk.u64_in _ (by omega)
            have hq1 : sz.tdiv al = (qn : Int) := by rw [hqn, Int.tdiv_eq_ediv_of_nonneg hsr.1]
            have hq2 : IntKind.i64.wrap (qn : Int) = (qn : Int) := IntWalk.i64_in _ (by omega)
            have hw2 : IntKind.u64.wrap (qn : Int) = (qn : Int) := IntWalk.u64_in _ (by omega)
            have hw3 : IntKind.u64.wrap (nc : Int) = (nc : Int) := IntWalk.u64_in _ (by omega)
            have hal0 : ¬ al = 0 := by omega
            have HPN := Lib.hid hpn
            have HQN := Lib.hid hqn
            have HLL : Hid (L.length ≤ 34 + 42014 * k) := Lib.hid (by
              have h1 := congrArg List.length HL.out
              have h2 := encFs_len al (t.take k) (fun f hf => (HET.out.fr f (List.mem_of_mem_take hf)).nc)
              simp only [List.length_append, List.length_take] at h1 h2
              have h3 : min k t.length ≤ k := Nat.min_le_left _ _
              omega)
            have HBYL : Hid (∀ y ∈ L, y < 256) := Lib.hid (by
              intro y hy
              rw [HL.out] at hy
              rcases List.mem_append.1 hy with h | h
              · exact HBY6.out y h
              · obtain ⟨f, hf, h'⟩ := List.mem_flatMap.1 h
                exact encF_bytes hal1 (HET.out.fr f (List.mem_of_mem_take hf)) y h')
            obtain ⟨L7, hL7⟩ : ∃ l, l = L ++ put pn := ⟨_, rfl⟩
            obtain ⟨L8, hL8⟩ : ∃ l, l = L7 ++ put qn := ⟨_, rfl⟩
            obtain ⟨L9, hL9⟩ : ∃ l, l = L8 ++ put nc := ⟨_, rfl⟩
            have HLL9 : Hid (L7.length ≤ 44 + 42014 * k ∧ L8.length ≤ 54 + 42014 * k ∧ L9.length ≤ 64 + 42014 * k) := Lib.hid (by
              have h1 := (put_len pn).2
              have h2 := (put_len qn).2
              have h3 := (put_len nc).2
              have h4 := HLL.out
              rw [hL9, hL8, hL7]
              simp only [List.length_append]
              omega)
            have HBY7 : Hid (∀ y ∈ L7, y < 256) := Lib.hid (by rw [hL7]; exact put_bytes HBYL.out (by omega))
            have HBY8 : Hid (∀ y ∈ L8, y < 256) := Lib.hid (by rw [hL8]; exact put_bytes HBY7.out (by omega))
            have HBY9 : Hid (∀ y ∈ L9, y < 256) := Lib.hid (by rw [hL9]; exact put_bytes HBY8.out (by omega))
            have HPA := Lib.hid (fun (W : World) (h : Below W7.heap.size W7 W) => hL7 ▸ HO7.out.put h HBYL.out (show pn < 18446744073709551616 by omega) (by have := HLL.out; omega) hw7)
            have HPB := Lib.hid (fun (V : Option Addr) (c : Nat) (W : World) (h : OwL w.heap.size L7 V c W) (hz : w.heap.size ≤ W.heap.size) => hL8 ▸ h.put (Below.refl _ _) HBY7.out (show qn < 18446744073709551616 by omega) (by have := HLL9.out; omega) hz)
            have HPC := Lib.hid (fun (V : Option Addr) (c : Nat) (W : World) (h : OwL w.heap.size L8 V c W) (hz : w.heap.size ≤ W.heap.size) => hL9 ▸ h.put (Below.refl _ _) HBY8.out (show nc < 18446744073709551616 by omega) (by have := HLL9.out; omega) hz)
            have HL1 : Hid (L9 = L ++ headF al ⟨prm, sz, code⟩) := Lib.hid (by
              rw [hL9, hL8, hL7]
              unfold headF
              simp only
              rw [← HPN.out, ← HQN.out, ← HNC.out, Int.toNat_natCast, Int.toNat_natCast]
              simp)
            have hnc1 : (nc : Int) ≤ 1024 := by omega
            clear hL7 hL8 hL9 hpn hqn hpr hsr hcr hdv hkt hn1
            obtain ⟨d0, d1, -, -, dz⟩ := HKT7.out.c2
            obtain ⟨f0, f1, f2, -, -, -, fz⟩ := HKF.out.c3
            go_cut [9] (fun s wx => ∃ V c, s = .slice V L8.length c ∧ OwL w.heap.size L8 V c wx ∧ Below W7.heap.size W7 wx)
            case first =>
              go_region_with (first
                | (have hX := CC1; go_at_call 37; refine (HPB.out _ _ _ CC1.out.1 (by have := CC1.out.2.size; omega)).mono ?_; rintro e v2 ⟨V8, c8, rfl, own8, bel8⟩; have CC2 := Lib.hid (CC1.out.2.trans (bel8.mono CC1.out.2.size)))
                | (go_at_call 37; refine (HPA.out _ ?_).mono ?_; (first | exact (Below.refl _ _).drew | exact (Below.refl _ _)); rintro e v1 ⟨V7, c7, rfl, own7, bel7⟩; have hbel7 : Below W7.heap.size W7 v1 := ((Below.refl _ _).drew).trans bel7; have CC1 := Lib.hid (⟨own7, hbel7⟩ : OwL w.heap.size L7 V7 c7 v1 ∧ Below W7.heap.size W7 v1); obtain ⟨k0, k1, -, -, kz⟩ := (HKT7.out.after hbel7).c2; obtain ⟨m0, m1, m2, -, -, -, mz⟩ := (HKF.out.after hbel7).c3))
              all_goals (go_wp2_with fail; go_meet; exact ⟨V8, c8, rfl, own8, CC2.out⟩)
            case rest =>
              obtain ⟨V8, c8, rfl, own8, bel8⟩ := hcut
              clear d0 d1 dz f0 f1 f2 fz
              obtain ⟨f0, f1, f2, -, -, -, fz⟩ := (HKF.out.after bel8).c3
              go_wp2_with (refine (HPC.out _ _ _ own8 (by have := bel8.size; omega)).mono ?_; rintro e w9 ⟨V9, c9, rfl, own9, bel9⟩)
              have hb79 : Below W7.heap.size W7 w9 := bel8.trans (bel9.mono bel8.size)
              have HO9 := Lib.hid own9
              have HP9 := Lib.hid (HP7.out.trans (NB.of_below hb79 hw7))
              have HKF9 := Lib.hid (HKF.out.after hb79)
              have HWO9 := Lib.hid (HWO7.out.trans (hb79.mono hw7))
              have hw9 : w.heap.size ≤ w9.heap.size := by have := hb79.size; omega
              clear own8 bel8 own9 bel9 hb79 HPA HPB HPC HO7 HP7 HKF HWO7 HKT7 hw7 hw1 hq1 hq2 hw2 hw3 hal0 HPN HQN HLL HBYL HBY7 HBY8 f0 f1 f2 fz
              go_loopw [9, 12] (fun b x wr => ∃ (j : Nat) (V : Option Addr) (c : Nat) (L : List Nat), j ≤ nc ∧ x = .int .i64 j ∧ b = .slice V L.length c ∧ Hid (L = L9 ++ (code.take j).flatMap encI) ∧ Hid (OwL w.heap.size L V c wr) ∧ Hid (NB w.heap.size w9 wr)) (fun _ x _ => nc - (intOf x).toNat)
              case atStart => exact ⟨0, V9, c9, L9, by omega, rfl, rfl, Lib.hid (by simp), HO9, Lib.hid (NB.refl _ _)⟩
              case round =>
                obtain ⟨j, V10, c10, L10, hj, rfl, rfl, HL10, HO10, HP10⟩ := hrel
                clear HO9
                obtain ⟨f0, f1, f2, -, -, -, fz⟩ := (HP10.out.blk HKF9.out (by decide)).c3
                by_cases hltj : j < nc
                · have hj0 : (0 : Int) ≤ (j : Int) := by omega
                  have hj1 : (j : Int) < (nc : Int) := by omega
                  have hjc : j < code.length := by rw [← HNC.out]; exact hltj
                  obtain ⟨ai, rfl, hb, y0, y1, y2, y3, y4⟩ := (HNX.out.keep (belKp (HWO9.out.trans HP10.out.2) hh)).whole hjc
                  obtain ⟨x, hx⟩ : ∃ x, x = code.getD j Ins.z := ⟨_, rfl⟩
                  have HEI : Hid (EI x) := Lib.hid (by rw [hx]; exact HEF.out.ins _ (getD_mem' hjc))
                  have HTI := Lib.hid (hx ▸ flat_take encI code hjc Ins.z)
                  rw [← hx] at y0 y1 y2 y3 y4
                  obtain ⟨op, xa, xb, xc, im⟩ := x
                  simp only at y0 y1 y2 y3 y4
                  have hop := HEI.out.op
                  have hea := HEI.out.a
                  have heb := HEI.out.b
                  have hec := HEI.out.c
                  have hei := HEI.out.im
                  simp only at hop hea heb hec hei
                  obtain ⟨on, rfl⟩ := Int.eq_ofNat_of_zero_le hop.1
                  obtain ⟨an, rfl⟩ := Int.eq_ofNat_of_zero_le hea.1
                  obtain ⟨bn', rfl⟩ := Int.eq_ofNat_of_zero_le heb.1
                  obtain ⟨cn, rfl⟩ := Int.eq_ofNat_of_zero_le hec.1
                  obtain ⟨imn, rfl⟩ := Int.eq_ofNat_of_zero_le hei.1
                  have hwr : w.heap.size ≤ wr.heap.size := by have := HP10.out.1.1; omega
                  have hl10 : L10.length ≤ 4000000 := by
                    have h1 := congrArg List.length HL10.out
                    have h2 := encC_len (code.take j)
                    have h3 := HLL9.out.2.2
                    unfold encC at h2
                    simp only [List.length_append, List.length_take] at h1 h2
                    have h4 : min j code.length ≤ j := Nat.min_le_left _ _
                    omega
                  have HEG : Hid (encG ⟨(on : Int), (an : Int), (bn' : Int), (cn : Int), (imn : Int)⟩ (useT (on : Int)).1 (useT (on : Int)).2.1 (useT (on : Int)).2.2.1 (useT (on : Int)).2.2.2 = encI ⟨(on : Int), (an : Int), (bn' : Int), (cn : Int), (imn : Int)⟩) := Lib.hid (encG_eq _)
                  have HOPS := Lib.hid (fun W => refoperands10_any on (by omega) (by omega) (by omega) W)
                  have HPI := Lib.hid (fun W (ua ub uc ui : Bool) => putinstr_any on an bn' cn imn ua ub uc ui (by omega) (by omega) (by omega) (by omega) (by omega) W)
                  generalize (useT (on : Int)).1 = ua at HEG HOPS
                  generalize (useT (on : Int)).2.1 = ub at HEG HOPS
                  generalize (useT (on : Int)).2.2.1 = uc at HEG HOPS
                  generalize (useT (on : Int)).2.2.2 = ui at HEG HOPS
                  obtain ⟨le, hle⟩ : ∃ l, l = encI ⟨(on : Int), (an : Int), (bn' : Int), (cn : Int), (imn : Int)⟩ := ⟨_, rfl⟩
                  have hle1 : 1 ≤ le.length ∧ le.length ≤ 41 := by rw [hle]; exact encI_len _
                  rw [← hle] at HEG HTI
                  have HPJ := Lib.hid (fun W => HEG.out ▸ HPI.out W ua ub uc ui)
                  clear hop hea heb hec hei hx hb hjc hle HPI HEG
                  go_upto_region 23 with (refine (HOPS.out _).mono ?_; rintro e v ⟨rfl, rfl⟩)
                  go_wp2_with (first
                    | (go_at_call 39; refine (HPJ.out _).mono ?_; rintro e w11 ⟨V11, c11, rfl, own11, bel11⟩; have HO11 := Lib.hid (own_keep HO10.out bel11 (Nat.le_refl _)))
                    | (at_builtin; refine wpList_append_m _ rfl (.tmp 95) (.tmp 105) _ rfl w.heap.size i0 Tryd.underlying22 hi0 hz0 hz1 hz2 _ L10.length (nb L10) rfl (.inl HO11.out) w11.heap.size V11 le.length c11 (nb le) hle1.1 rfl (Reads.of_own own11) (nb_one _) (by unfold maxLen; omega) (by omega) (by have := bel11.size; omega) ?_; intro v1 w12 hown12 hg12; obtain ⟨V12, c12, rfl, hm12⟩ := own_form hown12))
                  go_roundw
                  case rel =>
                    have hlen : L10.length + le.length = (L10 ++ le).length := by simp
                    rw [← nb_append] at hown12
                    rw [hlen] at hown12 ⊢
                    refine ⟨j + 1, V12, c12, L10 ++ le, by omega, by go_num, rfl, Lib.hid ?_, Lib.hid hown12, Lib.hid (HP10.out.trans ((NB.of_below bel11 hwr).trans (NB.append (.inl HO11.out) hg12 (by have := bel11.size; omega))))⟩
                    rw [HTI.out, HL10.out, List.append_assoc]
                  case measure => simp [intOf]; omega
                · have hjn : j = nc := by omega
                  subst hjn
                  go_wp2
                  go_roundw
                  case rel =>
                    refine ⟨k + 1, V10, c10, L10, by omega, by go_num, rfl, Lib.hid ?_, HO10, Lib.hid (HP9.out.trans HP10.out)⟩
                    rw [HL10.out, HTK.out, HL1.out, HL.out, HNC.out, List.take_length]
                    unfold encF encC
                    simp
                  case measure => simp [intOf]; omega
          · have hkn : k = nf := by omega
            subst hkn
            have hLb : L = bodyT al bd t := by
              rw [HL.out, HL6E.out, HNF.out, List.take_length]
              rfl
            have hbytes : ∀ y ∈ L, y < 256 := by rw [hLb]; exact bodyT_bytes HET.out HBD.out
            have hLl : L.length ≤ 4000000 := by
              have h1 := bodyT_len al bd t (fun f hf => (HET.out.fr f hf).nc)
              have h2 := HET.out.len
              rw [← hLb] at h1
              omega
            have HS := Lib.hid (refseal_any w.heap.size V L.length c L wr rfl (.inl HO.out) hbytes (by omega) (by have := HP.out.1.1; omega))
            have HLB := Lib.hid hLb
            have HBW := Lib.hid (HB6.out.trans HP.out.2)
            obtain ⟨xl, hxl⟩ : ∃ x : Int, (L.length : Int) = x := ⟨_, rfl⟩
            obtain ⟨yl, hyl⟩ : ∃ y : Int, xl + 4 = y := ⟨_, rfl⟩
            have hw4 : IntKind.i64.wrap yl = yl := IntWalk.i64_in _ (by omega)
            by_cases hbig : 1048576 < L.length + 4
            · have hbigi : (1048576 : Int) < yl := by omega
              have HE : Hid (∀ w', Below w.heap.size w w' → EncD al bd t w (.returned (.tuple #[.slice none 0 0, .int .i64 3])) w') := Lib.hid (fun w' hb => EncD.err (by
                have h1 := HTE.out
                have h2 := HBD.out
                unfold encE
                rw [if_neg (by omega), if_neg (by omega), if_pos (by rw [← HLB.out]; omega)]) (by decide) hb)
              clear hLb hbytes hLl hbig
              go_wp2
              go_ret2
              exact HE.out _ HBW.out
            · have hbigi : yl ≤ 1048576 := by omega
              have HE : Hid (encE al bd t = 0) := Lib.hid (encE_ok HTE.out HBD.out (by rw [← HLB.out]; omega))
              clear hLb hbytes hLl hbig
              go_wp2_with fail
              refine HS.out.mono ?_
              rintro e w6' ⟨V', c', rfl, own', nob, bel'⟩
              have HBW2 := Lib.hid (HBW.out.trans bel')
              have HOF := Lib.hid own'
              clear own' nob bel'
              go_wp2
              go_ret2
              have hB : encB al bd t = sealL L := by rw [encB_eq HE.out, ← HLB.out]
              refine ⟨V', c', by rw [hB, HE.out]; rfl, ?_, HBW2.out⟩
              rw [hB]
              exact HOF.out
    · have hp : ((2 ^ (m + 1) : Nat) : Int) = 2 * ((2 ^ m : Nat) : Int) := by rw [Nat.pow_succ]; push_cast; omega
      rw [hp] at hz
      have hq : (1 : Int) ≤ ((2 ^ m : Nat) : Int) := by have := Nat.two_pow_pos m; omega
      generalize hy : ((2 ^ m : Nat) : Int) = y at hz hq
      have hbig : y ≤ 16777216 := by
        rw [← hy]
        have := Nat.pow_le_pow_right (n := 2) (by decide) (show m ≤ 24 by omega)
        have h2 : (2 : Nat) ^ 24 = 16777216 := by decide
        omega
      have HY := Lib.hid hy
      have hz1' : (z > 1) = True := by simp; omega
      have hz2' : (1 < z) = True := by simp; omega
      have ht1 : z.tdiv 2 = y := by rw [hz, Int.tdiv_eq_ediv_of_nonneg (by omega)]; omega
      have ht2 : IntKind.i64.wrap y = y := IntWalk.i64_in _ (by omega)
      have HZ := Lib.hid hz
      have hkk' : i < 25 := by omega
      clear hy hz hbig hp
      go_wp2
      go_roundw
      case rel => exact ⟨m, i + 1, y, by omega, HY.out.symm, by go_num, rfl, by trivial⟩
      case measure =>
        simp [intOf]
        have := HZ.out
        omega
end
end Go.Proofs.YtinfeglhjmnlaaaDoor.pm
