/- Bytes of programs, the reference: exponent, describe. -/
import Derived.Test.YtinfeglhjmnlaaaDoorGHg
import Derived.Test.YtinfeglhjmnlaaaDoorGYa
import Derived.Test.YtinfeglhjmnlaaaDoorGYe
import Derived.Test.YtinfeglhjmnlaaaDoorGRc
import Derived.Deep.CutBlock
import Derived.Deep.RegionWith
import Derived.Deep.DrawnRows
namespace Go.Proofs.YtinfeglhjmnlaaaDoor.pm
open Go.RowKit
set_option linter.unusedVariables false
set_option maxRecDepth 10000
attribute [local go_sem ↓] Go.wp_at_zero Go.wp_at_succ

set_option maxHeartbeats 2000000 in
theorem expo_any (k : Nat) (hk : k ≤ 24) (al : Int) (hal : al = ((2 ^ k : Nat) : Int)) (w : World) :
    Calls Tryd.prog 96 #[.int .i64 al] w fun e w' => e = .returned (.int .u64 (k : Int)) ∧ w = w' := by
  have HAL := Lib.hid hal
  clear hal
  go_enter Tryd.func96, Tryd.ntmps96
  go_upto_region 2 with (fail)
  go_loopw [0, 3] (fun y x wr => ∃ (m i : Nat) (z : Int), m + i = k ∧ z = ((2 ^ m : Nat) : Int) ∧ x = .int .u64 (i : Int) ∧ y = .int .i64 z ∧ w = wr) (fun y _ _ => (intOf y).toNat)
  case atStart => exact ⟨k, 0, al, by omega, HAL.out, rfl, rfl, rfl⟩
  case round =>
    obtain ⟨m, i, z, hmi, hz, rfl, rfl, rfl⟩ := hrel
    rcases m with _ | m
    · have hz' : z = 1 := by rw [hz]; rfl
      have hi : i = k := by omega
      subst hz' hi
      clear hz hmi
      go_wp2
      go_ret
      exact ⟨rfl, rfl⟩
    · obtain ⟨y, hy⟩ : ∃ y : Int, y = ((2 ^ m : Nat) : Int) := ⟨_, rfl⟩
      have hp2 := Nat.two_pow_pos m
      have hz2 : z = 2 * y := by rw [hz, hy, Nat.pow_succ]; push_cast; omega
      have hm24 : 2 ^ m ≤ 2 ^ 24 := Nat.pow_le_pow_right (by decide) (by omega)
      have hy1 : 1 ≤ y ∧ y ≤ 16777216 := by
        have h3 : (2 : Nat) ^ 24 = 16777216 := by decide
        omega
      have hgt : (1 : Int) < z := by omega
      have ht1 : z.tdiv 2 = y := by rw [hz2, Int.tdiv_eq_ediv_of_nonneg (by omega)]; omega
      have hw1 : IntKind.i64.wrap y = y := IntWalk.i64_in _ (by omega)
      have hw2 : IntKind.u64.wrap ((i : Int) + 1) = ((i + 1 : Nat) : Int) := by rw [IntWalk.u64_in _ (by omega)]; omega
      obtain ⟨i1, hi1⟩ : ∃ j, j = i + 1 := ⟨_, rfl⟩
      rw [← hi1] at hw2
      have HY := Lib.hid hy
      have HM : Hid (m + i1 = k) := Lib.hid (by omega)
      have HZ := Lib.hid (show y.toNat < z.toNat by omega)
      have HW2 := Lib.hid hw2
      clear hz hy hp2 hz2 hm24 hi1 hmi
      go_wp2
      go_roundw
      case rel => exact ⟨m, i1, y, HM.out, HY.out, by first | rfl | (rw [← HW2.out]; first | rfl | simp) | skip, rfl, by trivial⟩
      case measure => have := HZ.out; simp [intOf]; omega
theorem bs_nil6 (w : World) (B : Nat) : Bs w B none 0 [] := ⟨by simpa [nb] using Reads.none_, by simp⟩
/-- bytes in a row of the call's own -/
structure BQ (base : Nat) (L : List Nat) (w : World) (o : Value) (W : World) : Prop where
  ow : W.ownsRow base 5 1 o L.length (nb L)
  by_ : ∀ y ∈ L, y < 256
  bel : Below base w W
theorem BQ.after {base : Nat} {L : List Nat} {w W W' : World} {o : Value} (h : BQ base L w o W) (hb : Below W.heap.size W W') (hz : base ≤ w.heap.size) : BQ base L w o W' := ⟨own_keep h.ow hb (Nat.le_refl _), h.by_, h.bel.trans (hb.mono (by have := h.bel.size; omega))⟩
theorem BQ.drew {base : Nat} {L : List Nat} {w W : World} {o : Value} (h : BQ base L w o W) : BQ base L w o W.drew := ⟨h.ow.drew, h.by_, Below.drew h.bel⟩
/-- PutUint -/
theorem BQ.put {base : Nat} {L : List Nat} {w W : World} {V : Option Addr} {n c : Nat} (h : BQ base L w (.slice V n c) W) (hn : n = L.length) (hz : base ≤ w.heap.size) (v : Nat) (hv : v < 18446744073709551616) (hL : n ≤ 100000000) :
    Calls Tryd.prog 37 #[.slice V n c, .int .u64 (v : Int)] W fun e w' => ∃ V' c', e = .returned (.slice V' (L ++ put v).length c') ∧ BQ base (L ++ put v) w (.slice V' (L ++ put v).length c') w' ∧ Below W.heap.size W w' := by
  have hb : Bs W W.heap.size V n L := by
    subst hn
    exact ⟨Reads.of_own h.ow, h.by_⟩
  refine (refput_any V n c L v hv W W.heap.size hb (Nat.le_refl _) (by omega)).mono ?_
  rintro e w' ⟨r, rfl, ho, hbl⟩
  obtain ⟨V', c', rfl, -⟩ := own_form ho
  have hz2 : base ≤ W.heap.size := by have := h.bel.size; omega
  exact ⟨V', c', rfl, ⟨own_less ho hz2, fun y hy => (List.mem_append.1 hy).elim (h.by_ y) (put_lt v hv y), h.bel.trans (hbl.mono hz2)⟩, hbl⟩
theorem useS : ∀ o : Nat, o < 25 → useA o = decide (1 ≤ opS (o : Int)) ∧ useB o = decide (2 ≤ opS (o : Int)) ∧ useC o = decide (3 ≤ opS (o : Int)) ∧ useI o = immB (o : Int) := by decide
theorem encG_S {on an bn cn imn : Nat} (h : on < 25) : encG ⟨on, an, bn, cn, imn⟩ (useA on) (useB on) (useC on) (useI on) = encIS ⟨on, an, bn, cn, imn⟩ := by
  obtain ⟨h1, h2, h3, h4⟩ := useS on h
  have hk := opS_le (on : Int)
  rw [h1, h2, h3, h4]
  unfold encG encIS
  have : opS (on : Int) = 0 ∨ opS (on : Int) = 1 ∨ opS (on : Int) = 2 ∨ opS (on : Int) = 3 := by omega
  rcases this with h | h | h | h <;> simp [h]
set_option maxHeartbeats 8000000 in
theorem refdesc_any (As Ai : Option Addr) (cs ci lo hi : Nat) (f : Fn) (he : EFS f) (w : World) (hs : Sx w lo hi As f.slots) (hx : Nx w lo hi Ai f.code) (hh : hi ≤ w.heap.size) :
    Calls Tryd.prog 66 #[.agg #[.int .i64 f.params, .slice As f.slots.length cs, .slice Ai f.code.length ci]] w (DesD (descS f) w) := by
  obtain ⟨i0, hi0, hz0, hz1, hz2⟩ := info_parts info_u8
  obtain ⟨prm, sl, code⟩ := f
  simp only at hs hx ⊢
  obtain ⟨W1, hW1⟩ : ∃ W1, W1 = w.alloc (.cells #[.int .i64 prm, .slice As sl.length cs, .slice Ai code.length ci] 97) := ⟨_, rfl⟩
  obtain ⟨g1, hg1⟩ : ∃ g, g = w.heap.size := ⟨_, rfl⟩
  have hB1 : Below w.heap.size w W1 := by rw [hW1]; exact (Below.refl _ _).alloc (Nat.le_refl _) _
  have HKF : Hid (Blk W1 g1 97 #[.int .i64 prm, .slice As sl.length cs, .slice Ai code.length ci]) := Lib.hid (by rw [hW1, hg1]; exact Blk.new _ _ _)
  have HB1 := Lib.hid hB1
  have HW1 := Lib.hid hW1
  have HG1 := Lib.hid hg1
  have HE := Lib.hid he
  have HS1 := Lib.hid (hs.keep (Kp.of_below hB1 hh))
  have HX1 := Lib.hid (hx.keep (Kp.of_below hB1 hh))
  have hz1w : w.heap.size < W1.heap.size := by rw [hW1]; simp
  have hprm := he.prm
  have hns := he.ns
  have hnc := he.nc
  simp only at hprm hns hnc
  obtain ⟨ns, hnse⟩ : ∃ n, n = sl.length := ⟨_, rfl⟩
  obtain ⟨nc, hnce⟩ : ∃ n, n = code.length := ⟨_, rfl⟩
  rw [← hnse] at HKF hns
  rw [← hnce] at HKF hnc
  rw [← hnse, ← hnce] at HW1
  rw [← hnse, ← hnce]
  have HNS := Lib.hid hnse
  have HNC := Lib.hid hnce
  have hnsi : (ns : Int) ≤ 9223372036854775807 := by omega
  have hnci : (nc : Int) ≤ 9223372036854775807 := by omega
  have hwl : w.heap.size ≤ W1.heap.size := Nat.le_of_lt hz1w
  obtain ⟨pn, hpn⟩ : ∃ p : Nat, (p : Int) = prm := ⟨prm.toNat, by omega⟩
  have hpn31 : pn ≤ 2147483647 := by omega
  have hwp : IntKind.u64.wrap prm = (pn : Int) := by rw [← hpn]; exact IntWalk.u64_in _ (by omega)
  have hwn : IntKind.u64.wrap (ns : Int) = (ns : Int) := IntWalk.u64_in _ (by omega)
  have hwc : IntKind.u64.wrap (nc : Int) = (nc : Int) := IntWalk.u64_in _ (by omega)
  have HPN := Lib.hid hpn
  have HBQ0 : Hid (BQ W1.heap.size [] W1 (.slice none 0 0) W1) := Lib.hid ⟨World.ownsRow_nil _ _ _ _, (fun y hy => by cases hy), Below.refl _ _⟩
  have HP1 := Lib.hid (HBQ0.out.put rfl (Nat.le_refl _) pn (by omega) (by decide))
  clear hW1 hB1 hg1 he hs hx hnse hnce hprm hpn
  go_enter Tryd.func66, Tryd.ntmps66
  go_upto_region 1 with (fail)
  rw [← HW1.out, ← HG1.out]
  obtain ⟨c0, c1, c2, -, -, -, cz⟩ := HKF.out.c3
  go_wp2_with fail
  refine HP1.out.mono ?_
  rintro e w2 ⟨V2, k2, rfl, bq2, -⟩
  obtain ⟨L2, hL2⟩ : ∃ l, l = [] ++ put pn := ⟨_, rfl⟩
  rw [← hL2] at bq2 ⊢
  obtain ⟨n2, hn2⟩ : ∃ n, n = L2.length := ⟨_, rfl⟩
  rw [← hn2] at bq2 ⊢
  have hl2 : n2 ≤ 10 := by
    have := (put_len pn).2
    rw [hn2, hL2]; simpa using this
  have HBQ2 := Lib.hid bq2
  have HP2 := Lib.hid (bq2.put hn2 (Nat.le_refl _) ns (by omega) (by omega))
  have HL2 := Lib.hid hL2
  clear bq2 hL2 HP1 c0 c1 c2 cz
  have hN2 := Lib.hid hn2
  clear hn2
  obtain ⟨c0, c1, c2, -, -, -, cz⟩ := (HKF.out.after HBQ2.out.bel).c3
  go_wp2_with fail
  refine HP2.out.mono ?_
  rintro e w3 ⟨V3, k3, rfl, bq3, -⟩
  obtain ⟨L0, hL0⟩ : ∃ l, l = L2 ++ put ns := ⟨_, rfl⟩
  rw [← hL0] at bq3 ⊢
  obtain ⟨n3, hn3⟩ : ∃ n, n = L0.length := ⟨_, rfl⟩
  rw [← hn3] at bq3 ⊢
  have hl3 : n3 ≤ 20 := by
    have h1 := (put_len ns).2
    have h2 := hN2.out
    rw [hn3, hL0, List.length_append]
    omega
  have HBQ3 := Lib.hid bq3
  have HL0 : Hid (L0 = put prm.toNat ++ put sl.length) := Lib.hid (by
    rw [hL0, HL2.out, List.nil_append, ← HPN.out, ← HNS.out, Int.toNat_natCast])
  have hN3 := Lib.hid hn3
  clear bq3 hL0 HP2 c0 c1 c2 cz hn3 HBQ2 HBQ0 hN2 HL2 hl2
  go_upto_region 4 with (fail)
  go_loopw [3, 4] (fun s3 x wr => ∃ (k : Nat) (L : List Nat) (V : Option Addr) (n c : Nat), k ≤ ns ∧ n ≤ 20 + 20 * k ∧ s3 = .slice V n c ∧ x = .int .i64 k ∧ Hid (n = L.length) ∧ Hid (L = L0 ++ (sl.take k).flatMap encSl) ∧ Hid (BQ W1.heap.size L W1 (.slice V n c) wr)) (fun s3 x _ => ns - (intOf x).toNat)
  case atStart => exact ⟨0, L0, V3, n3, k3, by omega, by omega, rfl, rfl, hN3, Lib.hid (by simp), HBQ3⟩
  case round =>
    obtain ⟨k, L, V, n, c, hk, hnk, rfl, rfl, HN, HL, HBQ⟩ := hrel
    clear HBQ3 hN3
    have hn6 : n ≤ 30000 := by omega
    have HNK := Lib.hid hnk
    clear hnk
    obtain ⟨c0, c1, c2, -, -, -, cz⟩ := (HKF.out.after HBQ.out.bel).c3
    by_cases hlt : k < ns
    · have hk0 : (0 : Int) ≤ (k : Int) := by omega
      have hk1 : (k : Int) < (ns : Int) := by omega
      have hks : k < sl.length := by rw [← HNS.out]; exact hlt
      have HTK := Lib.hid (flat_take encSl sl hks (0, 0))
      have HSr := Lib.hid (fun (W : World) (h : Below W1.heap.size W1 W) => (HS1.out.keep (Kp.of_below h (Nat.le_trans hh hwl))).whole hks)
      have hes := HE.out.sl (sl.getD k (0, 0)) (getD_mem' hks)
      obtain ⟨s, hs⟩ : ∃ s, s = sl.getD k (0, 0) := ⟨_, rfl⟩
      rw [← hs] at HSr hes HTK
      obtain ⟨sz, al⟩ := s
      obtain ⟨hsz, kk, hkk, hal⟩ := hes
      simp only at hsz hal HSr
      obtain ⟨a1, hA, hab, y0, y1⟩ := HSr.out wr HBQ.out.bel
      have HAL := Lib.hid hal
      obtain ⟨zn, hzn⟩ : ∃ p : Nat, (p : Int) = sz := ⟨sz.toNat, by omega⟩
      have hzn31 : zn ≤ 2147483647 := by omega
      have hwz : IntKind.u64.wrap sz = (zn : Int) := by rw [← hzn]; exact IntWalk.u64_in _ (by omega)
      have HEX := Lib.hid (fun W => expo_any kk hkk al hal W)
      have HSL : Hid (encSl (sz, al) = put zn ++ put kk) := Lib.hid (by
        unfold encSl
        rw [hal, ← hzn]
        simp only [Int.toNat_natCast, Nat.log2_two_pow])
      have hwr := HBQ.out.bel.size
      have haw : a1.block < wr.heap.size := by omega
      subst hA
      have HA : Hid (some a1 = some a1) := Lib.hid rfl
      clear hs hal hsz hab hzn
      generalize wr = wo at *
      have HPA := Lib.hid (HBQ.out.drew.put HN.out (Nat.le_refl _) zn (by omega) (by omega))
      have hlen1 : (L ++ put zn).length ≤ 30010 := by
        have h1 := (put_len zn).2
        have h2 := HN.out
        rw [List.length_append]; omega
      obtain ⟨La, hLa⟩ : ∃ l, l = L ++ put zn := ⟨_, rfl⟩
      rw [← hLa] at HPA hlen1
      obtain ⟨na, hna⟩ : ∃ n, n = La.length := ⟨_, rfl⟩
      rw [← hna] at HPA hlen1
      obtain ⟨Lb, hLb⟩ : ∃ l, l = La ++ put kk := ⟨_, rfl⟩
      have HNA := Lib.hid hna
      have HPB := Lib.hid (fun (W : World) (V' : Option Addr) (c' : Nat) (h : BQ W1.heap.size La W1 (.slice V' na c') W) => h.put hna (Nat.le_refl _) kk (by omega) (by omega))
      rw [← hLb] at HPB
      obtain ⟨nb', hnb⟩ : ∃ n, n = Lb.length := ⟨_, rfl⟩
      rw [← hnb] at HPB
      have HLL : Hid (Lb = L ++ encSl (sz, al)) := Lib.hid (by rw [hLb, hLa, HSL.out, List.append_assoc])
      have HNB := Lib.hid hnb
      have hnbl : nb' ≤ 20 + 20 * (k + 1) := by
        have h1 := encSl_len (sz, al)
        have h2 := HNK.out
        have h3 := HN.out
        rw [hnb, HLL.out, List.length_append]
        omega
      have HNL := Lib.hid hnbl
      clear hLa hna hLb hnb hnbl hkk
      go_upto_block 1 with (fail)
      go_cut [3] (fun s wx => ∃ V' c', s = .slice V' nb' c' ∧ BQ W1.heap.size Lb W1 (.slice V' nb' c') wx)
      case first =>
        go_upto_region 6 with (fail)
        go_region_law (first
          | ((fail_if_success have X := CCA); go_simp; refine HPA.out.mono ?_; rintro e w5 ⟨V5, c5, rfl, bq5, b5⟩; have CCA := bq5; obtain ⟨p0, p1, p2, -, -, -, pz'⟩ := (HKF.out.after bq5.bel).c3; obtain ⟨ad', hA', hab', t0, t1⟩ := HSr.out w5 bq5.bel; obtain rfl := Option.some.inj (hA'.symm.trans HA.out); have haw5 : ad'.block < w5.heap.size := (by have h5 := b5.size; have h6 : wo.heap.size ≤ w5.heap.size := h5; omega))
          | (have X := CCA; go_simp; refine (HPB.out _ _ _ bq5).mono ?_; rintro e w6 ⟨V6, c6, rfl, bq6, b6⟩)
          | (go_simp; refine (HEX.out _).mono ?_; rintro e v ⟨rfl, rfl⟩))
        all_goals (go_wp2_with fail; go_meet; exact ⟨V6, c6, rfl, bq6⟩)
      case rest =>
        obtain ⟨V6, c6, rfl, bq6⟩ := hcut
        have HBQ6 := Lib.hid bq6
        clear bq6 HPA HPB HEX HBQ c0 c1 c2 cz y0 y1 hwr haw HSr hwz hzn31 hlen1
        go_wp2
        go_roundw
        case rel =>
          refine ⟨k + 1, Lb, V6, nb', c6, by omega, HNL.out, rfl, by go_num, HNB, Lib.hid ?_, HBQ6⟩
          rw [HLL.out, HTK.out, HL.out, List.append_assoc]
        case measure => simp [intOf]; omega
    · have hkn : k = ns := by omega
      have HKN := Lib.hid hkn
      subst hkn
      have HLS : Hid (L = L0 ++ sl.flatMap encSl) := Lib.hid (by rw [HL.out, HKN.out, HNS.out, List.take_length])
      have HP7 := Lib.hid (HBQ.out.put HN.out (Nat.le_refl _) nc (by omega) (by omega))
      obtain ⟨L7, hL7⟩ : ∃ l, l = L ++ put nc := ⟨_, rfl⟩
      rw [← hL7] at HP7
      obtain ⟨n7, hn7⟩ : ∃ n, n = L7.length := ⟨_, rfl⟩
      rw [← hn7] at HP7
      have hl7 : n7 ≤ 30010 := by
        have h1 := (put_len nc).2
        have h2 := HN.out
        rw [hn7, hL7, List.length_append]; omega
      have HL7 := Lib.hid hL7
      have HN7 := Lib.hid hn7
      clear hL7 hn7 hlt hk
      generalize wr = wo at *
      go_wp2_with fail
      refine HP7.out.mono ?_
      rintro e w7 ⟨V7, k7, rfl, bq7, -⟩
      have HBQ7 := Lib.hid bq7
      clear bq7 HP7 HBQ c0 c1 c2 cz hn6 HNK HKN
      go_upto_region 9 with (fail)
      go_loopw [3, 5] (fun s3 x wr => ∃ (j : Nat) (L : List Nat) (V : Option Addr) (n c : Nat), j ≤ nc ∧ n ≤ 30010 + 41 * j ∧ s3 = .slice V n c ∧ x = .int .i64 j ∧ Hid (n = L.length) ∧ Hid (L = L7 ++ (code.take j).flatMap encIS) ∧ Hid (BQ W1.heap.size L W1 (.slice V n c) wr)) (fun s3 x _ => nc - (intOf x).toNat)
      case atStart => exact ⟨0, L7, V7, n7, k7, by omega, by omega, rfl, rfl, HN7, Lib.hid (by simp), HBQ7⟩
      case round =>
        obtain ⟨j, L9, V9, n9, c9, hj, hnj, rfl, rfl, HN9, HL9, HBQ9⟩ := hrel
        clear HBQ7 hl7
        have hn9 : n9 ≤ 80000 := by omega
        have HNJ := Lib.hid hnj
        clear hnj
        obtain ⟨c0, c1, c2, -, -, -, cz⟩ := (HKF.out.after HBQ9.out.bel).c3
        by_cases hlj : j < nc
        · have hj0 : (0 : Int) ≤ (j : Int) := by omega
          have hj1 : (j : Int) < (nc : Int) := by omega
          have hjc : j < code.length := by rw [← HNC.out]; exact hlj
          have HTI := Lib.hid (flat_take encIS code hjc Ins.z)
          have hwr := HBQ9.out.bel.size
          obtain ⟨a1, hA, hab, y0, y1, y2, y3, y4⟩ := (HX1.out.keep (Kp.of_below HBQ9.out.bel (Nat.le_trans hh hwl))).whole hjc
          have HEI := Lib.hid (HE.out.ins (code.getD j Ins.z) (getD_mem' hjc))
          obtain ⟨x, hx⟩ : ∃ x, x = code.getD j Ins.z := ⟨_, rfl⟩
          rw [← hx] at y0 y1 y2 y3 y4 HEI HTI
          obtain ⟨op, xa, xb, xc, im⟩ := x
          simp only at y0 y1 y2 y3 y4
          have hop := HEI.out.op
          have hea := HEI.out.a
          have heb := HEI.out.b
          have hec := HEI.out.c
          have hei := HEI.out.im
          simp only at hop hea heb hec hei
          obtain ⟨on, rfl⟩ := Int.eq_ofNat_of_zero_le hop.1
          obtain ⟨an, rfl⟩ := Int.eq_ofNat_of_zero_le hea.1
          obtain ⟨bn, rfl⟩ := Int.eq_ofNat_of_zero_le heb.1
          obtain ⟨cn, rfl⟩ := Int.eq_ofNat_of_zero_le hec.1
          obtain ⟨imn, rfl⟩ := Int.eq_ofNat_of_zero_le hei.1
          have hon : on < 25 := by omega
          have HOP := Lib.hid (fun W => operands_any on hon W)
          have HPI : Hid (∀ W, Calls Tryd.prog 39 #[.slice none 0 0, .agg #[.int .i64 (on : Int), .int .i64 (an : Int), .int .i64 (bn : Int), .int .i64 (cn : Int), .int .u64 (imn : Int)], .bool (useA on), .bool (useB on), .bool (useC on), .bool (useI on)] W (PiD (encIS ⟨on, an, bn, cn, imn⟩) W)) := Lib.hid (fun W => by
            rw [← encG_S hon]
            exact putinstr_any on an bn cn imn _ _ _ _ (by omega) (by omega) (by omega) (by omega) (by omega) W)
          have haw : a1.block < wr.heap.size := by omega
          subst hA
          have hil := encIS_len ⟨(on : Int), (an : Int), (bn : Int), (cn : Int), (imn : Int)⟩
          have HIB := Lib.hid (encIS_bytes HEI.out)
          obtain ⟨D, hD⟩ : ∃ D, D = encIS ⟨(on : Int), (an : Int), (bn : Int), (cn : Int), (imn : Int)⟩ := ⟨_, rfl⟩
          rw [← hD] at HPI hil HIB HTI
          obtain ⟨nd, hnd⟩ : ∃ n, n = D.length := ⟨_, rfl⟩
          have HND := Lib.hid hnd
          have hnd1 : 1 ≤ nd ∧ nd ≤ 41 := by omega
          clear hop hea heb hec hei hx hab hjc hD hnd hil HEI
          generalize wr = wq at *
          generalize useA on = u1 at *
          generalize useB on = u2 at *
          generalize useC on = u3' at *
          generalize useI on = u4 at *
          go_wp2_with fail
          refine (HOP.out _).mono ?_
          rintro e w' ⟨rfl, rfl⟩
          go_wp2_with fail
          refine (HPI.out _).mono ?_
          rintro e w10 ⟨Vd, cd, rfl, owd, beld⟩
          rw [← HND.out] at owd ⊢
          have HBQ10 := Lib.hid (HBQ9.out.after beld (Nat.le_refl _))
          have HOD := Lib.hid owd
          clear owd beld HPI HOP c0 c1 c2 cz y0 y1 y2 y3 y4 haw
          have hz10 : W1.heap.size ≤ w10.heap.size := HBQ10.out.bel.size
          have hown9 : w10.ownsRow W1.heap.size 5 1 (.slice V9 n9 c9) n9 (nb L9) := by have := HBQ10.out.ow; rw [← HN9.out] at this; exact this
          go_wp2_with (at_builtin; refine wpList_append_any _ rfl (.tmp 69) (.tmp 79) _ rfl W1.heap.size 5 i0 _ 1 1 Tryd.underlying22 hi0 hz0 hz1 hz2 rfl (by omega) (.slice V9 n9 c9) n9 (nb L9) rfl hown9 w10.heap.size Vd nd cd (nb D) rfl (Reads.of_own HOD.out) (nb_one D) (by unfold maxLen; omega) (by omega) hz10 ?_; intro o11 w11 own11 hg11 hat11; obtain ⟨V11, c11, rfl, hm11⟩ := own_form own11)
          have HBQ11 : Hid (BQ W1.heap.size (L9 ++ D) W1 (.slice V11 (n9 + nd) c11) w11) := Lib.hid (by
            have hl : (L9 ++ D).length = n9 + nd := by rw [List.length_append, HN9.out, HND.out]
            refine ⟨?_, fun y hy => (List.mem_append.1 hy).elim (HBQ10.out.by_ y) (HIB.out y), below_append HBQ10.out.bel hown9 hg11 (Nat.le_refl _) hz10⟩
            rw [hl, nb_append]
            exact own11)
          have HN11 : Hid (n9 + nd = (L9 ++ D).length) := Lib.hid (by rw [List.length_append, HN9.out, HND.out])
          have HNJ1 : Hid (n9 + nd ≤ 30010 + 41 * (j + 1)) := Lib.hid (by have := HNJ.out; omega)
          clear own11 hg11 hat11 hm11 hown9 HOD HBQ10
          go_wp2
          go_roundw
          case rel =>
            refine ⟨j + 1, L9 ++ D, V11, n9 + nd, c11, by omega, HNJ1.out, rfl, by go_num, HN11, Lib.hid ?_, HBQ11⟩
            rw [HTI.out, HL9.out, List.append_assoc]
          case measure => simp [intOf]; omega
        · have hjn : j = nc := by omega
          have HJN := Lib.hid hjn
          subst hjn
          have HF : Hid (descS ⟨prm, sl, code⟩ = L9) := Lib.hid (by
            unfold descS
            simp only
            rw [HL9.out, HJN.out, HNC.out, List.take_length, HL7.out, HLS.out, HL0.out, HNC.out]
            simp only [List.append_assoc])
          go_wp2
          go_ret
          rw [HF.out]
          have hbq := HBQ9.out
          refine ⟨V9, c9, by rw [← HN9.out]; rfl, .inl (own_less ?_ hwl), HB1.out.trans (hbq.bel.mono hwl)⟩
          have := hbq.ow
          rw [← HN9.out] at this ⊢
          exact this
end Go.Proofs.YtinfeglhjmnlaaaDoor.pm
