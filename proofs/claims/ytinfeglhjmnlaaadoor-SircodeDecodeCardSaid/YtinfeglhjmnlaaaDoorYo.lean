/- Bytes of programs: sircode.parse. -/
import Derived.Test.YtinfeglhjmnlaaaDoorYn
import Derived.Test.YtinfeglhjmnlaaaDoorGYc
import Derived.Test.YtinfeglhjmnlaaaDoorGIa
import Derived.Test.YtinfeglhjmnlaaaDoorIl0
import Derived.Test.YtinfeglhjmnlaaaDoorClone
import Derived.Deep.RegionLaw
import Derived.Deep.RegionHeld3
import Derived.Deep.RegionWith
import Derived.Deep.DrawnRows
import Derived.StillTailTactics
namespace Go.Proofs.YtinfeglhjmnlaaaDoor.pm
open Go.RowKit
set_option linter.unusedVariables false
set_option maxRecDepth 10000

theorem parE_3 {l : List Nat} (h : 1048576 < l.length) : parE l = 3 := by unfold parE; rw [if_pos h]
theorem parE_1 {l : List Nat} (h : ¬ 1048576 < l.length) (h2 : l.length < 9) : parE l = 1 := by unfold parE; rw [if_neg h, if_pos h2]
theorem parE_2 {l : List Nat} {k : Nat} (hl : l.length = k + 4) (h : ¬ 1048576 < l.length) (h2 : ¬ l.length < 9) (h3 : ¬ (l.take 4 = mgS ∧ sealL (l.take k) = l)) : parE l = 2 := by
  unfold parE
  rw [if_neg h, if_neg h2, hl, Nat.add_sub_cancel, if_neg h3]
theorem parE_0 {l : List Nat} {k : Nat} (hl : l.length = k + 4) (h : ¬ 1048576 < l.length) (h2 : ¬ l.length < 9) (h3 : l.take 4 = mgS ∧ sealL (l.take k) = l) : parE l = (progS (l.take k)).2 ∧ ((progS (l.take k)).2 = 0 → parP l = (progS (l.take k)).1) := by
  have h4 : parE l = (progS (l.take k)).2 := by
    unfold parE
    rw [if_neg h, if_neg h2, hl, Nat.add_sub_cancel, if_pos h3]
  refine ⟨h4, fun h5 => ?_⟩
  unfold parP
  rw [if_pos (h4.trans h5), hl, Nat.add_sub_cancel]
theorem progS_eq {l : List Nat} {N p e : Nat} (h : upS l 80 3 4 0 = (N, p, e)) : progS l = ((manyS (fsS l) N p e).1, endR l (manyS (fsS l) N p e).2.1 (manyS (fsS l) N p e).2.2) := by
  unfold progS
  rw [h]
theorem put1_6 {w : World} {g : Nat} {t : TypeId} {b0 : Value} (h : Blk w g t #[b0]) (a0 : Value) : Blk (w.setCell ⟨g, 0, none⟩ a0) g t #[a0] := by
  have := h.set_ 0 a0
  simpa using this
set_option maxHeartbeats 2000000 in
theorem parse_err (A : Option Addr) (n c : Nat) (l : List Nat) (w : World) (hb : Bs w w.heap.size A n l) (hn : n ≤ maxLen) (he : 1048576 < n ∨ n < 9) :
    Calls Tryd.prog 67 #[.slice A n c] w (PaD l w) := by
  have hln := hb.len
  obtain ⟨W1, hW1⟩ : ∃ W1, W1 = w.alloc (.cells #[.slice none 0 0] 44) := ⟨_, rfl⟩
  have hB1 : Below w.heap.size w W1 := by rw [hW1]; exact (Below.refl _ _).alloc (Nat.le_refl _) _
  have HKT : Hid (Blk W1 w.heap.size 44 #[.slice none 0 0]) := Lib.hid (by rw [hW1]; exact Blk.new _ _ _)
  have HW1 := Lib.hid hW1
  have HZ := Lib.hid (put1_6 HKT.out (.slice none 0 0))
  have HZB : Hid (Below w.heap.size w (W1.setCell ⟨w.heap.size, 0, none⟩ (.slice none 0 0))) := Lib.hid (hB1.setCell (p := ⟨w.heap.size, 0, none⟩) (Nat.le_refl _) _)
  have hni : (n : Int) ≤ 9223372036854775807 := by unfold maxLen at hn; omega
  obtain ⟨d0, df0, dz⟩ := HKT.out.c1
  by_cases h1 : 1048576 < n
  · have HE : Hid (parE l = 3) := Lib.hid (parE_3 (by omega))
    have h1i : (1048576 : Int) < (n : Int) := by omega
    clear hW1 hB1 hb he hln h1
    go_enter Tryd.func67, Tryd.ntmps67
    go_upto_region 1 with (fail)
    rw [← HW1.out]
    go_wp2
    obtain ⟨e0, -⟩ := HZ.out.c1
    exact bodyPost_ret (v := .tuple #[.agg #[.slice none 0 0], .slice none 0 0, .int .i64 3]) (by simp [results, Tryd.results67, go_sem, e0]) rfl (PaD.err HE.out (by decide) HZB.out)
  · have h2 : n < 9 := he.resolve_left h1
    have HE : Hid (parE l = 1) := Lib.hid (parE_1 (by omega) (by omega))
    have h2i : (n : Int) < 9 := by omega
    clear hW1 hB1 hb he hln h1 h2
    go_enter Tryd.func67, Tryd.ntmps67
    go_upto_region 1 with (fail)
    rw [← HW1.out]
    go_wp2
    obtain ⟨e0, -⟩ := HZ.out.c1
    exact bodyPost_ret (v := .tuple #[.agg #[.slice none 0 0], .slice none 0 0, .int .i64 1]) (by simp [results, Tryd.results67, go_sem, e0]) rfl (PaD.err HE.out (by decide) HZB.out)
set_option maxHeartbeats 8000000 in
theorem parse_ok (A : Option Addr) (n c : Nat) (l : List Nat) (w : World) (hb : Bs w w.heap.size A n l) (h1 : n ≤ 1048576) (h2 : 9 ≤ n) (hc : n ≤ c) (hcm : c ≤ maxLen) :
    Calls Tryd.prog 67 #[.slice A n c] w (PaD l w) := by
  have hln := hb.len
  obtain ⟨k, hk⟩ : ∃ k, n = k + 4 := ⟨n - 4, by omega⟩
  have HBS := Lib.hid hb
  have HN := Lib.hid hk
  obtain ⟨W1, hW1⟩ : ∃ W1, W1 = w.alloc (.cells #[.slice none 0 0] 44) := ⟨_, rfl⟩
  obtain ⟨g2, hg2⟩ : ∃ g, g = w.heap.size := ⟨_, rfl⟩
  have hB1 : Below w.heap.size w W1 := by rw [hW1]; exact (Below.refl _ _).alloc (Nat.le_refl _) _
  have HKT : Hid (Blk W1 g2 44 #[.slice none 0 0]) := Lib.hid (by rw [hW1, hg2]; exact Blk.new _ _ _)
  have HB1 := Lib.hid hB1
  have HW1 := Lib.hid hW1
  have HG2 := Lib.hid hg2
  have hwg : w.heap.size ≤ g2 := by omega
  have hs1 : W1.heap.size = g2 + 1 := by rw [hW1, hg2]; simp
  have hb1 := hb.below hB1
  have hcv : ∀ c', (convert 22 9 (.slice A 4 c')).run Tryd.prog W1 = .ok (.string (strB (l.take 4))) W1 := fun c' => conv_take (c := c') hb1 4 (by omega) (by decide)
  have hmg : strB mgS = { data := #[83, 73, 82, 49] } := rfl
  have hst := strB_inj (l := l.take 4) (m := mgS) (fun x hx => hb.2 x (List.mem_of_mem_take hx)) (by decide)
  rw [hmg] at hst
  have h4c : (4 : Int) ≤ (c : Int) := by omega
  have h4c' : 4 ≤ c := by omega
  have hkc : k ≤ c := by omega
  have hkci : (k : Int) ≤ (c : Int) := by omega
  have hk0 : (0 : Int) ≤ (k : Int) := by omega
  have hcc : (c : Int) ≤ 9223372036854775807 := by unfold maxLen at hcm; omega
  obtain ⟨xn, hxn⟩ : ∃ x : Int, (n : Int) = x := ⟨_, rfl⟩
  have hx1 : ¬ (1048576 : Int) < xn := by omega
  have hx2 : ¬ xn < 9 := by omega
  have hx3 : IntKind.i64.wrap (xn - 4) = (k : Int) := by rw [IntWalk.i64_in _ (by omega)]; omega
  have HNB : Hid (n ≤ 1048576 ∧ 9 ≤ n ∧ n ≤ c ∧ c ≤ maxLen ∧ l.length = n) := Lib.hid ⟨h1, h2, hc, hcm, hln⟩
  obtain ⟨lk, hlk⟩ : ∃ x, x = l.take k := ⟨_, rfl⟩
  have HLKE := Lib.hid hlk
  have HLK : Hid (lk.length = k) := Lib.hid (by rw [hlk, List.length_take]; omega)
  have HBK : Hid (∀ W, Below w.heap.size w W → Bs W w.heap.size A k lk) := Lib.hid (fun W h => by rw [hlk]; exact (HBS.out.below h).take (by omega))
  have HP2 : Hid (¬ (l.take 4 = mgS ∧ sealL lk = l) → parE l = 2) := Lib.hid (fun h => parE_2 (k := k) (by omega) (by omega) (by omega) (by rw [← hlk]; exact h))
  have HP0 : Hid (l.take 4 = mgS ∧ sealL lk = l → parE l = (progS lk).2 ∧ ((progS lk).2 = 0 → parP l = (progS lk).1)) := Lib.hid (fun h => by rw [hlk]; exact parE_0 (k := k) (by omega) (by omega) (by omega) (by rw [← hlk]; exact h))
  obtain ⟨sv, hsv⟩ : ∃ s, s = strB (l.take 4) := ⟨_, rfl⟩
  rw [← hsv] at hcv hst
  have HZB2 : Hid (∀ W, Blk W g2 44 #[.slice none 0 0] → Below w.heap.size w W → (Blk (W.setCell ⟨g2, 0, none⟩ (.slice none 0 0)) g2 44 #[.slice none 0 0] ∧ Below w.heap.size w (W.setCell ⟨g2, 0, none⟩ (.slice none 0 0)))) := Lib.hid (fun W h h' => ⟨put1_6 h _, h'.setCell (p := ⟨g2, 0, none⟩) hwg _⟩)
  clear hW1 hg2 hB1 hb hln hk hb1 hmg hsv hlk h1 h2 hc hcm
  by_cases hm : l.take 4 = mgS
  case neg =>
    have hse : ¬ sv = { data := #[83, 73, 82, 49] } := fun h => hm (hst.1 h)
    have hse3 : ¬ sv.toList = [83, 73, 82, 49] := fun h => hse (by rw [ByteArray.toList_eq] at h; cases sv with | mk d => exact congrArg ByteArray.mk (Array.toList_inj.1 (by simpa using h)))
    have hse4 : (sv.toList == [83, 73, 82, 49]) = false := by rw [beq_eq_false_iff_ne]; exact hse3
    have HE : Hid (parE l = 2) := Lib.hid (HP2.out (fun h => hm h.1))
    have hz := HZB2.out W1 HKT.out HB1.out
    have HZ := Lib.hid hz.1
    have HZB := Lib.hid hz.2
    obtain ⟨d0, df0, dz⟩ := HKT.out.c1
    clear hm hst hz HP2 HP0
    go_enter Tryd.func67, Tryd.ntmps67
    go_upto_region 1 with (fail)
    rw [← HW1.out, ← HG2.out]
    go_wp2
    obtain ⟨e0, -⟩ := HZ.out.c1
    exact bodyPost_ret (v := .tuple #[.agg #[.slice none 0 0], .slice none 0 0, .int .i64 2]) (by simp [results, Tryd.results67, go_sem, e0]) rfl (PaD.err HE.out (by decide) HZB.out)
  case pos =>
  have hse := hst.2 hm
  subst hse
  have HM := Lib.hid hm
  clear hm hst
  have HCL := Lib.hid (clone_any A k c lk W1 W1.heap.size ((HBK.out W1 HB1.out).more (by omega)) (Nat.le_refl _) (by have := HNB.out; have := HN.out; omega))
  go_enter Tryd.func67, Tryd.ntmps67
  go_upto_region 6 with (fail)
  rw [← HW1.out, ← HG2.out]
  go_wp2_with fail
  refine HCL.out.mono ?_
  rintro e w2 ⟨o2, rfl, own2, bel2⟩
  obtain ⟨V2, c2, rfl, hm2⟩ := own_form own2
  have HB2 := Lib.hid (HB1.out.trans (bel2.mono (by omega)))
  have HKT2 := Lib.hid (HKT.out.after bel2)
  have HSE := Lib.hid (sseal_any W1.heap.size V2 k c2 lk w2 HLK.out (.inl own2) (HBK.out W1 HB1.out).2 (by have := HNB.out; have := HN.out; omega) bel2.size)
  have hs2 : W1.heap.size ≤ w2.heap.size := bel2.size
  clear own2 bel2 HCL hm2
  go_wp2_with fail
  refine HSE.out.mono ?_
  rintro e w3 ⟨V3, c3, rfl, own3, nob3, bel3⟩
  have hln3 : (sealL lk).length = n := by rw [sealL_len, HLK.out, HN.out]
  rw [hln3] at own3 ⊢
  have HB3 := Lib.hid (HB2.out.trans (bel3.mono (by omega)))
  have HKT3 : Hid (Blk w3 g2 44 #[.slice none 0 0]) := Lib.hid (HKT2.out.below bel3 (by omega))
  have HEQ := Lib.hid (eq_bytes V3 A n c3 n c (sealL lk) l w3 w3.heap.size ⟨Reads.of_own own3, sealL_bytes (HBK.out W1 HB1.out).2⟩ ((HBS.out.below HB3.out).more HB3.out.size) (by unfold maxLen; have := HNB.out; omega) (by unfold maxLen; have := HNB.out; omega))
  have hs3 : W1.heap.size ≤ w3.heap.size := Nat.le_trans hs2 nob3.1
  clear own3 nob3 bel3 hln3 HSE HKT2 HB2 HKT
  go_wp2_with fail
  refine HEQ.out.mono ?_
  rintro e w4 ⟨rfl, k4, hw4⟩
  have HB4 : Hid (Below w.heap.size w w4) := Lib.hid (by rw [hw4]; exact below_drewN HB3.out _)
  have HKT4 : Hid (Blk w4 g2 44 #[.slice none 0 0]) := Lib.hid (by rw [hw4]; exact HKT3.out.drewN _)
  clear hw4 HEQ HKT3 HB3
  by_cases hq : sealL lk = l
  case neg =>
    have HE : Hid (parE l = 2) := Lib.hid (HP2.out (fun h => hq h.2))
    have hz := HZB2.out w4 HKT4.out HB4.out
    have HZ := Lib.hid hz.1
    have HZB := Lib.hid hz.2
    obtain ⟨d0, df0, dz⟩ := HKT4.out.c1
    rw [show decide (sealL lk = l) = false by simpa using hq]
    clear hq hz HP2 HP0
    go_wp2
    obtain ⟨e0, -⟩ := HZ.out.c1
    exact bodyPost_ret (v := .tuple #[.agg #[.slice none 0 0], .slice none 0 0, .int .i64 2]) (by simp [results, Tryd.results67, go_sem, e0]) rfl (PaD.err HE.out (by decide) HZB.out)
  case pos =>
  have HPE0 := Lib.hid (HP0.out ⟨HM.out, hq⟩)
  rw [show decide (sealL lk = l) = true by simpa using hq]
  clear hq HP2 HP0 HM HZB2 hcv h4c h4c' hx1 hx2 hx3 hxn
  go_upto_region 10 with (fail)
  obtain ⟨W5, hW5⟩ : ∃ W5, W5 = (w4.alloc (.cells #[.slice A k c, .int .i64 4, .int .i64 0] 135)).alloc (.cells #[.slice none 0 0] 44) := ⟨_, rfl⟩
  obtain ⟨gr, hgr⟩ : ∃ g, g = w4.heap.size := ⟨_, rfl⟩
  obtain ⟨g7, hg7⟩ : ∃ g, g = gr + 1 := ⟨_, rfl⟩
  obtain ⟨lo, hlo⟩ : ∃ g, g = g7 + 1 := ⟨_, rfl⟩
  rw [← hW5, ← hgr, ← hg7]
  have hb5 : Below w4.heap.size w4 W5 := by rw [hW5]; exact ((Below.refl _ _).alloc (Nat.le_refl _) _).alloc (by simp) _
  have HK5 : Hid (Blk W5 gr 135 #[.slice A k c, .int .i64 ((4 : Nat) : Int), .int .i64 ((0 : Nat) : Int)]) := Lib.hid (by rw [hW5, hgr]; exact (Blk.new _ _ _).alloc _)
  have hb5w : Below w.heap.size w W5 := HB4.out.trans (hb5.mono HB4.out.size)
  have HP5 : Hid (PI g2 g7 lo [] (.slice none 0 0) [] [] (.slice none 0 0) [] w W5) := Lib.hid ⟨HKT4.out.after hb5, by rw [hW5]; exact Blk.newAt (by simp; omega), World.ownsRow_nil _ _ _ _, fun i hi => by simp at hi, World.ownsRow_nil _ _ _ _, fun i hi => by simp at hi, hb5w⟩
  have hg2r : g2 < gr := by have := HKT4.out.lt; omega
  have hrg7 : gr < g7 := by omega
  have hg7l : g7 < lo := by omega
  have hz5 : lo ≤ W5.heap.size := by rw [hW5]; simp; omega
  have hwr : w.heap.size ≤ gr := by omega
  clear hW5 hgr hg7 hlo hb5 hb5w HKT4 HB4 hs3 hs2 hs1
  have HUP := Lib.hid (fun (W : World) (lim er q e : Nat) (hk : Blk W gr 135 #[.slice A k c, .int .i64 (q : Int), .int .i64 (e : Int)]) (h : Below w.heap.size w W) (hq : q ≤ 2000000) (hl : lim ≤ 2147483647) => up6 gr w.heap.size A k c lk lim er q e W hk (HBK.out W h) (by have := HNB.out; have := HN.out; omega) hq hl)
  have hk5 : 5 ≤ k ∧ k ≤ 1048572 := by have := HNB.out; have := HN.out; omega
  have hkb : (k : Int) ≤ 1048572 := by omega
  have HLL : Hid (lk.length ≤ k) := Lib.hid (by rw [HLK.out]; exact Nat.le_refl _)
  have HU := Lib.hid (HUP.out W5 80 3 4 0 HK5.out HP5.out.bel (by decide) (by decide))
  obtain ⟨N, p3, e3, he3⟩ : ∃ v p e, upS lk 80 3 4 0 = (v, p, e) := ⟨_, _, _, rfl⟩
  have hN80 : N ≤ 80 := by have := (upS_le lk 80 3 4 0).1; rw [he3] at this; exact this
  have hp3 : p3 ≤ k := by have := upS_pos (l := lk) (M := k) (lim := 80) (er := 3) (p := 4) (e := 0) (by omega) HLL.out; rw [he3] at this; exact this
  rw [he3] at HU
  have HPG := Lib.hid (progS_eq he3)
  clear he3
  go_wp2_with (go_at_call 98; refine HU.out.mono ?_; rintro e w6 ⟨rfl, hk6, hg6⟩)
  have HK6 := Lib.hid hk6
  have HP6 := Lib.hid (HP5.out.grown HK5.out hg6 hwr)
  have hz6 : lo ≤ w6.heap.size := Nat.le_trans hz5 hg6.size
  clear hk6 hg6 HU HK5 HP5 hz5
  obtain ⟨i0, hi0, hz0, hz1, hz2⟩ := info_parts info_fn
  obtain ⟨i1, hi1, hy0, hy1, hy2⟩ := info_parts info_bs
  go_loopw [8, 9] (fun y x wr => ∃ (m q e : Nat) (fl : List (Fn × List Nat)) (o1 o2 : Value) (vs1 vs2 : List Value), x = .int .i64 (m : Int) ∧ o2 = y ∧ q ≤ k ∧ lo ≤ wr.heap.size ∧ Hid (fl.length + m ≤ 80) ∧ Hid (manyS (fsS lk) N p3 e3 = (fl ++ (manyS (fsS lk) m q e).1, (manyS (fsS lk) m q e).2)) ∧
    Hid (Blk wr gr 135 #[.slice A k c, .int .i64 (q : Int), .int .i64 (e : Int)]) ∧ Hid (PI g2 g7 lo (fl.map Prod.fst) o1 vs1 (fl.map Prod.snd) o2 vs2 w wr)) (fun y x _ => (intOf x).toNat)
  case atStart => exact ⟨N, p3, e3, [], .slice none 0 0, .slice none 0 0, [], [], rfl, rfl, hp3, hz6, Lib.hid (by simpa using hN80), Lib.hid (by simp), HK6, HP6⟩
  case round =>
    obtain ⟨m, q, e', fl, o1, o2, vs1, vs2, rfl, rfl, hq, hlz, HM, HCO, HKr, HPr⟩ := hrel
    have hm80 : (m : Int) ≤ 80 := by have := HM.out; omega
    obtain ⟨r0, r1, r2, rf0, rf1, rf2, rz⟩ := HKr.out.c3
    clear HK6 HP6 hz6 hp3 hN80
    by_cases hend : m = 0 ∨ e' ≠ 0
    · have HPE : Hid (parE l = endR lk q e') := Lib.hid (by rw [HPE0.out.1, HPG.out]; simp only; rw [HCO.out, manyS_stop hend])
      have HPP : Hid (endR lk q e' = 0 → parP l = fl) := Lib.hid (fun h => by
        rw [HPE0.out.2 (by rw [← HPE0.out.1, HPE.out, h]), HPG.out]
        simp only
        rw [HCO.out, manyS_stop hend]
        simp)
      have HKt := HKr
      have HPt := HPr
      clear HCO HKr HPr
      by_cases hm0 : m = 0
      case' pos =>
        subst hm0
        clear hend
        go_upto_region 23 with (fail)
      case' neg =>
        have hb' : e' ≠ 0 := hend.resolve_left hm0
        have hbe : ((e' : Int) == 0) = false := by rw [beq_eq_false_iff_ne]; omega
        have hmi : (0 : Int) < (m : Int) := by omega
        clear hend hm0 hb'
        go_upto_region 23 with (fail)
      all_goals
        clear r0 r1 r2 rf0 rf1 rf2 rz
        by_cases he : endR lk q e' = 0
        · skip
          have HEND := Lib.hid (end6 gr A k c lk q e' wr HLK.out HKt.out)
          have HP0 : Hid (parE l = 0 ∧ parF l = fl.map Prod.fst ∧ parD l = fl.map Prod.snd) := Lib.hid ⟨by rw [HPE.out, he], by unfold parF; rw [HPP.out he], by unfold parD; rw [HPP.out he]⟩
          obtain ⟨V1, cc1, ho1, hm1⟩ := own_form HPt.out.ow1
          obtain ⟨V2, cc2, ho2, hm2⟩ := own_form HPt.out.ow2
          subst ho1 ho2
          obtain ⟨nf, hnf⟩ : ∃ k, k = (fl.map Prod.fst).length := ⟨_, rfl⟩
          obtain ⟨nd, hnd⟩ : ∃ k, k = (fl.map Prod.snd).length := ⟨_, rfl⟩
          have HXt := Lib.hid HPt.out.x
          rw [← hnf] at HXt
          rw [← hnd]
          have HNF := Lib.hid hnf
          have HND := Lib.hid hnd
          rw [he] at HEND
          clear HPE HPP he hnf hnd hm1 hm2
          go_wp2_with fail
          refine HEND.out.mono ?_
          rintro e w20 ⟨rfl, hk20, hg20⟩
          have HK20 := Lib.hid hk20
          have HP20 := Lib.hid (HPt.out.grown HKt.out hg20 hwr)
          have HX20 := Lib.hid (HXt.out.grown hg20 (by intro h; injection h with h; omega))
          clear hk20 hg20 HEND HKt HPt HXt
          obtain ⟨r0, r1, r2, -, -, -, rz⟩ := HK20.out.c3
          obtain ⟨d0, df0, dz⟩ := HP20.out.f.c1
          obtain ⟨x0, -, xz⟩ := HX20.out.c1
          have HZZ := Lib.hid (put1_6 HP20.out.f (.slice V1 nf cc1))
          have HFIN : Hid (PaD l w (.returned (.tuple #[.agg #[.slice V1 nf cc1], .slice V2 nd cc2, .int .i64 0])) (w20.setCell ⟨g2, 0, none⟩ (.slice V1 nf cc1))) := Lib.hid (by
            have hkz : Kp lo w20.heap.size w20 (w20.setCell ⟨g2, 0, none⟩ (.slice V1 nf cc1)) := (Kp.refl _ _ _).set (.inl (by show g2 < lo; omega)) _
            have hwl : w.heap.size ≤ lo := by omega
            have hf : Fx w20 lo w20.heap.size V1 (fl.map Prod.fst) := ⟨vs1, Rx.of_own HP20.out.ow1, HP20.out.vq.vx⟩
            have hd : Dx w20 lo w20.heap.size V2 (fl.map Prod.snd) := ⟨vs2, Rx.of_own HP20.out.ow2, HP20.out.dq⟩
            refine ⟨V1, cc1, V2, cc2, ?_, ?_, ?_, ?_, HP20.out.bel.setCell (p := ⟨g2, 0, none⟩) (by show w.heap.size ≤ g2; omega) _⟩
            · rw [HP0.out.1, HP0.out.2.1, HP0.out.2.2, ← HNF.out, ← HND.out]; rfl
            · rw [HP0.out.2.1]; exact (hf.keep hkz).more hwl (by simp)
            · rw [HP0.out.2.2]; exact (hd.keep hkz).more hwl (by simp)
            · rw [HP0.out.2.1, HP0.out.2.2]; exact ⟨(own_cap HP20.out.ow1).2, (own_cap HP20.out.ow2).2⟩)
          clear HP20 HX20 HK20 HP0
          go_wp2
          obtain ⟨e0, -⟩ := HZZ.out.c1
          exact bodyPost_ret (v := .tuple #[.agg #[.slice V1 nf cc1], .slice V2 nd cc2, .int .i64 0]) (by simp [results, Tryd.results67, go_sem, e0]) rfl HFIN.out
        · skip
          obtain ⟨er, her⟩ : ∃ er, endR lk q e' = er := ⟨_, rfl⟩
          have HNZ : Hid (er ≠ 0) := Lib.hid (by rw [← her]; exact he)
          have HPE2 : Hid (parE l = er) := Lib.hid (by rw [HPE.out, her])
          have hne' : ((er : Int) != 0) = true := by rw [bne_iff_ne]; have := HNZ.out; omega
          have HEND := Lib.hid (end6 gr A k c lk q e' wr HLK.out HKt.out)
          rw [her] at HEND
          clear HPE her
          go_wp2_with fail
          refine HEND.out.mono ?_
          rintro e w20 ⟨rfl, hk20, hg20⟩
          have HK20 := Lib.hid hk20
          have HP20 := Lib.hid (HPt.out.grown HKt.out hg20 hwr)
          clear hk20 hg20 HEND HKt HPt
          obtain ⟨r0, r1, r2, -, -, -, rz⟩ := HK20.out.c3
          obtain ⟨d0, df0, dz⟩ := HP20.out.f.c1
          go_upto_region 25 with (fail)
          rename_i K9 hK9
          have hgne : gr ≠ g2 := by omega
          have HK21 : Hid (Blk (w20.setCell ⟨g2, 0, none⟩ (.slice none 0 0)) gr 135 #[.slice A k c, .int .i64 (q : Int), .int .i64 (er : Int)]) := Lib.hid (HK20.out.far (by simpa using hgne) _)
          have HZZ := Lib.hid (put1_6 HP20.out.f (.slice none 0 0))
          have HZB : Hid (Below w.heap.size w (w20.setCell ⟨g2, 0, none⟩ (.slice none 0 0))) := Lib.hid (HP20.out.bel.setCell (p := ⟨g2, 0, none⟩) (by show w.heap.size ≤ g2; omega) _)
          obtain ⟨q0, q1, q2, -, -, -, qz⟩ := HK21.out.c3
          obtain ⟨e0, -⟩ := HZZ.out.c1
          have HSa : Hid (w20.drew.cell? ⟨gr, 2, none⟩ = some (.int .i64 (er : Int))) := Lib.hid r2
          have HSb : Hid ((w20.drew.setCell ⟨g2, 0, none⟩ (.slice none 0 0)).cell? ⟨gr, 2, none⟩ = some (.int .i64 (er : Int))) := Lib.hid q2
          have HSc : Hid ((w20.setCell ⟨g2, 0, none⟩ (.slice none 0 0)).drew.cell? ⟨gr, 2, none⟩ = some (.int .i64 (er : Int))) := Lib.hid q2
          have HSd : Hid ((w20.setCell ⟨g2, 0, none⟩ (.slice none 0 0)).cell? ⟨gr, 2, none⟩ = some (.int .i64 (er : Int))) := Lib.hid q2
          clear q0 q1 q2 qz HPE0 HPG HUP HBK HBS HLKE HLL HM hi0 hz0 hz1 hz2 hi1 hy0 hy1 hy2
          go_region_held3 (fun W => W.cell? ⟨gr, 2, none⟩ = some (.int .i64 (er : Int)))
            (with_reducible first | assumption | exact HSa.out | exact HSb.out | exact HSc.out | exact HSd.out)
            (fail)
          all_goals
            refine hK9 _ _ ?_
            refine wp_ret ?_
            change bodyPost Tryd.prog Tryd.f67 _ .ret _ _
            exact bodyPost_ret (v := .tuple #[.agg #[.slice none 0 0], .slice none 0 0, .int .i64 (er : Int)]) (by simp [results, Tryd.results67, go_sem, e0]) rfl (PaD.err HPE2.out HNZ.out (by first | exact HZB.out | exact HZB.out.drew))
    · obtain ⟨hm0, hb0⟩ := not_or.1 hend
      obtain ⟨m', hm'⟩ := Nat.exists_eq_succ_of_ne_zero hm0
      have HM' : Hid (m = m' + 1) := Lib.hid hm'
      have hbf : e' = 0 := by simpa using hb0
      subst hbf
      have hmi : (0 : Int) < (m : Int) := by omega
      clear hend hm0 hb0 hm'
      generalize wr = wo at *
      have H1 := Lib.hid (HUP.out wo k 1 q 0 HKr.out HPr.out.bel (by omega) (by omega))
      obtain ⟨v1, p1, e1, he1⟩ : ∃ v p e, upS lk k 1 q 0 = (v, p, e) := ⟨_, _, _, rfl⟩
      have hp1 : p1 ≤ k := by have := upS_pos (l := lk) (M := k) (lim := k) (er := 1) (e := 0) hq HLL.out; rw [he1] at this; exact this
      have hv1 : v1 ≤ k := by have := (upS_le lk k 1 q 0).1; rw [he1] at this; exact this
      rw [he1] at H1
      have HSZ : Hid (sizeS lk q 0 = (v1, p1, if e1 = 0 ∧ k - p1 < v1 then 1 else e1)) := Lib.hid (by
        unfold sizeS
        rw [HLK.out, he1])
      clear he1
      go_wp2_with fail
      refine H1.out.mono ?_
      rintro e w7 ⟨rfl, hk7, hg7⟩
      simp only at hk7 ⊢
      have HK7 := Lib.hid hk7
      have HP7 := Lib.hid (HPr.out.grown HKr.out hg7 hwr)
      have hz7 : lo ≤ w7.heap.size := Nat.le_trans hlz hg7.size
      clear hk7 hg7 H1 HKr HPr r0 r1 r2 rf0 rf1 rf2 rz hlz
      obtain ⟨r0, r1, r2, rf0, rf1, rf2, rz⟩ := HK7.out.c3
      obtain ⟨kp, hkp⟩ : ∃ x : Int, x = (k : Int) - (p1 : Int) := ⟨_, rfl⟩
      have hwk : IntKind.i64.wrap ((k : Int) - (p1 : Int)) = kp := by rw [IntWalk.i64_in _ (by omega)]; exact hkp.symm
      go_upto_region 15 with (fail)
      by_cases h1 : e1 = 0
      case neg =>
        have hb1 : ((e1 : Int) == 0) = false := by rw [beq_eq_false_iff_ne]; omega
        have hb2 : ((e1 : Int) != 0) = true := by rw [bne_iff_ne]; omega
        have HS2 : Hid (sizeS lk q 0 = (v1, p1, e1)) := Lib.hid (by rw [HSZ.out, if_neg (fun h => h1 h.1)])
        have HNE := Lib.hid h1
        have hnz : endR lk p1 e1 ≠ 0 := by unfold endR; rw [if_neg (fun h => h1 h.1)]; exact h1
        have HPE : Hid (parE l = endR lk p1 e1) := Lib.hid (by
          have h := manyS_succ (f := fsS lk) (n := m') (p := q)
          have hfs : (fsS lk q 0).2 = (p1, e1) := by unfold fsS partS; rw [HS2.out]; simp only; rw [if_pos HNE.out]
          have hst := manyS_stop (f := fsS lk) (n := m') (p := p1) (e := e1) (.inr HNE.out)
          rw [HPE0.out.1, HPG.out]
          simp only
          rw [HCO.out, HM'.out, h, hfs]
          simp only [hst])
        clear h1 HSZ HCO
        go_quiet (fail)
        obtain ⟨w8, hw8⟩ : ∃ w8, w8 = w7.drewN nq := ⟨_, rfl⟩
        rw [← hw8]
        have HKt : Hid (Blk w8 gr 135 #[.slice A k c, .int .i64 (p1 : Int), .int .i64 (e1 : Int)]) := Lib.hid (by rw [hw8]; exact HK7.out.drewN _)
        have HPt : Hid (PI g2 g7 lo (fl.map Prod.fst) o1 vs1 (fl.map Prod.snd) o2 vs2 w w8) := Lib.hid (HP7.out.after (by rw [hw8]; exact below_drewN (Below.refl _ _) _))
        clear hw8 HK7 HP7 r0 r1 r2 rf0 rf1 rf2 rz
        obtain ⟨r0, r1, r2, rf0, rf1, rf2, rz⟩ := HKt.out.c3
        go_upto_region 23 with (fail)
        clear r0 r1 r2 rf0 rf1 rf2 rz
        obtain ⟨er, her⟩ : ∃ er, endR lk p1 e1 = er := ⟨_, rfl⟩
        have HNZ : Hid (er ≠ 0) := Lib.hid (by rw [← her]; exact hnz)
        have HPE2 : Hid (parE l = er) := Lib.hid (by rw [HPE.out, her])
        have hne' : ((er : Int) != 0) = true := by rw [bne_iff_ne]; have := HNZ.out; omega
        have HEND := Lib.hid (end6 gr A k c lk p1 e1 w8 HLK.out HKt.out)
        rw [her] at HEND
        clear HPE her
        go_wp2_with fail
        refine HEND.out.mono ?_
        rintro e w20 ⟨rfl, hk20, hg20⟩
        have HK20 := Lib.hid hk20
        have HP20 := Lib.hid (HPt.out.grown HKt.out hg20 hwr)
        clear hk20 hg20 HEND HKt HPt
        obtain ⟨r0, r1, r2, -, -, -, rz⟩ := HK20.out.c3
        obtain ⟨d0, df0, dz⟩ := HP20.out.f.c1
        go_upto_region 25 with (fail)
        rename_i K9 hK9
        have hgne : gr ≠ g2 := by omega
        have HK21 : Hid (Blk (w20.setCell ⟨g2, 0, none⟩ (.slice none 0 0)) gr 135 #[.slice A k c, .int .i64 (p1 : Int), .int .i64 (er : Int)]) := Lib.hid (HK20.out.far (by simpa using hgne) _)
        have HZZ := Lib.hid (put1_6 HP20.out.f (.slice none 0 0))
        have HZB : Hid (Below w.heap.size w (w20.setCell ⟨g2, 0, none⟩ (.slice none 0 0))) := Lib.hid (HP20.out.bel.setCell (p := ⟨g2, 0, none⟩) (by show w.heap.size ≤ g2; omega) _)
        obtain ⟨q0, q1, q2, -, -, -, qz⟩ := HK21.out.c3
        obtain ⟨e0, -⟩ := HZZ.out.c1
        have HSa : Hid (w20.drew.cell? ⟨gr, 2, none⟩ = some (.int .i64 (er : Int))) := Lib.hid r2
        have HSb : Hid ((w20.drew.setCell ⟨g2, 0, none⟩ (.slice none 0 0)).cell? ⟨gr, 2, none⟩ = some (.int .i64 (er : Int))) := Lib.hid q2
        have HSc : Hid ((w20.setCell ⟨g2, 0, none⟩ (.slice none 0 0)).drew.cell? ⟨gr, 2, none⟩ = some (.int .i64 (er : Int))) := Lib.hid q2
        have HSd : Hid ((w20.setCell ⟨g2, 0, none⟩ (.slice none 0 0)).cell? ⟨gr, 2, none⟩ = some (.int .i64 (er : Int))) := Lib.hid q2
        clear q0 q1 q2 qz HPE0 HPG HUP HBK HBS HLKE HLL HM hi0 hz0 hz1 hz2 hi1 hy0 hy1 hy2
        go_region_held3 (fun W => W.cell? ⟨gr, 2, none⟩ = some (.int .i64 (er : Int)))
          (with_reducible first | assumption | exact HSa.out | exact HSb.out | exact HSc.out | exact HSd.out)
          (fail)
        all_goals
          refine hK9 _ _ ?_
          refine wp_ret ?_
          change bodyPost Tryd.prog Tryd.f67 _ .ret _ _
          exact bodyPost_ret (v := .tuple #[.agg #[.slice none 0 0], .slice none 0 0, .int .i64 (er : Int)]) (by simp [results, Tryd.results67, go_sem, e0]) rfl (PaD.err HPE2.out HNZ.out (by first | exact HZB.out | exact HZB.out.drew))
      case pos =>
      subst h1
      by_cases h2 : k - p1 < v1
      case pos =>
        have hi2 : kp < (v1 : Int) := by omega
        have HS2 : Hid (sizeS lk q 0 = (v1, p1, 1)) := Lib.hid (by rw [HSZ.out, if_pos ⟨rfl, h2⟩])
        have hnz : endR lk p1 1 ≠ 0 := by unfold endR; rw [if_neg (fun h => by simp at h)]; decide
        have HPE : Hid (parE l = endR lk p1 1) := Lib.hid (by
          have h := manyS_succ (f := fsS lk) (n := m') (p := q)
          have hfs : (fsS lk q 0).2 = (p1, 1) := by unfold fsS partS; rw [HS2.out]; simp only; rw [if_pos (by decide)]
          have hst := manyS_stop (f := fsS lk) (n := m') (p := p1) (e := 1) (.inr (by decide))
          rw [HPE0.out.1, HPG.out]
          simp only
          rw [HCO.out, HM'.out, h, hfs]
          simp only [hst])
        clear h2 HSZ HCO
        go_quiet (fail)
        obtain ⟨w8, hw8⟩ : ∃ w8, w8 = w7.drewN nq := ⟨_, rfl⟩
        rw [← hw8]
        have HKt : Hid (Blk w8 gr 135 #[.slice A k c, .int .i64 (p1 : Int), .int .i64 ((0 : Nat) : Int)]) := Lib.hid (by rw [hw8]; exact HK7.out.drewN _)
        have HPt : Hid (PI g2 g7 lo (fl.map Prod.fst) o1 vs1 (fl.map Prod.snd) o2 vs2 w w8) := Lib.hid (HP7.out.after (by rw [hw8]; exact below_drewN (Below.refl _ _) _))
        have HFL := Lib.hid (fail6 gr A k c p1 0 1 w8 HKt.out)
        rw [failE_z] at HFL
        clear hw8 HK7 HP7 r0 r1 r2 rf0 rf1 rf2 rz
        go_wp2_with fail
        refine HFL.out.mono ?_
        rintro e w9 ⟨rfl, hk9, hg9⟩
        have HK9 := Lib.hid hk9
        have HP9 := Lib.hid (HPt.out.grown HKt.out hg9 hwr)
        clear hk9 hg9 HKt HPt HFL
        have HKt := HK9
        have HPt := HP9
        clear HK9 HP9
        obtain ⟨r0, r1, r2, rf0, rf1, rf2, rz⟩ := HKt.out.c3
        go_upto_region 23 with (fail)
        clear r0 r1 r2 rf0 rf1 rf2 rz
        obtain ⟨er, her⟩ : ∃ er, endR lk p1 1 = er := ⟨_, rfl⟩
        have HNZ : Hid (er ≠ 0) := Lib.hid (by rw [← her]; exact hnz)
        have HPE2 : Hid (parE l = er) := Lib.hid (by rw [HPE.out, her])
        have hne' : ((er : Int) != 0) = true := by rw [bne_iff_ne]; have := HNZ.out; omega
        have HEND := Lib.hid (end6 gr A k c lk p1 1 w9 HLK.out HKt.out)
        rw [her] at HEND
        clear HPE her
        go_wp2_with fail
        refine HEND.out.mono ?_
        rintro e w20 ⟨rfl, hk20, hg20⟩
        have HK20 := Lib.hid hk20
        have HP20 := Lib.hid (HPt.out.grown HKt.out hg20 hwr)
        clear hk20 hg20 HEND HKt HPt
        obtain ⟨r0, r1, r2, -, -, -, rz⟩ := HK20.out.c3
        obtain ⟨d0, df0, dz⟩ := HP20.out.f.c1
        go_upto_region 25 with (fail)
        rename_i K9 hK9
        have hgne : gr ≠ g2 := by omega
        have HK21 : Hid (Blk (w20.setCell ⟨g2, 0, none⟩ (.slice none 0 0)) gr 135 #[.slice A k c, .int .i64 (p1 : Int), .int .i64 (er : Int)]) := Lib.hid (HK20.out.far (by simpa using hgne) _)
        have HZZ := Lib.hid (put1_6 HP20.out.f (.slice none 0 0))
        have HZB : Hid (Below w.heap.size w (w20.setCell ⟨g2, 0, none⟩ (.slice none 0 0))) := Lib.hid (HP20.out.bel.setCell (p := ⟨g2, 0, none⟩) (by show w.heap.size ≤ g2; omega) _)
        obtain ⟨q0, q1, q2, -, -, -, qz⟩ := HK21.out.c3
        obtain ⟨e0, -⟩ := HZZ.out.c1
        have HSa : Hid (w20.drew.cell? ⟨gr, 2, none⟩ = some (.int .i64 (er : Int))) := Lib.hid r2
        have HSb : Hid ((w20.drew.setCell ⟨g2, 0, none⟩ (.slice none 0 0)).cell? ⟨gr, 2, none⟩ = some (.int .i64 (er : Int))) := Lib.hid q2
        have HSc : Hid ((w20.setCell ⟨g2, 0, none⟩ (.slice none 0 0)).drew.cell? ⟨gr, 2, none⟩ = some (.int .i64 (er : Int))) := Lib.hid q2
        have HSd : Hid ((w20.setCell ⟨g2, 0, none⟩ (.slice none 0 0)).cell? ⟨gr, 2, none⟩ = some (.int .i64 (er : Int))) := Lib.hid q2
        clear q0 q1 q2 qz HPE0 HPG HUP HBK HBS HLKE HLL HM hi0 hz0 hz1 hz2 hi1 hy0 hy1 hy2
        go_region_held3 (fun W => W.cell? ⟨gr, 2, none⟩ = some (.int .i64 (er : Int)))
          (with_reducible first | assumption | exact HSa.out | exact HSb.out | exact HSc.out | exact HSd.out)
          (fail)
        all_goals
          refine hK9 _ _ ?_
          refine wp_ret ?_
          change bodyPost Tryd.prog Tryd.f67 _ .ret _ _
          exact bodyPost_ret (v := .tuple #[.agg #[.slice none 0 0], .slice none 0 0, .int .i64 (er : Int)]) (by simp [results, Tryd.results67, go_sem, e0]) rfl (PaD.err HPE2.out HNZ.out (by first | exact HZB.out | exact HZB.out.drew))
      case neg =>
      have hi2 : ¬ kp < (v1 : Int) := by omega
      have HS2 : Hid (sizeS lk q 0 = (v1, p1, 0)) := Lib.hid (by rw [HSZ.out, if_neg (fun h => h2 h.2)])
      obtain ⟨x, hx⟩ : ∃ x, x = p1 + v1 := ⟨_, rfl⟩
      have hxk : x ≤ k := by omega
      have hwx : IntKind.i64.wrap ((p1 : Int) + (v1 : Int)) = (x : Int) := by rw [IntWalk.i64_in _ (by omega)]; omega
      have HXE := Lib.hid hx
      clear h2 HSZ hkp
      go_quiet (fail)
      obtain ⟨w8, hw8⟩ : ∃ w8, w8 = w7.drewN nq := ⟨_, rfl⟩
      rw [← hw8]
      have HK8 : Hid (Blk w8 gr 135 #[.slice A k c, .int .i64 (p1 : Int), .int .i64 ((0 : Nat) : Int)]) := Lib.hid (by rw [hw8]; exact HK7.out.drewN _)
      have HP8 : Hid (PI g2 g7 lo (fl.map Prod.fst) o1 vs1 (fl.map Prod.snd) o2 vs2 w w8) := Lib.hid (HP7.out.after (by rw [hw8]; exact below_drewN (Below.refl _ _) _))
      have hz8 : lo ≤ w8.heap.size := by rw [hw8]; exact hz7
      clear hw8 HK7 HP7 r0 r1 r2 rf0 rf1 rf2 rz hz7 hi2 hwk
      obtain ⟨r0, r1, r2, rf0, rf1, rf2, rz⟩ := HK8.out.c3
      go_upto_region 18 with (fail)
      have hcx : x ≤ c := by omega
      have hcxi : (x : Int) ≤ (c : Int) := by omega
      have hx0 : (0 : Int) ≤ (x : Int) := by omega
      clear hx
      go_still_tail 16, (by kernel_rfl)
      go_upto_region 19 with (fail)
      obtain ⟨gi, hgi⟩ : ∃ g, g = w8.heap.size := ⟨_, rfl⟩
      obtain ⟨W9, hW9⟩ : ∃ W9, W9 = (w8.alloc (.cells #[.slice A x c, .int .i64 (p1 : Int), .int .i64 0] 135)).drew := ⟨_, rfl⟩
      rw [← hW9, ← hgi]
      have hb9 : Below w8.heap.size w8 W9 := by rw [hW9]; exact ((Below.refl _ _).alloc (Nat.le_refl _) _).drew
      have HK9 := Lib.hid (HK8.out.after hb9)
      have HP9 := Lib.hid (HP8.out.after hb9)
      have HI9 : Hid (Blk W9 gi 135 #[.slice A x c, .int .i64 (p1 : Int), .int .i64 ((0 : Nat) : Int)]) := Lib.hid (by rw [hW9, hgi]; exact (Blk.new w8 _ _).drew)
      have hz9 : lo ≤ W9.heap.size := Nat.le_trans hz8 hb9.size
      have hgil : lo ≤ gi := by omega
      clear hW9 hgi hb9 HK8 HP8 hz8 r0 r1 r2 rf0 rf1 rf2 rz
      obtain ⟨lx, hlx⟩ : ∃ y, y = lk.take x := ⟨_, rfl⟩
      have HFN := Lib.hid (fun (W : World) (hk : Blk W gi 135 #[.slice A x c, .int .i64 (p1 : Int), .int .i64 ((0 : Nat) : Int)]) (hb : Below w.heap.size w W) => function6 gi w.heap.size A x c lx p1 W hk (by rw [hlx]; exact (HBK.out W hb).take hxk) (by omega) (by omega) (by omega))
      obtain ⟨f, q', ef, hfe⟩ : ∃ f q e, funS lx p1 = (f, q, e) := ⟨_, _, _, rfl⟩
      have hfx : FnX f := by have h := funS_x lx p1; rw [hfe] at h; exact h
      rw [hfe] at HFN
      have HFX := Lib.hid hfx
      have HFS : Hid (fsS lk q 0 = ((f, (lk.drop p1).take v1), x, ef)) := Lib.hid (by
        unfold fsS partS
        rw [HS2.out]
        simp only
        rw [if_neg (by simp), ← HXE.out, ← hlx, hfe])
      clear hlx hfx hfe
      obtain ⟨nf, hnf⟩ : ∃ k, k = (fl.map Prod.fst).length := ⟨_, rfl⟩
      have hnf80 : nf ≤ 80 := by have := HM.out; rw [hnf, List.length_map]; omega
      have HOW9 : Hid (∀ W, PI g2 g7 lo (fl.map Prod.fst) o1 vs1 (fl.map Prod.snd) o2 vs2 w W → W.ownsRow lo 97 3 o1 nf vs1) := Lib.hid (fun W h => by rw [hnf]; exact h.ow1)
      have HNF := Lib.hid hnf
      obtain ⟨x0, xf0, xz⟩ := HP9.out.x.c1
      have h27 : g2 ≠ g7 := by omega
      have hw7 : w.heap.size ≤ g7 := by omega
      have hwlo : w.heap.size ≤ lo := by omega
      have hrgi : gr ≠ gi := by omega
      have h7i : g7 ≠ gi := by omega
      clear hnf
      go_cut [] (fun wx => ∃ o1' vs1', PI g2 g7 lo (fl.map Prod.fst ++ [f]) o1' vs1' (fl.map Prod.snd) o2 vs2 w wx ∧ Blk wx gr 135 #[.slice A k c, .int .i64 (p1 : Int), .int .i64 ((0 : Nat) : Int)] ∧ Blk wx gi 135 #[.slice A x c, .int .i64 (q' : Int), .int .i64 (ef : Int)] ∧ lo ≤ wx.heap.size)
      case first =>
        go_region_law (first
          | (refine step_append_any _ rfl (.tmp 107) (.tmp 110) 42 rfl lo 97 i0 _ 3 56 Tryd.underlying42 hi0 hz0 hz1 hz2 rfl (by omega) o1 nf vs1 (by first | (simp [Act.eval]; done) | (simp [Act.eval, Act.put]; done)) ((HOW9.out _ HP10).alloc _) (wv.heap.size + 1) (some ⟨wv.heap.size, 0, none⟩) 1 1 [.int .i64 f.params, .slice As f.slots.length cs, .slice Ai f.code.length ci] (by first | (simp [Act.eval]; done) | (simp [Act.eval, Act.put]; done)) (litX6 wv _ [_, _, _] 3 1 rfl) (by simp [Value.oneCell']) (by unfold maxLen; omega) (by omega) (by simp; omega) ?_; intro v2 w13 hown1 hg1 hat1; obtain ⟨Vn, cn, rfl, hmn⟩ := own_form hown1; have HX13 := (HP10.x.alloc _).grown hg1 (fun e => own_blk_ne HP10.ow1 HP10.x (by decide) e.symm); obtain ⟨bb0, bf0, bz'⟩ := HX13.c1)
          | (go_simp; refine (HFN.out _ HI9.out.drew HP9.out.bel.drew).mono ?_; rintro e wv ⟨As, cs, Ai, ci, rfl, ⟨hsx, hsy⟩, ⟨hnx, hny⟩, ⟨hcs, hci⟩, hkk, hgg⟩; simp only at hsx hsy hnx hny hcs hci hkk ⊢; have HP10 := (HP9.out.after (W' := W9.drew) ((Below.refl _ _).drew)).grown HI9.out.drew hgg (by omega); have HKR10 := HK9.out.drew.grown hgg (by intro h; injection h with h; omega); obtain ⟨z0, zf0, zz⟩ := HP10.x.c1; have hlv : lo ≤ wv.heap.size := Nat.le_trans hz9 hgg.size))
        all_goals
          have hob : Below wv.heap.size wv (wv.alloc (.cells #[.int .i64 f.params, .slice As f.slots.length cs, .slice Ai f.code.length ci] 97)) := (Below.refl _ _).alloc (Nat.le_refl _) _
          have hpa := HP10.after hob
          have hkp : Kp lo wv.heap.size wv (wv.alloc (.cells #[.int .i64 f.params, .slice As f.slots.length cs, .slice Ai f.code.length ci] 97)) := Kp.of_below hob (Nat.le_refl _)
          have hs1 : SxT (wv.alloc (.cells #[.int .i64 f.params, .slice As f.slots.length cs, .slice Ai f.code.length ci] 97)) lo (wv.alloc (.cells #[.int .i64 f.params, .slice As f.slots.length cs, .slice Ai f.code.length ci] 97)).heap.size As f.slots := (SxT.kp ⟨hsx.more hz9 (Nat.le_refl _), hsy⟩ hkp).more (Nat.le_refl _) hob.size
          have hn1 : NxT (wv.alloc (.cells #[.int .i64 f.params, .slice As f.slots.length cs, .slice Ai f.code.length ci] 97)) lo (wv.alloc (.cells #[.int .i64 f.params, .slice As f.slots.length cs, .slice Ai f.code.length ci] 97)).heap.size Ai f.code := (NxT.kt (t := 97) ⟨hnx.more hz9 (Nat.le_refl _), hny⟩ (Kt.of_kp hkp) (by decide)).more (Nat.le_refl _) hob.size
          have hpx := hpa.app1 hs1 hn1 ⟨by have := HFX.out.ns; unfold maxLen; omega, hcs⟩ ⟨by have := HFX.out.nc; unfold maxLen; omega, hci⟩ hwlo hw7 h27 (Nat.le_trans hlv hob.size) (by rw [← HNF.out]; exact hown1) hg1
          have hkx := ((HKR10.alloc (.cells #[.int .i64 f.params, .slice As f.slots.length cs, .slice Ai f.code.length ci] 97)).grown hg1 (fun e => own_blk_ne hpa.ow1 (HKR10.alloc _) (by decide) e.symm)).far (p := ⟨g7, 0, none⟩) (by show gr ≠ g7; omega) (.slice Vn (nf + 1) cn)
          have hix := ((hkk.alloc (.cells #[.int .i64 f.params, .slice As f.slots.length cs, .slice Ai f.code.length ci] 97)).grown hg1 (fun e => own_blk_ne hpa.ow1 (hkk.alloc _) (by decide) e.symm)).far (p := ⟨g7, 0, none⟩) (by show gi ≠ g7; omega) (.slice Vn (nf + 1) cn)
          have hsx13 : lo ≤ w13.heap.size := Nat.le_trans hlv (Nat.le_trans hob.size hg1.size)
          go_wp2_with fail
          go_meet
          exact ⟨_, _, hpx, hkx, hix, by simpa using hsx13⟩
      case rest =>
      obtain ⟨o1', vs1', hp10, hk10, hi10, hz10⟩ := hcut
      generalize wc = w10 at *
      have HP10 := Lib.hid hp10
      have HK10 := Lib.hid hk10
      have HI10 := Lib.hid hi10
      clear hp10 hk10 hi10 HP9 HK9 HI9 hz9 x0 xf0 xz HFN HOW9 HFX
      obtain ⟨r0, r1, r2, rf0, rf1, rf2, rz⟩ := HK10.out.c3
      go_upto_region 20 with (fail)
      obtain ⟨nd, hnd⟩ : ∃ k, k = (fl.map Prod.snd).length := ⟨_, rfl⟩
      have hnd80 : nd ≤ 80 := by have := HM.out; rw [hnd, List.length_map]; omega
      have HOW10 : Hid (∀ W, PI g2 g7 lo (fl.map Prod.fst ++ [f]) o1' vs1' (fl.map Prod.snd) o2 vs2 w W → W.ownsRow lo 22 1 o2 nd vs2) := Lib.hid (fun W h => by rw [hnd]; exact h.ow2)
      have HND := Lib.hid hnd
      have hcp : ¬ c = p1 := by have := HNB.out; have := HN.out; omega
      have hpx : (p1 : Int) ≤ (x : Int) := by have := HXE.out; omega
      have hpx' : p1 ≤ x := by omega
      have hp0 : (0 : Int) ≤ (p1 : Int) := by omega
      have hsub : x - p1 = v1 := by have := HXE.out; omega
      obtain ⟨d, hd⟩ : ∃ d, d = (lk.drop p1).take v1 := ⟨_, rfl⟩
      have hdl : d.length = v1 := by rw [hd, List.length_take, List.length_drop, HLK.out]; have := HXE.out; omega
      have HBD : Hid (∀ W, Below w.heap.size w W → Bs W w.heap.size (A.map (·.add p1)) v1 d) := Lib.hid (fun W h => by
        have hb := HBK.out W h
        have h1 := hb.1.cut (k := p1) (cap := c) (by omega) hkc
        rw [if_neg hcp, Nat.mul_one] at h1
        have h2 : Bs W w.heap.size (A.map (·.add p1)) (k - p1) (lk.drop p1) := ⟨(by rw [show nb (lk.drop p1) = (nb lk).drop p1 by simp [nb]]; exact h1), fun x hx => hb.2 x (List.mem_of_mem_drop hx)⟩
        rw [hd]
        exact h2.take (by have := HXE.out; omega))
      have HDE := Lib.hid hd
      have HDL := Lib.hid hdl
      have HCL := Lib.hid (fun (W : World) (cc : Nat) (h : Below w.heap.size w W) => clone_any (A.map (·.add p1)) v1 cc d W w.heap.size (HBD.out W h) h.size (by omega))
      clear hnd hd hdl
      clear HPE0 HPG HUP HLKE HBS hi0 hz0 hz1 hz2 HW1 HG2 HB1
      go_cut [8] (fun s8 wx => ∃ o2' vs2', o2' = s8 ∧ PI g2 g7 lo (fl.map Prod.fst ++ [f]) o1' vs1' (fl.map Prod.snd ++ [d]) o2' vs2' w wx ∧ Blk wx gr 135 #[.slice A k c, .int .i64 (p1 : Int), .int .i64 ((0 : Nat) : Int)] ∧ Blk wx gi 135 #[.slice A x c, .int .i64 (q' : Int), .int .i64 (ef : Int)] ∧ lo ≤ wx.heap.size)
      case first =>
        go_region_law (first
          | (refine step_append_any _ rfl (.tmp 113) (.tmp 130) 35 rfl lo 22 i1 _ 1 24 Tryd.underlying35 hi1 hy0 hy1 hy2 rfl (by omega) o2 nd vs2 (by first | (simp [Act.eval]; done) | (simp [Act.eval, Act.put]; done)) ((HOW10.out _ HP11).alloc _) (wv.heap.size + 1) (some ⟨wv.heap.size, 0, none⟩) 1 1 [.slice Vd v1 cd] (by first | (simp [Act.eval]; done) | (simp [Act.eval, Act.put]; done)) (litX6 wv _ [_] 1 1 rfl) (by simp [Value.oneCell']) (by unfold maxLen; omega) (by omega) (by simp; omega) ?_; intro v2 w13 hown1 hg1 hat1; obtain ⟨Vn, cn, rfl, hmn⟩ := own_form hown1)
          | (go_simp; refine (HCL.out _ _ HP10.out.bel.drew).mono ?_; rintro e wv ⟨od, rfl, ownd, beld⟩; obtain ⟨Vd, cd, rfl, hmd⟩ := own_form ownd; have HP11 := HP10.out.after (W' := wv) (((Below.refl _ _).drew).trans beld); have HKR11 := HK10.out.after (w' := wv) (((Below.refl _ _).drew).trans beld); have HI11 := HI10.out.after (w' := wv) (((Below.refl _ _).drew).trans beld); have hlv : lo ≤ wv.heap.size := Nat.le_trans hz10 beld.size))
        all_goals
          have hob : Below wv.heap.size wv (wv.alloc (.cells #[.slice Vd v1 cd] 22)) := (Below.refl _ _).alloc (Nat.le_refl _) _
          have hpa := HP11.after hob
          have hkp : Kp lo wv.heap.size wv (wv.alloc (.cells #[.slice Vd v1 cd] 22)) := Kp.of_below hob (Nat.le_refl _)
          have hbx : BxT wv lo wv.heap.size Vd d := by
            have h1 : wv.ownsRow lo 5 1 (.slice Vd v1 cd) v1 (nb d) := own_base ownd hz10
            rw [← HDL.out] at h1
            exact ⟨Rx.of_own h1, TyA.of_own h1⟩
          have hb1 : BxT (wv.alloc (.cells #[.slice Vd v1 cd] 22)) lo (wv.alloc (.cells #[.slice Vd v1 cd] 22)).heap.size Vd d := (hbx.kt (t := 22) (Kt.of_kp hkp) (by decide)).more (Nat.le_refl _) hob.size
          have hpx := hpa.app2 (d := d) (ci := cd) hb1 ⟨by rw [HDL.out]; exact hmd, by rw [HDL.out]; exact (own_cap ownd).2⟩ hwlo (Nat.le_trans hlv hob.size) (by rw [← HND.out, HDL.out]; exact hown1) hg1
          have hkx := (HKR11.alloc (.cells #[.slice Vd v1 cd] 22)).grown hg1 (fun e => own_blk_ne hpa.ow2 (HKR11.alloc _) (by decide) e.symm)
          have hix := (HI11.alloc (.cells #[.slice Vd v1 cd] 22)).grown hg1 (fun e => own_blk_ne hpa.ow2 (HI11.alloc _) (by decide) e.symm)
          have hsx13 : lo ≤ w13.heap.size := Nat.le_trans hlv (Nat.le_trans hob.size hg1.size)
          go_wp2_with fail
          go_meet
          exact ⟨_, _, rfl, hpx, hkx, hix, hsx13⟩
      case rest =>
      obtain ⟨o2', vs2', rfl, hp11, hk11, hi11, hz11⟩ := hcut
      generalize wc = w11 at *
      have HP11 := Lib.hid hp11
      have HI11 := Lib.hid hi11
      have HFL := Lib.hid (fail6 gr A k c p1 0 ef w11 hk11)
      have HK11 := Lib.hid hk11
      rw [failE_z] at HFL
      clear hp11 hk11 hi11 HP10 HK10 HI10 hz10 HOW10 HCL r0 r1 r2 rf0 rf1 rf2 rz
      obtain ⟨t0, t1, t2, -, -, -, tz⟩ := HI11.out.c3
      go_wp2_with fail
      refine HFL.out.mono ?_
      rintro e w12 ⟨rfl, hk12, hg12⟩
      have HP12 := Lib.hid (HP11.out.grown HK11.out hg12 hwr)
      have HK12 := Lib.hid hk12
      have hz12 : lo ≤ w12.heap.size := Nat.le_trans hz11 hg12.size
      clear hk12 hg12 HFL HP11 HK11 HI11 t0 t1 t2 tz
      obtain ⟨r0, r1, r2, rf0, rf1, rf2, rz⟩ := HK12.out.c3
      go_wp2
      go_roundw
      case rel =>
        refine ⟨m', x, ef, fl ++ [(f, d)], o1', o2', vs1', vs2', ?_, rfl, hxk, by simpa using hz12, Lib.hid ?_, Lib.hid ?_, Lib.hid (HK12.out.set_ 1 _), Lib.hid ?_⟩
        · rw [show (m : Int) - 1 = (m' : Int) by have := HM'.out; omega]
        · have h1 := HM.out
          have h2 := HM'.out
          simp only [List.length_append, List.length_cons, List.length_nil]
          omega
        · have h := manyS_succ (f := fsS lk) (n := m') (p := q)
          rw [HFS.out, ← HDE.out] at h
          rw [HCO.out, HM'.out, h]
          simp
        · rw [List.map_append, List.map_append]
          exact HP12.out.grown HK12.out (gset6 _ _ _) hwr
      case measure =>
        have := HM'.out
        simp [intOf]
        omega
end Go.Proofs.YtinfeglhjmnlaaaDoor.pm
