/- The program's Check and Tight. -/
import Derived.Test.YtgamodmenlhedaaCf14
namespace Go.Proofs.Ytgamodmenlhedaa.cf
open Go.RowKit Go.Shelf
set_option linter.unusedVariables false
set_option maxRecDepth 10000
attribute [local go_sem] Oper.semAt_some

theorem brokenR_bool {g : List (List Int)} {v c : List Int} {r : Int × Bool} (h : BrokenR g v c r) (hm : Matched g v c) : chkV g v c = if r.2 then 14 else 0 := by
  rcases h with ⟨_, i, hi, hw, _, rfl⟩ | ⟨hn, rfl⟩
  · exact chkV_14 hm hi hw
  · exact chkV_0 hm (hn hm)
set_option maxHeartbeats 2000000 in
theorem check_any (Ag Aw Ac : Option Addr) (ng cg nw cw nc cc : Nat) (g : List (List Int)) (v c : List Int) (w : World) (hg : Gz w Ag ng g) (hv : Iz w Aw nw v) (hc : Iz w Ac nc c) (n1 : ng ≤ maxLen) (n2 : nw ≤ maxLen) (n3 : nc ≤ maxLen) :
    Calls Try.prog 17 #[.slice Ag ng cg, .slice Aw nw cw, .slice Ac nc cc] w fun e w' => e = .returned (.int .i64 (chkV g v c)) ∧ Below w.heap.size w w' := by
  have hmt := matched_any Ag Aw Ac ng cg nw cw nc cc g v c w hg hv hc n1 n2 n3
  have HBR := Lib.hid (broken_any Ag Aw Ac ng cg nw cw nc cc g v c w hg hv hc n1 n2 n3)
  by_cases hm : Matched g v c
  · rw [mtB_iff.2 hm] at hmt
    have HMT := Lib.hid hmt
    have HB := Lib.hid (fun r (h : BrokenR g v c r) => brokenR_bool h hm)
    clear hmt hm hg hv hc n1 n2 n3
    go_enter Try.func17, Try.ntmps17
    go_wp2_with (go_at_call 49; refine HMT.out.mono ?_; rintro e w' ⟨rfl, rfl⟩)
    go_wp2_with fail
    refine HBR.out.mono ?_
    rintro e w1 ⟨⟨⟨i, b⟩, hr, rfl⟩, hb⟩
    have HV := Lib.hid (HB.out _ hr)
    clear hr
    cases b
    all_goals
      go_wp2
      go_ret
      exact ⟨ret_int HV.out.symm, hb⟩
  · rw [mtB_not hm] at hmt
    have HMT := Lib.hid hmt
    have HV := Lib.hid (chkV_4 hm)
    clear hmt hm hg hv hc n1 n2 n3
    go_enter Try.func17, Try.ntmps17
    go_wp2_with (go_at_call 49; refine HMT.out.mono ?_; rintro e w' ⟨rfl, rfl⟩)
    go_ret
    exact ⟨ret_int HV.out.symm, Below.refl _ _⟩

def mx (l : List Int) : Int := l.foldl max 0
theorem mx_snoc (l : List Int) (x : Int) : mx (l ++ [x]) = max (mx l) x := by unfold mx; rw [List.foldl_append]; rfl
theorem mx_need (g : List (List Int)) (c : List Int) (i : Nat) : mx (needVals g c i) = most c (nx g i) := by
  unfold mx needVals most
  rw [List.foldl_cons, List.foldl_map]
  rfl
theorem need_bd {g : List (List Int)} {c : List Int} {i : Nat} (hc : ∀ k, Bd (c.getD k 0)) : ∀ x, x ∈ needVals g c i → Bd x := by
  intro x hx
  unfold needVals at hx
  rcases List.mem_cons.1 hx with rfl | hx
  · exact ⟨by omega, by omega⟩
  · obtain ⟨j, _, rfl⟩ := List.mem_map.1 hx
    exact hc _

set_option maxRecDepth 100000 in
set_option maxHeartbeats 4000000 in
theorem tight_any (Ag Aw Ac : Option Addr) (ng cg nw cw nc cc : Nat) (g : List (List Int)) (v c : List Int) (w : World) (hg : Gz w Ag ng g) (hv : Iz w Aw nw v) (hc : Iz w Ac nc c) (n1 : ng ≤ maxLen) (n2 : nw ≤ maxLen) (n3 : nc ≤ maxLen) :
    Calls Try.prog 19 #[.slice Ag ng cg, .slice Aw nw cw, .slice Ac nc cc] w fun e w' => e = .returned (.bool (tightB g v c)) ∧ Below w.heap.size w w' := by
  have hck := check_any Ag Aw Ac ng cg nw cw nc cc g v c w hg hv hc n1 n2 n3
  unfold maxLen at n1 n2 n3
  have l1 := Lib.hid hg.len
  have l2 := Lib.hid hv.len
  have l3 := Lib.hid hc.len
  have HV := Lib.hid hv
  have HGz := Lib.hid hg
  have HC := Lib.hid hc
  clear hg hv hc
  by_cases h0 : chkV g v c = 0
  · rw [h0] at hck
    have HCK := Lib.hid hck
    obtain ⟨hm, hnw⟩ := chkV_ok.1 h0
    have H0 := Lib.hid h0
    have HM := Lib.hid hm
    have hng : ng ≤ 80 := by have := hm.1.1.2.1; rw [l1.out] at this; exact this
    have e1 : nw = ng := by have := hm.1.2.1; rw [l1.out, l2.out] at this; exact this
    have e2 : nc = ng := by have := hm.2; rw [l1.out, l3.out] at this; exact this
    have HBD : Hid (∀ k, Bd (c.getD k 0)) := Lib.hid (fun k => by
      by_cases hk : k < nc
      · exact (not_wrong.1 (hnw k (by rw [l1.out]; omega))).1
      · rw [List.getD_eq_getElem?_getD, List.getElem?_eq_none (by rw [l3.out]; omega)]; exact ⟨by simp, by simp⟩)
    subst e1
    subst e2
    clear hm hnw h0 hck
    refine (callsIn_wide (n := 9)).1 ?_
    refine callsIn_of_wp_marks Try.func19 rfl trivial ?_ rfl
    simp only [Try.ntmps19, List.size_toArray, List.length_cons, List.length_nil, Nat.reduceAdd, Nat.reduceSub, Array.replicate_succ, Array.replicate_zero, List.push_toArray, List.append_toArray, List.nil_append, List.cons_append]
    gi_wp2_with ((first | refine ⟨trivial, ?_⟩ | skip); gi_at_call 17; refine (callsIn_wide.2 (HCK.out)).mono ?_; rintro e w' ⟨rfl, hb0⟩)
    refine wpIn_loop (fun a W => ∃ (k : Nat) (ds : List Deferred) (u7 u8 u9 u18 u19 u20 u21 u22 u23 u24 u25 u26 u27 u28 u29 u30 u31 u32 u33 u34 u35 u36 u37 u38 u39 : Value), (k ≤ nc ∧ Hid (∀ j, j < k → c.getD j 0 = v.getD j 0 + most c (nx g j)) ∧ Hid (Below w.heap.size w W) ∧ Hid (Marks w.heap.size W.heap.size ds W)) ∧ a = { tmps := #[.slice Ag nc cg, .slice Aw nc cw, .slice Ac nc cc, undef, undef, undef, .bool false, u7, u8, u9, .slice Ag nc cg, .slice Aw nc cw, .slice Ac nc cc, .int .i64 0, .bool false, .slice Ag nc cg, .int .i64 (nc : Int), .int .i64 (k : Int), u18, u19, u20, u21, u22, u23, u24, u25, u26, u27, u28, u29, u30, u31, u32, u33, u34, u35, u36, u37, u38, u39], defers := ds }) (fun a _ => nc - (intOf (a.tmps.getD 17 undef)).toNat) ?start ?round
    case start =>
      exact ⟨0, [], _, _, _, _, _, _, _, _, _, _, _, _, _, _, _, _, _, _, _, _, _, _, _, _, _, ⟨Nat.zero_le _, Lib.hid (fun j hj => by omega), Lib.hid hb0, Lib.hid trivial⟩, rfl⟩
    case round =>
      rintro a W ⟨k, ds, u7, u8, u9, u18, u19, u20, u21, u22, u23, u24, u25, u26, u27, u28, u29, u30, u31, u32, u33, u34, u35, u36, u37, u38, u39, ⟨hk, HNO, bel, HMK⟩, rfl⟩
      clear hb0
      have hsz := bel.out.size
      have hk0 : (0 : Int) ≤ (k : Int) := by omega
      by_cases hlt : k < nc
      · have hki : (k : Int) < (nc : Int) := by omega
        obtain ⟨ac, rfl, hab, cak⟩ := (HC.out.below bel.out).at_ hlt
        obtain ⟨av, rfl, hvb, cvk⟩ := (HV.out.below bel.out).at_ hlt
        have hbv : Bd (v.getD k 0) := HM.out.1.2.2 k (by rw [l2.out]; exact hlt)
        have hbc : Bd (c.getD k 0) := HBD.out k
        obtain ⟨x0, x1⟩ := hbc
        obtain ⟨y0, y1⟩ := hbv
        have HYES : Hid (c.getD k 0 = v.getD k 0 + most c (nx g k) → ∀ j, j < k + 1 → c.getD j 0 = v.getD j 0 + most c (nx g j)) := Lib.hid (fun hh j hj => by
          rcases Nat.lt_or_ge j k with a1 | a1
          · exact HNO.out j a1
          · obtain rfl : j = k := (by omega)
            exact hh)
        have HNOT : Hid (¬ c.getD k 0 = v.getD k 0 + most c (nx g k) → tightB g v c = false) := Lib.hid (fun hh => tightB_not fun ht => hh (ht.2 k (by rw [l1.out]; exact hlt)))
        have HMX := Lib.hid (mx_need g c k)
        have HND := Lib.hid (need_bd (g := g) (i := k) HBD.out)
        have HMB : Hid (0 ≤ most c (nx g k) ∧ most c (nx g k) ≤ 2147483647) := Lib.hid (most_bd (getD_mem_bd HBD.out))
        generalize c.getD k 0 = x at *
        generalize v.getD k 0 = y at *
        have hab' : (ac.add k).block < W.heap.size := by rw [block_of_add]; exact hab
        have hvb' : (av.add k).block < W.heap.size := by rw [block_of_add]; exact hvb
        obtain ⟨W2, hW2⟩ : ∃ W2, W2 = ((((W.alloc (.cells #[.int .i64 0] 3)).alloc (.cells #[.slice Ag nc cg] 23)).alloc (.cells #[.slice (some ac) nc cc] 24)).alloc (.cells #[.int .i64 k] 3)) := ⟨_, rfl⟩
        have bel2 : Below W.heap.size W W2 := by rw [hW2]; exact ((((Below.refl W.heap.size W).alloc (Nat.le_refl _) _).alloc (by simp) _).alloc (by simp; omega) _).alloc (by simp; omega) _
        have hz2 : W2.heap.size = W.heap.size + 1 + 1 + 1 + 1 := by rw [hW2]; simp
        have b8 : Blk W2 W.heap.size 3 #[.int .i64 0] := by rw [hW2]; exact (((Blk.new W _ _).alloc _).alloc _).alloc _
        have b9 : Blk W2 (W.heap.size + 1) 23 #[.slice Ag nc cg] := by rw [hW2]; exact ((Blk.newAt (by simp)).alloc _).alloc _
        have b10 : Blk W2 (W.heap.size + 1 + 1) 24 #[.slice (some ac) nc cc] := by rw [hW2]; exact (Blk.newAt (by simp)).alloc _
        have b11 : Blk W2 (W.heap.size + 1 + 1 + 1) 3 #[.int .i64 k] := by rw [hW2]; exact Blk.newAt (by simp)
        have HW2 := Lib.hid hW2
        have BEL2 := Lib.hid bel2
        have HZ2 := Lib.hid hz2
        have HST := Lib.hid (needs_stops Fence.wide 8 trivial rfl (by omega) W2.heap.size W.heap.size (W.heap.size + 1) (W.heap.size + 1 + 1 + 1) (W.heap.size + 1 + 1) Ag (some ac) nc cg nc cc k g c W W2 (HGz.out.below bel.out) (HC.out.below bel.out) HM.out.1.1 rfl hlt (by omega) (by omega) (Nat.le_refl _) (fun p hp => bel2.cell hp) (by omega) (by omega) b9.c1.1 (by omega) (by omega) b11.c1.1 (by omega) (by omega) b10.c1.1)
        have B8 := Lib.hid b8
        clear hW2 bel2 hz2 b8 b9 b10 b11
        gi_wp2_with ((first | refine ⟨trivial, ?_⟩ | skip); gi_at_call 51; refine (callsIn_wide.2 (needs_any _ _ _ _ _ _ _ _)).mono ?_; rintro e w' ⟨rfl, rfl⟩)
        rw [← HW2.out]
        refine wpIn_rangeFunc_ownF rfl (by omega) (gf := 83) (lb := #[.pointer (some ⟨W.heap.size + 1, 0, none⟩), .pointer (some ⟨W.heap.size + 1 + 1 + 1, 0, none⟩), .pointer (some ⟨W.heap.size + 1 + 1, 0, none⟩)]) rfl trivial (enters_of Try.func83 (by kernel_rfl) rfl)
          HST.out kpB_t (kpB_b (Nat.le_refl _)) (Below.refl _ _) (fun _ => rfl)
          (fun pre W3 => (W3.cell? ⟨W.heap.size, 0, none⟩ = some (.int .i64 (mx pre)) ∧ W3.frozen? ⟨W.heap.size, 0, none⟩ = false) ∧ Below W.heap.size W W3)
          (fun cd pre W3 => False)
          (OwnFrom.and (Own.from (fun s A B row hs hg hr => ⟨cell_kept hs.1 hg hr, (frozen_kept hs.1 hg hr).trans hs.2⟩) _) (ownFrom_below (Nat.le_refl _) (by have := HZ2.out; omega)))
          (fun _ _ _ _ _ hs _ _ => hs)
          ⟨⟨B8.out.c1.1, B8.out.c1.2.1⟩, BEL2.out⟩
          (fun z => { tmps := #[.slice Ag nc cg, .slice (some av) nc cw, .slice (some ac) nc cc, undef, undef, undef, .bool false, .int .i64 (k : Int), .pointer (some ⟨W.heap.size, 0, none⟩), .int .i64 z, .slice Ag nc cg, .slice (some av) nc cw, .slice (some ac) nc cc, .int .i64 0, .bool false, .slice Ag nc cg, .int .i64 (nc : Int), .int .i64 (k : Int), .bool true, .int .i64 (k : Int), .slice Ag nc cg, .slice (some ac) nc cc, .int .i64 (k : Int), (.func (.func 83) #[] #[.pointer (some ⟨W.heap.size + 1, 0, none⟩), .pointer (some ⟨W.heap.size + 1 + 1 + 1, 0, none⟩), .pointer (some ⟨W.heap.size + 1 + 1, 0, none⟩)]), .int .i64 z, u25, u26, u27, u28, u29, u30, u31, u32, u33, u34, u35, u36, u37, u38, u39], defers := [] }) ?assign ?body ?done ?stop
        case assign =>
          intro l z W3 K hK
          gi_wp2
          exact hK
        case body =>
          rintro l pre z W3 ⟨⟨q8, f8⟩, hb3⟩ hlen
          have HSN := Lib.hid (mx_snoc pre z)
          have HB3 := Lib.hid hb3
          obtain ⟨m, hm⟩ : ∃ m, m = mx pre := ⟨_, rfl⟩
          rw [← hm] at q8 HSN
          clear hm hb3
          gi_wp2
          all_goals
            refine ⟨KeepsOthers.setCell _ _ _, fun p _ hp => World.cell?_setCell_other _ _ _ _ (fun e => hp (by rw [← e])), ⟨?_, by rw [World.frozen?_setCell]; exact f8⟩, HB3.out.setCell (by simp) _⟩
            rw [HSN.out]
            refine (World.cell?_setCell_same' _ _ _ (by rw [q8]; rfl)).trans ?_
            first
              | rfl
              | (congr 2; omega)
        case done =>
          rintro D ys W3 hD rfl ⟨⟨q8, f8⟩, hb3⟩ hK
          have hz3 := hb3.size
          have hz2 := HZ2.out
          rw [HMX.out] at q8
          obtain ⟨m0, m1⟩ := HMB.out
          have rc := (hb3.cell hab').trans cak
          have rv := (hb3.cell hvb').trans cvk
          have HMN : Hid (Marks w.heap.size W3.heap.size ({ target := .collected D, args := #[] } :: ds) W3) := Lib.hid ⟨D, rfl, by omega, (Array.getElem?_eq_some_iff.1 hK).1, hK, (HMK.out.below hb3 (Nat.le_refl _)).more (by omega)⟩
          have HBW : Hid (Below w.heap.size w W3) := Lib.hid (bel.out.trans (hb3.mono hsz))
          clear hb3 hK
          generalize most c (nx g k) = m at *
          by_cases hx : x = y + m
          · have HNX := Lib.hid (HYES.out hx)
            subst hx
            have HALL : Hid (∀ q, (Hid (∀ j, j < k + 1 → c.getD j 0 = v.getD j 0 + most c (nx g j)) ∧ Hid (Below w.heap.size w (W3.drewN q)) ∧ Hid (Marks w.heap.size (W3.drewN q).heap.size ({ target := .collected D, args := #[] } :: ds) (W3.drewN q)))) := Lib.hid (fun q => ⟨HNX, Lib.hid (below_drewN HBW.out q), Lib.hid (HMN.out.keep fun r _ _ e => e)⟩)
            clear HNX HMN HBW
            gi_wp2
            gi_quiet (fail)
            gi_wp2
            exact ⟨⟨k + 1, _, _, _, _, _, _, _, _, _, _, _, _, _, _, _, _, _, _, _, _, _, _, _, _, _, _, ⟨by omega, HALL.out nq⟩, rfl⟩, by simp [intOf]; omega⟩
          · have HF := Lib.hid (HNOT.out hx)
            gi_wp2
            gi_quiet (fail)
            gi_wp2
            refine leaves_marks (lo := w.heap.size) (hi := W3.heap.size) (HMN.out.keep fun r _ _ e => e) fun w' hw' hcl => ?_
            refine ⟨.bool false, by simp [results, Try.f19, go_sem], ret_bool HF.out.symm, (below_drewN HBW.out nq).trans hw'⟩
        case stop =>
          rintro D cd pre W3 hD hpre h hK
          exact h.elim
      · have HF : Hid (tightB g v c = true) := Lib.hid (tightB_iff.2 ⟨H0.out, fun i hi => HNO.out i (by rw [l1.out] at hi; omega)⟩)
        gi_wp2
        refine leaves_marks HMK.out fun w' hw' hcl => ?_
        exact ⟨.bool true, by simp [results, Try.f19, go_sem], ret_bool HF.out.symm, bel.out.trans hw'⟩
  · have HF := Lib.hid (tightB_not (g := g) (v := v) (c := c) fun h => h0 h.1)
    have hne : ((chkV g v c) != 0) = true := by rw [bne_iff_ne]; exact h0
    have HCK := Lib.hid hck
    obtain ⟨q, hq⟩ : ∃ q, q = chkV g v c := ⟨_, rfl⟩
    rw [← hq] at hne HCK h0
    clear hck hq
    refine (callsIn_wide (n := 9)).1 ?_
    refine callsIn_of_wp_marks Try.func19 rfl trivial ?_ rfl
    simp only [Try.ntmps19, List.size_toArray, List.length_cons, List.length_nil, Nat.reduceAdd, Nat.reduceSub, Array.replicate_succ, Array.replicate_zero, List.push_toArray, List.append_toArray, List.nil_append, List.cons_append]
    gi_wp2_with ((first | refine ⟨trivial, ?_⟩ | skip); gi_at_call 17; refine (callsIn_wide.2 (HCK.out)).mono ?_; rintro e w' ⟨rfl, hb0⟩)
    exact ⟨.bool false, by simp [results, Try.f19, go_sem], ret_bool HF.out.symm, hb0⟩
end Go.Proofs.Ytgamodmenlhedaa.cf
