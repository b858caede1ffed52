/- Contracts of the reference of chapter 30: Check, Tight. -/
import Derived.Test.YtgamodmenlhedaaCf5
namespace Go.Proofs.Ytgamodmenlhedaa.cf
open Go.RowKit
set_option linter.unusedVariables false
set_option maxRecDepth 10000

theorem chkV_4 {g : List (List Int)} {v c : List Int} (h : ¬ Matched g v c) : chkV g v c = 4 := by unfold chkV; rw [if_neg h]
theorem chkV_14 {g : List (List Int)} {v c : List Int} (h : Matched g v c) {i : Nat} (hi : i < g.length) (hw : Wrong g v c i) : chkV g v c = 14 := by unfold chkV; rw [if_pos h, if_pos ⟨i, hi, hw⟩]
theorem chkV_0 {g : List (List Int)} {v c : List Int} (h : Matched g v c) (hw : ∀ i, i < g.length → ¬ Wrong g v c i) : chkV g v c = 0 := chkV_ok.2 ⟨h, hw⟩
/-- no number is greater than it has to be -/
noncomputable def tightB (g : List (List Int)) (v c : List Int) : Bool := by classical exact decide (chkV g v c = 0 ∧ ∀ i, i < g.length → c.getD i 0 = v.getD i 0 + most c (nx g i))
theorem tightB_iff {g : List (List Int)} {v c : List Int} : tightB g v c = true ↔ chkV g v c = 0 ∧ ∀ i, i < g.length → c.getD i 0 = v.getD i 0 + most c (nx g i) := by unfold tightB; simp
theorem tightB_not {g : List (List Int)} {v c : List Int} (h : ¬ (chkV g v c = 0 ∧ ∀ i, i < g.length → c.getD i 0 = v.getD i 0 + most c (nx g i))) : tightB g v c = false := by rw [← Bool.not_eq_true, tightB_iff]; exact h

set_option maxHeartbeats 2000000 in
theorem refchk_any (Ag Aw Ac : Option Addr) (ng cg nw cw nc cc : Nat) (g : List (List Int)) (v c : List Int) (w : World) (hg : Gz w Ag ng g) (hv : Iz w Aw nw v) (hc : Iz w Ac nc c) (n1 : ng ≤ maxLen) (n2 : nw ≤ maxLen) (n3 : nc ≤ maxLen) :
    Calls Try.prog 18 #[.slice Ag ng cg, .slice Aw nw cw, .slice Ac nc cc] w fun e w' => e = .returned (.int .i64 (chkV g v c)) ∧ ∃ q, w' = w.drewN q := by
  have hrt := fun W (h : Gz W Ag ng g) (h' : Iz W Aw nw v) => right_any Ag Aw ng cg nw cw g v W h h' n1 n2
  have hnd := fun (i : Nat) (hm : Matched g v c) (hb : ∀ k, k < nc → Bd (c.getD k 0)) (hi : i < ng) W (h : Gz W Ag ng g) (h' : Iz W Aw nw v) (h'' : Iz W Ac nc c) => need_any Ag Aw Ac ng cg nw cw nc cc i g v c W h h' h'' n1 n2 n3 hm hb hi
  have HND := Lib.hid hnd
  unfold maxLen at n1 n2 n3
  have l1 := Lib.hid hg.len
  have l2 := Lib.hid hv.len
  have l3 := Lib.hid hc.len
  have HV := Lib.hid hv
  have HC := Lib.hid hc
  have HGz := Lib.hid hg
  clear hg hv hc hnd
  by_cases hb : rtB g v = true
  · rw [hb] at hrt
    have HRT := Lib.hid hrt
    have HB := Lib.hid (rtB_iff.1 hb)
    clear hrt hb
    by_cases e1 : nc = ng
    · have HM : Hid (Matched g v c) := Lib.hid ⟨HB.out, by rw [l3.out, l1.out, e1]⟩
      subst e1
      go_enter Try.func18, Try.ntmps18
      go_wp2_with (go_at_call 53; refine (HRT.out _ HGz.out HV.out).mono ?_; rintro e w' ⟨rfl, q0, rfl⟩)
      go_loopw [7] (fun i wr => ∃ k q : Nat, k ≤ nc ∧ i = .int .i64 k ∧ Hid (∀ j, j < k → Bd (c.getD j 0)) ∧ wr = w.drewN q) (fun i _ => nc - (intOf i).toNat)
      case atStart => exact ⟨0, _, by omega, rfl, Lib.hid (fun j hj => by omega), rfl⟩
      case round =>
        obtain ⟨k, q, hk, rfl, HO, rfl⟩ := hrel
        have hk0 : (0 : Int) ≤ (k : Int) := by omega
        by_cases hlt : k < nc
        · obtain ⟨ad, rfl, hbl, hcc⟩ := HC.out.at_ hlt
          have hki : (k : Int) < (nc : Int) := by omega
          by_cases hb : Bd (c.getD k 0)
          · have hw := fun W : World => refbound_any (c.getD k 0) W
            rw [decide_eq_true hb] at hw
            have HW := Lib.hid hw
            have HG : Hid (∀ j, j < k + 1 → Bd (c.getD j 0)) := Lib.hid (fun j hj => by
              rcases Nat.lt_or_ge j k with h1 | h1
              · exact HO.out j h1
              · obtain rfl : j = k := (by omega)
                exact hb)
            clear hw hb
            generalize c.getD k 0 = x at *
            go_wp2_with (go_at_call 52; refine (HW.out _).mono ?_; rintro e w' ⟨rfl, rfl⟩)
            go_roundw
            case rel => exact ⟨k + 1, _, by omega, by go_num, HG, rfl⟩
            case measure => simp [intOf]; omega
          · have hw := fun W : World => refbound_any (c.getD k 0) W
            rw [decide_eq_false hb] at hw
            have HW := Lib.hid hw
            have HF := Lib.hid (chkV_14 HM.out (i := k) (by rw [l1.out]; exact hlt) (.inl hb))
            clear hw hb
            generalize c.getD k 0 = x at *
            go_wp2_with (go_at_call 52; refine (HW.out _).mono ?_; rintro e w' ⟨rfl, rfl⟩)
            go_ret
            exact ⟨ret_int HF.out.symm, _, rfl⟩
        · have HBD : Hid (∀ j, j < nc → Bd (c.getD j 0)) := Lib.hid (fun j hj => HO.out j (by omega))
          go_wp2
          go_loopw [8] (fun i wr => ∃ k q : Nat, k ≤ nc ∧ i = .int .i64 k ∧ Hid (∀ j, j < k → ¬ Wrong g v c j) ∧ wr = w.drewN q) (fun i _ => nc - (intOf i).toNat)
          case atStart => exact ⟨0, _, by omega, rfl, Lib.hid (fun j hj => by omega), rfl⟩
          case round =>
            clear hk0
            obtain ⟨k', q', hk', rfl, HO', rfl⟩ := hrel
            have hk0' : (0 : Int) ≤ (k' : Int) := by omega
            by_cases hlt' : k' < nc
            · obtain ⟨ad, rfl, hbl, hcc⟩ := HC.out.at_ hlt'
              have hki' : (k' : Int) < (nc : Int) := by omega
              have HN := Lib.hid (HND.out k' HM.out HBD.out hlt')
              have hbk := HBD.out k' hlt'
              have HNW := Lib.hid (fun (h : v.getD k' 0 + most c (nx g k') ≤ c.getD k' 0) => not_wrong.2 ⟨hbk, h⟩)
              have HWR := Lib.hid (fun (h : ¬ v.getD k' 0 + most c (nx g k') ≤ c.getD k' 0) => (Classical.byContradiction fun hh => h (not_wrong.1 hh).2 : Wrong g v c k'))
              clear hbk
              generalize v.getD k' 0 + most c (nx g k') = y at *
              generalize c.getD k' 0 = x at *
              by_cases hx : y ≤ x
              · have HG : Hid (∀ j, j < k' + 1 → ¬ Wrong g v c j) := Lib.hid (fun j hj => by
                  rcases Nat.lt_or_ge j k' with h1 | h1
                  · exact HO'.out j h1
                  · obtain rfl : j = k' := (by omega)
                    exact HNW.out hx)
                have hx' : ¬ x < y := by omega
                go_wp2_with fail
                go_quiet ((go_at_call 54; first | exact Calls.quiet_of (HN.out _ (HGz.out.drewN _) (HV.out.drewN _) (HC.out.drewN _)) | exact quiet_add (HN.out _ (HGz.out.drewN _) (HV.out.drewN _) (HC.out.drewN _))))
                go_wp2
                go_roundw
                case rel => exact ⟨k' + 1, q' + nq, by omega, by go_num, HG, by first | rfl | exact World.drewN_drewN _ _ _⟩
                case measure => simp [intOf]; omega
              · have HF := Lib.hid (chkV_14 HM.out (i := k') (by rw [l1.out]; exact hlt') (HWR.out hx))
                have hx' : x < y := by omega
                go_wp2_with fail
                go_quiet ((go_at_call 54; first | exact Calls.quiet_of (HN.out _ (HGz.out.drewN _) (HV.out.drewN _) (HC.out.drewN _)) | exact quiet_add (HN.out _ (HGz.out.drewN _) (HV.out.drewN _) (HC.out.drewN _))))
                go_wp2
                go_ret
                exact ⟨ret_int HF.out.symm, by first | exact ⟨_, rfl⟩ | exact ⟨_, World.drewN_drewN _ _ _⟩⟩
            · have HF := Lib.hid (chkV_0 HM.out (fun i hi => HO'.out i (by rw [l1.out] at hi; omega)))
              go_wp2
              go_ret
              exact ⟨ret_int HF.out.symm, _, rfl⟩
    · have HF := Lib.hid (chkV_4 (g := g) (v := v) (c := c) fun hm => e1 (by have := hm.2; rw [l3.out, l1.out] at this; exact this))
      have e1i : ¬ (nc : Int) = (ng : Int) := by omega
      go_enter Try.func18, Try.ntmps18
      go_wp2_with (go_at_call 53; refine (HRT.out _ HGz.out HV.out).mono ?_; rintro e w' ⟨rfl, q0, rfl⟩)
      go_ret
      exact ⟨ret_int HF.out.symm, _, rfl⟩
  · have hb' : rtB g v = false := by simpa using hb
    rw [hb'] at hrt
    have HRT := Lib.hid hrt
    have HF := Lib.hid (chkV_4 (g := g) (v := v) (c := c) fun hm => hb (rtB_iff.2 hm.1))
    clear hrt hb hb'
    go_enter Try.func18, Try.ntmps18
    go_wp2_with (go_at_call 53; refine (HRT.out _ HGz.out HV.out).mono ?_; rintro e w' ⟨rfl, q0, rfl⟩)
    go_ret
    exact ⟨ret_int HF.out.symm, _, rfl⟩
end Go.Proofs.Ytgamodmenlhedaa.cf
