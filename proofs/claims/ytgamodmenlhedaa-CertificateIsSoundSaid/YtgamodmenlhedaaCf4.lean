/- Contracts: weights that fit a graph, and numbers. -/
import Derived.Test.YtgamodmenlhedaaCf3
namespace Go.Proofs.Ytgamodmenlhedaa.cf
open Go.RowKit
set_option linter.unusedVariables false
set_option maxRecDepth 10000

noncomputable def mtB (g : List (List Int)) (v c : List Int) : Bool := by classical exact decide (Matched g v c)
theorem mtB_iff {g : List (List Int)} {v c : List Int} : mtB g v c = true ↔ Matched g v c := by unfold mtB; simp
theorem mtB_not {g : List (List Int)} {v c : List Int} (h : ¬ Matched g v c) : mtB g v c = false := by rw [← Bool.not_eq_true, mtB_iff]; exact h
noncomputable def rtB (g : List (List Int)) (v : List Int) : Bool := by classical exact decide (Right g v)
theorem rtB_iff {g : List (List Int)} {v : List Int} : rtB g v = true ↔ Right g v := by unfold rtB; simp
theorem rtB_not {g : List (List Int)} {v : List Int} (h : ¬ Right g v) : rtB g v = false := by rw [← Bool.not_eq_true, rtB_iff]; exact h

set_option maxHeartbeats 1000000 in
theorem matched_any (Ag Aw Ac : Option Addr) (ng cg nw cw nc cc : Nat) (g : List (List Int)) (v c : List Int) (w : World) (hg : Gz w Ag ng g) (hv : Iz w Aw nw v) (hc : Iz w Ac nc c) (n1 : ng ≤ maxLen) (n2 : nw ≤ maxLen) (n3 : nc ≤ maxLen) :
    Calls Try.prog 49 #[.slice Ag ng cg, .slice Aw nw cw, .slice Ac nc cc] w fun e w' => e = .returned (.bool (mtB g v c)) ∧ w = w' := by
  have hgr := fun W (h : Gz W Ag ng g) => grcheck_any Ag ng cg g W h n1
  unfold maxLen at n1 n2 n3
  have l1 := Lib.hid hg.len
  have l2 := Lib.hid hv.len
  have l3 := Lib.hid hc.len
  have HV := Lib.hid hv
  have HGz := Lib.hid hg
  clear hg hv hc
  by_cases hb : grB g = true
  · rw [hb] at hgr
    have HGR := Lib.hid hgr
    have HB := Lib.hid (grB_iff.1 hb)
    clear hgr hb
    by_cases e1 : nw = ng
    · by_cases e2 : nc = ng
      · have HBAD : Hid ((∃ k, k < nw ∧ ¬ Bd (v.getD k 0)) → mtB g v c = false) := Lib.hid (fun ⟨k, hk, hh⟩ => mtB_not fun hm => hh (hm.1.2.2 k (by rw [l2.out]; exact hk)))
        have HOK : Hid ((∀ k, k < nw → Bd (v.getD k 0)) → mtB g v c = true) := Lib.hid (fun hh => mtB_iff.2 ⟨⟨HB.out, by rw [l2.out, l1.out, e1], fun k hk => hh k (by rw [l2.out] at hk; exact hk)⟩, by rw [l3.out, l1.out, e2]⟩)
        subst e2
        have E1 := Lib.hid e1
        have e1b : ((nw : Int) != (nc : Int)) = false := by simp [e1]
        have E1b := Lib.hid e1b
        subst e1
        clear e1b
        go_enter Try.func49, Try.ntmps49
        go_wp2_with (go_at_call 82; refine (HGR.out _ HGz.out).mono ?_; rintro e w' ⟨rfl, rfl⟩)
        go_loop [28] (fun i => ∃ k : Nat, k ≤ nw ∧ i = .int .i64 k ∧ Hid (∀ j, j < k → Bd (v.getD j 0))) (fun i => nw - (intOf i).toNat)
        case atStart => exact ⟨0, by omega, rfl, Lib.hid (fun j hj => by omega)⟩
        case round =>
          obtain ⟨k, hk, rfl, HO⟩ := hrel
          by_cases hlt : k < nw
          · obtain ⟨ad, rfl, hbl, hc⟩ := HV.out.at_ hlt
            have hki : (k : Int) < (nw : Int) := by omega
            have hk0 : (0 : Int) ≤ (k : Int) := by omega
            by_cases hb : Bd (v.getD k 0)
            · have hw := fun W : World => bound_any (v.getD k 0) W
              rw [decide_eq_true hb] at hw
              have HW := Lib.hid hw
              have HG : Hid (∀ j, j < k + 1 → Bd (v.getD j 0)) := Lib.hid (fun j hj => by
                rcases Nat.lt_or_ge j k with h1 | h1
                · exact HO.out j h1
                · obtain rfl : j = k := (by omega)
                  exact hb)
              clear hw hb
              generalize v.getD k 0 = x at *
              go_wp2_with (go_at_call 50; refine (HW.out _).mono ?_; rintro e w' ⟨rfl, rfl⟩)
              go_round
              case rel => exact ⟨k + 1, by omega, by go_num, HG⟩
              case measure => simp [intOf]; omega
            · have hw := fun W : World => bound_any (v.getD k 0) W
              rw [decide_eq_false hb] at hw
              have HW := Lib.hid hw
              have HF := Lib.hid (HBAD.out ⟨k, hlt, hb⟩)
              clear hw hb
              generalize v.getD k 0 = x at *
              go_wp2_with (go_at_call 50; refine (HW.out _).mono ?_; rintro e w' ⟨rfl, rfl⟩)
              go_ret
              exact ⟨ret_bool HF.out.symm, rfl⟩
          · have HF := Lib.hid (HOK.out fun j hj => HO.out j (by omega))
            go_wp2
            go_ret
            exact ⟨ret_bool HF.out.symm, rfl⟩
      · have HF := Lib.hid (mtB_not (g := g) (v := v) (c := c) fun hm => e2 (by have := hm.2; rw [l3.out, l1.out] at this; exact this))
        have e2i : ¬ (nc : Int) = (ng : Int) := by omega
        subst e1
        go_enter Try.func49, Try.ntmps49
        go_wp2_with (go_at_call 82; refine (HGR.out _ HGz.out).mono ?_; rintro e w' ⟨rfl, rfl⟩)
        go_ret
        exact ⟨ret_bool HF.out.symm, rfl⟩
    · have HF := Lib.hid (mtB_not (g := g) (v := v) (c := c) fun hm => e1 (by have := hm.1.2.1; rw [l2.out, l1.out] at this; exact this))
      have e1i : ¬ (nw : Int) = (ng : Int) := by omega
      go_enter Try.func49, Try.ntmps49
      go_wp2_with (go_at_call 82; refine (HGR.out _ HGz.out).mono ?_; rintro e w' ⟨rfl, rfl⟩)
      go_ret
      exact ⟨ret_bool HF.out.symm, rfl⟩
  · have hb' : grB g = false := by simpa using hb
    rw [hb'] at hgr
    have HGR := Lib.hid hgr
    have HF := Lib.hid (mtB_not (g := g) (v := v) (c := c) fun hm => hb (grB_iff.2 hm.1.1))
    clear hgr hb hb'
    go_enter Try.func49, Try.ntmps49
    go_wp2_with (go_at_call 82; refine (HGR.out _ HGz.out).mono ?_; rintro e w' ⟨rfl, rfl⟩)
    go_ret
    exact ⟨ret_bool HF.out.symm, rfl⟩

set_option maxHeartbeats 1000000 in
theorem right_any (Ag Aw : Option Addr) (ng cg nw cw : Nat) (g : List (List Int)) (v : List Int) (w : World) (hg : Gz w Ag ng g) (hv : Iz w Aw nw v) (n1 : ng ≤ maxLen) (n2 : nw ≤ maxLen) :
    Calls Try.prog 53 #[.slice Ag ng cg, .slice Aw nw cw] w fun e w' => e = .returned (.bool (rtB g v)) ∧ ∃ q, w' = w.drewN q := by
  have hgr := fun W (h : Gz W Ag ng g) => refgrcheck_any Ag ng cg g W h n1
  unfold maxLen at n1 n2
  have l1 := Lib.hid hg.len
  have l2 := Lib.hid hv.len
  have HV := Lib.hid hv
  have HGz := Lib.hid hg
  clear hg hv
  by_cases hb : grB g = true
  · rw [hb] at hgr
    have HGR := Lib.hid hgr
    have HB := Lib.hid (grB_iff.1 hb)
    clear hgr hb
    by_cases e1 : nw = ng
    · have HBAD : Hid ((∃ k, k < nw ∧ ¬ Bd (v.getD k 0)) → rtB g v = false) := Lib.hid (fun ⟨k, hk, hh⟩ => rtB_not fun hm => hh (hm.2.2 k (by rw [l2.out]; exact hk)))
      have HOK : Hid ((∀ k, k < nw → Bd (v.getD k 0)) → rtB g v = true) := Lib.hid (fun hh => rtB_iff.2 ⟨HB.out, by rw [l2.out, l1.out, e1], fun k hk => hh k (by rw [l2.out] at hk; exact hk)⟩)
      subst e1
      go_enter Try.func53, Try.ntmps53
      go_wp2_with (go_at_call 57; refine (HGR.out _ HGz.out).mono ?_; rintro e w' ⟨rfl, q0, rfl⟩)
      go_loopw [5] (fun i wr => ∃ k q : Nat, k ≤ nw ∧ i = .int .i64 k ∧ Hid (∀ j, j < k → Bd (v.getD j 0)) ∧ wr = w.drewN q) (fun i _ => nw - (intOf i).toNat)
      case atStart => exact ⟨0, _, by omega, rfl, Lib.hid (fun j hj => by omega), rfl⟩
      case round =>
        obtain ⟨k, q, hk, rfl, HO, rfl⟩ := hrel
        by_cases hlt : k < nw
        · obtain ⟨ad, rfl, hbl, hc⟩ := HV.out.at_ hlt
          have hki : (k : Int) < (nw : Int) := by omega
          have hk0 : (0 : Int) ≤ (k : Int) := by omega
          by_cases hb : Bd (v.getD k 0)
          · have hw := fun W : World => refbound_any (v.getD k 0) W
            rw [decide_eq_true hb] at hw
            have HW := Lib.hid hw
            have HG : Hid (∀ j, j < k + 1 → Bd (v.getD j 0)) := Lib.hid (fun j hj => by
              rcases Nat.lt_or_ge j k with h1 | h1
              · exact HO.out j h1
              · obtain rfl : j = k := (by omega)
                exact hb)
            clear hw hb
            generalize v.getD k 0 = x at *
            go_wp2_with (go_at_call 52; refine (HW.out _).mono ?_; rintro e w' ⟨rfl, rfl⟩)
            go_roundw
            case rel => exact ⟨k + 1, _, by omega, by go_num, HG, rfl⟩
            case measure => simp [intOf]; omega
          · have hw := fun W : World => refbound_any (v.getD k 0) W
            rw [decide_eq_false hb] at hw
            have HW := Lib.hid hw
            have HF := Lib.hid (HBAD.out ⟨k, hlt, hb⟩)
            clear hw hb
            generalize v.getD k 0 = x at *
            go_wp2_with (go_at_call 52; refine (HW.out _).mono ?_; rintro e w' ⟨rfl, rfl⟩)
            go_ret
            exact ⟨ret_bool HF.out.symm, _, rfl⟩
        · have HF := Lib.hid (HOK.out fun j hj => HO.out j (by omega))
          go_wp2
          go_ret
          exact ⟨ret_bool HF.out.symm, _, rfl⟩
    · have HF := Lib.hid (rtB_not (g := g) (v := v) fun hm => e1 (by have := hm.2.1; rw [l2.out, l1.out] at this; exact this))
      have e1i : ¬ (nw : Int) = (ng : Int) := by omega
      go_enter Try.func53, Try.ntmps53
      go_wp2_with (go_at_call 57; refine (HGR.out _ HGz.out).mono ?_; rintro e w' ⟨rfl, q0, rfl⟩)
      go_ret
      exact ⟨ret_bool HF.out.symm, _, rfl⟩
  · have hb' : grB g = false := by simpa using hb
    rw [hb'] at hgr
    have HGR := Lib.hid hgr
    have HF := Lib.hid (rtB_not (g := g) (v := v) fun hm => hb (grB_iff.2 hm.1))
    clear hgr hb hb'
    go_enter Try.func53, Try.ntmps53
    go_wp2_with (go_at_call 57; refine (HGR.out _ HGz.out).mono ?_; rintro e w' ⟨rfl, q0, rfl⟩)
    go_ret
    exact ⟨ret_bool HF.out.symm, _, rfl⟩
end Go.Proofs.Ytgamodmenlhedaa.cf
