/- Contracts of the reference of chapter 30: Tight, Broken. -/
import Derived.Test.YtgamodmenlhedaaCf6
namespace Go.Proofs.Ytgamodmenlhedaa.cf
open Go.RowKit
set_option linter.unusedVariables false
set_option maxRecDepth 10000

set_option maxHeartbeats 2000000 in
theorem reftight_any (Ag Aw Ac : Option Addr) (ng cg nw cw nc cc : Nat) (g : List (List Int)) (v c : List Int) (w : World) (hg : Gz w Ag ng g) (hv : Iz w Aw nw v) (hc : Iz w Ac nc c) (n1 : ng ≤ maxLen) (n2 : nw ≤ maxLen) (n3 : nc ≤ maxLen) :
    Calls Try.prog 20 #[.slice Ag ng cg, .slice Aw nw cw, .slice Ac nc cc] w fun e w' => e = .returned (.bool (tightB g v c)) ∧ ∃ q, w' = w.drewN q := by
  have hck := fun W (h : Gz W Ag ng g) (h' : Iz W Aw nw v) (h'' : Iz W Ac nc c) => refchk_any Ag Aw Ac ng cg nw cw nc cc g v c W h h' h'' n1 n2 n3
  have hnd := fun (i : Nat) (hm : Matched g v c) (hb : ∀ k, k < nc → Bd (c.getD k 0)) (hi : i < ng) W (h : Gz W Ag ng g) (h' : Iz W Aw nw v) (h'' : Iz W Ac nc c) => need_any Ag Aw Ac ng cg nw cw nc cc i g v c W h h' h'' n1 n2 n3 hm hb hi
  have HND := Lib.hid hnd
  unfold maxLen at n1 n2 n3
  have l1 := Lib.hid hg.len
  have l3 := Lib.hid hc.len
  have HV := Lib.hid hv
  have HC := Lib.hid hc
  have HGz := Lib.hid hg
  clear hg hv hc hnd
  by_cases hz : chkV g v c = 0
  · rw [hz] at hck
    have HCK := Lib.hid hck
    have HZ := Lib.hid hz
    have HM := Lib.hid (chkV_ok.1 hz).1
    have HNW := Lib.hid (chkV_ok.1 hz).2
    obtain rfl : nc = ng := by have := HM.out.2; rw [l3.out, l1.out] at this; exact this
    have HBD : Hid (∀ j, j < nc → Bd (c.getD j 0)) := Lib.hid (fun j hj => (not_wrong.1 (HNW.out j (by rw [l1.out]; exact hj))).1)
    clear hck hz
    go_enter Try.func20, Try.ntmps20
    go_wp2_with (go_at_call 18; refine (HCK.out _ HGz.out HV.out HC.out).mono ?_; rintro e w' ⟨rfl, q0, rfl⟩)
    go_loopw [7] (fun i wr => ∃ k q : Nat, k ≤ nc ∧ i = .int .i64 k ∧ Hid (∀ j, j < k → c.getD j 0 = v.getD j 0 + most c (nx g j)) ∧ wr = w.drewN q) (fun i _ => nc - (intOf i).toNat)
    case atStart => exact ⟨0, _, by omega, rfl, Lib.hid (fun j hj => by omega), rfl⟩
    case round =>
      obtain ⟨k, q, hk, rfl, HO, rfl⟩ := hrel
      have hk0 : (0 : Int) ≤ (k : Int) := by omega
      by_cases hlt : k < nc
      · obtain ⟨ad, rfl, hbl, hcc⟩ := HC.out.at_ hlt
        have hki : (k : Int) < (nc : Int) := by omega
        have HN := Lib.hid (HND.out k HM.out HBD.out hlt)
        have HYES := Lib.hid (fun (h : c.getD k 0 = v.getD k 0 + most c (nx g k)) => (fun j hj => by
          rcases Nat.lt_or_ge j k with h1 | h1
          · exact HO.out j h1
          · obtain rfl : j = k := (by omega)
            exact h : ∀ j, j < k + 1 → c.getD j 0 = v.getD j 0 + most c (nx g j)))
        have HNO := Lib.hid (fun (h : ¬ c.getD k 0 = v.getD k 0 + most c (nx g k)) => tightB_not (g := g) (v := v) (c := c) fun hh => h (hh.2 k (by rw [l1.out]; exact hlt)))
        generalize v.getD k 0 + most c (nx g k) = y at *
        generalize c.getD k 0 = x at *
        by_cases hx : x = y
        · have HG := Lib.hid (HYES.out hx)
          have hx' : (x != y) = false := by simp [hx]
          have HX := Lib.hid hx
          subst hx
          clear hx'
          go_wp2_with fail
          go_quiet ((go_at_call 54; first | exact Calls.quiet_of (HN.out _ (HGz.out.drewN _) (HV.out.drewN _) (HC.out.drewN _)) | exact quiet_add (HN.out _ (HGz.out.drewN _) (HV.out.drewN _) (HC.out.drewN _))))
          go_wp2
          go_roundw
          case rel => exact ⟨k + 1, q + nq, by omega, by go_num, HG, by first | rfl | exact World.drewN_drewN _ _ _⟩
          case measure => simp [intOf]; omega
        · have HF := Lib.hid (HNO.out hx)
          go_wp2_with fail
          go_quiet ((go_at_call 54; first | exact Calls.quiet_of (HN.out _ (HGz.out.drewN _) (HV.out.drewN _) (HC.out.drewN _)) | exact quiet_add (HN.out _ (HGz.out.drewN _) (HV.out.drewN _) (HC.out.drewN _))))
          go_wp2
          go_ret
          exact ⟨ret_bool HF.out.symm, by first | exact ⟨_, rfl⟩ | exact ⟨_, World.drewN_drewN _ _ _⟩⟩
      · have HF := Lib.hid (tightB_iff.2 ⟨HZ.out, fun i hi => HO.out i (by rw [l1.out] at hi; omega)⟩)
        go_wp2
        go_ret
        exact ⟨ret_bool HF.out.symm, _, rfl⟩
  · have HCK := Lib.hid hck
    have HF := Lib.hid (tightB_not (g := g) (v := v) (c := c) fun hh => hz hh.1)
    clear hck
    generalize chkV g v c = z at *
    go_enter Try.func20, Try.ntmps20
    go_wp2_with (go_at_call 18; refine (HCK.out _ HGz.out HV.out HC.out).mono ?_; rintro e w' ⟨rfl, q0, rfl⟩)
    go_ret
    exact ⟨ret_bool HF.out.symm, _, rfl⟩

theorem brokenR_none {g : List (List Int)} {v c : List Int} (h : chkV g v c ≠ 14) : BrokenR g v c (0, false) :=
  .inr ⟨fun hm i hi hw => h (chkV_14 hm hi hw), rfl⟩
/-- two results: the number of the first function whose number is wrong, and whether there is one -/
def BrokenE (g : List (List Int)) (v c : List Int) (e : Ending) : Prop := ∃ (i : Int) (b : Bool), e = .returned (.tuple #[.int .i64 i, .bool b]) ∧ BrokenR g v c (i, b)
set_option maxHeartbeats 2000000 in
theorem refbroken_any (Ag Aw Ac : Option Addr) (ng cg nw cw nc cc : Nat) (g : List (List Int)) (v c : List Int) (w : World) (hg : Gz w Ag ng g) (hv : Iz w Aw nw v) (hc : Iz w Ac nc c) (n1 : ng ≤ maxLen) (n2 : nw ≤ maxLen) (n3 : nc ≤ maxLen) :
    Calls Try.prog 16 #[.slice Ag ng cg, .slice Aw nw cw, .slice Ac nc cc] w fun e w' => BrokenE g v c e ∧ ∃ q, w' = w.drewN q := by
  have hck := fun W (h : Gz W Ag ng g) (h' : Iz W Aw nw v) (h'' : Iz W Ac nc c) => refchk_any Ag Aw Ac ng cg nw cw nc cc g v c W h h' h'' n1 n2 n3
  unfold maxLen at n1 n2 n3
  have l1 := Lib.hid hg.len
  have l2 := Lib.hid hv.len
  have l3 := Lib.hid hc.len
  have HV := Lib.hid hv
  have HC := Lib.hid hc
  have HGz := Lib.hid hg
  clear hg hv hc
  by_cases hz : chkV g v c = 14
  · have HM : Hid (Matched g v c) := Lib.hid (Classical.byContradiction fun hh => by rw [chkV_4 hh] at hz; exact absurd hz (by decide))
    rw [hz] at hck
    have HCK := Lib.hid hck
    obtain rfl : nc = ng := by have := HM.out.2; rw [l3.out, l1.out] at this; exact this
    obtain rfl : nw = nc := by have := HM.out.1.2.1; rw [l2.out, l1.out] at this; exact this
    clear hck hz
    go_enter Try.func16, Try.ntmps16
    go_wp2_with (go_at_call 18; refine (HCK.out _ HGz.out HV.out HC.out).mono ?_; rintro e w' ⟨rfl, q0, rfl⟩)
    go_loopw [8] (fun i wr => ∃ k q : Nat, k ≤ nw ∧ i = .int .i64 k ∧ Hid (∀ j, j < k → ¬ Wrong g v c j) ∧ wr = w.drewN q) (fun i _ => nw - (intOf i).toNat)
    case atStart => exact ⟨0, _, by omega, rfl, Lib.hid (fun j hj => by omega), rfl⟩
    case round =>
      obtain ⟨k, q, hk, rfl, HO, rfl⟩ := hrel
      have hk0 : (0 : Int) ≤ (k : Int) := by omega
      by_cases hlt : k < nw
      · obtain ⟨ad, rfl, hbl, hcc⟩ := HC.out.at_ hlt
        obtain ⟨bd, rfl, hbl2, hcv⟩ := HV.out.at_ hlt
        have hki : (k : Int) < (nw : Int) := by omega
        have HFIRST := Lib.hid (fun (h : Wrong g v c k) => (.inl ⟨HM.out, k, by rw [l1.out]; exact hlt, h, HO.out, rfl⟩ : BrokenR g v c ((k : Int), true)))
        obtain ⟨gd, A', n', c', rfl, hbl3, hcg, hr, hm', hcap⟩ := HGz.out.at_ hlt
        unfold maxLen at hm'
        have HR := Lib.hid (show Iz w A' n' (nx g k) from hr)
        have HNL := Lib.hid (show (nx g k).length = n' from hr.len)
        have HVAL := Lib.hid (fun m (hm : m < n') => (by
          have := grOk_lt HM.out.1.1 k (by rw [l1.out]; exact hlt) m (by rw [HNL.out]; exact hm)
          rw [l1.out] at this
          exact ⟨((nx g k).getD m 0).toNat, by omega, by omega⟩ : ∃ j : Nat, (nx g k).getD m 0 = (j : Int) ∧ j < nw))
        have hbv := HM.out.1.2.2 k (by rw [l2.out]; exact hlt)
        have HW1 := Lib.hid (fun (h : ¬ Bd (c.getD k 0)) => HFIRST.out (.inl h))
        have HW2 := Lib.hid (fun (h : c.getD k 0 < v.getD k 0) => HFIRST.out (.inr (.inl h)))
        have HW3 := Lib.hid (fun (m : Nat) (hm : m < n') (h : c.getD k 0 - v.getD k 0 < c.getD ((nx g k).getD m 0).toNat 0) => HFIRST.out (.inr (.inr ⟨m, by rw [HNL.out]; exact hm, h⟩)))
        have HNX := Lib.hid (fun (h1 : Bd (c.getD k 0)) (h2 : ¬ c.getD k 0 < v.getD k 0) (h3 : ∀ m, m < n' → ¬ c.getD k 0 - v.getD k 0 < c.getD ((nx g k).getD m 0).toNat 0) => (fun j hj => by
          rcases Nat.lt_or_ge j k with a | a
          · exact HO.out j a
          · obtain rfl : j = k := (by omega)
            rintro (h | h | ⟨m, hm, h⟩)
            · exact h h1
            · exact h2 h
            · exact h3 m (by rw [HNL.out] at hm; exact hm) h : ∀ j, j < k + 1 → ¬ Wrong g v c j))
        have hbd := fun W : World => refbound_any (c.getD k 0) W
        clear hr
        generalize c.getD k 0 = x at *
        generalize v.getD k 0 = y at *
        obtain ⟨y0, y1⟩ := hbv
        by_cases hx : Bd x
        · rw [decide_eq_true hx] at hbd
          have HBD := Lib.hid hbd
          clear hbd
          obtain ⟨x0, x1⟩ := hx
          by_cases hxy : x < y
          · have HF := Lib.hid (HW2.out hxy)
            have hd : decide (x < y) = true := by simpa using hxy
            go_wp2_with fail
            go_quiet ((go_at_call 52; first | exact quiet_left (HBD.out _) | exact quiet_add_left (HBD.out _)))
            go_wp2
            go_ret2
            exact ⟨⟨_, _, rfl, HF.out⟩, by first | exact ⟨_, rfl⟩ | exact ⟨_, World.drewN_drewN _ _ _⟩⟩
          · have hd : decide (x < y) = false := by simpa using hxy
            have hyx : y ≤ x := by omega
            go_wp2_with fail
            go_quiet ((go_at_call 52; first | exact quiet_left (HBD.out _) | exact quiet_add_left (HBD.out _)))
            go_wp2
            go_loopw [9] (fun i wr => ∃ m q : Nat, m ≤ n' ∧ i = .int .i64 m ∧ Hid (∀ t, t < m → ¬ x - y < c.getD ((nx g k).getD t 0).toNat 0) ∧ wr = w.drewN q) (fun i _ => n' - (intOf i).toNat)
            case atStart => exact ⟨0, q + nq, by omega, rfl, Lib.hid (fun t ht => by omega), by first | rfl | exact World.drewN_drewN _ _ _⟩
            case round =>
              obtain ⟨m, q', hm, rfl, HI, rfl⟩ := hrel
              have hmi0 : (0 : Int) ≤ (m : Int) := by omega
              by_cases hml : m < n'
              · have hmi1 : (m : Int) < (n' : Int) := by omega
                obtain ⟨rd, rfl, -, crd⟩ := HR.out.at_ hml
                obtain ⟨j, hj, hj'⟩ := HVAL.out m hml
                obtain ⟨ad2, e9, -, cj⟩ := HC.out.at_ hj'
                obtain rfl : ad = ad2 := by injection e9
                have hji0 : (0 : Int) ≤ (j : Int) := by omega
                have hji1 : (j : Int) < (nw : Int) := by omega
                have HYS := Lib.hid (fun (h : x - y < c.getD j 0) => HW3.out m hml (by rw [hj]; exact h))
                have HNO := Lib.hid (fun (h : ¬ x - y < c.getD j 0) => (fun t ht => by
                  rcases Nat.lt_or_ge t m with a | a
                  · exact HI.out t a
                  · obtain rfl : t = m := (by omega)
                    rw [hj]; exact h : ∀ t, t < m + 1 → ¬ x - y < c.getD ((nx g k).getD t 0).toNat 0))
                rw [hj] at crd
                clear hj e9
                generalize c.getD j 0 = z at *
                by_cases hzx : x - y < z
                · have HF := Lib.hid (HYS.out hzx)
                  go_wp2_with fail
                  go_quiet (fail)
                  go_wp2
                  go_ret2
                  exact ⟨⟨_, _, rfl, HF.out⟩, by first | exact ⟨_, rfl⟩ | exact ⟨_, World.drewN_drewN _ _ _⟩⟩
                · have HG := Lib.hid (HNO.out hzx)
                  have hzx' : z ≤ x - y := by omega
                  go_wp2_with fail
                  go_quiet (fail)
                  go_wp2
                  go_roundw
                  case rel => exact ⟨m + 1, _, by omega, by go_num, Lib.hid (fun t ht => by have := HG.out t ht; omega), by first | rfl | exact World.drewN_drewN _ _ _⟩
                  case measure => simp [intOf]; omega
              · have HG := Lib.hid (HNX.out ⟨x0, x1⟩ hxy (fun t ht => by have := HI.out t (by omega); omega))
                go_wp2
                go_roundw
                case rel => exact ⟨k + 1, _, by omega, by go_num, HG, by first | rfl | exact World.drewN_drewN _ _ _⟩
                case measure => simp [intOf]; omega
        · rw [decide_eq_false hx] at hbd
          have HBD := Lib.hid hbd
          have HF := Lib.hid (HW1.out hx)
          clear hbd
          go_wp2_with fail
          go_quiet ((go_at_call 52; first | exact quiet_left (HBD.out _) | exact quiet_add_left (HBD.out _)))
          go_wp2
          go_ret2
          exact ⟨⟨_, _, rfl, HF.out⟩, by first | exact ⟨_, rfl⟩ | exact ⟨_, World.drewN_drewN _ _ _⟩⟩
      · have HF : Hid (BrokenR g v c (0, false)) := Lib.hid (.inr ⟨fun _ i hi => HO.out i (by rw [l1.out] at hi; omega), rfl⟩)
        go_wp2
        go_ret2
        exact ⟨⟨_, _, rfl, HF.out⟩, _, rfl⟩
  · have HCK := Lib.hid hck
    have HF := Lib.hid (brokenR_none hz)
    clear hck
    generalize chkV g v c = z at *
    go_enter Try.func16, Try.ntmps16
    go_wp2_with (go_at_call 18; refine (HCK.out _ HGz.out HV.out HC.out).mono ?_; rintro e w' ⟨rfl, q0, rfl⟩)
    go_ret2
    exact ⟨⟨_, _, rfl, HF.out⟩, _, rfl⟩
end Go.Proofs.Ytgamodmenlhedaa.cf
