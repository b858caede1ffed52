/- CertificateTightIsTheBound: the walk of the law. -/
import Derived.Test.YtgamodmenlhedaaCf20
namespace Go.Proofs.Ytgamodmenlhedaa.cf
open Go.RowKit
set_option linter.unusedVariables false
set_option maxRecDepth 10000

theorem sol_tight {g : List (List Int)} {v b : List Int} (hr : Right g v) (hs : Sol g v b) (hb : ∀ k, Bd (b.getD k 0)) : chkV g v b = 0 ∧ tightB g v b = true := by
  have h0 : chkV g v b = 0 := chkV_ok.2 ⟨⟨hr, hs.1⟩, fun i hi => not_wrong.2 ⟨hb i, by rw [hs.2 i hi]; omega⟩⟩
  exact ⟨h0, tightB_iff.2 ⟨h0, hs.2⟩⟩
theorem tight_sol {g : List (List Int)} {v n : List Int} (h : tightB g v n = true) : Sol g v n := by
  obtain ⟨h0, h1⟩ := tightB_iff.1 h
  exact ⟨(chkV_ok.1 h0).1.2, h1⟩
theorem over_not {g : List (List Int)} {v n : List Int} (hk : RankedN g) (ho : Over g v) : chkV g v n ≠ 0 := fun h => by
  obtain ⟨rk, hr, _⟩ := hk
  obtain ⟨hm, hw⟩ := chkV_ok.1 h
  exact not_over hm.1.1 hr hw ho
theorem over_tight {g : List (List Int)} {v n : List Int} (hk : RankedN g) (ho : Over g v) : tightB g v n = false := tightB_not fun h => over_not hk ho h.1
theorem tight_eq {g : List (List Int)} {v b n : List Int} (hr : Right g v) (hk : RankedN g) (hs : Sol g v b) (hb : ∀ k, Bd (b.getD k 0)) : tightB g v n = decide (n = b) := by
  by_cases h : n = b
  · subst h; rw [(sol_tight hr hs hb).2]; simp
  · rw [decide_eq_false h]
    rcases ht : tightB g v n with _ | _
    · rfl
    · obtain ⟨rk, hrk, _⟩ := hk
      exact absurd (sol_unique hr.1 hrk (tight_sol ht) hs) h
end Go.Proofs.Ytgamodmenlhedaa.cf
namespace Go.Proofs.Ytgamodmenlhedaa.ct
open Go.RowKit Go.Proofs.Ytgamodmenlhedaa.cf
set_option linter.unusedVariables false
set_option maxRecDepth 10000
set_option maxHeartbeats 2000000 in
theorem law (A : Option Addr) (n c : Nat) (l : List Nat) (w : World) (hb : Bs w w.heap.size A n l) (hn : n ≤ maxLen) (hc : n ≤ c) :
    Calls Try.prog 5 #[.slice A n c] w fun e w' => e = .returned (.bool true) ∧ Below w.heap.size w w' := by
  have HS := Lib.hid (fun W (h : Bs W W.heap.size A n l) => scene_any A n c l W h hn hc)
  have HBS := Lib.hid hb
  clear hb hn hc
  go_enter Try.func5, Try.ntmps5
  go_wp2_with fail
  refine (awake30 _).mono ?_
  rintro e w1 ⟨rfl, hb1⟩
  have HS1 := Lib.hid (HS.out w1 ((Bs.below HBS.out hb1).more hb1.size))
  have HB1 := Lib.hid hb1
  clear hb1 HS HBS
  go_wp2_with fail
  refine HS1.out.mono ?_
  rintro e w2 ⟨gb, m, g, free, cv, Av, v, An, cn, nl, cb, rfl, hg, hok, hr, hv, hnl, hm1, hm8, hb2⟩
  have HG := Lib.hid hg
  have HR := Lib.hid hr
  have HV := Lib.hid hv
  have HNL := Lib.hid hnl
  have HB2 := Lib.hid (HB1.out.trans (hb2.mono HB1.out.size))
  clear hg hok hr hv hnl hb2 HB1 HS1
  go_wp2_with fail
  refine (all_any _ _ _ _ _ _ g v w2 HG.out HV.out (by unfold maxLen; omega) (by unfold maxLen; omega)).mono ?_
  rintro e w3 ⟨hb3, hcase⟩
  have HB3 := Lib.hid (HB2.out.trans (hb3.mono HB2.out.size))
  have HG3 := Lib.hid (HG.out.below hb3)
  have HV3 := Lib.hid (HV.out.below hb3)
  have HN3 := Lib.hid (HNL.out.below hb3)
  clear hb3 HG HV HNL HB2
  rcases hcase with ⟨h, rfl⟩ | ⟨_, _, rfl⟩ | ⟨_, ho, hk, rfl⟩ | ⟨_, hk, r, b, hs, hbd, rfl, own⟩
  · exact absurd HR.out h
  · go_wp2
    go_ret
    exact ⟨rfl, HB3.out⟩
  · have HT := tight_any (some ⟨gb, 0, none⟩) cv An m m m Av m cn g v nl w3 HG3.out HV3.out HN3.out (by unfold maxLen; omega) (by unfold maxLen; omega) (by unfold maxLen; omega)
    rw [over_tight hk ho] at HT
    have HT' := Lib.hid HT
    clear HT ho hk
    go_wp2_with fail
    (with_reducible refine HT'.out.mono ?_)
    rintro e w4 ⟨rfl, hb4⟩
    go_wp2
    go_ret
    exact ⟨rfl, HB3.out.trans (hb4.mono HB3.out.size)⟩
  · obtain ⟨hs0, hs1⟩ := sol_tight HR.out hs hbd
    have hte := tight_eq (n := nl) HR.out hk hs hbd
    have hbl : b.length = m := by rw [hs.1]; exact HG3.out.len
    rw [hbl] at own
    obtain ⟨Ab, cbb, rfl, -⟩ := own_form own
    have HBI := Lib.hid (show Iz w3 Ab m b from Iz.of_own own)
    have HT := tight_any (some ⟨gb, 0, none⟩) cv Ab m m m Av m cbb g v b w3 HG3.out HV3.out HBI.out (by unfold maxLen; omega) (by unfold maxLen; omega) (by unfold maxLen; omega)
    rw [hs1] at HT
    have HT' := Lib.hid HT
    have HTE := Lib.hid hte
    clear HT hs0 hs1 hte hs hbd hk own hbl
    go_wp2_with fail
    (with_reducible refine HT'.out.mono ?_)
    rintro e w4 ⟨rfl, hb4⟩
    have HB4 := Lib.hid (HB3.out.trans (hb4.mono HB3.out.size))
    have HT2 := Lib.hid (tight_any (some ⟨gb, 0, none⟩) cv An m m m Av m cn g v nl w4 (HG3.out.below hb4) (HV3.out.below hb4) (HN3.out.below hb4) (by unfold maxLen; omega) (by unfold maxLen; omega) (by unfold maxLen; omega))
    have HN4 := Lib.hid (HN3.out.below hb4)
    have HBI4 := Lib.hid (HBI.out.below hb4)
    clear hb4 HT' HB3
    go_wp2_with fail
    (with_reducible refine HT2.out.mono ?_)
    rintro e w5 ⟨rfl, hb5⟩
    have HB5 := Lib.hid (HB4.out.trans (hb5.mono HB4.out.size))
    have HSM := Lib.hid (same_any An Ab m cn m cbb nl b w5 (HN4.out.below hb5) (HBI4.out.below hb5) (by unfold maxLen; omega) (by unfold maxLen; omega))
    clear hb5 HT2
    rw [HTE.out]
    by_cases he : nl = b
    · rw [decide_eq_true he] at HSM ⊢
      clear he
      go_wp2_with fail
      (with_reducible refine HSM.out.mono ?_)
      rintro e w6 ⟨rfl, q, rfl⟩
      go_wp2
      go_ret
      exact ⟨rfl, below_drewN HB5.out q⟩
    · rw [decide_eq_false he] at HSM ⊢
      clear he
      go_wp2_with fail
      (with_reducible refine HSM.out.mono ?_)
      rintro e w6 ⟨rfl, q, rfl⟩
      go_wp2
      go_ret
      exact ⟨rfl, below_drewN HB5.out q⟩
end Go.Proofs.Ytgamodmenlhedaa.ct
