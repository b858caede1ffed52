/- CertificateCheck: the walk of the law. -/
import Derived.Test.YtgamodmenlhedaaCf20
namespace Go.Proofs.Ytgamodmenlhedaa.ck
open Go.RowKit Go.Proofs.Ytgamodmenlhedaa.cf
set_option linter.unusedVariables false
set_option maxRecDepth 10000
theorem two_ex {a b : Value} {P : Value → Prop} (ha : P a) (hb : P b) (k : Nat) (hk : k < 2) : ∃ x, (#[a, b] : Array Value)[k]? = some x ∧ P x := by
  have h : k = 0 ∨ k = 1 := by omega
  rcases h with rfl | rfl
  · exact ⟨_, rfl, ha⟩
  · exact ⟨_, rfl, hb⟩
/-- a value that is a slice of numbers, or of slices of numbers, in a world -/
def IsI (w : World) (x : Value) : Prop := ∃ A n c l, x = .slice A n c ∧ Iz w A n l ∧ n ≤ maxLen
def IsG (w : World) (x : Value) : Prop := ∃ A n c g, x = .slice A n c ∧ Gz w A n g ∧ n ≤ maxLen
set_option maxHeartbeats 4000000 in
theorem law (A : Option Addr) (n c : Nat) (l : List Nat) (Ar : Option Addr) (nr cr : Nat) (gr : List (List Int)) (Av : Option Addr) (nv cv : Nat) (vl : List Int) (Am : Option Addr) (nm cm : Nat) (ml : List Int) (w : World)
    (hb : Bs w w.heap.size A n l) (hn : n ≤ maxLen) (hc : n ≤ c) (hgr : Gz w Ar nr gr) (hnr : nr ≤ maxLen) (hvl : Iz w Av nv vl) (hnv : nv ≤ maxLen) (hml : Iz w Am nm ml) (hnm : nm ≤ maxLen) :
    Calls Try.prog 3 #[.slice A n c, .slice Ar nr cr, .slice Av nv cv, .slice Am nm cm] w fun e w' => e = .returned (.bool true) ∧ Below w.heap.size w w' := by
  by_cases h3 : nr ≤ 100 ∧ nv ≤ 100 ∧ nm ≤ 100
  case neg =>
    unfold maxLen at hnr hnv hnm
    have hcase : (100 : Int) < (nr : Int) ∨ ((nr : Int) ≤ 100 ∧ (100 : Int) < (nv : Int)) ∨ ((nr : Int) ≤ 100 ∧ (nv : Int) ≤ 100 ∧ (100 : Int) < (nm : Int)) := by omega
    clear h3 hb hgr hvl hml
    rcases hcase with h1 | ⟨h1, h2⟩ | ⟨h1, h2, h3⟩
    all_goals
      go_enter Try.func3, Try.ntmps3
      go_wp2_with fail
      refine (awake30 _).mono ?_
      rintro e w1 ⟨rfl, hb1⟩
      go_wp2
      go_ret
      exact ⟨ret_bool (by simp; try omega), hb1⟩
  obtain ⟨h31, h32, h33⟩ := h3
  have HSC := Lib.hid (fun W (h : Bs W W.heap.size A n l) => scene_any A n c l W h hn hc)
  have HBS := Lib.hid hb
  have HGR := Lib.hid hgr
  have HVL := Lib.hid hvl
  have HML := Lib.hid hml
  have i1 : (nr : Int) ≤ 100 := by omega
  have i2 : (nv : Int) ≤ 100 := by omega
  have i3 : (nm : Int) ≤ 100 := by omega
  clear hb hn hc hgr hvl hml hnr hnv hnm
  go_enter Try.func3, Try.ntmps3
  go_wp2_with fail
  refine (awake30 _).mono ?_
  rintro e w1 ⟨rfl, hb1⟩
  have HS1 := Lib.hid (HSC.out w1 ((Bs.below HBS.out hb1).more hb1.size))
  have HB1 := Lib.hid hb1
  clear hb1 HSC HBS
  go_wp2_with fail
  refine HS1.out.mono ?_
  rintro e w2 ⟨gb, m, g, free, cw, Aw, wl, An, cn, nl, cb, rfl, hg, hok, hr, hv, hnl, hm1, hm8, hb2⟩
  have HB2 := Lib.hid (HB1.out.trans (hb2.mono HB1.out.size))
  obtain ⟨W3, hW3⟩ : ∃ W3, W3 = w2.alloc (.cells #[.slice (some ⟨gb, 0, none⟩) m m, .slice Ar nr cr] 23) := ⟨_, rfl⟩
  have h23 : Below w2.heap.size w2 W3 := by rw [hW3]; exact (Below.refl _ _).alloc (Nat.le_refl _) _
  have HB3 := Lib.hid (HB2.out.trans (h23.mono HB2.out.size))
  have BL3 : Hid (Blk W3 w2.heap.size 23 #[.slice (some ⟨gb, 0, none⟩) m m, .slice Ar nr cr]) := Lib.hid (by rw [hW3]; exact Blk.new w2 _ _)
  have HXS : Hid (∀ k, k < 2 → ∃ x, (#[.slice (some ⟨gb, 0, none⟩) m m, .slice Ar nr cr] : Array Value)[k]? = some x ∧ IsG W3 x) := Lib.hid (fun k hk => two_ex ⟨_, _, _, g, rfl, hg.below h23, by unfold maxLen; omega⟩ ⟨_, _, _, gr, rfl, HGR.out.below HB3.out, by unfold maxLen; omega⟩ k hk)
  have HUW : Hid (IsI W3 (.slice cw m Aw)) := Lib.hid ⟨_, _, _, wl, rfl, hv.below h23, by unfold maxLen; omega⟩
  have HUV : Hid (IsI W3 (.slice Av nv cv)) := Lib.hid ⟨_, _, _, vl, rfl, HVL.out.below HB3.out, by unfold maxLen; omega⟩
  have HYN : Hid (IsI W3 (.slice An m cn)) := Lib.hid ⟨_, _, _, nl, rfl, hnl.below h23, by unfold maxLen; omega⟩
  have HYM : Hid (IsI W3 (.slice Am nm cm)) := Lib.hid ⟨_, _, _, ml, rfl, HML.out.below HB3.out, by unfold maxLen; omega⟩
  have HW3 := Lib.hid hW3
  clear hg hok hr hv hnl hb2 h23 hW3 HS1 HB1 HB2 HGR HVL HML
  go_wp2_with fail
  rw [← HW3.out]
  go_loopw [64] (fun x wr => ∃ k : Nat, k ≤ 2 ∧ x = .int .i64 k ∧ Hid (Below W3.heap.size W3 wr)) (fun x _ => 2 - (intOf x).toNat)
  case atStart => exact ⟨0, by omega, rfl, Lib.hid (Below.refl _ _)⟩
  case round =>
    obtain ⟨k, hk, rfl, bel⟩ := hrel
    generalize wr = w4 at *
    have hk0 : (0 : Int) ≤ (k : Int) := by omega
    by_cases hlt : k < 2
    · have hki : (k : Int) < 2 := by omega
      obtain ⟨x, hx, Ax, nx, cx, gx, rfl, hgx, hnx⟩ := HXS.out k hlt
      have qx := (Blk.cell (BL3.out.after bel.out) k).trans hx
      have HGX := Lib.hid hgx
      unfold maxLen at hnx
      obtain ⟨W5, hW5⟩ : ∃ W5, W5 = w4.alloc (.cells #[.slice An m cn, .slice Am nm cm] 24) := ⟨_, rfl⟩
      have bel5 : Hid (Below W3.heap.size W3 W5) := Lib.hid (by rw [hW5]; exact bel.out.alloc bel.out.size _)
      have BL5 : Hid (Blk W5 w4.heap.size 24 #[.slice An m cn, .slice Am nm cm]) := Lib.hid (by rw [hW5]; exact Blk.new w4 _ _)
      have HW5 := Lib.hid hW5
      clear hx hgx hW5 hlt
      go_wp2_with fail
      rw [← HW5.out]
      go_loopw [72] (fun x wr => ∃ k2 : Nat, k2 ≤ 2 ∧ x = .int .i64 k2 ∧ Hid (Below W3.heap.size W3 wr) ∧ Hid (Below W5.heap.size W5 wr)) (fun x _ => 2 - (intOf x).toNat)
      case atStart => exact ⟨0, by omega, rfl, bel5, Lib.hid (Below.refl _ _)⟩
      case round =>
        obtain ⟨k2, hk2, rfl, bel6, bel65⟩ := hrel
        generalize wr = w6 at *
        have hk20 : (0 : Int) ≤ (k2 : Int) := by omega
        by_cases hlt2 : k2 < 2
        · have hki2 : (k2 : Int) < 2 := by omega
          obtain ⟨y, hy, Ay, ny, cy, yl, rfl, hiy, hny⟩ := two_ex HYN.out HYM.out k2 hlt2
          have qy := (Blk.cell (BL5.out.after bel65.out) k2).trans hy
          have HIY := Lib.hid hiy
          unfold maxLen at hny
          obtain ⟨W7, hW7⟩ : ∃ W7, W7 = w6.alloc (.cells #[.slice cw m Aw, .slice Av nv cv] 24) := ⟨_, rfl⟩
          have bel7 : Hid (Below W3.heap.size W3 W7) := Lib.hid (by rw [hW7]; exact bel6.out.alloc bel6.out.size _)
          have bel75 : Hid (Below W5.heap.size W5 W7) := Lib.hid (by rw [hW7]; exact bel65.out.alloc bel65.out.size _)
          have BL7 : Hid (Blk W7 w6.heap.size 24 #[.slice cw m Aw, .slice Av nv cv]) := Lib.hid (by rw [hW7]; exact Blk.new w6 _ _)
          have HW7 := Lib.hid hW7
          clear hy hiy hW7 hlt2
          go_wp2_with fail
          rw [← HW7.out]
          go_loopw [80] (fun x wr => ∃ k3 : Nat, k3 ≤ 2 ∧ x = .int .i64 k3 ∧ Hid (Below W3.heap.size W3 wr) ∧ Hid (Below W5.heap.size W5 wr) ∧ Hid (Below W7.heap.size W7 wr)) (fun x _ => 2 - (intOf x).toNat)
          case atStart => exact ⟨0, by omega, rfl, bel7, bel75, Lib.hid (Below.refl _ _)⟩
          case round =>
            obtain ⟨k3, hk3, rfl, bel8, bel85, bel87⟩ := hrel
            generalize wr = w8 at *
            have hk30 : (0 : Int) ≤ (k3 : Int) := by omega
            by_cases hlt3 : k3 < 2
            · have hki3 : (k3 : Int) < 2 := by omega
              obtain ⟨u, hu, Au, nu, cu, ul, rfl, hiu, hnu⟩ := two_ex HUW.out HUV.out k3 hlt3
              have qu := (Blk.cell (BL7.out.after bel87.out) k3).trans hu
              have HIU := Lib.hid hiu
              unfold maxLen at hnu
              have HBR := Lib.hid (fun W (h : Below W3.heap.size W3 W) => broken_any Ax Au Ay nx cx nu cu ny cy gx ul yl W (HGX.out.below h) (HIU.out.below h) (HIY.out.below h) (by unfold maxLen; omega) (by unfold maxLen; omega) (by unfold maxLen; omega))
              have HRB := Lib.hid (fun W (h : Below W3.heap.size W3 W) => refbroken_any Ax Au Ay nx cx nu cu ny cy gx ul yl W (HGX.out.below h) (HIU.out.below h) (HIY.out.below h) (by unfold maxLen; omega) (by unfold maxLen; omega) (by unfold maxLen; omega))
              have HCK := Lib.hid (fun W (h : Below W3.heap.size W3 W) => check_any Ax Au Ay nx cx nu cu ny cy gx ul yl W (HGX.out.below h) (HIU.out.below h) (HIY.out.below h) (by unfold maxLen; omega) (by unfold maxLen; omega) (by unfold maxLen; omega))
              have HRC := Lib.hid (fun W (h : Below W3.heap.size W3 W) => refchk_any Ax Au Ay nx cx nu cu ny cy gx ul yl W (HGX.out.below h) (HIU.out.below h) (HIY.out.below h) (by unfold maxLen; omega) (by unfold maxLen; omega) (by unfold maxLen; omega))
              have HTI := Lib.hid (fun W (h : Below W3.heap.size W3 W) => tight_any Ax Au Ay nx cx nu cu ny cy gx ul yl W (HGX.out.below h) (HIU.out.below h) (HIY.out.below h) (by unfold maxLen; omega) (by unfold maxLen; omega) (by unfold maxLen; omega))
              have HRT := Lib.hid (fun W (h : Below W3.heap.size W3 W) => reftight_any Ax Au Ay nx cx nu cu ny cy gx ul yl W (HGX.out.below h) (HIU.out.below h) (HIY.out.below h) (by unfold maxLen; omega) (by unfold maxLen; omega) (by unfold maxLen; omega))
              have HUN : Hid (∀ r (i : Int) (b : Bool), BrokenR gx ul yl r → BrokenR gx ul yl (i, b) → r = (i, b)) := Lib.hid (fun r i b h h' => brokenR_unique h h')
              generalize chkV gx ul yl = z at *
              generalize tightB gx ul yl = tt at *
              clear hu hiu hlt3
              go_wp2_with fail
              (with_reducible refine (HBR.out _ bel8.out).mono ?_)
              rintro e w9 ⟨⟨r, hr, rfl⟩, hb9⟩
              have HR9 := Lib.hid hr
              have BA9 := Lib.hid (bel8.out.trans (hb9.mono bel8.out.size))
              have BB9 := Lib.hid (bel85.out.trans (hb9.mono bel85.out.size))
              have BC9 := Lib.hid (bel87.out.trans (hb9.mono bel87.out.size))
              clear hr hb9
              go_wp2_with fail
              (with_reducible refine (HRB.out _ BA9.out).mono ?_)
              rintro e w10 ⟨⟨i, b, rfl, hr2⟩, q, rfl⟩
              obtain rfl := HUN.out r i b HR9.out hr2
              have BA10 := Lib.hid (below_drewN BA9.out q)
              have BB10 := Lib.hid (below_drewN BB9.out q)
              have BC10 := Lib.hid (below_drewN BC9.out q)
              clear hr2 BA9 BB9 BC9 HBR HRB
              generalize w9.drewN q = w10 at *
              go_wp2_with fail
              (with_reducible refine (HCK.out _ BA10.out).mono ?_)
              rintro e w11 ⟨rfl, hb11⟩
              have BA11 := Lib.hid (BA10.out.trans (hb11.mono BA10.out.size))
              have BB11 := Lib.hid (BB10.out.trans (hb11.mono BB10.out.size))
              have BC11 := Lib.hid (BC10.out.trans (hb11.mono BC10.out.size))
              clear hb11 BA10 BB10 BC10
              go_wp2_with fail
              (with_reducible refine (HRC.out _ BA11.out).mono ?_)
              rintro e w12 ⟨rfl, q2, rfl⟩
              have BA12 := Lib.hid (below_drewN BA11.out q2)
              have BB12 := Lib.hid (below_drewN BB11.out q2)
              have BC12 := Lib.hid (below_drewN BC11.out q2)
              clear BA11 BB11 BC11 HCK HRC
              generalize w11.drewN q2 = w12 at *
              go_wp2_with fail
              (with_reducible refine (HTI.out _ BA12.out).mono ?_)
              rintro e w13 ⟨rfl, hb13⟩
              have BA13 := Lib.hid (BA12.out.trans (hb13.mono BA12.out.size))
              have BB13 := Lib.hid (BB12.out.trans (hb13.mono BB12.out.size))
              have BC13 := Lib.hid (BC12.out.trans (hb13.mono BC12.out.size))
              clear hb13 BA12 BB12 BC12
              go_wp2_with fail
              (with_reducible refine (HRT.out _ BA13.out).mono ?_)
              rintro e w14 ⟨rfl, q3, rfl⟩
              have BA14 := Lib.hid (below_drewN BA13.out q3)
              have BB14 := Lib.hid (below_drewN BB13.out q3)
              have BC14 := Lib.hid (below_drewN BC13.out q3)
              clear BA13 BB13 BC13 HTI HRT
              generalize w13.drewN q3 = w14 at *
              go_wp2
              go_roundw
              case rel => exact ⟨k3 + 1, by omega, by go_num, BA14, BB14, BC14⟩
              case measure => simp [intOf]; omega
            · go_wp2
              go_roundw
              case rel => exact ⟨k2 + 1, by omega, by go_num, bel8, bel85⟩
              case measure => simp [intOf]; omega
        · go_wp2
          go_roundw
          case rel => exact ⟨k + 1, by omega, by go_num, bel6⟩
          case measure => simp [intOf]; omega
    · go_wp2
      go_ret
      exact ⟨rfl, HB3.out.trans (bel.out.mono HB3.out.size)⟩
end Go.Proofs.Ytgamodmenlhedaa.ck
