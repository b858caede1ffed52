/- CertificateIsSound: Paths, and the walk of the law. -/
import Derived.Test.YtgamodmenlhedaaCi2
import Derived.Test.YtgamodmenlhedaaCtLaw
namespace Go.Proofs.Ytgamodmenlhedaa.cf
open Go.RowKit
set_option linter.unusedVariables false
set_option maxRecDepth 10000

/-- what Paths gives back -/
def PathsR (g : List (List Int)) (w : World) (e : Ending) (w' : World) : Prop :=
  ∃ (A : Option Addr) (k c : Nat) (ws : List (List Int)), e = .returned (.tuple #[.slice A k c, .int .i64 0]) ∧ WL w' w.heap.size (.slice A k c) ws ∧ ws.length = k ∧ (∀ i, i < ws.length → IsWay g (ws.getD i []) ∧ (ws.getD i []).length ≤ 200) ∧ k ≤ 729 ∧ Below w.heap.size w w'
set_option maxHeartbeats 2000000 in
theorem paths_any (A : Option Addr) (m c : Nat) (g : List (List Int)) (rk : Nat → Nat) (w : World) (h : Gz w A m g) (hg : GrOk g) (hrow : ∀ i : Nat, (g.getD i []).length ≤ 3) (hr : Ranked g rk) (h6 : rk 0 ≤ 6) :
    Calls Try.prog 22 #[.slice A m c, .int .i64 4096] w (PathsR g w) := by
  have hm80 : m ≤ 80 := by have := hg.2.1; rw [h.len] at this; exact this
  have hgc := refgrcheck_any A m c g w h (by unfold maxLen; omega)
  rw [grB_iff.2 hg] at hgc
  have HGC := Lib.hid hgc
  have HO := Lib.hid (fun W (hW : Gz W A m g) => order_any A m c g W hW hg)
  have HI := Lib.hid h
  have HNS : Hid (¬ Stuck g) := Lib.hid (fun hs => stuck_not_ranked hs hr)
  have HST : Hid (IsWay g [0]) := Lib.hid (isWay_start hg.1)
  have HWB := Lib.hid (fun W (hV : Below w.heap.size w W) (hs : w.heap.size ≤ W.heap.size) wv (ho : W.ownsRow w.heap.size 3 1 wv 1 (([0] : List Int).map (Value.int .i64))) => ways_any (cA := c) (B := w.heap.size) h hg hrow hr (Nat.le_refl _) 6 W (.slice none 0 0) [] [0] wv (by omega) hV hs (wl_nil W _) (fun i hi => by simp at hi) ho (isWay_start hg.1) (by simpa [lastN] using h6) (by simp) (by simp))
  clear hgc h hg hrow hr
  go_enter Try.func22, Try.ntmps22
  go_wp2_with fail
  refine HGC.out.mono ?_
  rintro e w1 ⟨rfl, q1, rfl⟩
  go_wp2_with fail
  refine (HO.out _ (HI.out.drewN q1)).mono ?_
  rintro e w2 hor
  rcases hor with ⟨r, out, rfl, -, -, -, hb⟩ | ⟨rfl, hs, -⟩
  · have HB2 : Hid (Below w.heap.size w w2) := Lib.hid ((below_drewN (Below.refl _ _) q1).trans hb)
    have hs2 : w.heap.size ≤ w2.heap.size := HB2.out.size
    have HOL : Hid ((w2.alloc (.cells #[.int .i64 0] 3)).ownsRow w.heap.size 3 1 (.slice (some ⟨w2.heap.size, 0, none⟩) 1 1) 1 (([0] : List Int).map (Value.int .i64))) := Lib.hid (World.ownsRow_lit (base := w.heap.size) (e := 3) (size := 1) w2 #[.int .i64 0] 1 hs2 (by unfold maxLen; omega) rfl)
    have HW := Lib.hid (HWB.out (w2.alloc (.cells #[.int .i64 0] 3)) (HB2.out.alloc hs2 _) (by simp; omega) _ HOL.out)
    clear hb HWB HO HGC
    go_wp2_with fail
    refine HW.out.mono ?_
    rintro e w3 ⟨o, ws, rfl, hwl, hww, hwk, hg3, -⟩
    obtain ⟨vs, ho, hvi⟩ := hwl
    obtain ⟨Ao, co, rfl, -⟩ := own_form ho
    have HWL : Hid (WL w3 w.heap.size (.slice Ao ws.length co) ws) := Lib.hid ⟨vs, ho, hvi⟩
    have HWW := Lib.hid hww
    have hk : ws.length ≤ 729 := by simpa using hwk
    have hki : (ws.length : Int) ≤ 729 := by omega
    have HB3 : Hid (Below w.heap.size w w3) := Lib.hid ((HB2.out.alloc hs2 _).grown hg3 (by simp; omega) (fun j e => by simp [Value.ownBlock] at e))
    clear ho hvi hww hwk hg3
    go_wp2
    go_ret2
    exact ⟨Ao, ws.length, co, ws, rfl, HWL.out, rfl, HWW.out, hk, HB3.out⟩
  · exact absurd hs HNS.out
end Go.Proofs.Ytgamodmenlhedaa.cf
namespace Go.Proofs.Ytgamodmenlhedaa.ci
open Go.RowKit Go.Proofs.Ytgamodmenlhedaa.cf
set_option linter.unusedVariables false
set_option maxRecDepth 10000
set_option maxHeartbeats 4000000 in
theorem law (A : Option Addr) (n c : Nat) (l : List Nat) (w : World) (hb : Bs w w.heap.size A n l) (hn : n ≤ maxLen) (hc : n ≤ c) :
    Calls Try.prog 4 #[.slice A n c] w fun e w' => e = .returned (.bool true) ∧ Below w.heap.size w w' := by
  have HSC := Lib.hid (fun W (h : Bs W W.heap.size A n l) => scene_any A n c l W h hn hc)
  have HBS := Lib.hid hb
  clear hb hn hc
  go_enter Try.func4, Try.ntmps4
  go_wp2_with fail
  refine (awake30 _).mono ?_
  rintro e w1 ⟨rfl, hb1⟩
  have HS1 := Lib.hid (HSC.out w1 ((Bs.below HBS.out hb1).more hb1.size))
  have HB1 := Lib.hid hb1
  clear hb1 HSC HBS
  go_wp2_with fail
  refine HS1.out.mono ?_
  rintro e w2 ⟨gb, m, g, free, cw, Aw, wl, An, cn, nl, cb, rfl, hg, hok, hr, hv, hnl, hm1, hm8, hb2⟩
  have HB2 := Lib.hid (HB1.out.trans (hb2.mono HB1.out.size))
  have HG := Lib.hid hg
  have HOK := Lib.hid hok
  have HR := Lib.hid hr
  have HV := Lib.hid hv
  have HN := Lib.hid hnl
  have HGL : Hid (g.length = m) := Lib.hid hg.len
  have HM7 : Hid (m ≤ 7) := Lib.hid (by have := hok.2.1; rw [hg.len] at this; exact this)
  have HCK := Lib.hid (check_any (some ⟨gb, 0, none⟩) cw An m m m Aw m cn g wl nl w2 HG.out HV.out HN.out (by unfold maxLen; omega) (by unfold maxLen; omega) (by unfold maxLen; omega))
  clear hg hok hr hv hnl hb2 HB1 HS1
  by_cases h0 : chkV g wl nl = 0
  · rw [h0] at HCK
    have H0 := Lib.hid h0
    clear h0
    go_wp2_with fail
    (with_reducible refine HCK.out.mono ?_)
    rintro e w3 ⟨rfl, hb3⟩
    have HB3 := Lib.hid (HB2.out.trans (hb3.mono HB2.out.size))
    have HG3 := Lib.hid (HG.out.below hb3)
    have HV3 := Lib.hid (HV.out.below hb3)
    have HN3 := Lib.hid (HN.out.below hb3)
    clear hb3 HB2 HG HV HN HCK
    go_wp2_with fail
    refine (all_any _ _ _ _ _ _ g wl w3 HG3.out HV3.out (by unfold maxLen; omega) (by unfold maxLen; omega)).mono ?_
    rintro e w4 ⟨hb4, hcase⟩
    have HB4 := Lib.hid (HB3.out.trans (hb4.mono HB3.out.size))
    rcases hcase with ⟨h, rfl⟩ | ⟨_, _, rfl⟩ | ⟨_, ho, hk, rfl⟩ | ⟨_, hk, r, b, hs, hbd, rfl, own⟩
    · exact absurd HR.out h
    · go_wp2
      go_ret
      exact ⟨rfl, HB4.out⟩
    · exact absurd H0.out (over_not hk ho)
    obtain ⟨rk, hrk, hrkb⟩ := hk
    have HG4 := Lib.hid (HG3.out.below hb4)
    have HV4 := Lib.hid (HV3.out.below hb4)
    have HN4 := Lib.hid (HN3.out.below hb4)
    have hbl : b.length = m := by rw [hs.1, HGL.out]
    rw [hbl] at own
    obtain ⟨Ab, cbb, rfl, -⟩ := own_form own
    have HBI := Lib.hid (show Iz w4 Ab m b from Iz.of_own own)
    have hacc := (chkV_ok.1 H0.out).2
    have HGE := Lib.hid (accepted_ge HR.out.1 hrk hs hacc)
    have HSM := Lib.hid (fun L (hL : IsWay g L) => sumTo_all HR.out.1 (fun i hi => (HR.out.2.2 i (by rw [HR.out.2.1]; exact hi)).1) hacc hL)
    have HN0 : Hid (nl.getD 0 0 ≤ 2147483647) := Lib.hid (not_wrong.1 (hacc 0 (by rw [HGL.out]; omega))).1.2
    have HPA := Lib.hid (fun W (hW : Gz W (some ⟨gb, 0, none⟩) m g) => paths_any (some ⟨gb, 0, none⟩) m m g rk W hW HOK.out.1 HOK.out.2.2.1 hrk (by have := hrkb 0 (by rw [HGL.out]; omega); rw [HGL.out] at this; have := HM7.out; omega))
    have hmi : (m : Int) ≤ 8 := by omega
    clear hb4 HB3 HG3 HV3 HN3 hrk hrkb hbd hs own hbl hacc H0
    go_wp2
    go_loopw [9] (fun x wr => ∃ i q : Nat, i ≤ m ∧ x = .int .i64 i ∧ wr = w4.drewN q) (fun x _ => m - (intOf x).toNat)
    case atStart => exact ⟨0, 0, by omega, rfl, rfl⟩
    case round =>
      obtain ⟨i, q, hi, rfl, rfl⟩ := hrel
      have hi0 : (0 : Int) ≤ (i : Int) := by omega
      by_cases hlt : i < m
      · have hii : (i : Int) < (m : Int) := by omega
        obtain ⟨an, rfl, -, can⟩ := HN4.out.at_ hlt
        obtain ⟨ab, rfl, -, cab⟩ := HBI.out.at_ hlt
        have hge := HGE.out i (by rw [HGL.out]; exact hlt)
        generalize nl.getD i 0 = x at *
        generalize b.getD i 0 = y at *
        have hd : decide (x < y) = false := by simpa using hge
        go_wp2_with fail
        go_quiet (fail)
        go_wp2
        go_roundw
        case rel => exact ⟨i + 1, _, by omega, by go_num, by first | rfl | exact World.drewN_drewN _ _ _⟩
        case measure => simp [intOf]; omega
      · have HB5 := Lib.hid (below_drewN HB4.out q)
        have HG5 := Lib.hid (HG4.out.drewN q)
        have HV5 := Lib.hid (HV4.out.drewN q)
        have HN5 := Lib.hid (HN4.out.drewN q)
        clear HG4 HV4 HN4 HBI HGE HB4
        generalize w4.drewN q = w5 at *
        go_wp2_with fail
        refine (HPA.out w5 HG5.out).mono ?_
        rintro e w6 ⟨Al, kl, cl, ws, rfl, hwl, hwk, hww, hk7, hb6⟩
        have HB6 := Lib.hid (HB5.out.trans (hb6.mono HB5.out.size))
        have HV6 := Lib.hid (HV5.out.below hb6)
        obtain ⟨vs, ho, hvi⟩ := hwl
        have HLI : Hid (∀ k, k < kl → ∃ (al : Addr) (Ak : Option Addr) (ck : Nat), Al = some al ∧ w6.cell? (al.add k) = some (.slice Ak (ws.getD k []).length ck) ∧ Iz w6 Ak (ws.getD k []).length (ws.getD k [])) := Lib.hid (fun k hk => by
          obtain ⟨al, u, e1, -, e2, e3⟩ := (Reads.of_own (by rw [hwk] at ho; exact ho)).at_ hk
          obtain ⟨r, e4, e5⟩ := hvi k (by omega)
          obtain ⟨Ak, ck, rfl, -⟩ := own_form e5
          rw [e4] at e2
          obtain rfl := Option.some.inj e2
          exact ⟨al, Ak, ck, e1, e3, Iz.of_own e5⟩)
        have HWW := Lib.hid hww
        have HWK := Lib.hid hwk
        obtain ⟨an, rfl, -, can⟩ := (HN5.out.below hb6).at_ (k := 0) (by omega)
        have can0 : w6.cell? an = some (.int .i64 (nl.getD 0 0)) := by simpa [Addr.add] using can
        obtain ⟨n0, hn0⟩ : ∃ n0, n0 = nl.getD 0 0 := ⟨_, rfl⟩
        rw [← hn0] at can0 HN0 HSM
        have hm0 : (0 : Int) < (m : Int) := by omega
        have hkli : (kl : Int) ≤ 729 := by omega
        clear hww hwk ho hvi hb6 can hn0 HPA HN5 HG5 HV5
        go_wp2
        go_loopw [12] (fun x wr => ∃ i q : Nat, i ≤ kl ∧ x = .int .i64 i ∧ wr = w6.drewN q) (fun x _ => kl - (intOf x).toNat)
        case atStart => exact ⟨0, 0, by omega, rfl, rfl⟩
        case round =>
          obtain ⟨k, q2, hk, rfl, rfl⟩ := hrel
          have hk0 : (0 : Int) ≤ (k : Int) := by omega
          by_cases hlt2 : k < kl
          · have hki : (k : Int) < (kl : Int) := by omega
            obtain ⟨al, Ak, ck, rfl, cal, hiz⟩ := HLI.out k hlt2
            obtain ⟨hway, hlen⟩ := HWW.out k (by rw [HWK.out]; exact hlt2)
            have hsm := HSM.out _ hway
            have HSU : Hid (∀ j, Calls Try.prog 23 #[.slice cw m Aw, .slice Ak (ws.getD k []).length ck] (w6.drewN j) fun e w' => e = .returned (.int .i64 (sumTo wl (ws.getD k []) (ws.getD k []).length)) ∧ w6.drewN j = w') := Lib.hid (fun j => sum_any cw Ak m Aw _ ck wl (ws.getD k []) (w6.drewN j) (HV6.out.drewN j) (hiz.drewN j) (by omega) (by omega) (fun p hp => by have := hway.2.2.1 p hp; rw [HGL.out] at this; exact this) (fun p hp => ⟨(hsm p hp).1, Int.le_trans (hsm p hp).2 HN0.out⟩) (fun i hi => HR.out.2.2 i (by rw [HR.out.2.1, HGL.out]; exact hi)))
            have hle := (hsm _ (Nat.le_refl _)).2
            clear hway hsm hiz
            generalize sumTo wl (ws.getD k []) (ws.getD k []).length = s at *
            generalize (ws.getD k []).length = nk at *
            have hd : decide (n0 < s) = false := by simpa using hle
            go_wp2_with fail
            go_quiet ((go_at_call 23; first | exact quiet_left (HSU.out _) | exact quiet_add_left (HSU.out _)))
            go_wp2
            go_roundw
            case rel => exact ⟨k + 1, _, by omega, by go_num, by first | rfl | exact World.drewN_drewN _ _ _⟩
            case measure => simp [intOf]; omega
          · go_wp2
            go_ret
            exact ⟨rfl, below_drewN HB6.out q2⟩
  · have hne : (chkV g wl nl != 0) = true := by rw [bne_iff_ne]; exact h0
    have HRC := Lib.hid (fun W (a : Gz W (some ⟨gb, 0, none⟩) m g) (b : Iz W cw m wl) (d : Iz W An m nl) => refchk_any (some ⟨gb, 0, none⟩) cw An m m m Aw m cn g wl nl W a b d (by unfold maxLen; omega) (by unfold maxLen; omega) (by unfold maxLen; omega))
    generalize chkV g wl nl = z at *
    go_wp2_with fail
    (with_reducible refine HCK.out.mono ?_)
    rintro e w3 ⟨rfl, hb3⟩
    have HB3 := Lib.hid (HB2.out.trans (hb3.mono HB2.out.size))
    have HR3 := Lib.hid (HRC.out w3 (HG.out.below hb3) (HV.out.below hb3) (HN.out.below hb3))
    clear hb3
    go_wp2_with fail
    (with_reducible refine HR3.out.mono ?_)
    rintro e w4 ⟨rfl, q, rfl⟩
    go_wp2
    go_ret
    exact ⟨rfl, below_drewN HB3.out q⟩
end Go.Proofs.Ytgamodmenlhedaa.ci
