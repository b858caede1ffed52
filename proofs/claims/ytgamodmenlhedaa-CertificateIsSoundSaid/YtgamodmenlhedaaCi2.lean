/- Contract of ref29.ways. -/
import Derived.Test.YtgamodmenlhedaaCi1
import Derived.Test.YtgamodmenlhedaaCf22
namespace Go.Proofs.Ytgamodmenlhedaa.cf
open Go.RowKit
set_option linter.unusedVariables false
set_option maxRecDepth 10000
attribute [local go_sem ↓] Go.wp_at_zero Go.wp_at_succ

theorem undrew2 {n : Nat} {a b : World} (h : Below n a.drew b) : Below n a b := ⟨h.os, h.tape, h.output, h.size, h.block⟩
set_option maxHeartbeats 4000000 in
theorem ways_any {V : World} {A : Option Addr} {m cA : Nat} {g : List (List Int)} {rk : Nat → Nat} {B : Nat} (hG : Gz V A m g) (hgr : GrOk g) (hrow : ∀ i : Nat, (g.getD i []).length ≤ 3) (hrkd : Ranked g rk) (hVB : V.heap.size ≤ B) :
    ∀ (r : Nat) (w : World) (o : Value) (ws : List (List Int)) (L : List Int) (wv : Value), r ≤ 7 → Below V.heap.size V w → B ≤ w.heap.size → WL w B o ws → (∀ i, i < ws.length → IsWay g (ws.getD i []) ∧ (ws.getD i []).length ≤ 200) → w.ownsRow B 3 1 wv L.length (L.map (Value.int .i64)) → IsWay g L → rk (lastN L) ≤ r → L.length + r ≤ 100 → ws.length + 3 ^ r ≤ 4096 →
    Calls Try.prog 58 #[.slice A m cA, .int .i64 4096, o, wv] w (WaysR g B o (ws.length + 3 ^ r) w) := by
  intro r
  induction r using Nat.strongRecOn with
  | ind r IH =>
  intro w o ws L wv hr7 hV hB hWL hWS hwv hL hrk hlen hcnt
  obtain ⟨i0, hi0, hz0, hz1, hz2⟩ := info_parts info_int
  obtain ⟨i1, hi1, hy0, hy1, hy2⟩ := info_parts info_sl
  have h3p := pow3_pos r
  have hL1 := hL.1
  obtain ⟨hlast, hil⟩ := isWay_last hL
  rw [hG.len] at hil
  have hm80 : m ≤ 80 := by have := hgr.2.1; rw [hG.len] at this; exact this
  obtain ⟨ag, A', n', c', rfl, hbl, hcl, hr, hm', hcap⟩ := hG.at_ hil
  have hn3 : n' ≤ 3 := by have := hrow (lastN L); rw [hr.len] at this; exact this
  have cag := (hV.cell (p := ag.add (lastN L)) (by rw [block_of_add]; exact hbl)).trans hcl
  obtain ⟨wg, cw, hform, -, hwglt⟩ := hwv.form (by omega)
  subst hform
  obtain ⟨qw, fw⟩ := own_at2 hwv (i := L.length - 1) (by omega)
  rw [hlast] at qw
  obtain ⟨ll, hll⟩ : ∃ ll, L.length = ll + 1 := ⟨L.length - 1, by omega⟩
  have HLE := Lib.hid hll
  have HR := Lib.hid (show Iz V A' n' (nx g (lastN L)) from hr)
  have HNL : Hid ((nx g (lastN L)).length = n') := Lib.hid hr.len
  have HL := Lib.hid hL
  have HV := Lib.hid hV
  have HGR := Lib.hid hgr
  have HRK : Hid (∀ k, k < n' → rk (sc g (lastN L) k) < r) := Lib.hid (fun k hk => by have := hrkd (lastN L) (by rw [hG.len]; exact hil) k (by rw [HNL.out]; exact hk); omega)
  have HSN : Hid (∀ k, k < n' → IsWay g (L ++ [(nx g (lastN L)).getD k 0]) ∧ lastN (L ++ [(nx g (lastN L)).getD k 0]) = sc g (lastN L) k) := Lib.hid (fun k hk => ⟨isWay_snoc hgr hL (by rw [HNL.out]; exact hk), lastN_snoc⟩)
  have HIH := Lib.hid IH
  have HWS := Lib.hid hWS
  obtain ⟨vs, ho, hvi⟩ := hWL
  obtain ⟨Ao, co, rfl, -⟩ := own_form ho
  have HWL : Hid (WL w B (.slice Ao ws.length co) ws) := Lib.hid ⟨vs, ho, hvi⟩
  have HVI := Lib.hid hvi
  have hli : (lastN L : Int) < (m : Int) := by omega
  have hl0 : (0 : Int) ≤ (lastN L : Int) := by omega
  rw [hll] at qw hwv ⊢
  simp only [Nat.add_sub_cancel] at qw
  have hll9 : ll ≤ 99 := by omega
  have HLEN := Lib.hid hlen
  have HCNT := Lib.hid hcnt
  have hws : ws.length ≤ 4095 := by omega
  clear hV hWS hL hrk hr hcl hlast IH hlen hcnt hvi hgr hrkd hrow hll h3p
  obtain ⟨lst, hlst⟩ : ∃ lst, lst = lastN L := ⟨_, rfl⟩
  rw [← hlst] at qw hli hl0 cag HR HNL HRK HSN hil
  clear hlst
  by_cases hn0 : n' = 0
  · subst hn0
    go_enter Try.func58, Try.ntmps58
    go_wp2_with (at_builtin; refine wpList_append_any _ rfl (.tmp 23) (.tmp 25) _ rfl B 24 i1 _ 1 24 Try.underlying23 hi1 hy0 hy1 hy2 rfl (by omega) _ ws.length vs rfl (ho.alloc _) (w.heap.size + 1) (some ⟨w.heap.size, 0, none⟩) 1 1 [.slice (some ⟨wg, 0, none⟩) (ll + 1) cw] rfl (reads_one w _ _) (by simp [Value.oneCell']) (by unfold maxLen; omega) (by omega) (by simp; omega) ?_; intro v1 w1 own1 hg1 hat1; have OWN1 := Lib.hid own1; have HG1 := Lib.hid hg1; have HAT1 := Lib.hid hat1; clear own1 hg1 hat1)
    go_ret
    refine ⟨v1, ws ++ [L], rfl, wl_push (w := w.alloc (.cells #[.slice (some ⟨wg, 0, none⟩) (ll + 1) cw] 24)) (ho.alloc _) (fun i hi => by obtain ⟨q, a, b⟩ := HVI.out i hi; exact ⟨q, a, b.alloc _⟩) (by rw [HLE.out]; exact hwv.alloc _) OWN1.out HG1.out, fun i hi => ?_, by simp; exact pow3_pos r, grown_chain (o1 := .slice Ao ws.length co) (grown_none (World.grownBy_alloc w _ none)) (Moved.refl _ _) HG1.out, ?_⟩
    · simp at hi
      rcases Nat.lt_or_ge i ws.length with a1 | a1
      · rw [show (ws ++ [L]).getD i [] = ws.getD i [] by rw [List.getD_eq_getElem?_getD, List.getD_eq_getElem?_getD, List.getElem?_append_left a1]]
        exact HWS.out i a1
      · obtain rfl : i = ws.length := by omega
        rw [show (ws ++ [L]).getD ws.length [] = L by rw [List.getD_eq_getElem?_getD, List.getElem?_append_right (Nat.le_refl _)]; simp]
        exact ⟨HL.out, by rw [HLE.out]; omega⟩
    · rcases HAT1.out with h | h
      · exact .inl h
      · exact .inr ⟨_, h, by simp⟩
  · have hr1 : 1 ≤ r := by have := HRK.out 0 (by omega); omega
    obtain ⟨q3, hq3⟩ : ∃ q3, q3 = 3 ^ (r - 1) := ⟨_, rfl⟩
    have hpow : 3 ^ r = 3 * q3 := by rw [hq3, show r = (r - 1) + 1 by omega, Nat.pow_succ, Nat.add_sub_cancel, Nat.mul_comm]
    have hq1 : 1 ≤ q3 := by rw [hq3]; exact pow3_pos _
    have HQ3 := Lib.hid hq3
    have HC3 : Hid (ws.length + 3 * q3 ≤ 4096) := Lib.hid (by have := HCNT.out; rw [hpow] at this; exact this)
    have hq4 : q3 ≤ 1365 := by have := HC3.out; omega
    have hni : ((n' : Int) == 0) = false := by rw [beq_eq_false_iff_ne]; omega
    rw [hpow]
    have HWV : Hid (w.ownsRow B 3 1 (.slice (some ⟨wg, 0, none⟩) (ll + 1) cw) (ll + 1) (L.map (Value.int .i64))) := Lib.hid hwv
    clear hpow hq3 ho hwv HVI HCNT
    go_enter Try.func58, Try.ntmps58
    go_wp2
    go_loopw [2, 10] (fun ov x wr => ∃ (k kk : Nat) (Ak : Option Addr) (ck : Nat) (wk : List (List Int)), k ≤ n' ∧ x = .int .i64 k ∧ ov = .slice Ak kk ck ∧ kk ≤ 4096 ∧ Hid (wk.length = kk) ∧ Hid (WL wr B (.slice Ak kk ck) wk) ∧ Hid (∀ i, i < wk.length → IsWay g (wk.getD i []) ∧ (wk.getD i []).length ≤ 200) ∧ Hid (kk ≤ ws.length + k * q3) ∧ Hid (Below V.heap.size V wr) ∧ Hid (w.grownBy wr (Value.slice Ao ws.length co).ownBlock) ∧ Hid (Moved w (.slice Ao ws.length co) (.slice Ak kk ck)) ∧ Hid (wr.ownsRow B 3 1 (.slice (some ⟨wg, 0, none⟩) (ll + 1) cw) (ll + 1) (L.map (Value.int .i64)))) (fun _ x _ => n' - (intOf x).toNat)
    case atStart => exact ⟨0, ws.length, Ao, co, ws, by omega, rfl, rfl, by omega, Lib.hid rfl, HWL, HWS, Lib.hid (by omega), HV, Lib.hid (World.grownBy.refl _ _), Lib.hid (Moved.refl _ _), HWV⟩
    case round =>
      obtain ⟨k, kk, Ak, ck, wk, hk, rfl, rfl, hkk, HKL, HWK, HWW, HKQ, HVR, HGW, HMV, HOW⟩ := hrel
      clear HWV HWL
      have hk0 : (0 : Int) ≤ (k : Int) := by omega
      have hkki : (kk : Int) ≤ 4096 := by omega
      by_cases hlt : k < n'
      · have hki : (k : Int) < (n' : Int) := by omega
        obtain ⟨ar, rfl, hab, car⟩ := HR.out.at_ hlt
        have hab' : (ar.add k).block < V.heap.size := by rw [block_of_add]; exact hab
        have carw := (HVR.out.cell hab').trans car
        have hVs := HVR.out.size
        have hBr : B ≤ wr.heap.size := Nat.le_trans hB HGW.out.size
        have habr : (ar.add k).block < wr.heap.size := by omega
        obtain ⟨hsw, hsl⟩ := HSN.out k hlt
        have hrk' := HRK.out k hlt
        obtain ⟨x, hx⟩ : ∃ x, x = (nx g lst).getD k 0 := ⟨_, rfl⟩
        rw [← hx] at carw hsw hsl
        have HSW := Lib.hid hsw
        have hstep : (k + 1) * q3 = k * q3 + q3 := Nat.succ_mul k q3
        have hk2 : k * q3 ≤ 2 * q3 := Nat.mul_le_mul_right _ (by omega)
        have HNC : Hid (kk + 3 ^ (r - 1) ≤ 4096 ∧ kk + q3 ≤ ws.length + (k + 1) * q3) := Lib.hid (by rw [← HQ3.out]; have := HKQ.out; have := HC3.out; omega)
        have HREC : Hid (∀ (W : World) (wv2 : Value), Below V.heap.size V W → B ≤ W.heap.size → WL W B (.slice Ak kk ck) wk → W.ownsRow B 3 1 wv2 (ll + 1 + 1) ((L ++ [x]).map (Value.int .i64)) → Calls Try.prog 58 #[.slice (some ag) m cA, .int .i64 4096, .slice Ak kk ck, wv2] W (WaysR g B (.slice Ak kk ck) (kk + q3) W)) := Lib.hid (fun W wv2 a1 a2 a3 a4 => by
          have := HIH.out (r - 1) (by omega) W (.slice Ak kk ck) wk (L ++ [x]) wv2 (by omega) a1 a2 a3 HWW.out (by rw [List.length_append, HLE.out]; exact a4) HSW.out (by rw [hsl]; omega) (by have := HLEN.out; rw [List.length_append, HLE.out]; rw [HLE.out] at this; simp; omega) (by rw [HKL.out]; exact HNC.out.1)
          rw [HKL.out, ← HQ3.out] at this
          exact this)
        have HRW : Hid (Reads wr wr.heap.size 1 (some ⟨wg, 0, none⟩) (ll + 1) (L.map (Value.int .i64))) := Lib.hid (Reads.of_own HOW.out)
        clear hx hsw hsl hrk' car hstep hk2
        go_wp2_with fail
        go_region_law (first
          | (refine step_append_any _ rfl (.const (.slice none 0 0)) (.tmp 42) 24 rfl wr.heap.size 3 i0 _ 1 8 Try.underlying24 hi0 hz0 hz1 hz2 rfl (by omega) (.slice none 0 0) 0 [] rfl (World.ownsRow_nil _ _ _ _) _ (some ⟨wg, 0, none⟩) (ll + 1) cw (L.map (Value.int .i64)) (by first | (simp [Act.eval]; done) | (simp [Act.eval, Act.put]; done)) (HRW.out.drew) (ints_one L) (by unfold maxLen; omega) (by omega) (by first | exact Nat.le_refl _ | (show wr.heap.size ≤ (wr.alloc _).heap.size; simp)) ?_; intro v1 w1 own1 g1 at1; clear at1; simp only [Nat.zero_add, List.nil_append] at own1; have bel1 : Below wr.heap.size wr w1 := undrew2 ((Below.refl _ _).grown g1 (Nat.le_refl _) (fun k hk => by cases hk)); have OWN1 := Lib.hid own1; obtain ⟨vg, vc, rfl, -, hvlt⟩ := own1.form (by omega); have car1 := (bel1.cell habr).trans carw; have HB1 := Lib.hid bel1; have hz1' : wr.heap.size ≤ w1.heap.size := bel1.size; have habr1 : (ar.add k).block < w1.heap.size := (by omega); clear own1 g1 bel1)
          | (refine step_append_any _ rfl (.const (.slice none 0 0)) (.tmp 42) 24 rfl wr.heap.size 3 i0 _ 1 8 Try.underlying24 hi0 hz0 hz1 hz2 rfl (by omega) (.slice none 0 0) 0 [] rfl (World.ownsRow_nil _ _ _ _) _ (some ⟨wg, 0, none⟩) (ll + 1) cw (L.map (Value.int .i64)) (by first | (simp [Act.eval]; done) | (simp [Act.eval, Act.put]; done)) ((HRW.out.alloc (Nat.le_refl _) _).drew) (ints_one L) (by unfold maxLen; omega) (by omega) (by first | exact Nat.le_refl _ | (show wr.heap.size ≤ (wr.alloc _).heap.size; simp)) ?_; intro v1 w1 own1 g1 at1; clear at1; simp only [Nat.zero_add, List.nil_append] at own1; have bx : Below (wr.heap.size + 1) (wr.alloc (.cells #[.int .i64 x] 3)) w1 := undrew2 ((Below.refl (wr.heap.size + 1) _).grown g1 (by show wr.heap.size + 1 ≤ (wr.alloc _).heap.size; simp) (fun k hk => by cases hk)); have bel1 : Below wr.heap.size wr w1 := ((Below.refl _ wr).alloc (Nat.le_refl _) _).trans (bx.mono (by omega)); have HRX : Hid (Reads w1 (wr.heap.size + 1) 1 (some ⟨wr.heap.size, 0, none⟩) 1 [.int .i64 x]) := Lib.hid ((reads_one wr _ _).below bx); have OWN1 := Lib.hid own1; obtain ⟨vg, vc, rfl, -, hvlt⟩ := own1.form (by omega); have car1 := (bel1.cell habr).trans carw; have HB1 := Lib.hid bel1; have hz1' : wr.heap.size ≤ w1.heap.size := bel1.size; have habr1 : (ar.add k).block < w1.heap.size := (by omega); clear own1 g1 bel1; clear bx)
          | (refine step_append_any _ rfl (.tmp 43) (.tmp 48) 24 rfl wr.heap.size 3 i0 _ 1 8 Try.underlying24 hi0 hz0 hz1 hz2 rfl (by omega) (.slice (some ⟨vg, 0, none⟩) (ll + 1) vc) (ll + 1) (L.map (Value.int .i64)) (by first | (simp [Act.eval]; done) | (simp [Act.eval, Act.put]; done)) (OWN1.out.alloc _) (w1.heap.size + 1) (some ⟨w1.heap.size, 0, none⟩) 1 1 [.int .i64 x] (by first | (simp [Act.eval]; done) | (simp [Act.eval, Act.put]; done)) (reads_one w1 _ _) (by simp [Value.oneCell']) (by unfold maxLen; omega) (by omega) (by simp; omega) ?_; intro v2 w2 own2 g2 at2; clear at2; have OWN2 : Hid (w2.ownsRow B 3 1 v2 (ll + 1 + 1) ((L ++ [x]).map (Value.int .i64))) := Lib.hid (own_base (by simpa using own2) hBr); have HB2 : Hid (Below wr.heap.size wr w2) := Lib.hid (below_append (HB1.out.alloc hz1' _) (OWN1.out.alloc _) g2 (Nat.le_refl _) (by simp; omega)); clear own2 g2)
          | (refine step_append_any _ rfl (.tmp 43) (.tmp 48) 24 rfl wr.heap.size 3 i0 _ 1 8 Try.underlying24 hi0 hz0 hz1 hz2 rfl (by omega) (.slice (some ⟨vg, 0, none⟩) (ll + 1) vc) (ll + 1) (L.map (Value.int .i64)) (by first | (simp [Act.eval]; done) | (simp [Act.eval, Act.put]; done)) (OWN1.out) (wr.heap.size + 1) (some ⟨wr.heap.size, 0, none⟩) 1 1 [.int .i64 x] (by first | (simp [Act.eval]; done) | (simp [Act.eval, Act.put]; done)) (HRX.out) (by simp [Value.oneCell']) (by unfold maxLen; omega) (by omega) (hz1') ?_; intro v2 w2 own2 g2 at2; clear at2; have OWN2 : Hid (w2.ownsRow B 3 1 v2 (ll + 1 + 1) ((L ++ [x]).map (Value.int .i64))) := Lib.hid (own_base (by simpa using own2) hBr); have HB2 : Hid (Below wr.heap.size wr w2) := Lib.hid (below_append HB1.out OWN1.out g2 (Nat.le_refl _) hz1'); clear own2 g2)
          | (go_simp; refine (HREC.out _ _ (HVR.out.trans (HB2.out.mono hVs)) (Nat.le_trans hBr HB2.out.size) (HWK.out.below HB2.out) OWN2.out).mono ?_; rintro e w3 ⟨o3, ws3, rfl, wl3, hw3, hl3, g3, m3⟩; have WL3 := Lib.hid wl3; have HW3 := Lib.hid hw3; have HL3 := Lib.hid hl3; have G3 := Lib.hid g3; have M3 := Lib.hid m3; obtain ⟨vs3, ho3, -⟩ := wl3; obtain ⟨A3, c3, rfl, -⟩ := own_form ho3; clear hw3 hl3 g3 m3 ho3))
        all_goals
          have HX : Hid (ws3.length ≤ 4096 ∧ ws3.length ≤ ws.length + (k + 1) * q3) := Lib.hid (by
            have h1 := HL3.out
            have h2 := HNC.out.2
            have h3 : (k + 1) * q3 ≤ 3 * q3 := Nat.mul_le_mul_right _ (by omega)
            have := HC3.out
            omega)
          have HV3 : Hid (Below V.heap.size V w3) := Lib.hid (by
            obtain ⟨vs', ho', -⟩ := HWK.out.below HB2.out
            exact (HVR.out.trans (HB2.out.mono hVs)).grown G3.out (Nat.le_trans hVs HB2.out.size) (fun j e => Nat.le_trans hVB (ho'.lt j e).1))
          have HG3 := Lib.hid (grown_chain HGW.out HMV.out ((grown_below HB2.out).trans G3.out))
          have HM3 := Lib.hid (HMV.out.trans M3.out (Nat.le_trans HGW.out.size HB2.out.size))
          have HO3 : Hid (w3.ownsRow B 3 1 (.slice (some ⟨wg, 0, none⟩) (ll + 1) cw) (ll + 1) (L.map (Value.int .i64))) := Lib.hid (by
            obtain ⟨vs', ho', -⟩ := HWK.out.below HB2.out
            have h1 := own_keep HOW.out HB2.out (Nat.le_refl _)
            exact h1.kept G3.out (own_diff h1 ho' (by decide)))
          clear HREC HIH HWK HVR HGW HMV HOW
          go_wp2
          go_roundw
          case rel => exact ⟨k + 1, ws3.length, A3, c3, ws3, by omega, by go_num, rfl, HX.out.1, Lib.hid rfl, WL3, HW3, Lib.hid HX.out.2, HV3, HG3, HM3, HO3⟩
          case measure => simp [intOf]; omega
      · have HFIN : Hid (wk.length ≤ ws.length + 3 * q3) := Lib.hid (by
          have h1 := HKQ.out
          have h2 : k * q3 ≤ 3 * q3 := Nat.mul_le_mul_right _ (by omega)
          have := HKL.out
          omega)
        go_wp2
        go_ret
        exact ⟨_, wk, rfl, by have := HWK.out; exact this, HWW.out, HFIN.out, HGW.out, HMV.out⟩
end Go.Proofs.Ytgamodmenlhedaa.cf
