/- CertificateIsMonotone: the walk of the law. -/
import Derived.Test.YtgamodmenlhedaaCmPlain
import Derived.Test.YtgamodmenlhedaaCf18
namespace Go.Proofs.Ytgamodmenlhedaa.cm
open Go.RowKit Go.Proofs.Ytgamodmenlhedaa.cf
set_option linter.unusedVariables false
set_option maxRecDepth 10000
theorem below_none {w w' : World} (h : w.grownBy w' none) : Below w.heap.size w w' := ⟨h.os, h.tape, h.output, h.size, fun j hj => h.block j hj (by simp)⟩
set_option maxHeartbeats 4000000 in
theorem law (A : Option Addr) (n c : Nat) (l : List Nat) (pk : Nat) (hpk : pk < 256) (w : World) (hb : Bs w w.heap.size A n l) (hn : n ≤ maxLen) (hc : n ≤ c) :
    Calls Try.prog 7 #[.slice A n c, .int .u8 (pk : Int)] w fun e w' => e = .returned (.bool true) ∧ Below w.heap.size w w' := by
  obtain ⟨i0, hi0, hz0, hz1, hz2⟩ := info_parts info_int
  have HNC := Lib.hid (fun W => newcodes_any A n c l 150 W hn hc (by omega))
  have HBS := Lib.hid hb
  have hpk0 : (0 : Int) ≤ (pk : Int) := by omega
  have hpk1 : (pk : Int) < 256 := by omega
  clear hb hn hc
  go_enter Try.func7, Try.ntmps7
  go_wp2_with fail
  refine (awake30 _).mono ?_
  rintro e w1 ⟨rfl, hb1⟩
  have HC0 := Lib.hid (codes_new (c := c) ((Bs.below HBS.out hb1).more hb1.size) 150 (by omega))
  have HB1 := Lib.hid hb1
  clear hb1 HBS
  go_wp2_with fail
  refine (HNC.out w1).mono ?_
  rintro e w2 ⟨rfl, hw2⟩
  rw [← hw2] at HC0
  have hs2 : w1.heap.size < w2.heap.size := by rw [hw2]; simp
  have HB2 : Hid (Below w.heap.size w w2) := Lib.hid (by rw [hw2]; exact HB1.out.alloc HB1.out.size _)
  have hws : w.heap.size ≤ w1.heap.size := HB1.out.size
  obtain ⟨N, hN⟩ : ∃ N, N = min n 150 := ⟨_, rfl⟩
  obtain ⟨L, hL⟩ : ∃ L, L = List.take (min n 150) l := ⟨_, rfl⟩
  rw [← hL, ← hN] at HC0
  clear hL hN hw2 HNC HB1
  go_wp2_with fail
  refine (graph_d _ _ _ _ _ _ _ 8 _ _ HC0.out (by omega) (by omega)).mono ?_
  rintro e w3 ⟨gb, m, g, p3, rfl, HGG, HOK, hm1, hm8, c3, g3⟩
  have HC3 := Lib.hid c3
  have HB3 : Hid (Below w.heap.size w w3) := Lib.hid (HB2.out.trans (below_of_grown g3 hws (by omega)))
  have hs3 : w2.heap.size ≤ w3.heap.size := g3.size
  clear c3 g3 HC0 HB2
  go_wp2
  go_loopw [7, 8] (fun o x wr => ∃ (k p1 : Nat) (pre : List Int), x = .int .i64 k ∧ k ≤ m ∧ Hid (pre.length = k) ∧ Hid (∀ i, i < pre.length → 16 ≤ pre.getD i 0 ∧ pre.getD i 0 ≤ 144) ∧ wr.ownsRow w3.heap.size 3 1 o pre.length (pre.map (Value.int .i64)) ∧ Hid (CodesAt wr w1.heap.size w1.heap.size A N c L p1) ∧ Hid (w3.grownBy wr (some w1.heap.size))) (fun _ x _ => m - (intOf x).toNat)
  case atStart => exact ⟨0, p3, [], rfl, by omega, Lib.hid (by simp), Lib.hid (fun i hi => by simp at hi), World.ownsRow_nil _ _ _ _, HC3, Lib.hid (World.grownBy.refl _ _)⟩
  case round =>
    obtain ⟨k, p1, pre, rfl, hk, HL, HP, own, HCW, HG⟩ := hrel
    have hsz := HG.out.size
    have hpl : pre.length ≤ 100 := by have := HL.out; omega
    have hk0 : (0 : Int) ≤ (k : Int) := by omega
    clear HC3
    by_cases hlt : k < m
    · have hki : (k : Int) < (m : Int) := by omega
      go_wp2_with fail
      refine (next_d _ _ _ _ _ _ _ 9 _ HCW.out (by omega) (by omega)).mono ?_
      rintro e w4 ⟨v4, p4, hv4, rfl, c4, g4⟩
      have HC4 := Lib.hid c4
      have HG4 := Lib.hid (grownBy_trans HG.out g4)
      have own4 := own_draw own g4 (by omega)
      have hsz4 : w3.heap.size ≤ w4.heap.size := HG4.out.size
      have ha0 : (0 : Int) ≤ (v4 : Int) := by omega
      have ha1 : (v4 : Int) < 9 := by omega
      obtain ⟨y, hy⟩ : ∃ y : Int, y = 16 + 16 * (v4 : Int) := ⟨_, rfl⟩
      have HY : Hid (16 ≤ y ∧ y ≤ 144) := Lib.hid (by omega)
      have HYE := Lib.hid hy.symm
      clear c4 g4 hv4 own HCW HG hy
      go_wp2_with (at_builtin; refine wpList_append_any _ rfl (.tmp 29) (.tmp 34) _ rfl w3.heap.size 3 i0 _ 1 8 Try.underlying24 hi0 hz0 hz1 hz2 rfl (by omega) _ (pre).length ((pre).map (Value.int .i64)) rfl (own4.alloc _) (w4.heap.size + 1) (some ⟨w4.heap.size, 0, none⟩) 1 1 [Value.int .i64 (16 + 16 * (v4 : Int))] rfl (reads_one w4 _ _) (by simp [Value.oneCell']) (by unfold maxLen; omega) (by omega) (by simp; omega) ?_; intro v5 w5 own5 hg5 hat5)
      have HN5 := Lib.hid (own_ne_codes (g := w1.heap.size) (own4.alloc (.cells #[Value.int .i64 (16 + 16 * (v4 : Int))] 3)) (by omega))
      have HLT5 := Lib.hid (fun j (e : _ = some j) => ((own4.alloc (.cells #[Value.int .i64 (16 + 16 * (v4 : Int))] 3)).lt j e).1)
      go_roundw
      case rel =>
        refine ⟨k + 1, p4, pre ++ [y], by go_num, by omega, Lib.hid (by have := HL.out; simp; omega), Lib.hid (fun i hi => ?_), by rw [← HYE.out]; simpa using own5, Lib.hid ((HC4.out.alloc _).grown' hg5 HN5.out (fun j e => by have := HLT5.out j e; omega)), Lib.hid (grownBy_step (grownBy_al HG4.out _) hg5 (fun j e => .inl (HLT5.out j e)))⟩
        simp at hi
        rcases Nat.lt_or_ge i pre.length with a1 | a1
        · rw [getD_app_lt a1]; exact HP.out i a1
        · obtain rfl : i = pre.length := by omega
          rw [getD_app_end]; exact HY.out
      case measure => simp [intOf]; omega
    · have hkm : k = m := by omega
      have HPL : Hid (pre.length = m) := Lib.hid (by rw [HL.out, hkm])
      have HGR := Lib.hid (HGG.out.draw HG.out hs2).gz
      have HGL : Hid (g.length = m) := Lib.hid HGG.out.1
      have HBW : Hid (Below w.heap.size w wr) := Lib.hid (HB3.out.trans (below_of_grown HG.out hws (by omega)))
      have HR : Hid (Right g pre) := Lib.hid ⟨HOK.out.1, by rw [HPL.out, HGL.out], fun i hi => by have := HP.out i hi; exact ⟨by omega, by omega⟩⟩
      have HRK := Lib.hid (free_ranked HOK.out)
      have HNO : Hid (¬ Over g pre) := Lib.hid (not_over_small (M := 144) (by omega) (by omega) HRK.out (fun i hi => by rw [HGL.out]; omega) (fun i hi => (HP.out i (by rw [HPL.out]; rw [HGL.out] at hi; exact hi)).2))
      have HSM : Hid (∀ b, Sol g pre b → ∀ i, i < g.length → b.getD i 0 ≤ 2000000000) := Lib.hid (fun b hs i hi => by
        have := sol_small (M := 144) HOK.out.1 (by omega) HRK.out (fun i hi => by rw [HGL.out]; omega) (fun i hi => (HP.out i (by rw [HPL.out]; rw [HGL.out] at hi; exact hi)).2) hs i hi
        omega)
      rw [HPL.out] at own
      obtain ⟨Aw, cw, rfl, -⟩ := own_form own
      have HV := Lib.hid (show Iz wr Aw m pre from Iz.of_own own)
      clear own HL HP HCW HG HGG HB3 hpl hkm
      generalize wr = w6 at *
      go_wp2_with fail
      refine (all_any _ _ _ _ _ _ g pre w6 HGR.out HV.out (by unfold maxLen; omega) (by unfold maxLen; omega)).mono ?_
      rintro e w7 ⟨hb7, hcase⟩
      rcases hcase with ⟨h, rfl⟩ | ⟨_, hst, rfl⟩ | ⟨_, ho, _, rfl⟩ | ⟨_, -, r, b, hs, hbd, rfl, own7⟩
      · exact absurd HR.out h
      · exact (stuck_not_ranked hst HRK.out).elim
      · exact absurd ho HNO.out
      have hbl : b.length = m := by rw [hs.1, HGL.out]
      rw [hbl] at own7
      obtain ⟨Ab, cb, rfl, -⟩ := own_form own7
      have HBI := Lib.hid (show Iz w7 Ab m b from Iz.of_own own7)
      have HS := Lib.hid hs
      have HBD := Lib.hid hbd
      have HBL := Lib.hid hbl
      have HB7 := Lib.hid (HBW.out.trans (hb7.mono HBW.out.size))
      have HG7 := Lib.hid (HGR.out.below hb7)
      have HV7 := Lib.hid (HV.out.below hb7)
      have hck := check_any (some ⟨gb, 0, none⟩) Aw Ab m m m cw m cb g pre b w7 HG7.out HV7.out HBI.out (by unfold maxLen; omega) (by unfold maxLen; omega) (by unfold maxLen; omega)
      rw [(sol_tight HR.out hs hbd).1] at hck
      have HCK := Lib.hid hck
      clear hck hs hbd hbl own7 hb7 HGR HV HBW
      go_wp2_with fail
      (with_reducible refine HCK.out.mono ?_)
      rintro e w8 ⟨rfl, hb8⟩
      have HB8 := Lib.hid (HB7.out.trans (hb8.mono HB7.out.size))
      have HG8 := Lib.hid (HG7.out.below hb8)
      have HV8 := Lib.hid (HV7.out.below hb8)
      have HI8 := Lib.hid (HBI.out.below hb8)
      clear hb8 HB7 HG7 HV7 HBI HCK
      have hm0 : (0 : Int) < (m : Int) := by omega
      have hm9 : (m : Int) ≤ 8 := by omega
      go_upto_region 14 with (fail)
      obtain ⟨kk, hkk⟩ : ∃ kk, kk = pk % m := ⟨_, rfl⟩
      have hkm : kk < m := by rw [hkk]; exact Nat.mod_lt _ (by omega)
      rw [show (pk : Int) % (m : Int) = (kk : Int) by rw [hkk]; exact (Int.natCast_emod pk m).symm]
      clear hkk
      have hki0 : (0 : Int) ≤ (kk : Int) := by omega
      have hkim : (kk : Int) < (m : Int) := by omega
      obtain ⟨x, hx⟩ : ∃ x, x = b.getD kk 0 := ⟨_, rfl⟩
      obtain ⟨x0, x1⟩ : Bd x := by rw [hx]; exact HBD.out kk
      have HX := Lib.hid hx
      clear hx
      go_wp2_with (first
        | ((fail_if_success have Q := OWX9); (at_builtin; refine wpList_append_any _ rfl (.const (.slice none 0 0)) (.tmp 56) _ rfl w8.heap.size 3 i0 _ 1 8 Try.underlying24 hi0 hz0 hz1 hz2 rfl (by omega) _ 0 [] rfl (World.ownsRow_nil _ _ _ _) w8.heap.size Ab m cb (b.map (Value.int .i64)) rfl (HI8.out) (ints_one _) (by unfold maxLen; omega) (by omega) (Nat.le_refl _) ?_; intro v9 w9 own9 hg9 hat9; have HGX9 : Hid (w8.grownBy w9 none) := Lib.hid hg9; have OWX9 : Hid (w9.ownsRow w8.heap.size 3 1 v9 m (b.map (Value.int .i64))) := Lib.hid (by simpa using own9); clear own9 hg9 hat9); have bel9 := Lib.hid (below_none HGX9.out); have HI9 := Lib.hid (HI8.out.below bel9.out); obtain ⟨lb, cl, e9, hlb0, hlb⟩ := OWX9.out.form (by omega); subst e9)
        | ((at_builtin; refine wpList_append_any _ rfl (.const (.slice none 0 0)) (.tmp 58) _ rfl w9.heap.size 3 i0 _ 1 8 Try.underlying24 hi0 hz0 hz1 hz2 rfl (by omega) _ 0 [] rfl (World.ownsRow_nil _ _ _ _) w9.heap.size Ab m cb (b.map (Value.int .i64)) rfl (HI9.out) (ints_one _) (by unfold maxLen; omega) (by omega) (Nat.le_refl _) ?_; intro v10 w10 own10 hg10 hat10; have HGX10 : Hid (w9.grownBy w10 none) := Lib.hid hg10; have OWX10 : Hid (w10.ownsRow w9.heap.size 3 1 v10 m (b.map (Value.int .i64))) := Lib.hid (by simpa using own10); clear own10 hg10 hat10); have OWL := Lib.hid (own_keep OWX9.out (below_none HGX10.out) (Nat.le_refl _)); obtain ⟨mb, cm, e10, hmb0, hmb⟩ := OWX10.out.form (by omega); subst e10; obtain ⟨qk, fk⟩ := own_at OWL.out hkm; rw [← HX.out] at qk; have hlw : lb < w10.heap.size := (by have := HGX10.out.size; omega)))
      have hst : (w10.setCell ⟨lb, kk, none⟩ (.int .i64 (x - 1))).ownsRow w8.heap.size 3 1 (.slice (some ⟨lb, 0, none⟩) m cl) m ((lessL b kk).map (Value.int .i64)) ∧ (w10.setCell ⟨lb, kk, none⟩ (.int .i64 (x - 1))).ownsRow w9.heap.size 3 1 (.slice (some ⟨mb, 0, none⟩) m cm) m (b.map (Value.int .i64)) ∧ Below w8.heap.size w8 (w10.setCell ⟨lb, kk, none⟩ (.int .i64 (x - 1))) := by
        obtain ⟨s1, s2⟩ := own_put OWL.out kk (x - 1)
        refine ⟨by unfold lessL; rw [← HX.out]; exact s1, OWX10.out.kept s2 (.inr (fun e => by have e2 : mb = lb := (by simpa [Value.ownBlock] using e); omega)), ?_⟩
        exact (bel9.out.trans ((below_none HGX10.out).mono bel9.out.size)).setCell (by show w8.heap.size ≤ lb; omega) _
      have HST := Lib.hid hst
      clear hst
      go_loopw [14] (fun i wr => ∃ (k : Nat) (Lm : List Int), k ≤ m ∧ i = .int .i64 k ∧ wr.ownsRow w9.heap.size 3 1 (.slice (some ⟨mb, 0, none⟩) m cm) m (Lm.map (Value.int .i64)) ∧ Hid (∀ j, Lm.getD j 0 = if j < k then b.getD j 0 + 5 else b.getD j 0) ∧ Hid (wr.ownsRow w8.heap.size 3 1 (.slice (some ⟨lb, 0, none⟩) m cl) m ((lessL b kk).map (Value.int .i64))) ∧ Hid (Below w8.heap.size w8 wr)) (fun i _ => m - (intOf i).toNat)
      case atStart => exact ⟨0, b, by omega, rfl, HST.out.2.1, Lib.hid (fun j => by simp), Lib.hid HST.out.1, Lib.hid HST.out.2.2⟩
      case round =>
        obtain ⟨k, Lm, hk, rfl, ownm, HLM, HOL, HBE⟩ := hrel
        clear HST OWL OWX9 OWX10 HGX9 HGX10 HI9 HI8 bel9 qk fk
        have hk0 : (0 : Int) ≤ (k : Int) := by omega
        by_cases hlt : k < m
        · have hki : (k : Int) < (m : Int) := by omega
          obtain ⟨q1, f1⟩ := own_at ownm hlt
          have hv : Lm.getD k 0 = b.getD k 0 := by rw [HLM.out k, if_neg (by omega)]
          rw [hv] at q1
          have hbk := HBD.out k
          obtain ⟨y, hy⟩ : ∃ y, y = b.getD k 0 := ⟨_, rfl⟩
          rw [← hy] at q1 hbk
          obtain ⟨y0, y1⟩ := hbk
          have HY := Lib.hid hy
          have HPT : Hid ((wr.setCell ⟨mb, k, none⟩ (.int .i64 (y + 5))).ownsRow w9.heap.size 3 1 (.slice (some ⟨mb, 0, none⟩) m cm) m ((Lm.set k (y + 5)).map (Value.int .i64)) ∧ (wr.setCell ⟨mb, k, none⟩ (.int .i64 (y + 5))).ownsRow w8.heap.size 3 1 (.slice (some ⟨lb, 0, none⟩) m cl) m ((lessL b kk).map (Value.int .i64)) ∧ Below w8.heap.size w8 (wr.setCell ⟨mb, k, none⟩ (.int .i64 (y + 5)))) := Lib.hid (by
            obtain ⟨s1, s2⟩ := own_put ownm k (y + 5)
            exact ⟨s1, HOL.out.kept s2 (.inr (fun e => by have e2 : lb = mb := (by simpa [Value.ownBlock] using e); omega)), HBE.out.setCell (by show w8.heap.size ≤ mb; omega) _⟩)
          have hll : k < Lm.length := by have := ownm.1; simp at this; omega
          have HNX : Hid (∀ j, (Lm.set k (y + 5)).getD j 0 = if j < k + 1 then b.getD j 0 + 5 else b.getD j 0) := Lib.hid (fun j => by
            by_cases hj : k = j
            · subst hj; rw [cf.getD_set_eq hll, if_pos (by omega), HY.out]
            · rw [cf.getD_set_ne hj, HLM.out j]
              split <;> split <;> first | rfl | omega)
          clear hv hy hll
          go_wp2
          go_roundw
          case rel => exact ⟨k + 1, _, by omega, by go_num, HPT.out.1, HNX, Lib.hid HPT.out.2.1, Lib.hid HPT.out.2.2⟩
          case measure => simp [intOf]; omega
        · have hlm : Lm.length = m := by have := ownm.1; simpa using this
          have HMO : Hid (chkV g pre Lm = 0) := Lib.hid (more_right HR.out HS.out HBD.out (HSM.out b HS.out) (by rw [hlm, HBL.out]) (fun i hi => by rw [HLM.out i, if_pos (by rw [HGL.out] at hi; omega)]))
          obtain ⟨hbr, h14⟩ := less_broken HR.out HRK.out HS.out HBD.out (k := kk) (by rw [HGL.out]; exact hkm)
          have HBR := Lib.hid (fun r (h : BrokenR g pre (lessL b kk) r) => brokenR_unique h hbr)
          have H14 := Lib.hid h14
          have HGA := Lib.hid (HG8.out.below HBE.out)
          have HVA := Lib.hid (HV8.out.below HBE.out)
          have HLA := Lib.hid (Iz.of_own HOL.out)
          have HMA := Lib.hid (Iz.of_own ownm)
          have HBA := Lib.hid (HB8.out.trans (HBE.out.mono HB8.out.size))
          clear ownm HLM HOL HBE hlm hbr h14
          generalize wr = wa at *
          go_wp2_with fail
          refine (broken_any (some ⟨gb, 0, none⟩) Aw (some ⟨lb, 0, none⟩) m m m cw m cl g pre (lessL b kk) wa HGA.out HVA.out HLA.out (by unfold maxLen; omega) (by unfold maxLen; omega) (by unfold maxLen; omega)).mono ?_
          rintro e wb ⟨⟨r, hr, rfl⟩, hbb⟩
          obtain rfl := HBR.out r hr
          have hck := check_any (some ⟨gb, 0, none⟩) Aw (some ⟨mb, 0, none⟩) m m m cw m cm g pre Lm wb (HGA.out.below hbb) (HVA.out.below hbb) (HMA.out.below hbb) (by unfold maxLen; omega) (by unfold maxLen; omega) (by unfold maxLen; omega)
          rw [HMO.out] at hck
          have HCK := Lib.hid hck
          have HGB := Lib.hid (HGA.out.below hbb)
          have HVB := Lib.hid (HVA.out.below hbb)
          have HLB := Lib.hid (HLA.out.below hbb)
          have HBB := Lib.hid (HBA.out.trans (hbb.mono HBA.out.size))
          clear hck hbb hr HGA HVA HLA HMA HBA HBR
          go_wp2_with fail
          (with_reducible refine HCK.out.mono ?_)
          rintro e wd ⟨rfl, hbd⟩
          have hck := check_any (some ⟨gb, 0, none⟩) Aw (some ⟨lb, 0, none⟩) m m m cw m cl g pre (lessL b kk) wd (HGB.out.below hbd) (HVB.out.below hbd) (HLB.out.below hbd) (by unfold maxLen; omega) (by unfold maxLen; omega) (by unfold maxLen; omega)
          rw [H14.out] at hck
          have HCK2 := Lib.hid hck
          have HBD2 := Lib.hid (HBB.out.trans (hbd.mono HBB.out.size))
          clear hck hbd HCK
          go_wp2_with fail
          (with_reducible refine HCK2.out.mono ?_)
          rintro e we ⟨rfl, hbe⟩
          have HBE2 := Lib.hid (HBD2.out.trans (hbe.mono HBD2.out.size))
          clear hbe
          go_wp2
          go_ret
          exact ⟨rfl, HBE2.out⟩
end Go.Proofs.Ytgamodmenlhedaa.cm
