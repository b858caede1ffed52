/- Contracts of the reference: ref26.Target. -/
import Derived.Test.YtinfeglhjmnlaaaDoorGKv
import Derived.Deep.RegionHeld3
import Derived.Deep.CutBlock
import Derived.Test.YtinfeglhjmnlaaaDoorGPe
import Derived.BigQuiet
import Derived.Deep.QuietTactic
namespace Go.Proofs.YtinfeglhjmnlaaaDoor.pm
open Go.RowKit
set_option linter.unusedVariables false
set_option maxRecDepth 10000

/-- the code of each frame lies in a block of instructions -/
def Tx (w : World) (vs : List Value) (n : Nat) : Prop := ∀ i, i < n → ∀ Ai m c, vs[i * 3 + 2]? = some (.slice Ai m c) → TyA w Ai m 58
section
variable {lo hi lo' hi' n : Nat} {w w' : World} {A : Option Addr} {vs : List Value} {t : List Fr}
theorem Wx.keepT {ty : TypeId} (h : Wx w lo hi vs t) (ht : Tx w vs t.length) (hk : Kt ty lo hi w w') (hne : 58 ≠ ty) : Wx w' lo hi vs t ∧ Tx w' vs t.length := by
  refine ⟨fun i hi => ?_, fun i hi Ai m c hv => ?_⟩
  · obtain ⟨Ai, ci, h1, h2, h3, h5, h6⟩ := h i hi
    exact ⟨Ai, ci, h1, h2, h3, Rx.keepT h5 (ht i hi _ _ _ h3) hk hne, h6⟩
  · obtain ⟨Ai', ci, h1, h2, h3, h5, h6⟩ := h i hi
    have hT := ht i hi _ _ _ h3
    rw [h3] at hv
    injection hv with hv
    injection hv with e1 e2 e3
    subst e1 e2 e3
    exact TyA.keepT h5 hT hk hne
theorem Wx.keepK (h : Wx w lo hi vs t) (ht : Tx w vs t.length) (hk : Kp lo hi w w') : Wx w' lo hi vs t ∧ Tx w' vs t.length := by
  refine ⟨h.keep hk, fun i hi Ai m c hv => ?_⟩
  obtain ⟨Ai', ci, h1, h2, h3, h5, h6⟩ := h i hi
  have hT := ht i hi _ _ _ h3
  rw [h3] at hv
  injection hv with hv
  injection hv with e1 e2 e3
  subst e1 e2 e3
  exact TyA.keep hT hk (Rx.inside h5)
theorem Tx.snoc (h : Tx w vs n) (hl : vs.length = n * 3) {a b : Value} {Ai : Option Addr} {m ci : Nat} (h2 : TyA w Ai m 58) : Tx w (vs ++ [a, b, .slice Ai m ci]) (n + 1) := fun i hi Ai' m' c' hv => by
  rcases Nat.lt_or_ge i n with hlt | hge
  · rw [List.getElem?_append_left (by omega)] at hv
    exact h i hlt _ _ _ hv
  · obtain rfl : i = n := by omega
    rw [List.getElem?_append_right (by omega), show i * 3 + 2 - vs.length = 2 by omega] at hv
    have e : Value.slice Ai m ci = Value.slice Ai' m' c' := by simpa using hv
    injection e with e1 e2 e3
    subst e1 e2 e3
    exact h2
end
theorem info_frm : (Tryd.prog.info? 61).map (fun i => (i.zero, i.size, i.bytes)) = some (some (.agg #[.int .i64 0, .int .i64 0, .slice none 0 0]), 3, 40) := by kernel_rfl
/-- a slice of frames, with their rows' types -/
def GT (w : World) (lo hi : Nat) (A : Option Addr) (t : List Fr) : Prop := ∃ vs, Rx w lo hi 3 A t.length vs ∧ Wx w lo hi vs t ∧ Tx w vs t.length
theorem GT.gx {w : World} {lo hi : Nat} {A : Option Addr} {t : List Fr} (h : GT w lo hi A t) : Gx w lo hi A t := by
  obtain ⟨vs, h1, h2, -⟩ := h
  exact ⟨vs, h1, h2⟩
theorem GT.keep {w w' : World} {lo hi : Nat} {A : Option Addr} {t : List Fr} (h : GT w lo hi A t) (hk : Kp lo hi w w') : GT w' lo hi A t := by
  obtain ⟨vs, h1, h2, h3⟩ := h
  exact ⟨vs, h1.keep hk, h2.keepK h3 hk⟩
theorem Blk.put2 {w : World} {g : Nat} {t : TypeId} {b0 b1 : Value} (h : Blk w g t #[b0, b1]) (a0 a1 : Value) :
    Blk ((w.setCell ⟨g, 0, none⟩ a0).setCell ⟨g, 1, none⟩ a1) g t #[a0, a1] := by
  have := (h.set_ 0 a0).set_ 1 a1
  simpa using this
/-- what ref26.Target answers -/
def TgtD (al : Int) (t : List Fr) (w : World) (e : Ending) (w' : World) : Prop := ∃ A c, e = .returned (.tuple #[.agg #[.int .i64 al, .slice A t.length c], .int .i64 0]) ∧ GT w' w.heap.size w'.heap.size A t ∧ t.length ≤ c ∧ t.length ≤ maxLen ∧ Below w.heap.size w w'
set_option maxHeartbeats 8000000 in
theorem target26_any (A Al : Option Addr) (p : List Fn) (cp cl m : Nat) (al : Int) (ha : AlOk al) (hp : PrOk m p) (w : World) (lo hi lo' hi' : Nat) (hf : Fx w lo hi A p) (hy : Lx w lo' hi' Al (p.map (layF p al))) (hh : hi ≤ w.heap.size) (hh' : hi' ≤ w.heap.size) (hm : p.length ≤ 1000) :
    Calls Tryd.prog 43 #[.agg #[.slice A p.length cp], .int .i64 al, .slice Al p.length cl] w (TgtD al (p.map (lowF p al)) w) := by
  obtain ⟨i0, hi0, hz0', hz1', hz2'⟩ := info_parts info_frm
  obtain ⟨W1, hW1⟩ : ∃ W1, W1 = (w.alloc (.cells #[.slice A p.length cp] 44)).alloc (.cells #[.int .i64 0, .slice none 0 0] 29) := ⟨_, rfl⟩
  have hB1 : Below w.heap.size w W1 := by rw [hW1]; exact Below.al (Below.al (Below.refl _ _) _) _
  have HP : Hid (Blk W1 w.heap.size 44 #[.slice A p.length cp]) := Lib.hid (by rw [hW1]; exact (Blk.new _ _ _).alloc _)
  have HR : Hid (Blk W1 (w.heap.size + 1) 29 #[.int .i64 0, .slice none 0 0]) := Lib.hid (by rw [hW1]; exact Blk.newAt (by simp))
  have HF : Hid (Fx W1 lo hi A p) := Lib.hid (hf.keep (Kp.of_below hB1 hh))
  have HL : Hid (Lx W1 lo' hi' Al (p.map (layF p al))) := Lib.hid (hy.keep (Kp.of_below hB1 hh'))
  have hhi : hi ≤ W1.heap.size := Nat.le_trans hh hB1.size
  have hhi' : hi' ≤ W1.heap.size := Nat.le_trans hh' hB1.size
  have hgR : w.heap.size + 1 < W1.heap.size := HR.out.lt
  have HB1 := Lib.hid hB1
  have HW1 := Lib.hid hW1
  have hpi : (p.length : Int) ≤ 9223372036854775807 := by omega
  clear hW1 hB1 hf hy
  obtain ⟨x0, -, xz⟩ := blk_one HP.out
  go_enter Tryd.func43, Tryd.ntmps43
  go_upto_region 1 with (fail)
  rw [← HW1.out]
  clear HW1
  go_wp2
  clear x0 xz
  go_loopw [8, 9] (fun ov v wr => ∃ (j : Nat) (vs : List Value), j ≤ p.length ∧ v = .int .i64 j ∧ wr.ownsRow W1.heap.size 61 3 ov j vs ∧ Hid (Wx wr W1.heap.size wr.heap.size vs ((p.take j).map (lowF p al)) ∧ Tx wr vs j) ∧ Hid (Kp 0 W1.heap.size W1 wr) ∧ Hid (Below w.heap.size w wr) ∧ W1.heap.size ≤ wr.heap.size) (fun _ v _ => p.length - (intOf v).toNat)
  case atStart => exact ⟨0, [], by omega, rfl, World.ownsRow_nil _ _ _ _, Lib.hid ⟨fun i hi => absurd hi (by simp), fun i hi => absurd hi (by simp)⟩, Lib.hid (Kp.refl _ _ _), HB1, Nat.le_refl _⟩
  case round =>
    obtain ⟨j, vs, hj, rfl, own, HW, HK, HB, hzr⟩ := hrel
    have hj0 : (0 : Int) ≤ (j : Int) := by omega
    obtain ⟨x0, -, xz⟩ := blk_one (Blk.kp HP.out HK.out (Nat.zero_le _) (by omega))
    have hvl := own.1
    have HVL : Hid (vs.length = ((p.take j).map (lowF p al)).length * 3) := Lib.hid (by rw [hvl, List.length_map, List.length_take]; congr 1; omega)
    clear hvl
    by_cases hlt : j < p.length
    · have hji : (j : Int) < (p.length : Int) := by omega
      have hjm : j < (p.map (layF p al)).length := by rw [List.length_map]; exact hlt
      obtain ⟨a1, Ao, co, rfl, hbl, c0, c1, c2, hix, hom, hoc⟩ := (HL.out.keep (Kp.less HK.out (Nat.zero_le _) hhi')).whole hjm
      have hgd : (p.map (layF p al)).getD j Lay.z = layF p al (p.getD j Fn.z) := by
        rw [List.getD_eq_getElem?_getD, List.getElem?_map, List.getElem?_eq_getElem hlt, List.getD_eq_getElem?_getD, List.getElem?_eq_getElem hlt]
        rfl
      rw [hgd] at c0 c1 c2 hix hom hoc
      have hok := hp.2.2.2 _ (getD_mem' (z := Fn.z) hlt)
      obtain ⟨n0, n1, n2, n3, n4, n5, n6⟩ := lay_nums hp hok ha
      have hyl : (layF p al (p.getD j Fn.z)).off.length = (p.getD j Fn.z).slots.length := offs_len _ _
      have hFr := HF.out.keep (Kp.less HK.out (Nat.zero_le _) hhi)
      have hd : Kp 0 wr.heap.size wr wr.drew := Kp.refl _ _ _
      have HSH := Lib.hid (shape_any A Ao p cp j m co al ha hlt hp wr.drew lo hi lo' hi' (hFr.keep (Kp.less hd (Nat.zero_le _) (by omega))) (hix.keep (Kp.less hd (Nat.zero_le _) (by omega))) (show hi ≤ wr.heap.size by omega) (show hi' ≤ wr.heap.size by omega) (by unfold maxLen; omega))
      have HFR := Lib.hid (fun W (hK : Kp 0 wr.heap.size wr W) (hs : wr.heap.size ≤ W.heap.size) => frame26_any A Ao p cp j m co (layF p al (p.getD j Fn.z)) hlt hp hyl (by omega) n5 W lo hi lo' hi' (hFr.keep (Kp.less hK (Nat.zero_le _) (by omega))) (hix.keep (Kp.less hK (Nat.zero_le _) (by omega))) (by omega) (by omega) (by unfold maxLen; omega))
      have HT : Hid ((p.take (j + 1)).map (lowF p al) = (p.take j).map (lowF p al) ++ [lowF p al (p.getD j Fn.z)]) := Lib.hid (by rw [take_snoc_at p Fn.z hlt, List.map_append]; rfl)
      obtain ⟨y, hy⟩ : ∃ y, y = layF p al (p.getD j Fn.z) := ⟨_, rfl⟩
      obtain ⟨fr, hfr⟩ : ∃ fr, fr = lowF p al (p.getD j Fn.z) := ⟨_, rfl⟩
      have hfe : (⟨(p.getD j Fn.z).params, (layF p al (p.getD j Fn.z)).size, (p.getD j Fn.z).code.map (lowI (p.getD j Fn.z).slots (layF p al (p.getD j Fn.z)))⟩ : Fr) = lowF p al (p.getD j Fn.z) := rfl
      rw [hfe, ← hfr] at HFR
      rw [← hfr] at HT
      rw [← hy] at c0 c1 c2 HSH HFR
      obtain ⟨l, hl⟩ : ∃ l, l = y.off.length := ⟨_, rfl⟩
      obtain ⟨ya, ys, yo⟩ := y
      simp only at c0 c1 c2 HSH HFR hl
      rw [← hl] at c2 HSH HFR
      have OWN := Lib.hid own
      have hbl2 : (a1.add (j * 3)).block < wr.heap.size := by rw [block_of_add]; omega
      have HS : Hid (∀ W, Kp 0 wr.heap.size wr W → W.cell? ⟨w.heap.size, 0, none⟩ = some (.slice A p.length cp) ∧ W.cell? (a1.add (j * 3)) = some (.int .i64 ya) ∧ W.cell? ⟨(a1.add (j * 3)).block, (a1.add (j * 3)).off + 1, none⟩ = some (.int .i64 ys) ∧ W.cell? ⟨(a1.add (j * 3)).block, (a1.add (j * 3)).off + 2, none⟩ = some (.slice Ao l co)) := Lib.hid (fun W hW => ⟨hW.cell (Nat.zero_le _) xz x0, hW.cell (Nat.zero_le _) hbl2 c0, hW.cell (Nat.zero_le _) hbl2 c1, hW.cell (Nat.zero_le _) hbl2 c2⟩)
      have K0 : Hid (Kp 0 wr.heap.size wr wr.drew) := Lib.hid (Kp.refl _ _ _)
      clear own hix hom hoc hgd hok n0 n1 n2 n3 n4 n5 n6 hyl hFr hd hy hfr hfe hl
      go_wp2_with fail
      go_region_held3 (fun W => W.cell? ⟨w.heap.size, 0, none⟩ = some (.slice A p.length cp) ∧ W.cell? (a1.add (j * 3)) = some (.int .i64 ya) ∧ W.cell? ⟨(a1.add (j * 3)).block, (a1.add (j * 3)).off + 1, none⟩ = some (.int .i64 ys) ∧ W.cell? ⟨(a1.add (j * 3)).block, (a1.add (j * 3)).off + 2, none⟩ = some (.slice Ao l co))
        (first | exact HS.out _ K0.out | exact HS.out _ K1.out)
        ((go_at_call 78
          refine HSH.out.mono ?_
          rintro e w5 ⟨rfl, bel5⟩
          have K1 : Hid (Kp 0 wr.heap.size wr w5) := Lib.hid (Kp.of_below (w := wr.drew) bel5 (Nat.le_refl _))
          have B1 : Hid (Below wr.heap.size wr w5) := Lib.hid (((Below.refl wr.heap.size wr).drew).trans bel5)
          clear bel5))
      clear x0 xz c0 c1 c2
      obtain ⟨e0, e1, e2, e3⟩ := HS.out _ K1.out
      have hz5 := B1.out.size
      have HFR5 := Lib.hid (HFR.out w5.drew K1.out hz5)
      have K5 : Hid (Kp 0 w5.heap.size w5 w5.drew) := Lib.hid (Kp.refl _ _ _)
      have O5 := Lib.hid (own_keep OWN.out B1.out (Nat.le_refl _))
      have HW5 : Hid (Wx w5 W1.heap.size w5.heap.size vs ((p.take j).map (lowF p al)) ∧ Tx w5 vs j) := Lib.hid (by
        have hlen : ((p.take j).map (lowF p al)).length = j := by rw [List.length_map, List.length_take]; omega
        have h1 := Wx.keepK HW.out.1 (by rw [hlen]; exact HW.out.2) (Kp.less K1.out (Nat.zero_le _) (Nat.le_refl _))
        rw [hlen] at h1
        exact ⟨h1.1.more (Nat.le_refl _) hz5, h1.2⟩)
      have HK5 : Hid (Kp 0 W1.heap.size W1 w5) := Lib.hid (HK.out.trans (Kp.less K1.out (Nat.le_refl _) hzr))
      have HB5 : Hid (Below w.heap.size w w5) := Lib.hid (HB.out.trans (B1.out.mono HB.out.size))
      clear HSH HFR HS OWN HW HK HB K0 K1 B1
      have HS5 : Hid (∀ W, Kp 0 W1.heap.size w5 W → W.cell? ⟨w.heap.size, 0, none⟩ = some (.slice A p.length cp) ∧ W.cell? (a1.add (j * 3)) = some (.int .i64 ya) ∧ W.cell? ⟨(a1.add (j * 3)).block, (a1.add (j * 3)).off + 1, none⟩ = some (.int .i64 ys) ∧ W.cell? ⟨(a1.add (j * 3)).block, (a1.add (j * 3)).off + 2, none⟩ = some (.slice Ao l co)) := Lib.hid (fun W hW => by
        have hb3 : (a1.add (j * 3)).block < W1.heap.size := by rw [block_of_add]; omega
        exact ⟨hW.cell (Nat.zero_le _) (show w.heap.size < _ by omega) e0, hW.cell (Nat.zero_le _) hb3 e1, hW.cell (Nat.zero_le _) hb3 e2, hW.cell (Nat.zero_le _) hb3 e3⟩)
      have hz15 : W1.heap.size ≤ w5.heap.size := by omega
      clear e0 e1 e2 e3
      go_wp2_with fail
      obtain ⟨fp, fs, fc⟩ := fr
      go_region_held3 (fun W => W.cell? ⟨w.heap.size, 0, none⟩ = some (.slice A p.length cp) ∧ W.cell? (a1.add (j * 3)) = some (.int .i64 ya) ∧ W.cell? ⟨(a1.add (j * 3)).block, (a1.add (j * 3)).off + 1, none⟩ = some (.int .i64 ys) ∧ W.cell? ⟨(a1.add (j * 3)).block, (a1.add (j * 3)).off + 2, none⟩ = some (.slice Ao l co))
        (first | exact HS5.out _ (Kp.less K5.out (Nat.le_refl _) hz15) | exact HS5.out _ (Kp.less K6.out (Nat.le_refl _) hz15) | exact HS5.out _ (Kp.less (Kp.alloc K6.out hz6 _) (Nat.le_refl _) hz15) | exact HS5.out _ K7W.out)
        (first
          | (go_at_call 79
             refine HFR5.out.mono ?_
             rintro e w6 ⟨Ac, cc, rfl, ⟨hnx, hty⟩, hcc, hcm, bel6⟩
             simp only at hnx hty hcc hcm
             have N6 := Lib.hid (And.intro hnx hty)
             have hz6 : w5.heap.size ≤ w6.heap.size := bel6.size
             have K6 : Hid (Kp 0 w5.heap.size w5 w6) := Lib.hid (Kp.of_below (w := w5.drew) bel6 (Nat.le_refl _))
             have B6 : Hid (Below w5.heap.size w5 w6) := Lib.hid (((Below.refl w5.heap.size w5).drew).trans bel6)
             have O6 := Lib.hid (own_keep O5.out B6.out (Nat.le_refl _))
             clear hnx hty bel6)
          | (refine step_append_any _ rfl (.tmp 33) (.tmp 41) _ rfl W1.heap.size 61 i0 _ 3 40 Tryd.underlying27 hi0 hz0' hz1' hz2' rfl (by omega) _ j vs rfl (O6.out.alloc _) (w6.heap.size + 1) (some ⟨w6.heap.size, 0, none⟩) 1 1 [.int .i64 fp, .int .i64 fs, .slice Ac fc.length cc] rfl (reads_new (size := 3) (n := 1) rfl) (three_one _ _ _ _ _) (by unfold maxLen; omega) (by omega) (by simp; omega) ?_
             intro v2 w7 own2 hg2 hat2
             have K6A : Hid (Kp 0 w6.heap.size w6 (w6.alloc (.cells #[.int .i64 fp, .int .i64 fs, .slice Ac fc.length cc] 61))) := Lib.hid (Kp.alloc (Kp.refl _ _ _) (Nat.le_refl _) _)
             have KT : Hid (Kt 61 W1.heap.size w6.heap.size w6 w7) := Lib.hid ((Kt.of_kp (Kp.less K6A.out (Nat.zero_le _) (Nat.le_refl _))).trans (Kt.of_own (O6.out.alloc _) hg2 (by simp)))
             have K7W : Hid (Kp 0 W1.heap.size w5 w7) := Lib.hid (((Kp.less K6.out (Nat.le_refl _) (by omega)).trans (Kp.less K6A.out (Nat.le_refl _) (by omega))).trans (Kp.of_own (O6.out.alloc _) hg2 (Nat.le_refl _) (by simp; omega)))
             have B7 : Hid (Below w.heap.size w w7) := Lib.hid ((Below.al (HB5.out.trans (B6.out.mono HB5.out.size)) _).grown hg2 (by have := HB5.out.size; have := B6.out.size; simp; omega) (fun k hk => by have := (O6.out.lt k hk).1; omega))
             have hz7 := hg2.size))
      have hlen : ((p.take j).map (lowF p al)).length = j := by rw [List.length_map, List.length_take]; omega
      have hz7' : w6.heap.size ≤ w7.heap.size := by simp at hz7; omega
      have HW7 : Hid (Wx w7 W1.heap.size w7.heap.size (vs ++ [.int .i64 fp, .int .i64 fs, .slice Ac fc.length cc]) ((p.take (j + 1)).map (lowF p al)) ∧ Tx w7 (vs ++ [.int .i64 fp, .int .i64 fs, .slice Ac fc.length cc]) (j + 1)) := Lib.hid (by
        have h1 := Wx.keepK HW5.out.1 (by rw [hlen]; exact HW5.out.2) (Kp.less K6.out (Nat.zero_le _) (Nat.le_refl _))
        have h2 := Wx.keepT (h1.1.more (Nat.le_refl _) hz6) h1.2 KT.out (by decide)
        rw [hlen] at h2
        have KT' : Kt 61 w5.heap.size w6.heap.size w6 w7 := Kt.less KT.out hz15 (Nat.le_refl _)
        have hn7 : Nx w7 W1.heap.size w7.heap.size Ac fc := Nx.more (Rx.keepT (ty := 58) N6.out.1 N6.out.2 KT' (by decide)) hz15 hz7'
        have ht7 := TyA.keepT N6.out.1 N6.out.2 KT' (show 58 ≠ 61 by decide)
        rw [HT.out]
        refine ⟨Wx.snoc (h2.1.more (Nat.le_refl _) hz7') HVL.out (f := ⟨fp, fs, fc⟩) hn7 ⟨hcm, hcc⟩, Tx.snoc h2.2 (by rw [HVL.out, hlen]) ht7⟩)
      clear O6 hg2 hat2 N6 HFR5 HS5 K6A KT
      go_wp2
      go_roundw
      case rel => exact ⟨j + 1, _, by omega, by go_num, own2, HW7, Lib.hid (HK5.out.trans K7W.out), B7, by omega⟩
      case measure => simp [intOf]; omega
    · obtain rfl : j = p.length := by omega
      rw [List.take_length] at HW HVL
      obtain ⟨At, ct, rfl, -⟩ := own_form own
      have hcc := own_cap own
      have HRX := Lib.hid (Rx.of_own own)
      have HKR : Hid (Blk wr (w.heap.size + 1) 29 #[.int .i64 0, .slice none 0 0]) := Lib.hid (Blk.kp HR.out HK.out (Nat.zero_le _) hgR)
      obtain ⟨r0, r1, rf0, rf1, rz⟩ := HKR.out.c2
      have HR5 := Lib.hid (Blk.put2 HKR.out (.int .i64 al) (.slice At p.length ct))
      have hle : w.heap.size ≤ w.heap.size + 1 := by omega
      have HB5 : Hid (Below w.heap.size w ((wr.setCell ⟨w.heap.size + 1, 0, none⟩ (.int .i64 al)).setCell ⟨w.heap.size + 1, 1, none⟩ (.slice At p.length ct))) := Lib.hid ((HB.out.setCell (p := ⟨w.heap.size + 1, 0, none⟩) hle _).setCell (p := ⟨w.heap.size + 1, 1, none⟩) hle _)
      have HK5 : Hid (Kp W1.heap.size wr.heap.size wr ((wr.setCell ⟨w.heap.size + 1, 0, none⟩ (.int .i64 al)).setCell ⟨w.heap.size + 1, 1, none⟩ (.slice At p.length ct))) := Lib.hid (((Kp.refl _ _ _).set (p := ⟨w.heap.size + 1, 0, none⟩) (.inl hgR) _).set (p := ⟨w.heap.size + 1, 1, none⟩) (.inl hgR) _)
      have hz9 : ((wr.setCell ⟨w.heap.size + 1, 0, none⟩ (.int .i64 al)).setCell ⟨w.heap.size + 1, 1, none⟩ (.slice At p.length ct)).heap.size = wr.heap.size := by simp
      clear own
      go_wp2
      clear r0 r1 rf0 rf1 rz x0 xz
      generalize (wr.setCell ⟨w.heap.size + 1, 0, none⟩ (.int .i64 al)).setCell ⟨w.heap.size + 1, 1, none⟩ (.slice At p.length ct) = Wz at *
      obtain ⟨r0, r1, -, -, rz⟩ := HR5.out.c2
      have hlm : (p.map (lowF p al)).length = p.length := List.length_map ..
      exact bodyPost_ret (v := .tuple #[.agg #[.int .i64 al, .slice At p.length ct], .int .i64 0]) (by simp [results, Tryd.results43, go_sem, r0, r1]) rfl ⟨At, ct, by rw [hlm], by
        have h1 := Wx.keepK HW.out.1 (by rw [hlm]; exact HW.out.2) HK5.out
        refine ⟨vs, ?_, ?_, h1.2⟩
        · rw [hlm]; exact Rx.more (Rx.keep HRX.out HK5.out) (by omega) (by omega)
        · exact h1.1.more (by omega) (by omega), by rw [hlm]; exact hcc.2, by rw [hlm]; exact hcc.1, HB5.out⟩
end Go.Proofs.YtinfeglhjmnlaaaDoor.pm
namespace Go.Proofs.YtinfeglhjmnlaaaDoor.pm
open Go.RowKit
set_option linter.unusedVariables false
set_option maxRecDepth 10000

theorem slots_right {sl : List (Int × Int)} (h : ∀ s ∈ sl, SlotOk s) (hl : sl.length ≤ 6) : slotsE sl = 0 := by
  unfold slotsE
  rw [if_neg (by omega), if_pos]
  refine List.all_eq_true.2 (fun s hs => ?_)
  obtain ⟨a, b⟩ := slot_pow (h s hs)
  rw [a, b]
  rfl
theorem mxO_al (g : Nat → Int) : ∀ n, (∀ j, j < n → g j ≤ 16 ∨ g j = 32 ∨ g j = 64) → AlOk (mxO g n)
  | 0, _ => .inl rfl
  | n + 1, h => by
    have ih := mxO_al g n (fun j hj => h j (by omega))
    have := h n (by omega)
    unfold AlOk at ih ⊢
    unfold mxO
    split <;> omega
theorem alP_ok {m : Nat} {p : List Fn} (hp : PrOk m p) : AlOk (alP p) := by
  refine mxO_al _ _ (fun j hj => ?_)
  have hok := hp.2.2.2 _ (getD_mem' (z := Fn.z) hj)
  have h1 : AlOk (alS (p.getD j Fn.z).slots) := by
    unfold alS
    rw [if_pos (slots_right hok.2.2.2.1 hok.2.2.1)]
    refine mxO_al _ _ (fun i hi => ?_)
    have h2 := hok.2.2.2.1 _ (getD_mem' (z := (0, 0)) hi)
    unfold SlotOk at h2
    omega
  unfold AlOk at h1
  omega
/-- frames while they are changed -/
def TInv (al : Int) (ps : List Int) (t : List Fr) : Prop := t.map Fr.params = ps ∧ ∀ f ∈ t, FrP al ps f
def CurOk (ps : List Int) (prm sz : Int) (len : Nat) (c : List Ins) : Prop := c.length = len ∧ (∀ x ∈ c, TiOk ps.length prm sz len x ∧ (x.op = 22 → 16 * ps.getD x.a.toNat 0 ≤ sz)) ∧ (c.getD (len - 1) Ins.z).op ∈ [(23 : Int), 24]
theorem CurOk.of {al : Int} {ps : List Int} {f : Fr} (h : FrP al ps f) : CurOk ps f.params f.size f.code.length f.code := ⟨rfl, h.2.2.2.2.2.2.2.1, h.2.2.2.2.2.2.2.2⟩
theorem CurOk.set {ps : List Int} {prm sz : Int} {len k : Nat} {c : List Ins} (h : CurOk ps prm sz len c) (hk : k < len) (ho : (c.getD k Ins.z).op = 16) {u : Int} (h0 : 0 ≤ u) (h1 : u + (c.getD k Ins.z).c ≤ sz) (h2 : sz ≤ 671) : CurOk ps prm sz len (c.set k (setA u (c.getD k Ins.z))) := by
  obtain ⟨a1, a2, a3⟩ := h
  have hkc : k < c.length := by omega
  refine ⟨by rw [List.length_set]; exact a1, fun x hx => ?_, ?_⟩
  · rcases List.mem_or_eq_of_mem_set hx with h | rfl
    · exact a2 x h
    · have hm := getD_mem' (z := Ins.z) hkc
      obtain ⟨b1, b2⟩ := a2 _ hm
      exact ⟨store_ok b1 ho h0 h1 h2, fun e => by have : (c.getD k Ins.z).op = 22 := e; omega⟩
  · rw [List.getD_eq_getElem?_getD, List.getElem?_set]
    split
    · rename_i e
      subst e
      rw [ho] at a3
      simp at a3
    · rw [← List.getD_eq_getElem?_getD]; exact a3
theorem TInv.set {al : Int} {ps : List Int} {t : List Fr} {j : Nat} (h : TInv al ps t) (hj : j < t.length) {c : List Ins} (hc : CurOk ps (t.getD j Fr.z).params (t.getD j Fr.z).size (t.getD j Fr.z).code.length c) : TInv al ps (t.set j ⟨(t.getD j Fr.z).params, (t.getD j Fr.z).size, c⟩) := by
  have hm := getD_mem' (z := Fr.z) hj
  obtain ⟨f0, f1, f2, f3, f4, f5, f6, f7, f8⟩ := h.2 _ hm
  refine ⟨?_, fun f hf => ?_⟩
  · rw [List.map_set, ← h.1]
    apply List.ext_getElem?
    intro i
    rw [List.getElem?_set]
    split
    · rename_i e
      subst e
      simp only [List.length_map, hj, if_true, List.getElem?_map]
      rw [List.getElem?_eq_getElem hj, List.getD_eq_getElem?_getD, List.getElem?_eq_getElem hj]
      rfl
    · rfl
  · rcases List.mem_or_eq_of_mem_set hf with h' | rfl
    · exact h.2 f h'
    · obtain ⟨c1, c2, c3⟩ := hc
      refine ⟨f0, f1, f2, f3, f4, by show 1 ≤ c.length; omega, by show c.length ≤ 200; omega, ?_, ?_⟩
      · show ∀ x ∈ c, TiOk ps.length _ _ c.length x ∧ _
        rw [c1]; exact c2
      · show (c.getD (c.length - 1) Ins.z).op ∈ _
        rw [c1]; exact c3
theorem tinv_start {m : Nat} {p : List Fn} {al : Int} (hm : m ≤ 80) (hp : PrOk m p) (ha : AlOk al) : TInv al (p.map Fn.params) (p.map (lowF p al)) := by
  refine ⟨?_, fun f hf => ?_⟩
  · rw [List.map_map]; rfl
  · obtain ⟨g, hg, rfl⟩ := List.mem_map.1 hf
    exact lowF_ok hm hp (hp.2.2.2 g hg) ha
theorem tgp_of {m : Nat} {p : List Fn} {al : Int} {t : List Fr} (hp : PrOk m p) (ha : AlOk al) (h : TInv al (p.map Fn.params) t) : TgP m al t := by
  have hl : t.length = p.length := by have := congrArg List.length h.1; simpa using this
  refine ⟨ha, by rw [hl]; exact hp.1, by rw [hl]; exact hp.2.1, ?_, fun f hf => by rw [h.1]; exact h.2 f hf⟩
  have h1 := congrArg (fun l : List Int => l.getD 0 0) h.1
  have h0 : 0 < t.length := by rw [hl]; exact hp.1
  have h0' : 0 < p.length := hp.1
  simp only [List.getD_eq_getElem?_getD, List.getElem?_map, List.getElem?_eq_getElem h0, List.getElem?_eq_getElem h0', Option.map_some, Option.getD_some] at h1
  have h2 := hp.2.2.1
  rw [List.getD_eq_getElem?_getD, List.getElem?_eq_getElem h0', Option.getD_some] at h2
  rw [List.getD_eq_getElem?_getD, List.getElem?_eq_getElem h0, Option.getD_some, h1, h2]
/-- the row of frames, one of whose code slices is another one -/
theorem Wx.set {w : World} {lo hi : Nat} {vs : List Value} {t : List Fr} {j : Nat} (h : Wx w lo hi vs t) (ht : Tx w vs t.length) (hl : vs.length = t.length * 3) (hj : j < t.length) {c : List Ins} {Ac : Option Addr} {cc : Nat} (hn : Nx w lo hi Ac c) (hT : TyA w Ac c.length 58) (hm : c.length ≤ maxLen) (hcc : c.length ≤ cc) :
    Wx w lo hi (vs.set (j * 3 + 2) (.slice Ac c.length cc)) (t.set j ⟨(t.getD j Fr.z).params, (t.getD j Fr.z).size, c⟩) ∧ Tx w (vs.set (j * 3 + 2) (.slice Ac c.length cc)) t.length := by
  refine ⟨fun i hi => ?_, fun i hi Ai m c' hv => ?_⟩
  · rw [List.length_set] at hi
    by_cases hij : i = j
    · subst hij
      obtain ⟨Ai, ci, h1, h2, h3, h5, h6⟩ := h i hi
      have e : (t.set i ⟨(t.getD i Fr.z).params, (t.getD i Fr.z).size, c⟩).getD i Fr.z = ⟨(t.getD i Fr.z).params, (t.getD i Fr.z).size, c⟩ := by
        rw [List.getD_eq_getElem?_getD (l := t.set _ _), List.getElem?_set_self hi]; rfl
      rw [e]
      refine ⟨Ac, cc, ?_, ?_, ?_, hn, hm, hcc⟩
      · rw [List.getElem?_set_ne (by omega)]; exact h1
      · rw [List.getElem?_set_ne (by omega)]; exact h2
      · rw [List.getElem?_set_self (by omega)]
    · obtain ⟨Ai, ci, h1, h2, h3, h5, h6⟩ := h i hi
      have e : (t.set j ⟨(t.getD j Fr.z).params, (t.getD j Fr.z).size, c⟩).getD i Fr.z = t.getD i Fr.z := by
        rw [List.getD_eq_getElem?_getD, List.getElem?_set_ne (fun e => hij e.symm), ← List.getD_eq_getElem?_getD]
      rw [e]
      refine ⟨Ai, ci, ?_, ?_, ?_, h5, h6⟩
      · rw [List.getElem?_set_ne (by omega)]; exact h1
      · rw [List.getElem?_set_ne (by omega)]; exact h2
      · rw [List.getElem?_set_ne (by omega)]; exact h3
  · by_cases hij : i = j
    · subst hij
      rw [List.getElem?_set_self (by omega)] at hv
      injection hv with hv
      injection hv with e1 e2 e3
      subst e1 e2 e3
      exact hT
    · rw [List.getElem?_set_ne (by omega)] at hv
      exact ht i hi _ _ _ hv
end Go.Proofs.YtinfeglhjmnlaaaDoor.pm
namespace Go.Proofs.YtinfeglhjmnlaaaDoor.pm
open Go.RowKit
set_option linter.unusedVariables false
set_option maxRecDepth 100000

theorem store_c {nf nc : Nat} {prm sz : Int} {x : Ins} (h : TiOk nf prm sz nc x) (ho : x.op = 16) : 1 ≤ x.c ∧ x.c ≤ 16 := by
  obtain ⟨op, a, b, c, im⟩ := x
  simp only at ho
  subst ho
  obtain ⟨e, -, i0, i1⟩ := h
  simp only at i0 i1
  have him : im = 0 := Decidable.byContradiction (fun h => by simp [inE, inB, unB, opN, h] at e)
  subst him
  have hb : ¬ (b < 0 ∨ 8 ≤ b) := fun h => by simp [inE, inB, unB, opN, regL, outB, h] at e
  have hc : sizeB c = true := by
    rcases hs : sizeB c with _ | _
    · simp [inE, inB, unB, opN, regL, outB, memB, hs, hb] at e
    · rfl
  have := (sizeB_iff c).1 hc
  show 1 ≤ c ∧ c ≤ 16
  omega
/-- what Target draws -/
def TgtDr (B cb : Nat) (A : Option Addr) (n c : Nat) (l : List Nat) (most : Nat) (w : World) (e : Ending) (w' : World) : Prop :=
  ∃ (al : Int) (t : List Fr) (At : Option Addr) (ct p' : Nat), e = .returned (.agg #[.int .i64 al, .slice At t.length ct]) ∧ TgP most al t ∧ GT w' w.heap.size w'.heap.size At t ∧ t.length ≤ ct ∧ CodesAt w' B cb A n c l p' ∧ w.grownBy w' (some cb)
theorem own_cell {w : World} {base g n cap size : Nat} {e : TypeId} {xs : List Value} (h : w.ownsRow base e size (.slice (some ⟨g, 0, none⟩) n cap) n xs) {i : Nat} {v : Value} (hv : xs[i]? = some v) : w.cell? ⟨g, i, none⟩ = some v := by
  have h1 := h.cells (g := g) rfl i v hv
  have e : (⟨g, 0, none⟩ : Addr).add i = ⟨g, i, none⟩ := by unfold Addr.add; by_cases hj : i = 0 <;> simp [hj]
  rwa [e] at h1
theorem own_ins {w : World} {base g n cap k : Nat} {e : TypeId} {l : List Ins} (h : w.ownsRow base e 5 (.slice (some ⟨g, 0, none⟩) n cap) n (inV l)) (hk : k < l.length) : w.cell? ⟨g, k * 5, none⟩ = some (.int .i64 (l.getD k Ins.z).op) ∧ w.cell? ⟨g, k * 5 + 1, none⟩ = some (.int .i64 (l.getD k Ins.z).a) ∧ w.cell? ⟨g, k * 5 + 2, none⟩ = some (.int .i64 (l.getD k Ins.z).b) ∧ w.cell? ⟨g, k * 5 + 3, none⟩ = some (.int .i64 (l.getD k Ins.z).c) ∧ w.cell? ⟨g, k * 5 + 4, none⟩ = some (.int .u64 (l.getD k Ins.z).imm) := by
  have g0 : ∀ j, j < 5 → (inV l)[k * 5 + j]? = (icells (l.getD k Ins.z))[j]? := fun j hj => flat_get icells_len Ins.z l k j hk hj
  exact ⟨own_cell h (g0 0 (by omega)), own_cell h (g0 1 (by omega)), own_cell h (g0 2 (by omega)), own_cell h (g0 3 (by omega)), own_cell h (g0 4 (by omega))⟩
theorem own_farR {w w' : World} {base n size cb : Nat} {e : TypeId} {v : Value} {xs : List Value} (h : w.ownsRow base e size v n xs) (hg : w.grownBy w' (some cb)) (hlt : cb < base) : w'.ownsRow base e size v n xs :=
  h.kept hg (by
    rcases hq : v.ownBlock with _ | k
    · exact .inl rfl
    · exact .inr (fun e => by injection e with e; have := (h.lt k hq).1; omega))
theorem Rx.grow {w w' : World} {lo hi size n cb : Nat} {A : Option Addr} {xs : List Value} (h : Rx w lo hi size A n xs) (hg : w.grownBy w' (some cb)) (hh : hi ≤ w.heap.size) (hc : cb < lo) : Rx w' lo hi size A n xs := h.keep (Kp.of_grown hg hh (.inl hc))
set_option maxHeartbeats 16000000 in
theorem target_d (B cb : Nat) (A : Option Addr) (n c : Nat) (l : List Nat) (p : Nat) (funcs most : Nat) (w : World) (h : CodesAt w B cb A n c l p) (hf1 : 1 ≤ funcs) (hf : funcs ≤ 80) (hmost : most ≤ 12) :
    Calls Tryd.prog 14 #[.pointer (some ⟨cb, 0, none⟩), .int .i64 (funcs : Int), .int .i64 (most : Int)] w (TgtDr B cb A n c l funcs w) := by
  obtain ⟨i1, hi1, hy0, hy1, hy2⟩ := info_parts info_frm
  obtain ⟨i2, hi2, hw0, hw1, hw2⟩ := info_parts info_ins
  have hcbw := h.1.lt
  obtain ⟨W1, hW1⟩ : ∃ W1, W1 = w.alloc (.cells #[.int .i64 0, .slice none 0 0] 29) := ⟨_, rfl⟩
  have HR1 : Hid (Blk W1 w.heap.size 29 #[.int .i64 0, .slice none 0 0]) := Lib.hid (by rw [hW1]; exact Blk.new _ _ _)
  have HG1 : Hid (w.grownBy W1 (some cb)) := Lib.hid (by rw [hW1]; exact World.grownBy_alloc w _ _)
  have HPD := Lib.hid (program_d B cb A n c l p funcs most W1 (by rw [hW1]; exact h.alloc _) hf1 (by omega) hmost)
  have hz1 : w.heap.size < W1.heap.size := HR1.out.lt
  have HW1 := Lib.hid hW1
  clear hW1 h
  go_enter Tryd.func14, Tryd.ntmps14
  go_upto_region 1 with (fail)
  rw [← HW1.out]
  clear HW1
  go_wp2_with fail
  refine HPD.out.mono ?_
  rintro e w2 ⟨pr, Ap, cp, p2, rfl, hpr, hcp, hfx, hc2, hg2⟩
  have hz2 := hg2.size
  have HC2 := Lib.hid hc2
  have HF2 := Lib.hid hfx
  have HG2 : Hid (w.grownBy w2 (some cb)) := Lib.hid (grownBy_trans HG1.out hg2)
  have HR2 : Hid (Blk w2 w.heap.size 29 #[.int .i64 0, .slice none 0 0]) := Lib.hid (HR1.out.grown hg2 (by intro e; injection e; omega))
  have hok := hpr
  have hpl : pr.length ≤ funcs := hpr.2.1
  have hpl1 : 1 ≤ pr.length := hpr.1
  clear hc2 hfx hg2 HG1 HR1 HPD
  go_upto_region 2 with (fail)
  obtain ⟨W3, hW3⟩ : ∃ W3, W3 = w2.alloc (.cells #[.slice Ap pr.length cp] 44) := ⟨_, rfl⟩
  rw [← hW3]
  have hb3 : Below w2.heap.size w2 W3 := by rw [hW3]; exact Below.al (Below.refl _ _) _
  have HP3 : Hid (Blk W3 w2.heap.size 44 #[.slice Ap pr.length cp]) := Lib.hid (by rw [hW3]; exact Blk.new _ _ _)
  have HC3 := Lib.hid (HC2.out.after hb3)
  have HF3 : Hid (Fx W3 W1.heap.size w2.heap.size Ap pr) := Lib.hid (HF2.out.keep (Kp.of_below hb3 (Nat.le_refl _)))
  have HG3 : Hid (w.grownBy W3 (some cb)) := Lib.hid (grownBy_trans HG2.out (grownBy_of_below hb3 _))
  have HR3 := Lib.hid (HR2.out.after hb3)
  have hz3 : w2.heap.size < W3.heap.size := HP3.out.lt
  clear hW3 hb3 HC2 HF2 HG2 HR2
  generalize w2.heap.size = gP at *
  have hmx : pr.length ≤ maxLen := by unfold maxLen; omega
  have HAL := Lib.hid (refprogalign_any Ap pr cp W3 _ _ HF3.out (by omega) hmx (fun i hi s hs => by
    have := (hok.2.2.2 _ (getD_mem' (z := Fn.z) hi)).2.2.2.1 s hs
    have h2 := slot_nums this
    unfold I64
    omega))
  have hao := alP_ok hok
  obtain ⟨al, hal⟩ : ∃ al, al = alP pr := ⟨_, rfl⟩
  rw [← hal] at HAL hao
  clear hal
  obtain ⟨x0, -, xz⟩ := blk_one HP3.out
  go_wp2_with fail
  refine HAL.out.mono ?_
  rintro e w4 ⟨rfl, bel4⟩
  have HP4 := Lib.hid (HP3.out.after bel4)
  have HC4 := Lib.hid (HC3.out.after bel4)
  have HF4 : Hid (Fx w4 W1.heap.size gP Ap pr) := Lib.hid (HF3.out.keep (Kp.of_below bel4 (by omega)))
  have HG4 : Hid (w.grownBy w4 (some cb)) := Lib.hid (grownBy_trans HG3.out (grownBy_of_below bel4 _))
  have HR4 := Lib.hid (HR3.out.after bel4)
  have hz4 := bel4.size
  clear bel4 x0 xz HP3 HC3 HF3 HG3 HR3 HAL
  obtain ⟨x0, -, xz⟩ := blk_one HP4.out
  have HBL := Lib.hid (baselines_any Ap pr cp funcs al hao hok w4 _ _ HF4.out (by omega) (by omega))
  go_wp2_with fail
  refine HBL.out.mono ?_
  rintro e w5 ⟨Al, cl, rfl, hlx, -, -, bel5⟩
  rw [List.length_map]
  have HP5 := Lib.hid (HP4.out.after bel5)
  have HC5 := Lib.hid (HC4.out.after bel5)
  have HF5 : Hid (Fx w5 W1.heap.size gP Ap pr) := Lib.hid (HF4.out.keep (Kp.of_below bel5 (by omega)))
  have HG5 : Hid (w.grownBy w5 (some cb)) := Lib.hid (grownBy_trans HG4.out (grownBy_of_below bel5 _))
  have HR5 := Lib.hid (HR4.out.after bel5)
  have HL5 := Lib.hid hlx
  have hz5 := bel5.size
  clear bel5 x0 xz hlx HP4 HC4 HF4 HG4 HR4 HBL
  obtain ⟨x0, -, xz⟩ := blk_one HP5.out
  have HTG := Lib.hid (target26_any Ap Al pr cp cl funcs al hao hok w5 _ _ _ _ HF5.out HL5.out (by omega) (Nat.le_refl _) (by omega))
  go_wp2_with fail
  refine HTG.out.mono ?_
  rintro e w6 ⟨At, ct, rfl, hgt, -, -, bel6⟩
  rw [List.length_map]
  have HC6 := Lib.hid (HC5.out.after bel6)
  have HG6 : Hid (w.grownBy w6 (some cb)) := Lib.hid (grownBy_trans HG5.out (grownBy_of_below bel6 _))
  have HR6 := Lib.hid (HR5.out.after bel6)
  have hz6 := bel6.size
  have HT6 := Lib.hid hgt
  clear bel6 x0 xz hgt HP5 HC5 HF5 HG5 HR5 HL5 HTG
  go_upto_region 5 with (fail)
  obtain ⟨W7, hW7⟩ : ∃ W7, W7 = w6.alloc (.cells #[.int .i64 al, .slice At pr.length ct] 29) := ⟨_, rfl⟩
  rw [← hW7]
  have hb7 : Below w6.heap.size w6 W7 := by rw [hW7]; exact Below.al (Below.refl _ _) _
  have HK7 : Hid (Blk W7 w6.heap.size 29 #[.int .i64 al, .slice At pr.length ct]) := Lib.hid (by rw [hW7]; exact Blk.new _ _ _)
  have HC7 := Lib.hid (HC6.out.after hb7)
  have HR7 := Lib.hid (HR6.out.after hb7)
  have HG7 : Hid (w.grownBy W7 (some cb)) := Lib.hid (grownBy_trans HG6.out (grownBy_of_below hb7 _))
  have hT7 := HT6.out.keep (Kp.of_below hb7 (Nat.le_refl _))
  have hz7 : w6.heap.size < W7.heap.size := HK7.out.lt
  clear hW7 hb7 HC6 HR6 HG6 HT6
  generalize w6.heap.size = gT at *
  obtain ⟨vs0, hrx, hwx, htx⟩ := hT7
  rw [List.length_map] at hrx htx
  obtain ⟨N, hN⟩ : ∃ N, N = pr.length := ⟨_, rfl⟩
  obtain ⟨T0, hT0⟩ : ∃ T0, T0 = pr.map (lowF pr al) := ⟨_, rfl⟩
  have HTI : Hid (TInv al (pr.map Fn.params) T0) := Lib.hid (by rw [hT0]; exact tinv_start hf hok hao)
  have hTN : T0.length = N := by rw [hT0, List.length_map, hN]
  obtain ⟨ps, hps⟩ : ∃ ps, ps = pr.map Fn.params := ⟨_, rfl⟩
  have HFIN : Hid (∀ t, TInv al ps t → TgP funcs al t) := Lib.hid (fun t ht => tgp_of hok hao (by rw [← hps]; exact ht))
  rw [← hps] at HTI
  rw [← hT0] at hwx
  rw [← hN] at hrx htx HK7 hpl hpl1 ⊢
  have hvl0 : vs0.length = N * 3 := hrx.1.1
  have hone0 : ∀ u ∈ vs0, u.oneCell' = true := by
    intro u hu
    obtain ⟨j, hj, rfl⟩ := List.mem_iff_getElem.1 hu
    obtain ⟨Ai, ci, h1, h2, h3, _⟩ := hwx (j / 3) (by omega)
    have hj3 : j = j / 3 * 3 ∨ j = j / 3 * 3 + 1 ∨ j = j / 3 * 3 + 2 := by omega
    have e : vs0[j]? = some vs0[j] := List.getElem?_eq_getElem hj
    generalize vs0[j] = u at e ⊢
    rcases hj3 with h0 | h0 | h0 <;> rw [h0] at e
    · rw [h1] at e; injection e with e; rw [← e]; rfl
    · rw [h2] at e; injection e with e; rw [← e]; rfl
    · rw [h3] at e; injection e with e; rw [← e]; rfl
  have HW7 : Hid (Wx W7 w.heap.size W7.heap.size vs0 T0 ∧ Tx W7 vs0 N) := Lib.hid ⟨hwx.more (by omega) (by omega), htx⟩
  have HRX := Lib.hid hrx
  have HONE := Lib.hid hone0
  have hNi : (N : Int) ≤ 9223372036854775807 := by omega
  have hgrw : w.heap.size ≤ W7.heap.size := by omega
  clear hrx hwx htx hone0 hN hT0 hps hok hpr hao hmx hcp
  obtain ⟨k0, k1, -, -, kz⟩ := HK7.out.c2
  go_wp2_with (at_builtin
               refine wpList_append_any _ rfl (.const (.slice none 0 0)) (.tmp 38) _ rfl (gT + 1) 61 i1 _ 3 40 Tryd.underlying27 hi1 hy0 hy1 hy2 rfl (by omega) (.slice none 0 0) 0 [] rfl (World.ownsRow_nil _ _ _ _) W7.heap.size At N ct vs0 rfl (Reads.more HRX.out.1 (by omega)) HONE.out (by unfold maxLen; omega) (by omega) (by omega) ?_
               intro vF w8 own8 hg8 hat8
               have K8 : Hid (Kp 0 W7.heap.size W7 w8) := Lib.hid (Kp.of_grownR hg8 (Nat.le_refl _) (fun j hj => by simp [Value.ownBlock] at hj))
               have hz8 := hg8.size
               have HG8 : Hid (w.grownBy w8 (some cb)) := Lib.hid (grownBy_step HG7.out hg8 (fun j e => by simp [Value.ownBlock] at e))
               have HC8 := Lib.hid (HC7.out.grown' hg8 (by simp [Value.ownBlock]) (fun k e => by simp [Value.ownBlock] at e)))
  have HR8 : Hid (Blk w8 w.heap.size 29 #[.int .i64 0, .slice none 0 0]) := Lib.hid (Blk.kp HR7.out K8.out (Nat.zero_le _) (by omega))
  have HK8 : Hid (Blk w8 gT 29 #[.int .i64 al, .slice At N ct]) := Lib.hid (Blk.kp HK7.out K8.out (Nat.zero_le _) hz7)
  have HW8 : Hid (Wx w8 w.heap.size w8.heap.size vs0 T0 ∧ Tx w8 vs0 N) := Lib.hid (by
    have h1 := Wx.keepK HW7.out.1 (by rw [hTN]; exact HW7.out.2) (Kp.less K8.out (Nat.zero_le _) (Nat.le_refl _))
    rw [hTN] at h1
    exact ⟨h1.1.more (Nat.le_refl _) hz8, h1.2⟩)
  have own8' : w8.ownsRow (gT + 1) 61 3 vF N vs0 := by
    have h1 := own8
    rw [Nat.zero_add] at h1
    exact h1
  obtain ⟨Af, cf, rfl, -⟩ := own_form own8'
  have hcf := (own_cap own8').2
  clear own8 hg8 hat8 HC7 HR7 HG7 HK7 HW7 HRX HONE K8 k0 k1 kz
  go_loopw [14] (fun v wr => ∃ (j : Nat) (vs : List Value) (T : List Fr) (p' : Nat), j ≤ N ∧ v = .int .i64 j ∧ wr.ownsRow (gT + 1) 61 3 (.slice Af N cf) N vs ∧ T.length = N ∧ Hid (Wx wr w.heap.size wr.heap.size vs T ∧ Tx wr vs N) ∧ Hid (TInv al ps T) ∧ CodesAt wr B cb A n c l p' ∧ Hid (w.grownBy wr (some cb)) ∧ Hid (Blk wr w.heap.size 29 #[.int .i64 0, .slice none 0 0]) ∧ Hid (Blk wr gT 29 #[.int .i64 al, .slice At N ct])) (fun v _ => N - (intOf v).toNat)
  case atStart => exact ⟨0, vs0, T0, _, by omega, rfl, own8', hTN, HW8, HTI, HC8.out, HG8, HR8, HK8⟩
  case round =>
    clear own8' HW8 HTI HC8 HG8 HR8 HK8 hTN
    obtain ⟨j, vs, T, p9, hj, rfl, own, hTl, HW, HTI, hca, HG, HR, HK⟩ := hrel
    have hj0 : (0 : Int) ≤ (j : Int) := by omega
    have hvl : vs.length = N * 3 := own.1
    by_cases hlt : j < N
    · have hji : (j : Int) < (N : Int) := by omega
      obtain ⟨gv, capv, hve, hgb, hgl⟩ := own.form (by omega)
      have hAf : Af = some ⟨gv, 0, none⟩ := by injection hve
      subst hAf
      generalize wr = wo at *
      have hgv1 : gT + 1 ≤ gv := hgb
      have hlt0 : cb < w.heap.size := hcbw
      obtain ⟨Ai, ci, h1, h2, h3, hnx, hml, hcl⟩ := HW.out.1 j (by omega)
      obtain ⟨f, hfe⟩ : ∃ f, f = T.getD j Fr.z := ⟨_, rfl⟩
      rw [← hfe] at h1 h2 h3 hnx hml hcl
      obtain ⟨prm, sz, code⟩ := f
      simp only at h1 h2 h3 hnx hml hcl
      have HFE : Hid ((⟨prm, sz, code⟩ : Fr) = T.getD j Fr.z) := Lib.hid hfe
      have hfp := HTI.out.2 _ (getD_mem' (z := Fr.z) (show j < T.length by omega))
      rw [← hfe] at hfp
      have hsz0 : 0 ≤ sz := hfp.2.2.1
      have hsz1 : sz ≤ 671 := hfp.2.2.2.1
      have hL200 : code.length ≤ 200 := hfp.2.2.2.2.2.2.1
      have hcok := CurOk.of hfp
      simp only at hcok
      obtain ⟨L, hL⟩ : ∃ L, L = code.length := ⟨_, rfl⟩
      have HLE : Hid (code.length = L) := Lib.hid hL.symm
      rw [← hL] at h3 hcok hml hcl hL200
      have HV2 := Lib.hid h3
      have HNX := Lib.hid hnx
      have HCO := Lib.hid hcok
      have OWN := Lib.hid own
      have HVL := Lib.hid hvl
      have b1 := own_cell own h2
      have b2 := own_cell own h3
      have HB1 := Lib.hid h2
      have HLi : (L : Int) ≤ 9223372036854775807 := by omega
      have HCA := Lib.hid hca
      have hzr : W7.heap.size ≤ wo.heap.size + W7.heap.size := by omega
      have hgtr : gT + 1 ≤ wo.heap.size := by have := OWN.out.lt gv rfl; omega
      clear h1 h2 h3 hnx hfp hcok hfe hL own hca hve
      have hrd : Reads wo wo.heap.size 5 Ai L (inV code) := by have := HNX.out.1; rwa [HLE.out] at this
      go_upto_region 9 with (fail)
      go_wp2_with (at_builtin
                   refine wpList_append_any _ rfl (.const (.slice none 0 0)) (.tmp 50) _ rfl wo.heap.size 58 i2 _ 5 40 Tryd.underlying59 hi2 hw0 hw1 hw2 rfl (by omega) (.slice none 0 0) 0 [] rfl (World.ownsRow_nil _ _ _ _) wo.heap.size Ai L ci (inV code) rfl hrd (inV_one code) (by unfold maxLen; omega) (by omega) (Nat.le_refl _) ?_
                   intro vC wa owna hga hata
                   have HGA : Hid (wo.grownBy wa (some cb)) := Lib.hid (grownBy_of_below ((Below.refl _ _).grown hga (Nat.le_refl _) (by simp [Value.ownBlock])) _)
                   have HCAa := Lib.hid (HCA.out.grown' hga (by simp [Value.ownBlock]) (fun k e => by simp [Value.ownBlock] at e))
                   have ownb := owna
                   rw [Nat.zero_add] at ownb
                   obtain ⟨Ac, cc, rfl, -⟩ := own_form ownb
                   have OC : Hid (wa.ownsRow wo.heap.size 58 5 (.slice Ac L cc) L (inV code)) := Lib.hid ownb
                   clear owna hga hata ownb b1 b2 HCA)
      go_loopw [16] (fun v wq => ∃ (k : Nat) (cur : List Ins) (p' : Nat), k ≤ L ∧ v = .int .i64 k ∧ wq.ownsRow wo.heap.size 58 5 (.slice Ac L cc) L (inV cur) ∧ Hid (CurOk ps prm sz L cur) ∧ CodesAt wq B cb A n c l p' ∧ Hid (wo.grownBy wq (some cb))) (fun v _ => L - (intOf v).toNat)
      case atStart => exact ⟨0, code, _, by omega, rfl, OC.out, HCO, HCAa.out, HGA⟩
      case round =>
        clear OC HCAa HGA HCO
        obtain ⟨k, cur, p10, hk, rfl, ownc, HCO, hcq, HGq⟩ := hrel
        have hk0 : (0 : Int) ≤ (k : Int) := by omega
        by_cases hkl : k < L
        · have hki : (k : Int) < (L : Int) := by omega
          have hN := Lib.hid (next_d B cb A n c l p10 3 wr hcq (by omega) (by omega))
          go_wp2_with fail
          refine hN.out.mono ?_
          rintro e w10 ⟨v, p11, hv, rfl, hc10, hg10⟩
          have HG10 : Hid (wo.grownBy w10 (some cb)) := Lib.hid (grownBy_trans HGq.out hg10)
          have own10 := own_farR ownc hg10 (by have := hgtr; omega)
          have hz10 := HG10.out.size
          clear hg10 hN ownc
          by_cases hv2 : v = 2
          · subst hv2
            have hcl10 := HCO.out.1
            have hkc : k < cur.length := by omega
            have hfe : ∃ gc, Ac = some ⟨gc, 0, none⟩ ∧ wo.heap.size ≤ gc := by
              obtain ⟨gc, cap, hve, hgb2, _⟩ := own10.form (by omega)
              exact ⟨gc, by injection hve, hgb2⟩
            obtain ⟨gc, hgc, hgcb⟩ := hfe
            subst hgc
            obtain ⟨c0, c1, c2, c3, c4⟩ := own_ins own10 hkc
            have hti := HCO.out.2.1 _ (getD_mem' (z := Ins.z) hkc)
            obtain ⟨x, hx⟩ : ∃ x, x = cur.getD k Ins.z := ⟨_, rfl⟩
            rw [← hx] at c0 c1 c2 c3 c4 hti
            obtain ⟨op, xa, xb, xc, im⟩ := x
            simp only at c0 c1 c2 c3 c4
            have HX := Lib.hid hx
            have HTI1 := Lib.hid hti.1
            clear hx hti
            go_upto_region 14 with (fail)
            obtain ⟨W11, hW11⟩ : ∃ W11, W11 = w10.alloc (.cells #[.int .i64 op, .int .i64 xa, .int .i64 xb, .int .i64 xc, .int .u64 im] 58) := ⟨_, rfl⟩
            rw [← hW11]
            have HKX : Hid (Blk W11 w10.heap.size 58 #[.int .i64 op, .int .i64 xa, .int .i64 xb, .int .i64 xc, .int .u64 im]) := Lib.hid (by rw [hW11]; exact Blk.new _ _ _)
            have HC11 : Hid (CodesAt W11 B cb A n c l p11) := Lib.hid (by rw [hW11]; exact hc10.alloc _)
            have HG11 : Hid (wo.grownBy W11 (some cb)) := Lib.hid (by rw [hW11]; exact grownBy_al HG10.out _)
            have OC11 : Hid (W11.ownsRow wo.heap.size 58 5 (.slice (some ⟨gc, 0, none⟩) L cc) L (inV cur)) := Lib.hid (by rw [hW11]; exact own10.alloc _)
            have hgcl : gc < w10.heap.size := (own10.lt gc rfl).2
            have OF11 : Hid (W11.ownsRow (gT + 1) 61 3 (.slice (some ⟨gv, 0, none⟩) N cf) N vs) := Lib.hid (own_farR OWN.out HG11.out (by omega))
            have hgvl : gv < wo.heap.size := (OWN.out.lt gv rfl).2
            clear hW11 c0 c1 c2 c3 c4 own10 hc10 HG10
            generalize w10.heap.size = gx at *
            obtain ⟨x0, x1, x2, x3, x4, -, -, -, -, -, xz⟩ := HKX.out.c5
            have s1 := own_cell OF11.out HB1.out
            by_cases o16 : op = 16
            · subst o16
              have hstc := store_c HTI1.out rfl
              simp only at hstc
              obtain ⟨hxc1, hxc2⟩ := hstc
              have hjN : (j : Int) < (N : Int) := hji
              by_cases hsc : xc ≤ sz
              · have hscb : decide (xc ≤ sz) = true := by simpa using hsc
                go_wp2_with fail
                go_quiet (fail)
                have HC12 : Hid (CodesAt (W11.drewN nq) B cb A n c l p11) := Lib.hid HC11.out
                have HG12 : Hid (wo.grownBy (W11.drewN nq) (some cb)) := Lib.hid (grownBy_trans HG11.out (grownBy_drewN' _ _ _))
                have OC12 : Hid ((W11.drewN nq).ownsRow wo.heap.size 58 5 (.slice (some ⟨gc, 0, none⟩) L cc) L (inV cur)) := Lib.hid OC11.out
                have OF12 : Hid ((W11.drewN nq).ownsRow (gT + 1) 61 3 (.slice (some ⟨gv, 0, none⟩) N cf) N vs) := Lib.hid OF11.out
                have KX12 : Hid (Blk (W11.drewN nq) gx 58 #[.int .i64 16, .int .i64 xa, .int .i64 xb, .int .i64 xc, .int .u64 im]) := Lib.hid HKX.out
                clear x0 x1 x2 x3 x4 xz s1 HC11 HG11 OC11 OF11 HKX
                generalize W11.drewN nq = W12 at *
                obtain ⟨-, -, -, x3, -, -, -, -, -, -, xz⟩ := KX12.out.c5
                have s1 := own_cell OF12.out HB1.out
                have HS12 : Hid (W12.drew.cell? ⟨gv, j * 3 + 1, none⟩ = some (.int .i64 sz) ∧ W12.drew.cell? ⟨gx, 3, none⟩ = some (.int .i64 xc)) := Lib.hid ⟨s1, x3⟩
                have HN2 := Lib.hid (next_d B cb A n c l p11 (sz - xc + 1) W12.drew HC12.out (by omega) (by omega))
                have hwr1 : IntKind.i64.wrap (sz - xc) = sz - xc := IntWalk.i64_in _ (by omega)
                have hwr2 : IntKind.i64.wrap (sz - xc + 1) = sz - xc + 1 := IntWalk.i64_in _ (by omega)
                go_wp2_with fail
                go_region_held3 (fun W => W.cell? ⟨gv, j * 3 + 1, none⟩ = some (.int .i64 sz) ∧ W.cell? ⟨gx, 3, none⟩ = some (.int .i64 xc))
                  (with_reducible first | exact HS12.out | exact HS13.out | exact HS14.out _)
                  ((go_at_call 44
                    (with_reducible refine HN2.out.mono ?_)
                    rintro e w13 ⟨u, p13, hu, rfl, hc13, hg13⟩
                    have HG13 : Hid (wo.grownBy w13 (some cb)) := Lib.hid (grownBy_trans (grownBy_trans HG12.out (show W12.grownBy W12.drew (some cb) from grownBy_drewN' W12 1 _)) hg13)
                    have OC13 := Lib.hid (own_farR (w := W12.drew) OC12.out hg13 (by omega))
                    have OF13 := Lib.hid (own_farR (w := W12.drew) OF12.out hg13 (by omega))
                    have KX13 := Lib.hid (Blk.grown (w := W12.drew) KX12.out hg13 (by intro e; injection e; omega))
                    have HC13 := Lib.hid hc13
                    have HU := Lib.hid hu
                    obtain ⟨-, -, -, xx3, -, -, -, -, -, -, -⟩ := KX13.out.c5
                    have ss1 := own_cell OF13.out HB1.out
                    have HS13 : Hid (w13.cell? ⟨gv, j * 3 + 1, none⟩ = some (.int .i64 sz) ∧ w13.cell? ⟨gx, 3, none⟩ = some (.int .i64 xc)) := Lib.hid ⟨ss1, xx3⟩
                    have HS14 : Hid (∀ v, (w13.setCell ⟨gc, k * 5 + 1, none⟩ v).cell? ⟨gv, j * 3 + 1, none⟩ = some (.int .i64 sz) ∧ (w13.setCell ⟨gc, k * 5 + 1, none⟩ v).cell? ⟨gx, 3, none⟩ = some (.int .i64 xc)) := Lib.hid (fun v => ⟨(World.cell?_setCell_other w13 _ _ v (fun e => by injection e; omega)).trans ss1, (World.cell?_setCell_other w13 _ _ v (fun e => by injection e; omega)).trans xx3⟩)
                    have y1 := (own_ins OC13.out hkc).2.1
                    have y1f := OC13.out.frozenAt (k * 5 + 1)
                    clear hc13 hg13 hu xx3 ss1))
                clear hwr1 hwr2
                have hst := OC13.out.stored (k * 5 + 1) (.int .i64 (u : Int))
                rw [inV_setA _ _ _ hkc] at hst
                have hcset := HCO.out.set (u := (u : Int)) hkl (by rw [← HX.out]) (by omega) (by rw [← HX.out]; simp only; have := HU.out; omega) hsz1
                have HCS := Lib.hid (CodesAt.set HC13.out (q := ⟨gc, k * 5 + 1, none⟩) (show cb ≠ gc by omega) (show B ≤ gc by have := HC13.out.2.2.2.1; omega) (.int .i64 (u : Int)))
                have HGS := Lib.hid (grownBy_set HG13.out (p := ⟨gc, k * 5 + 1, none⟩) (show wo.heap.size ≤ gc by omega) (.int .i64 (u : Int)))
                have HOS := Lib.hid hst.1
                have HCC := Lib.hid hcset
                clear hst hcset HS13 HS14 y1 y1f x3 xz s1
                go_wp2
                go_roundw
                case rel => exact ⟨k + 1, _, _, by omega, by go_num, HOS.out, HCC, HCS.out, HGS⟩
                case measure => simp [intOf]; omega
              · have hscb : decide (xc ≤ sz) = false := by simpa using hsc
                go_wp2_with fail
                go_quiet (fail)
                go_wp2
                go_roundw
                case rel => exact ⟨k + 1, cur, _, by omega, by go_num, OC11.out, HCO, HC11.out, (Lib.hid (grownBy_trans HG11.out (grownBy_drewN' _ _ _)))⟩
                case measure => simp [intOf]; omega
            · have o16b : (op == 16) = false := by rw [beq_eq_false_iff_ne]; exact o16
              go_wp2_with fail
              go_quiet (fail)
              go_wp2
              go_roundw
              case rel => exact ⟨k + 1, cur, _, by omega, by go_num, OC11.out, HCO, HC11.out, (Lib.hid (grownBy_trans HG11.out (grownBy_drewN' _ _ _)))⟩
              case measure => simp [intOf]; omega
          · have hv3 : ((v : Int) == 2) = false := by rw [beq_eq_false_iff_ne]; omega
            have OQ : Hid (w10.ownsRow (gT + 1) 61 3 (.slice (some ⟨gv, 0, none⟩) N cf) N vs) := Lib.hid (own_farR OWN.out HG10.out (by omega))
            have WQ : Hid (Wx w10 w.heap.size w10.heap.size vs T ∧ Tx w10 vs N) := Lib.hid (by
              have h1 := Wx.keepK HW.out.1 (by rw [hTl]; exact HW.out.2) (Kp.of_grown HG10.out (Nat.le_refl _) (.inl hlt0))
              rw [hTl] at h1
              exact ⟨h1.1.more (Nat.le_refl _) HG10.out.size, h1.2⟩)
            have hzq := HG10.out.size
            have hst := OQ.out.stored (j * 3 + 2) (.slice Ac L cc)
            have HRQ : Hid (Blk (w10.setCell ⟨gv, j * 3 + 2, none⟩ (.slice Ac L cc)) w.heap.size 29 #[.int .i64 0, .slice none 0 0]) := Lib.hid (Blk.far (Blk.grown HR.out HG10.out (by intro e; injection e; omega)) (show w.heap.size ≠ gv by omega) _)
            have HKQ : Hid (Blk (w10.setCell ⟨gv, j * 3 + 2, none⟩ (.slice Ac L cc)) gT 29 #[.int .i64 al, .slice At N ct]) := Lib.hid (Blk.far (Blk.grown HK.out HG10.out (by intro e; injection e; omega)) (show gT ≠ gv by omega) _)
            have HGQ : Hid (w.grownBy (w10.setCell ⟨gv, j * 3 + 2, none⟩ (.slice Ac L cc)) (some cb)) := Lib.hid (grownBy_set (grownBy_trans HG.out HG10.out) (p := ⟨gv, j * 3 + 2, none⟩) (by show w.heap.size ≤ gv; omega) _)
            have HCQ : Hid (CodesAt (w10.setCell ⟨gv, j * 3 + 2, none⟩ (.slice Ac L cc)) B cb A n c l p11) := Lib.hid (CodesAt.set hc10 (show cb ≠ gv by omega) (show B ≤ gv by have := hc10.2.2.2.1; omega) _)
            have HTI2 : Hid (TInv al ps (T.set j ⟨prm, sz, cur⟩)) := Lib.hid (by
              have h1 := HTI.out.set (j := j) (by omega) (c := cur) (by rw [← HFE.out]; simp only; rw [HLE.out]; exact HCO.out)
              rw [← HFE.out] at h1
              exact h1)
            have HWQ : Hid (Wx (w10.setCell ⟨gv, j * 3 + 2, none⟩ (.slice Ac L cc)) w.heap.size (w10.setCell ⟨gv, j * 3 + 2, none⟩ (.slice Ac L cc)).heap.size (vs.set (j * 3 + 2) (.slice Ac L cc)) (T.set j ⟨prm, sz, cur⟩) ∧ Tx (w10.setCell ⟨gv, j * 3 + 2, none⟩ (.slice Ac L cc)) (vs.set (j * 3 + 2) (.slice Ac L cc)) N) := Lib.hid (by
              have hcl := HCO.out.1
              have hnx : Nx w10 w.heap.size w10.heap.size Ac cur := by
                have h1 := Rx.of_own own10
                unfold Nx
                rw [hcl]
                exact Rx.more h1 (by omega) (Nat.le_refl _)
              have hty : TyA w10 Ac (cur).length 58 := by rw [hcl]; exact TyA.of_own own10
              have hcap := own_cap own10
              have h2 := Wx.set WQ.out.1 (by rw [hTl]; exact WQ.out.2) (by rw [hTl]; exact hvl) (j := j) (by omega) hnx hty (by rw [hcl]; exact hcap.1) (by rw [hcl]; exact hcap.2)
              rw [← HFE.out, hTl, hcl] at h2
              have hk : Kt 61 0 w10.heap.size w10 (w10.setCell ⟨gv, j * 3 + 2, none⟩ (.slice Ac L cc)) := Kt.of_own OQ.out hst.2 (Nat.le_refl _)
              have h3 := Wx.keepT (lo := w.heap.size) h2.1 (by rw [List.length_set, hTl]; exact h2.2) (Kt.less hk (Nat.zero_le _) (Nat.le_refl _)) (show 58 ≠ 61 by decide)
              rw [List.length_set, hTl] at h3
              exact ⟨h3.1.more (Nat.le_refl _) (by simp), h3.2⟩)
            have z0 := own_cell OQ.out (i := j * 3 + 2) (v := .slice Ai L ci) HV2.out
            have z1 := OQ.out.frozenAt (j * 3 + 2)
            have HOQ := Lib.hid hst.1
            clear hst
            go_wp2
            go_roundw
            case rel => exact ⟨j + 1, _, _, _, by omega, by go_num, HOQ.out, by rw [List.length_set]; exact hTl, HWQ, HTI2, HCQ.out, HGQ, HRQ, HKQ⟩
            case measure => simp [intOf]; omega
        · have hki : ¬ (k : Int) < (L : Int) := by omega
          have OQ : Hid (wr.ownsRow (gT + 1) 61 3 (.slice (some ⟨gv, 0, none⟩) N cf) N vs) := Lib.hid (own_farR OWN.out HGq.out (by omega))
          have WQ : Hid (Wx wr w.heap.size wr.heap.size vs T ∧ Tx wr vs N) := Lib.hid (by
            have h1 := Wx.keepK HW.out.1 (by rw [hTl]; exact HW.out.2) (Kp.of_grown HGq.out (Nat.le_refl _) (.inl hlt0))
            rw [hTl] at h1
            exact ⟨h1.1.more (Nat.le_refl _) HGq.out.size, h1.2⟩)
          have hzq := HGq.out.size
          have hst := OQ.out.stored (j * 3 + 2) (.slice Ac L cc)
          have HRQ : Hid (Blk (wr.setCell ⟨gv, j * 3 + 2, none⟩ (.slice Ac L cc)) w.heap.size 29 #[.int .i64 0, .slice none 0 0]) := Lib.hid (Blk.far (Blk.grown HR.out HGq.out (by intro e; injection e; omega)) (show w.heap.size ≠ gv by omega) _)
          have HKQ : Hid (Blk (wr.setCell ⟨gv, j * 3 + 2, none⟩ (.slice Ac L cc)) gT 29 #[.int .i64 al, .slice At N ct]) := Lib.hid (Blk.far (Blk.grown HK.out HGq.out (by intro e; injection e; omega)) (show gT ≠ gv by omega) _)
          have HGQ : Hid (w.grownBy (wr.setCell ⟨gv, j * 3 + 2, none⟩ (.slice Ac L cc)) (some cb)) := Lib.hid (grownBy_set (grownBy_trans HG.out HGq.out) (p := ⟨gv, j * 3 + 2, none⟩) (by show w.heap.size ≤ gv; omega) _)
          have HCQ : Hid (CodesAt (wr.setCell ⟨gv, j * 3 + 2, none⟩ (.slice Ac L cc)) B cb A n c l p10) := Lib.hid (CodesAt.set hcq (show cb ≠ gv by omega) (show B ≤ gv by have := hcq.2.2.2.1; omega) _)
          have HTI2 : Hid (TInv al ps (T.set j ⟨prm, sz, cur⟩)) := Lib.hid (by
            have h1 := HTI.out.set (j := j) (by omega) (c := cur) (by rw [← HFE.out]; simp only; rw [HLE.out]; exact HCO.out)
            rw [← HFE.out] at h1
            exact h1)
          have HWQ : Hid (Wx (wr.setCell ⟨gv, j * 3 + 2, none⟩ (.slice Ac L cc)) w.heap.size (wr.setCell ⟨gv, j * 3 + 2, none⟩ (.slice Ac L cc)).heap.size (vs.set (j * 3 + 2) (.slice Ac L cc)) (T.set j ⟨prm, sz, cur⟩) ∧ Tx (wr.setCell ⟨gv, j * 3 + 2, none⟩ (.slice Ac L cc)) (vs.set (j * 3 + 2) (.slice Ac L cc)) N) := Lib.hid (by
            have hcl := HCO.out.1
            have hnx : Nx wr w.heap.size wr.heap.size Ac cur := by
              have h1 := Rx.of_own ownc
              unfold Nx
              rw [hcl]
              exact Rx.more h1 (by omega) (Nat.le_refl _)
            have hty : TyA wr Ac (cur).length 58 := by rw [hcl]; exact TyA.of_own ownc
            have hcap := own_cap ownc
            have h2 := Wx.set WQ.out.1 (by rw [hTl]; exact WQ.out.2) (by rw [hTl]; exact hvl) (j := j) (by omega) hnx hty (by rw [hcl]; exact hcap.1) (by rw [hcl]; exact hcap.2)
            rw [← HFE.out, hTl, hcl] at h2
            have hk : Kt 61 0 wr.heap.size wr (wr.setCell ⟨gv, j * 3 + 2, none⟩ (.slice Ac L cc)) := Kt.of_own OQ.out hst.2 (Nat.le_refl _)
            have h3 := Wx.keepT (lo := w.heap.size) h2.1 (by rw [List.length_set, hTl]; exact h2.2) (Kt.less hk (Nat.zero_le _) (Nat.le_refl _)) (show 58 ≠ 61 by decide)
            rw [List.length_set, hTl] at h3
            exact ⟨h3.1.more (Nat.le_refl _) (by simp), h3.2⟩)
          have z0 := own_cell OQ.out (i := j * 3 + 2) (v := .slice Ai L ci) HV2.out
          have z1 := OQ.out.frozenAt (j * 3 + 2)
          have HOQ := Lib.hid hst.1
          clear hst
          go_wp2
          go_roundw
          case rel => exact ⟨j + 1, _, _, _, by omega, by go_num, HOQ.out, by rw [List.length_set]; exact hTl, HWQ, HTI2, HCQ.out, HGQ, HRQ, HKQ⟩
          case measure => simp [intOf]; omega
    · obtain rfl : j = N := by omega
      obtain ⟨r0, r1, rf0, rf1, rz⟩ := HR.out.c2
      obtain ⟨k0, k1, -, -, kz⟩ := HK.out.c2
      have HR5 := Lib.hid (Blk.put2 HR.out (.int .i64 al) (.slice Af j cf))
      have HRX := Lib.hid (Rx.of_own own)
      have hgw : w.heap.size ≠ gT := by omega
      have HK5 : Hid (Kp (w.heap.size + 1) wr.heap.size wr ((wr.setCell ⟨w.heap.size, 0, none⟩ (.int .i64 al)).setCell ⟨w.heap.size, 1, none⟩ (.slice Af j cf))) := Lib.hid (((Kp.refl _ _ _).set (p := ⟨w.heap.size, 0, none⟩) (.inl (Nat.lt_succ_self _)) _).set (p := ⟨w.heap.size, 1, none⟩) (.inl (Nat.lt_succ_self _)) _)
      have HG5 : Hid (w.grownBy ((wr.setCell ⟨w.heap.size, 0, none⟩ (.int .i64 al)).setCell ⟨w.heap.size, 1, none⟩ (.slice Af j cf)) (some cb)) := Lib.hid (grownBy_set (grownBy_set HG.out (p := ⟨w.heap.size, 0, none⟩) (Nat.le_refl _) _) (p := ⟨w.heap.size, 1, none⟩) (Nat.le_refl _) _)
      have HC5 : Hid (CodesAt ((wr.setCell ⟨w.heap.size, 0, none⟩ (.int .i64 al)).setCell ⟨w.heap.size, 1, none⟩ (.slice Af j cf)) B cb A n c l p9) := Lib.hid (CodesAt.set (CodesAt.set hca (q := ⟨w.heap.size, 0, none⟩) (show cb ≠ w.heap.size by omega) (show B ≤ w.heap.size by have := hca.2.2.2.1; omega) _) (q := ⟨w.heap.size, 1, none⟩) (show cb ≠ w.heap.size by omega) (show B ≤ w.heap.size by have := hca.2.2.2.1; omega) _)
      have hz9 : ((wr.setCell ⟨w.heap.size, 0, none⟩ (.int .i64 al)).setCell ⟨w.heap.size, 1, none⟩ (.slice Af j cf)).heap.size = wr.heap.size := by simp
      have HTY : Hid (Tx ((wr.setCell ⟨w.heap.size, 0, none⟩ (.int .i64 al)).setCell ⟨w.heap.size, 1, none⟩ (.slice Af j cf)) vs j ∧ Wx ((wr.setCell ⟨w.heap.size, 0, none⟩ (.int .i64 al)).setCell ⟨w.heap.size, 1, none⟩ (.slice Af j cf)) w.heap.size wr.heap.size vs T) := Lib.hid (by
        have k1 : Kt 29 w.heap.size wr.heap.size wr ((wr.setCell ⟨w.heap.size, 0, none⟩ (.int .i64 al)).setCell ⟨w.heap.size, 1, none⟩ (.slice Af j cf)) := fun b h1 h2 h3 => by
          refine HK5.out b ?_ h2
          rcases Nat.lt_or_ge w.heap.size b with h | h
          · exact h
          · obtain rfl : b = w.heap.size := by omega
            exact absurd HR.out (h3 _ _)
        have h1 := Wx.keepT HW.out.1 (by rw [hTl]; exact HW.out.2) k1 (show 58 ≠ 29 by decide)
        rw [hTl] at h1
        exact ⟨h1.2, h1.1⟩)
      clear own hca HK HG HW
      go_wp2
      clear r0 r1 rf0 rf1 rz k0 k1 kz
      generalize (wr.setCell ⟨w.heap.size, 0, none⟩ (.int .i64 al)).setCell ⟨w.heap.size, 1, none⟩ (.slice Af j cf) = Wz at *
      obtain ⟨r0, r1, -, -, rz⟩ := HR5.out.c2
      exact bodyPost_ret (v := .agg #[.int .i64 al, .slice Af j cf]) (by simp [results, Tryd.results14, go_sem, r0, r1]) rfl ⟨al, T, Af, cf, p9, by rw [hTl], HFIN.out T HTI.out, ⟨vs, by
        rw [hTl]
        exact Rx.more (Rx.keep HRX.out (Kp.less HK5.out (by omega) (Nat.le_refl _))) (by omega) (by omega), HTY.out.2.more (Nat.le_refl _) (by omega), by rw [hTl]; exact HTY.out.1⟩, by rw [hTl]; exact hcf, HC5.out, HG5.out⟩
end Go.Proofs.YtinfeglhjmnlaaaDoor.pm
