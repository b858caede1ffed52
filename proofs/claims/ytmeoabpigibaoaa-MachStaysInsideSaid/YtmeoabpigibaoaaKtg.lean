/- Contracts of the reference: ref26.Target. -/
import Derived.Test.YtmeoabpigibaoaaKtf
import Derived.Deep.RegionHeld3
import Derived.Deep.CutBlock
namespace Go.Proofs.Ytmeoabpigibaoaa.pm
open Go.RowKit
set_option linter.unusedVariables false
set_option maxRecDepth 10000

/-- the code of each frame lies in a block of instructions -/
def Tx (w : World) (vs : List Value) (n : Nat) : Prop := ∀ i, i < n → ∀ Ai m c, vs[i * 3 + 2]? = some (.slice Ai m c) → TyA w Ai m 42
section
variable {lo hi lo' hi' n : Nat} {w w' : World} {A : Option Addr} {vs : List Value} {t : List Fr}
theorem Wx.keepT {ty : TypeId} (h : Wx w lo hi vs t) (ht : Tx w vs t.length) (hk : Kt ty lo hi w w') (hne : 42 ≠ ty) : Wx w' lo hi vs t ∧ Tx w' vs t.length := by
  refine ⟨fun i hi => ?_, fun i hi Ai m c hv => ?_⟩
  · obtain ⟨Ai, ci, h1, h2, h3, h5, h6⟩ := h i hi
    exact ⟨Ai, ci, h1, h2, h3, Rx.keepT h5 (ht i hi _ _ _ h3) hk hne, h6⟩
  · obtain ⟨Ai', ci, h1, h2, h3, h5, h6⟩ := h i hi
    have hT := ht i hi _ _ _ h3
    rw [h3] at hv
    injection hv with hv
    injection hv with e1 e2 e3
    subst e1 e2 e3
    exact TyA.keepT h5 hT hk hne
theorem Wx.keepK (h : Wx w lo hi vs t) (ht : Tx w vs t.length) (hk : Kp lo hi w w') : Wx w' lo hi vs t ∧ Tx w' vs t.length := by
  refine ⟨h.keep hk, fun i hi Ai m c hv => ?_⟩
  obtain ⟨Ai', ci, h1, h2, h3, h5, h6⟩ := h i hi
  have hT := ht i hi _ _ _ h3
  rw [h3] at hv
  injection hv with hv
  injection hv with e1 e2 e3
  subst e1 e2 e3
  exact TyA.keep hT hk (Rx.inside h5)
theorem Tx.snoc (h : Tx w vs n) (hl : vs.length = n * 3) {a b : Value} {Ai : Option Addr} {m ci : Nat} (h2 : TyA w Ai m 42) : Tx w (vs ++ [a, b, .slice Ai m ci]) (n + 1) := fun i hi Ai' m' c' hv => by
  rcases Nat.lt_or_ge i n with hlt | hge
  · rw [List.getElem?_append_left (by omega)] at hv
    exact h i hlt _ _ _ hv
  · obtain rfl : i = n := by omega
    rw [List.getElem?_append_right (by omega), show i * 3 + 2 - vs.length = 2 by omega] at hv
    have e : Value.slice Ai m ci = Value.slice Ai' m' c' := by simpa using hv
    injection e with e1 e2 e3
    subst e1 e2 e3
    exact h2
end
theorem info_frm : (Try.prog.info? 35).map (fun i => (i.zero, i.size, i.bytes)) = some (some (.agg #[.int .i64 0, .int .i64 0, .slice none 0 0]), 3, 40) := by kernel_rfl
/-- a slice of frames, with their rows' types -/
def GT (w : World) (lo hi : Nat) (A : Option Addr) (t : List Fr) : Prop := ∃ vs, Rx w lo hi 3 A t.length vs ∧ Wx w lo hi vs t ∧ Tx w vs t.length
theorem GT.gx {w : World} {lo hi : Nat} {A : Option Addr} {t : List Fr} (h : GT w lo hi A t) : Gx w lo hi A t := by
  obtain ⟨vs, h1, h2, -⟩ := h
  exact ⟨vs, h1, h2⟩
theorem GT.keep {w w' : World} {lo hi : Nat} {A : Option Addr} {t : List Fr} (h : GT w lo hi A t) (hk : Kp lo hi w w') : GT w' lo hi A t := by
  obtain ⟨vs, h1, h2, h3⟩ := h
  exact ⟨vs, h1.keep hk, h2.keepK h3 hk⟩
theorem Blk.put2 {w : World} {g : Nat} {t : TypeId} {b0 b1 : Value} (h : Blk w g t #[b0, b1]) (a0 a1 : Value) :
    Blk ((w.setCell ⟨g, 0, none⟩ a0).setCell ⟨g, 1, none⟩ a1) g t #[a0, a1] := by
  have := (h.set_ 0 a0).set_ 1 a1
  simpa using this
/-- what ref26.Target answers -/
def TgtD (al : Int) (t : List Fr) (w : World) (e : Ending) (w' : World) : Prop := ∃ A c, e = .returned (.tuple #[.agg #[.int .i64 al, .slice A t.length c], .int .i64 0]) ∧ GT w' w.heap.size w'.heap.size A t ∧ t.length ≤ c ∧ t.length ≤ maxLen ∧ Below w.heap.size w w'
set_option maxHeartbeats 8000000 in
theorem target26_any (A Al : Option Addr) (p : List Fn) (cp cl m : Nat) (al : Int) (ha : AlOk al) (hp : PrOk m p) (w : World) (lo hi lo' hi' : Nat) (hf : Fx w lo hi A p) (hy : Lx w lo' hi' Al (p.map (layF p al))) (hh : hi ≤ w.heap.size) (hh' : hi' ≤ w.heap.size) (hm : p.length ≤ 1000) :
    Calls Try.prog 18 #[.agg #[.slice A p.length cp], .int .i64 al, .slice Al p.length cl] w (TgtD al (p.map (lowF p al)) w) := by
  obtain ⟨i0, hi0, hz0', hz1', hz2'⟩ := info_parts info_frm
  obtain ⟨W1, hW1⟩ : ∃ W1, W1 = (w.alloc (.cells #[.slice A p.length cp] 51)).alloc (.cells #[.int .i64 0, .slice none 0 0] 28) := ⟨_, rfl⟩
  have hB1 : Below w.heap.size w W1 := by rw [hW1]; exact Below.al (Below.al (Below.refl _ _) _) _
  have HP : Hid (Blk W1 w.heap.size 51 #[.slice A p.length cp]) := Lib.hid (by rw [hW1]; exact (Blk.new _ _ _).alloc _)
  have HR : Hid (Blk W1 (w.heap.size + 1) 28 #[.int .i64 0, .slice none 0 0]) := Lib.hid (by rw [hW1]; exact Blk.newAt (by simp))
  have HF : Hid (Fx W1 lo hi A p) := Lib.hid (hf.keep (Kp.of_below hB1 hh))
  have HL : Hid (Lx W1 lo' hi' Al (p.map (layF p al))) := Lib.hid (hy.keep (Kp.of_below hB1 hh'))
  have hhi : hi ≤ W1.heap.size := Nat.le_trans hh hB1.size
  have hhi' : hi' ≤ W1.heap.size := Nat.le_trans hh' hB1.size
  have hgR : w.heap.size + 1 < W1.heap.size := HR.out.lt
  have HB1 := Lib.hid hB1
  have HW1 := Lib.hid hW1
  have hpi : (p.length : Int) ≤ 9223372036854775807 := by omega
  clear hW1 hB1 hf hy
  obtain ⟨x0, -, xz⟩ := blk_one HP.out
  go_enter Try.func18, Try.ntmps18
  go_upto_region 1 with (fail)
  rw [← HW1.out]
  clear HW1
  go_wp2
  clear x0 xz
  go_loopw [8, 9] (fun ov v wr => ∃ (j : Nat) (vs : List Value), j ≤ p.length ∧ v = .int .i64 j ∧ wr.ownsRow W1.heap.size 35 3 ov j vs ∧ Hid (Wx wr W1.heap.size wr.heap.size vs ((p.take j).map (lowF p al)) ∧ Tx wr vs j) ∧ Hid (Kp 0 W1.heap.size W1 wr) ∧ Hid (Below w.heap.size w wr) ∧ W1.heap.size ≤ wr.heap.size) (fun _ v _ => p.length - (intOf v).toNat)
  case atStart => exact ⟨0, [], by omega, rfl, World.ownsRow_nil _ _ _ _, Lib.hid ⟨fun i hi => absurd hi (by simp), fun i hi => absurd hi (by simp)⟩, Lib.hid (Kp.refl _ _ _), HB1, Nat.le_refl _⟩
  case round =>
    obtain ⟨j, vs, hj, rfl, own, HW, HK, HB, hzr⟩ := hrel
    have hj0 : (0 : Int) ≤ (j : Int) := by omega
    obtain ⟨x0, -, xz⟩ := blk_one (Blk.kp HP.out HK.out (Nat.zero_le _) (by omega))
    have hvl := own.1
    have HVL : Hid (vs.length = ((p.take j).map (lowF p al)).length * 3) := Lib.hid (by rw [hvl, List.length_map, List.length_take]; congr 1; omega)
    clear hvl
    by_cases hlt : j < p.length
    · have hji : (j : Int) < (p.length : Int) := by omega
      have hjm : j < (p.map (layF p al)).length := by rw [List.length_map]; exact hlt
      obtain ⟨a1, Ao, co, rfl, hbl, c0, c1, c2, hix, hom, hoc⟩ := (HL.out.keep (Kp.less HK.out (Nat.zero_le _) hhi')).whole hjm
      have hgd : (p.map (layF p al)).getD j Lay.z = layF p al (p.getD j Fn.z) := by
        rw [List.getD_eq_getElem?_getD, List.getElem?_map, List.getElem?_eq_getElem hlt, List.getD_eq_getElem?_getD, List.getElem?_eq_getElem hlt]
        rfl
      rw [hgd] at c0 c1 c2 hix hom hoc
      have hok := hp.2.2.2 _ (getD_mem' (z := Fn.z) hlt)
      obtain ⟨n0, n1, n2, n3, n4, n5, n6⟩ := lay_nums hp hok ha
      have hyl : (layF p al (p.getD j Fn.z)).off.length = (p.getD j Fn.z).slots.length := offs_len _ _
      have hFr := HF.out.keep (Kp.less HK.out (Nat.zero_le _) hhi)
      have hd : Kp 0 wr.heap.size wr wr.drew := Kp.refl _ _ _
      have HSH := Lib.hid (shape_any A Ao p cp j m co al ha hlt hp wr.drew lo hi lo' hi' (hFr.keep (Kp.less hd (Nat.zero_le _) (by omega))) (hix.keep (Kp.less hd (Nat.zero_le _) (by omega))) (show hi ≤ wr.heap.size by omega) (show hi' ≤ wr.heap.size by omega) (by unfold maxLen; omega))
      have HFR := Lib.hid (fun W (hK : Kp 0 wr.heap.size wr W) (hs : wr.heap.size ≤ W.heap.size) => frame26_any A Ao p cp j m co (layF p al (p.getD j Fn.z)) hlt hp hyl (by omega) n5 W lo hi lo' hi' (hFr.keep (Kp.less hK (Nat.zero_le _) (by omega))) (hix.keep (Kp.less hK (Nat.zero_le _) (by omega))) (by omega) (by omega) (by unfold maxLen; omega))
      have HT : Hid ((p.take (j + 1)).map (lowF p al) = (p.take j).map (lowF p al) ++ [lowF p al (p.getD j Fn.z)]) := Lib.hid (by rw [take_snoc_at p Fn.z hlt, List.map_append]; rfl)
      obtain ⟨y, hy⟩ : ∃ y, y = layF p al (p.getD j Fn.z) := ⟨_, rfl⟩
      obtain ⟨fr, hfr⟩ : ∃ fr, fr = lowF p al (p.getD j Fn.z) := ⟨_, rfl⟩
      have hfe : (⟨(p.getD j Fn.z).params, (layF p al (p.getD j Fn.z)).size, (p.getD j Fn.z).code.map (lowI (p.getD j Fn.z).slots (layF p al (p.getD j Fn.z)))⟩ : Fr) = lowF p al (p.getD j Fn.z) := rfl
      rw [hfe, ← hfr] at HFR
      rw [← hfr] at HT
      rw [← hy] at c0 c1 c2 HSH HFR
      obtain ⟨l, hl⟩ : ∃ l, l = y.off.length := ⟨_, rfl⟩
      obtain ⟨ya, ys, yo⟩ := y
      simp only at c0 c1 c2 HSH HFR hl
      rw [← hl] at c2 HSH HFR
      have OWN := Lib.hid own
      have hbl2 : (a1.add (j * 3)).block < wr.heap.size := by rw [block_of_add]; omega
      have HS : Hid (∀ W, Kp 0 wr.heap.size wr W → W.cell? ⟨w.heap.size, 0, none⟩ = some (.slice A p.length cp) ∧ W.cell? (a1.add (j * 3)) = some (.int .i64 ya) ∧ W.cell? ⟨(a1.add (j * 3)).block, (a1.add (j * 3)).off + 1, none⟩ = some (.int .i64 ys) ∧ W.cell? ⟨(a1.add (j * 3)).block, (a1.add (j * 3)).off + 2, none⟩ = some (.slice Ao l co)) := Lib.hid (fun W hW => ⟨hW.cell (Nat.zero_le _) xz x0, hW.cell (Nat.zero_le _) hbl2 c0, hW.cell (Nat.zero_le _) hbl2 c1, hW.cell (Nat.zero_le _) hbl2 c2⟩)
      have K0 : Hid (Kp 0 wr.heap.size wr wr.drew) := Lib.hid (Kp.refl _ _ _)
      clear own hix hom hoc hgd hok n0 n1 n2 n3 n4 n5 n6 hyl hFr hd hy hfr hfe hl
      go_wp2_with fail
      go_region_held3 (fun W => W.cell? ⟨w.heap.size, 0, none⟩ = some (.slice A p.length cp) ∧ W.cell? (a1.add (j * 3)) = some (.int .i64 ya) ∧ W.cell? ⟨(a1.add (j * 3)).block, (a1.add (j * 3)).off + 1, none⟩ = some (.int .i64 ys) ∧ W.cell? ⟨(a1.add (j * 3)).block, (a1.add (j * 3)).off + 2, none⟩ = some (.slice Ao l co))
        (first | exact HS.out _ K0.out | exact HS.out _ K1.out)
        ((go_at_call 30
          refine HSH.out.mono ?_
          rintro e w5 ⟨rfl, bel5⟩
          have K1 : Hid (Kp 0 wr.heap.size wr w5) := Lib.hid (Kp.of_below (w := wr.drew) bel5 (Nat.le_refl _))
          have B1 : Hid (Below wr.heap.size wr w5) := Lib.hid (((Below.refl wr.heap.size wr).drew).trans bel5)
          clear bel5))
      clear x0 xz c0 c1 c2
      obtain ⟨e0, e1, e2, e3⟩ := HS.out _ K1.out
      have hz5 := B1.out.size
      have HFR5 := Lib.hid (HFR.out w5.drew K1.out hz5)
      have K5 : Hid (Kp 0 w5.heap.size w5 w5.drew) := Lib.hid (Kp.refl _ _ _)
      have O5 := Lib.hid (own_keep OWN.out B1.out (Nat.le_refl _))
      have HW5 : Hid (Wx w5 W1.heap.size w5.heap.size vs ((p.take j).map (lowF p al)) ∧ Tx w5 vs j) := Lib.hid (by
        have hlen : ((p.take j).map (lowF p al)).length = j := by rw [List.length_map, List.length_take]; omega
        have h1 := Wx.keepK HW.out.1 (by rw [hlen]; exact HW.out.2) (Kp.less K1.out (Nat.zero_le _) (Nat.le_refl _))
        rw [hlen] at h1
        exact ⟨h1.1.more (Nat.le_refl _) hz5, h1.2⟩)
      have HK5 : Hid (Kp 0 W1.heap.size W1 w5) := Lib.hid (HK.out.trans (Kp.less K1.out (Nat.le_refl _) hzr))
      have HB5 : Hid (Below w.heap.size w w5) := Lib.hid (HB.out.trans (B1.out.mono HB.out.size))
      clear HSH HFR HS OWN HW HK HB K0 K1 B1
      have HS5 : Hid (∀ W, Kp 0 W1.heap.size w5 W → W.cell? ⟨w.heap.size, 0, none⟩ = some (.slice A p.length cp) ∧ W.cell? (a1.add (j * 3)) = some (.int .i64 ya) ∧ W.cell? ⟨(a1.add (j * 3)).block, (a1.add (j * 3)).off + 1, none⟩ = some (.int .i64 ys) ∧ W.cell? ⟨(a1.add (j * 3)).block, (a1.add (j * 3)).off + 2, none⟩ = some (.slice Ao l co)) := Lib.hid (fun W hW => by
        have hb3 : (a1.add (j * 3)).block < W1.heap.size := by rw [block_of_add]; omega
        exact ⟨hW.cell (Nat.zero_le _) (show w.heap.size < _ by omega) e0, hW.cell (Nat.zero_le _) hb3 e1, hW.cell (Nat.zero_le _) hb3 e2, hW.cell (Nat.zero_le _) hb3 e3⟩)
      have hz15 : W1.heap.size ≤ w5.heap.size := by omega
      clear e0 e1 e2 e3
      go_wp2_with fail
      obtain ⟨fp, fs, fc⟩ := fr
      go_region_held3 (fun W => W.cell? ⟨w.heap.size, 0, none⟩ = some (.slice A p.length cp) ∧ W.cell? (a1.add (j * 3)) = some (.int .i64 ya) ∧ W.cell? ⟨(a1.add (j * 3)).block, (a1.add (j * 3)).off + 1, none⟩ = some (.int .i64 ys) ∧ W.cell? ⟨(a1.add (j * 3)).block, (a1.add (j * 3)).off + 2, none⟩ = some (.slice Ao l co))
        (first | exact HS5.out _ (Kp.less K5.out (Nat.le_refl _) hz15) | exact HS5.out _ (Kp.less K6.out (Nat.le_refl _) hz15) | exact HS5.out _ (Kp.less (Kp.alloc K6.out hz6 _) (Nat.le_refl _) hz15) | exact HS5.out _ K7W.out)
        (first
          | (go_at_call 31
             refine HFR5.out.mono ?_
             rintro e w6 ⟨Ac, cc, rfl, ⟨hnx, hty⟩, hcc, hcm, bel6⟩
             simp only at hnx hty hcc hcm
             have N6 := Lib.hid (And.intro hnx hty)
             have hz6 : w5.heap.size ≤ w6.heap.size := bel6.size
             have K6 : Hid (Kp 0 w5.heap.size w5 w6) := Lib.hid (Kp.of_below (w := w5.drew) bel6 (Nat.le_refl _))
             have B6 : Hid (Below w5.heap.size w5 w6) := Lib.hid (((Below.refl w5.heap.size w5).drew).trans bel6)
             have O6 := Lib.hid (own_keep O5.out B6.out (Nat.le_refl _))
             clear hnx hty bel6)
          | (refine step_append_any _ rfl (.tmp 33) (.tmp 41) _ rfl W1.heap.size 35 i0 _ 3 40 Try.underlying26 hi0 hz0' hz1' hz2' rfl (by omega) _ j vs rfl (O6.out.alloc _) (w6.heap.size + 1) (some ⟨w6.heap.size, 0, none⟩) 1 1 [.int .i64 fp, .int .i64 fs, .slice Ac fc.length cc] rfl (reads_new (size := 3) (n := 1) rfl) (three_one _ _ _ _ _) (by unfold maxLen; omega) (by omega) (by simp; omega) ?_
             intro v2 w7 own2 hg2 hat2
             have K6A : Hid (Kp 0 w6.heap.size w6 (w6.alloc (.cells #[.int .i64 fp, .int .i64 fs, .slice Ac fc.length cc] 35))) := Lib.hid (Kp.alloc (Kp.refl _ _ _) (Nat.le_refl _) _)
             have KT : Hid (Kt 35 W1.heap.size w6.heap.size w6 w7) := Lib.hid ((Kt.of_kp (Kp.less K6A.out (Nat.zero_le _) (Nat.le_refl _))).trans (Kt.of_own (O6.out.alloc _) hg2 (by simp)))
             have K7W : Hid (Kp 0 W1.heap.size w5 w7) := Lib.hid (((Kp.less K6.out (Nat.le_refl _) (by omega)).trans (Kp.less K6A.out (Nat.le_refl _) (by omega))).trans (Kp.of_own (O6.out.alloc _) hg2 (Nat.le_refl _) (by simp; omega)))
             have B7 : Hid (Below w.heap.size w w7) := Lib.hid ((Below.al (HB5.out.trans (B6.out.mono HB5.out.size)) _).grown hg2 (by have := HB5.out.size; have := B6.out.size; simp; omega) (fun k hk => by have := (O6.out.lt k hk).1; omega))
             have hz7 := hg2.size))
      have hlen : ((p.take j).map (lowF p al)).length = j := by rw [List.length_map, List.length_take]; omega
      have hz7' : w6.heap.size ≤ w7.heap.size := by simp at hz7; omega
      have HW7 : Hid (Wx w7 W1.heap.size w7.heap.size (vs ++ [.int .i64 fp, .int .i64 fs, .slice Ac fc.length cc]) ((p.take (j + 1)).map (lowF p al)) ∧ Tx w7 (vs ++ [.int .i64 fp, .int .i64 fs, .slice Ac fc.length cc]) (j + 1)) := Lib.hid (by
        have h1 := Wx.keepK HW5.out.1 (by rw [hlen]; exact HW5.out.2) (Kp.less K6.out (Nat.zero_le _) (Nat.le_refl _))
        have h2 := Wx.keepT (h1.1.more (Nat.le_refl _) hz6) h1.2 KT.out (by decide)
        rw [hlen] at h2
        have KT' : Kt 35 w5.heap.size w6.heap.size w6 w7 := Kt.less KT.out hz15 (Nat.le_refl _)
        have hn7 : Nx w7 W1.heap.size w7.heap.size Ac fc := Nx.more (Rx.keepT (ty := 42) N6.out.1 N6.out.2 KT' (by decide)) hz15 hz7'
        have ht7 := TyA.keepT N6.out.1 N6.out.2 KT' (show 42 ≠ 35 by decide)
        rw [HT.out]
        refine ⟨Wx.snoc (h2.1.more (Nat.le_refl _) hz7') HVL.out (f := ⟨fp, fs, fc⟩) hn7 ⟨hcm, hcc⟩, Tx.snoc h2.2 (by rw [HVL.out, hlen]) ht7⟩)
      clear O6 hg2 hat2 N6 HFR5 HS5 K6A KT
      go_wp2
      go_roundw
      case rel => exact ⟨j + 1, _, by omega, by go_num, own2, HW7, Lib.hid (HK5.out.trans K7W.out), B7, by omega⟩
      case measure => simp [intOf]; omega
    · obtain rfl : j = p.length := by omega
      rw [List.take_length] at HW HVL
      obtain ⟨At, ct, rfl, -⟩ := own_form own
      have hcc := own_cap own
      have HRX := Lib.hid (Rx.of_own own)
      have HKR : Hid (Blk wr (w.heap.size + 1) 28 #[.int .i64 0, .slice none 0 0]) := Lib.hid (Blk.kp HR.out HK.out (Nat.zero_le _) hgR)
      obtain ⟨r0, r1, rf0, rf1, rz⟩ := HKR.out.c2
      have HR5 := Lib.hid (Blk.put2 HKR.out (.int .i64 al) (.slice At p.length ct))
      have hle : w.heap.size ≤ w.heap.size + 1 := by omega
      have HB5 : Hid (Below w.heap.size w ((wr.setCell ⟨w.heap.size + 1, 0, none⟩ (.int .i64 al)).setCell ⟨w.heap.size + 1, 1, none⟩ (.slice At p.length ct))) := Lib.hid ((HB.out.setCell (p := ⟨w.heap.size + 1, 0, none⟩) hle _).setCell (p := ⟨w.heap.size + 1, 1, none⟩) hle _)
      have HK5 : Hid (Kp W1.heap.size wr.heap.size wr ((wr.setCell ⟨w.heap.size + 1, 0, none⟩ (.int .i64 al)).setCell ⟨w.heap.size + 1, 1, none⟩ (.slice At p.length ct))) := Lib.hid (((Kp.refl _ _ _).set (p := ⟨w.heap.size + 1, 0, none⟩) (.inl hgR) _).set (p := ⟨w.heap.size + 1, 1, none⟩) (.inl hgR) _)
      have hz9 : ((wr.setCell ⟨w.heap.size + 1, 0, none⟩ (.int .i64 al)).setCell ⟨w.heap.size + 1, 1, none⟩ (.slice At p.length ct)).heap.size = wr.heap.size := by simp
      clear own
      go_wp2
      clear r0 r1 rf0 rf1 rz x0 xz
      generalize (wr.setCell ⟨w.heap.size + 1, 0, none⟩ (.int .i64 al)).setCell ⟨w.heap.size + 1, 1, none⟩ (.slice At p.length ct) = Wz at *
      obtain ⟨r0, r1, -, -, rz⟩ := HR5.out.c2
      have hlm : (p.map (lowF p al)).length = p.length := List.length_map ..
      exact bodyPost_ret (v := .tuple #[.agg #[.int .i64 al, .slice At p.length ct], .int .i64 0]) (by simp [results, Try.results18, go_sem, r0, r1]) rfl ⟨At, ct, by rw [hlm], by
        have h1 := Wx.keepK HW.out.1 (by rw [hlm]; exact HW.out.2) HK5.out
        refine ⟨vs, ?_, ?_, h1.2⟩
        · rw [hlm]; exact Rx.more (Rx.keep HRX.out HK5.out) (by omega) (by omega)
        · exact h1.1.more (by omega) (by omega), by rw [hlm]; exact hcc.2, by rw [hlm]; exact hcc.1, HB5.out⟩
end Go.Proofs.Ytmeoabpigibaoaa.pm
