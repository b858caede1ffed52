/- Contracts of the reference: Baselines. -/
import Derived.Test.YtmeoabpigibaoaaKtd
import Derived.Deep.CutBlock
namespace Go.Proofs.Ytmeoabpigibaoaa.pm
open Go.RowKit
set_option linter.unusedVariables false
set_option maxRecDepth 10000

/-- what the cells of a row of layouts say -/
def Yx (w : World) (lo hi : Nat) (vs : List Value) (ys : List Lay) : Prop :=
  ∀ i, i < ys.length → ∃ Ai ci, vs[i * 3]? = some (.int .i64 (ys.getD i Lay.z).args) ∧ vs[i * 3 + 1]? = some (.int .i64 (ys.getD i Lay.z).size) ∧ vs[i * 3 + 2]? = some (.slice Ai (ys.getD i Lay.z).off.length ci) ∧
    (Ix w lo hi Ai (ys.getD i Lay.z).off ∧ TyA w Ai (ys.getD i Lay.z).off.length 3) ∧ (ys.getD i Lay.z).off.length ≤ maxLen ∧ (ys.getD i Lay.z).off.length ≤ ci
/-- a slice of layouts -/
def Lx (w : World) (lo hi : Nat) (A : Option Addr) (ys : List Lay) : Prop := ∃ vs, Rx w lo hi 3 A ys.length vs ∧ Yx w lo hi vs ys
section
variable {lo hi lo' hi' : Nat} {w w' : World} {A : Option Addr} {k : Nat} {vs : List Value} {ys : List Lay}
theorem Yx.keep (h : Yx w lo hi vs ys) (hk : Kp lo hi w w') : Yx w' lo hi vs ys := fun i hi => by
  obtain ⟨Ai, ci, h1, h2, h3, ⟨h4, h4'⟩, h5⟩ := h i hi
  exact ⟨Ai, ci, h1, h2, h3, ⟨h4.keep hk, h4'.keep hk h4.inside⟩, h5⟩
theorem Yx.keepT {t : TypeId} (h : Yx w lo hi vs ys) (hk : Kt t lo hi w w') (hne : 3 ≠ t) : Yx w' lo hi vs ys := fun i hi => by
  obtain ⟨Ai, ci, h1, h2, h3, ⟨h4, h4'⟩, h5⟩ := h i hi
  exact ⟨Ai, ci, h1, h2, h3, ⟨h4.keepT h4' hk hne, TyA.keepT h4 h4' hk hne⟩, h5⟩
theorem Yx.more (h : Yx w lo hi vs ys) (hl : lo' ≤ lo) (hh : hi ≤ hi') : Yx w lo' hi' vs ys := fun i hi => by
  obtain ⟨Ai, ci, h1, h2, h3, ⟨h4, h4'⟩, h5⟩ := h i hi
  exact ⟨Ai, ci, h1, h2, h3, ⟨h4.more hl hh, h4'⟩, h5⟩
theorem Lx.keep (h : Lx w lo hi A ys) (hk : Kp lo hi w w') : Lx w' lo hi A ys := by
  obtain ⟨vs, h1, h2⟩ := h
  exact ⟨vs, h1.keep hk, h2.keep hk⟩
theorem Yx.snoc (h : Yx w lo hi vs ys) (hl : vs.length = ys.length * 3) {y : Lay} {Ai : Option Addr} {ci : Nat} (h2 : Ix w lo hi Ai y.off ∧ TyA w Ai y.off.length 3) (h4 : y.off.length ≤ maxLen ∧ y.off.length ≤ ci) :
    Yx w lo hi (vs ++ [.int .i64 y.args, .int .i64 y.size, .slice Ai y.off.length ci]) (ys ++ [y]) := fun i hi => by
  rw [List.length_append] at hi
  rcases Nat.lt_or_ge i ys.length with hlt | hge
  · obtain ⟨Ai', ci', q1, q2, q3, q4⟩ := h i hlt
    have e : (ys ++ [y]).getD i Lay.z = ys.getD i Lay.z := by rw [List.getD_eq_getElem?_getD, List.getD_eq_getElem?_getD, List.getElem?_append_left hlt]
    rw [e]
    exact ⟨Ai', ci', by rw [List.getElem?_append_left (by omega)]; exact q1, by rw [List.getElem?_append_left (by omega)]; exact q2, by rw [List.getElem?_append_left (by omega)]; exact q3, q4⟩
  · obtain rfl : i = ys.length := by simp at hi; omega
    have e : (ys ++ [y]).getD ys.length Lay.z = y := by simp
    rw [e]
    refine ⟨Ai, ci, ?_, ?_, ?_, h2, h4⟩
    · rw [List.getElem?_append_right (by omega), show ys.length * 3 - vs.length = 0 by omega]; rfl
    · rw [List.getElem?_append_right (by omega), show ys.length * 3 + 1 - vs.length = 1 by omega]; rfl
    · rw [List.getElem?_append_right (by omega), show ys.length * 3 + 2 - vs.length = 2 by omega]; rfl
/-- the cells of the k-th layout -/
theorem Lx.whole (h : Lx w lo hi A ys) (hk : k < ys.length) : ∃ ad Ai ci, A = some ad ∧ ad.block < hi ∧ w.cell? (ad.add (k * 3)) = some (.int .i64 (ys.getD k Lay.z).args) ∧ w.cell? ⟨(ad.add (k * 3)).block, (ad.add (k * 3)).off + 1, none⟩ = some (.int .i64 (ys.getD k Lay.z).size) ∧ w.cell? ⟨(ad.add (k * 3)).block, (ad.add (k * 3)).off + 2, none⟩ = some (.slice Ai (ys.getD k Lay.z).off.length ci) ∧
    Ix w lo hi Ai (ys.getD k Lay.z).off ∧ (ys.getD k Lay.z).off.length ≤ maxLen ∧ (ys.getD k Lay.z).off.length ≤ ci := by
  obtain ⟨vs, hr, hv⟩ := h
  obtain ⟨ad, e, hb, hc⟩ := hr.1.2 (by omega)
  obtain ⟨Ai, ci, h1, h2, h3, ⟨h4, -⟩, h5⟩ := hv k hk
  have c1 : w.cell? ((ad.add (k * 3)).add 1) = some (.int .i64 (ys.getD k Lay.z).size) := by rw [add_of_add]; exact hc _ _ h2
  have c2 : w.cell? ((ad.add (k * 3)).add 2) = some (.slice Ai (ys.getD k Lay.z).off.length ci) := by rw [add_of_add]; exact hc _ _ h3
  refine ⟨ad, Ai, ci, e, hb, hc _ _ h1, ?_, ?_, h4, h5⟩
  · rw [← add_pos _ 1 (by omega)]; exact c1
  · rw [← add_pos _ 2 (by omega)]; exact c2
end
theorem info_lay : (Try.prog.info? 74).map (fun i => (i.zero, i.size, i.bytes)) = some (some (.agg #[.int .i64 0, .int .i64 0, .slice none 0 0]), 3, 40) := by kernel_rfl
theorem three_one (a b : Int) (A : Option Addr) (n c : Nat) : ∀ u ∈ [Value.int .i64 a, .int .i64 b, .slice A n c], u.oneCell' = true := by
  intro u hu
  simp only [List.mem_cons, List.mem_nil_iff, or_false] at hu
  rcases hu with rfl | rfl | rfl <;> rfl
/-- what Baselines answers -/
def BlsD (ys : List Lay) (w : World) (e : Ending) (w' : World) : Prop := ∃ A c, e = .returned (.tuple #[.slice A ys.length c, .int .i64 0]) ∧ Lx w' w.heap.size w'.heap.size A ys ∧ ys.length ≤ c ∧ ys.length ≤ maxLen ∧ Below w.heap.size w w'
set_option maxHeartbeats 4000000 in
theorem baselines_any (A : Option Addr) (p : List Fn) (cp m : Nat) (al : Int) (ha : AlOk al) (hp : PrOk m p) (w : World) (lo hi : Nat) (hf : Fx w lo hi A p) (hh : hi ≤ w.heap.size) (hm : p.length ≤ 1000) :
    Calls Try.prog 17 #[.agg #[.slice A p.length cp], .int .i64 al] w (BlsD (p.map (layF p al)) w) := by
  obtain ⟨i0, hi0, hz0, hz1, hz2⟩ := info_parts info_lay
  obtain ⟨W1, hW1⟩ : ∃ W1, W1 = w.alloc (.cells #[.slice A p.length cp] 51) := ⟨_, rfl⟩
  have hB1 : Below w.heap.size w W1 := by rw [hW1]; exact Below.al (Below.refl _ _) _
  have HP : Hid (Blk W1 w.heap.size 51 #[.slice A p.length cp]) := Lib.hid (by rw [hW1]; exact Blk.new _ _ _)
  have HF : Hid (Fx W1 lo hi A p) := Lib.hid (hf.keep (Kp.of_below hB1 hh))
  have hhi : hi ≤ W1.heap.size := Nat.le_trans hh hB1.size
  have hgP : w.heap.size < W1.heap.size := HP.out.lt
  have HB1 := Lib.hid hB1
  have HW1 := Lib.hid hW1
  have hpi : (p.length : Int) ≤ 9223372036854775807 := by omega
  clear hW1 hB1 hf
  obtain ⟨x0, -, xz⟩ := blk_one HP.out
  go_enter Try.func17, Try.ntmps17
  go_upto_region 1 with (fail)
  rw [← HW1.out]
  clear HW1
  go_wp2
  clear x0 xz
  go_loopw [6, 7] (fun ov v wr => ∃ (j : Nat) (vs : List Value), j ≤ p.length ∧ v = .int .i64 j ∧ wr.ownsRow W1.heap.size 74 3 ov j vs ∧ Hid (Yx wr W1.heap.size wr.heap.size vs ((p.take j).map (layF p al))) ∧ Hid (Kp 0 W1.heap.size W1 wr) ∧ Hid (Below w.heap.size w wr) ∧ W1.heap.size ≤ wr.heap.size) (fun _ v _ => p.length - (intOf v).toNat)
  case atStart => exact ⟨0, [], by omega, rfl, World.ownsRow_nil _ _ _ _, Lib.hid (fun i hi => absurd hi (by simp)), Lib.hid (Kp.refl _ _ _), HB1, Nat.le_refl _⟩
  case round =>
    obtain ⟨j, vs, hj, rfl, own, HY, HK, HB, hzr⟩ := hrel
    have hj0 : (0 : Int) ≤ (j : Int) := by omega
    obtain ⟨x0, -, xz⟩ := blk_one (Blk.kp HP.out HK.out (Nat.zero_le _) hgP)
    have hvl := own.1
    have HVL : Hid (vs.length = ((p.take j).map (layF p al)).length * 3) := Lib.hid (by rw [hvl, List.length_map, List.length_take]; congr 1; omega)
    clear hvl
    by_cases hlt : j < p.length
    · have hji : (j : Int) < (p.length : Int) := by omega
      have HBL := Lib.hid (baseline_any A p cp j m al ha hlt hp wr lo hi (HF.out.keep (Kp.less HK.out (Nat.zero_le _) hhi)) (by omega) (by unfold maxLen; omega))
      have HT : Hid ((p.take (j + 1)).map (layF p al) = (p.take j).map (layF p al) ++ [layF p al (p.getD j Fn.z)]) := Lib.hid (by rw [take_snoc_at p Fn.z hlt, List.map_append]; rfl)
      obtain ⟨y, hy⟩ : ∃ y, y = layF p al (p.getD j Fn.z) := ⟨_, rfl⟩
      rw [← hy] at HBL HT
      clear hy
      have OWN := Lib.hid own
      clear own
      go_wp2_with fail
      refine HBL.out.mono ?_
      rintro e w5 ⟨Ao, co, rfl, ⟨hix, hty⟩, hco, hom, bel⟩
      have HI5 := Lib.hid (And.intro hix hty)
      have HK5 : Hid (Kp 0 wr.heap.size wr w5) := Lib.hid (Kp.of_below bel (Nat.le_refl _))
      have HB5 : Hid (Below w.heap.size w w5) := Lib.hid (HB.out.trans (bel.mono HB.out.size))
      have O5 := Lib.hid (own_keep OWN.out bel (Nat.le_refl _))
      have hz5 := bel.size
      clear hix hty bel x0 xz HBL
      go_upto_region 8 with (fail)
      obtain ⟨ya, ys, yo⟩ := y
      simp only at hco hom HI5
      have own6 := (O5.out.alloc (.cells #[.int .i64 ya, .int .i64 ys, .slice Ao yo.length co] 74))
      go_wp2_with (at_builtin
                   refine wpList_append_any _ rfl (.tmp 27) (.tmp 29) _ rfl W1.heap.size 74 i0 _ 3 40 Try.underlying54 hi0 hz0 hz1 hz2 rfl (by omega) _ j vs rfl (own6.alloc _) (w5.heap.size + 1 + 1) (some ⟨w5.heap.size + 1, 0, none⟩) 1 1 [.int .i64 ya, .int .i64 ys, .slice Ao yo.length co] rfl (by have := reads_new (w := w5.alloc (.cells #[.int .i64 ya, .int .i64 ys, .slice Ao yo.length co] 74)) (size := 3) (n := 1) (t := 74) (cs := [.int .i64 ya, .int .i64 ys, .slice Ao yo.length co]) rfl; simpa using this) (three_one _ _ _ _ _) (by unfold maxLen; omega) (by omega) (by simp; omega) ?_
                   intro v2 w7 own2 hg2 hat2)
      have K5A : Kp 0 w5.heap.size w5 ((w5.alloc (.cells #[.int .i64 ya, .int .i64 ys, .slice Ao yo.length co] 74)).alloc (.cells #[.int .i64 ya, .int .i64 ys, .slice Ao yo.length co] 74)) := Kp.alloc (Kp.alloc (Kp.refl _ _ _) (Nat.le_refl _) _) (by simp) _
      have KT : Kt 74 W1.heap.size w5.heap.size w5 w7 := (Kt.of_kp (Kp.less K5A (Nat.zero_le _) (Nat.le_refl _))).trans (Kt.of_own (own6.alloc _) hg2 (by simp; omega))
      have hz7 := hg2.size
      simp at hz7
      have HY7 : Hid (Yx w7 W1.heap.size w7.heap.size (vs ++ [.int .i64 ya, .int .i64 ys, .slice Ao yo.length co]) ((p.take (j + 1)).map (layF p al))) := Lib.hid (by
        rw [HT.out]
        refine Yx.snoc ?_ HVL.out (y := ⟨ya, ys, yo⟩) ?_ ⟨hom, hco⟩
        · exact Yx.more (Yx.keepT (Yx.more (Yx.keep HY.out (Kp.less HK5.out (Nat.zero_le _) (Nat.le_refl _))) (Nat.le_refl _) hz5) KT (by decide)) (Nat.le_refl _) (by omega)
        · have KT' : Kt 74 wr.heap.size w5.heap.size w5 w7 := Kt.less KT hzr (Nat.le_refl _)
          exact ⟨Ix.more (Rx.keepT HI5.out.1 HI5.out.2 KT' (by decide)) hzr (by omega), TyA.keepT HI5.out.1 HI5.out.2 KT' (by decide)⟩)
      have HK7 : Hid (Kp 0 W1.heap.size W1 w7) := Lib.hid (((HK.out.trans (Kp.less HK5.out (Nat.le_refl _) hzr)).trans (Kp.less K5A (Nat.le_refl _) (by omega))).trans (Kp.of_own (own6.alloc _) hg2 (Nat.le_refl _) (by simp; omega)))
      have HB7 : Hid (Below w.heap.size w w7) := Lib.hid ((Below.al (Below.al HB5.out _) _).grown hg2 (by have := HB5.out.size; simp; omega) (fun k hk => by have := (own6.lt k hk).1; omega))
      clear own6 hg2 hat2 K5A KT O5 HI5
      go_roundw
      case rel => exact ⟨j + 1, _, by omega, by go_num, own2, HY7, HK7, HB7, by omega⟩
      case measure => simp [intOf]; omega
    · obtain rfl : j = p.length := by omega
      rw [List.take_length] at HY HVL
      obtain ⟨Al, cl, rfl, -⟩ := own_form own
      have hcc := own_cap own
      have HRX := Lib.hid (Rx.of_own own)
      clear own
      go_wp2
      go_ret2
      exact ⟨Al, cl, by rw [List.length_map]; rfl, ⟨vs, by rw [List.length_map]; exact Rx.more HRX.out (by omega) (Nat.le_refl _), Yx.more HY.out (by omega) (Nat.le_refl _)⟩, by rw [List.length_map]; exact hcc.2, by rw [List.length_map]; exact hcc.1, HB.out⟩
end Go.Proofs.Ytmeoabpigibaoaa.pm
