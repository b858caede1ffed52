/- SirLimits: the walk of the law. -/
import Derived.Test.YtbnnkcndhljidaaDoorLimP
import Derived.Deep.CutBlock
namespace Go.Proofs.YtbnnkcndhljidaaDoor.pm
open Go.RowKit
set_option linter.unusedVariables false
set_option maxRecDepth 10000

theorem awake5 (w : World) : Calls Tryd.prog 5 #[] w fun e w' => e = .returned (.bool true) ∧ w = w' := by
  go_enter Tryd.func5, Tryd.ntmps5
  go_wp2_with fail
  refine (term_any _ _).mono ?_
  rintro e w1 ⟨rfl, rfl⟩
  go_wp2
  go_ret
  exact ⟨ret_bool (by decide), rfl⟩
theorem own_ne' {w : World} {b b' n m c s s' g : Nat} {e1 e2 : TypeId} {v1 : Value} {xs ys : List Value} (h1 : w.ownsRow b e1 s v1 n xs) (h2 : w.ownsRow b' e2 s' (.slice (some ⟨g, 0, none⟩) m c) m ys) (hne : e1 ≠ e2) : ∀ j, v1.ownBlock = some j → j ≠ g := fun j e e2 => by
  rcases own_two' h1 h2 hne with h | h
  · rw [h] at e; cases e
  · exact h (e.trans (by rw [e2]; rfl))
def lenAt (w : World) (g : Nat) : Nat := match w.cell? ⟨g, 0, none⟩ with
  | some (.slice _ n _) => n
  | _ => 0
set_option maxHeartbeats 4000000 in
theorem lim_law (x : Int) (h0 : -128 ≤ x) (h1 : x ≤ 127) (u : Nat) (hu : u < 256) (w : World) (hT : Tb w) :
    Calls Tryd.prog 3 #[.int .i8 x, .int .u8 u] w fun e w' => e = .returned (.bool true) ∧ Below w.heap.size w w' := by
  obtain ⟨i0, hi0, hz0, hz1, hz2⟩ := info_parts info_ins
  obtain ⟨i1, hi1, hy0, hy1, hy2⟩ := info_parts info_fn
  have HT := Lib.hid hT
  clear hT
  have hx1 : IntKind.i64.wrap x = x := IntWalk.i64_in _ (by omega)
  go_enter Tryd.func3, Tryd.ntmps3
  go_wp2_with fail
  refine (awake5 _).mono ?_
  rintro e w1 ⟨rfl, rfl⟩
  go_upto_block 0 with (fail)
  obtain ⟨d, hd⟩ : ∃ d, d = x.tmod 2 := ⟨_, rfl⟩
  have t1 := Int.tmod_lt_of_pos x (show (0 : Int) < 2 by omega)
  have t2 := Int.lt_tmod_of_pos x (show (0 : Int) < 2 by omega)
  have hd1 : -1 ≤ d ∧ d ≤ 1 := by rw [hd]; omega
  clear t1 t2
  obtain ⟨d1, d2⟩ := hd1
  obtain ⟨r, hr⟩ : ∃ r : Nat, r = u % 3 := ⟨_, rfl⟩
  have hr3 : r < 3 := by omega
  rw [← hd, show ((u : Int) % 3) = (r : Int) by omega]
  obtain ⟨W4, hW4⟩ : ∃ W4, W4 = ((w.alloc (.cells #[.int .i64 23, .int .i64 0, .int .i64 0, .int .i64 0, .int .u64 0] 26)).alloc (.cells #[.int .i64 0, .slice none 0 0, .slice (some ⟨w.heap.size, 0, none⟩) 1 1, .int .i64 0, .slice none 0 0, .slice (some ⟨w.heap.size, 0, none⟩) 1 1] 30)).alloc (.cells #[.slice (some ⟨w.heap.size + 1, 0, none⟩) 2 2] 33) := ⟨_, rfl⟩
  rw [← hW4]
  have HOE : Hid (W4.ownsRow w.heap.size 26 5 (.slice (some ⟨w.heap.size, 0, none⟩) 1 1) 1 (inV [rt])) := Lib.hid (by rw [hW4]; exact ((World.ownsRow_lit (base := w.heap.size) (e := 26) (size := 5) w #[.int .i64 23, .int .i64 0, .int .i64 0, .int .i64 0, .int .u64 0] 1 (Nat.le_refl _) (by unfold maxLen; omega) rfl).alloc _).alloc _)
  have HOR : Hid (W4.ownsRow w.heap.size 30 3 (.slice (some ⟨w.heap.size + 1, 0, none⟩) 2 2) 2 (frow (some ⟨w.heap.size, 0, none⟩) 2)) := Lib.hid (by
    rw [hW4]
    have h := (World.ownsRow_lit (base := w.heap.size) (e := 30) (size := 3) (w.alloc (.cells #[.int .i64 23, .int .i64 0, .int .i64 0, .int .i64 0, .int .u64 0] 26)) #[.int .i64 0, .slice none 0 0, .slice (some ⟨w.heap.size, 0, none⟩) 1 1, .int .i64 0, .slice none 0 0, .slice (some ⟨w.heap.size, 0, none⟩) 1 1] 2 (by simp) (by unfold maxLen; omega) rfl).alloc (.cells #[.slice (some ⟨w.heap.size + 1, 0, none⟩) 2 2] 33)
    rw [show (w.alloc (.cells #[.int .i64 23, .int .i64 0, .int .i64 0, .int .i64 0, .int .u64 0] 26)).heap.size = w.heap.size + 1 by simp] at h
    exact h)
  have HK7 : Hid (Blk W4 (w.heap.size + 1 + 1) 33 #[.slice (some ⟨w.heap.size + 1, 0, none⟩) 2 2]) := Lib.hid (by rw [hW4]; exact Blk.newAt (by simp))
  have HB4 : Hid (Below w.heap.size w W4) := Lib.hid (by rw [hW4]; exact (((Below.refl _ _).alloc (Nat.le_refl _) _).alloc (by simp) _).alloc (by simp; omega) _)
  have hz4 : w.heap.size + 1 + 1 < W4.heap.size := HK7.out.lt
  obtain ⟨ge, hge⟩ : ∃ g, g = w.heap.size := ⟨_, rfl⟩
  obtain ⟨gr, hgr⟩ : ∃ g, g = w.heap.size + 1 := ⟨_, rfl⟩
  obtain ⟨g7, hg7⟩ : ∃ g, g = w.heap.size + 1 + 1 := ⟨_, rfl⟩
  have hwe : w.heap.size ≤ ge := by omega
  have hwr : w.heap.size ≤ gr := by omega
  have hw7 : w.heap.size ≤ g7 := by omega
  have h7r : gr < g7 := by omega
  have h7z : g7 < W4.heap.size := by omega
  obtain ⟨B, hB⟩ : ∃ B, B = w.heap.size := ⟨_, rfl⟩
  rw [← hg7] at HK7 ⊢
  rw [← hgr] at HOR HK7 ⊢
  rw [← hge] at HOR HOE ⊢
  have HGE := Lib.hid hge
  have HBB := Lib.hid hB
  clear hd hr hW4 hge hgr hg7 hB hx1 hz4
  go_cut [8] (fun s8 wx => ∃ (A : Option Addr) (c : Nat) (p : List Fn) (wv : Int), s8 = .int .i64 wv ∧ Hid (Blk wx g7 33 #[.slice A p.length c]) ∧ Hid (Fx wx 0 wx.heap.size A p) ∧ Hid (p.length ≤ 100 ∧ ∀ i, i < p.length → FnR (p.getD i Fn.z)) ∧ Hid (progE p = if d ≤ 0 then 0 else wv) ∧ Hid (Below w.heap.size w wx))
  case first =>
    have hr' : r = 0 ∨ r = 1 ∨ r = 2 := by omega
    clear hr3
    rcases hr' with hr' | hr' | hr'
    · -- many functions
      have e0 : ((r : Int) == 0) = true := by simp [hr']
      clear hr'
      go_wp2
      go_loopw [9] (fun v wr => ∃ (m : Nat) (A : Option Addr) (c : Nat), 2 ≤ m ∧ (m : Int) ≤ 80 + d ∧ Hid (Blk wr g7 33 #[.slice A m c]) ∧ Hid (wr.ownsRow ge 30 3 (.slice A m c) m (frow (some ⟨ge, 0, none⟩) m)) ∧ Hid (wr.ownsRow ge 26 5 (.slice (some ⟨ge, 0, none⟩) 1 1) 1 (inV [rt])) ∧ Hid (Below w.heap.size w wr)) (fun _ wr => 100 - lenAt wr g7)
      case atStart => exact ⟨2, _, 2, by omega, by omega, HK7, HOR, HOE, HB4⟩
      case round =>
        obtain ⟨m, A, c, hm2, hm, HK, HO, HE, HB⟩ := hrel
        obtain ⟨q0, q1, q2⟩ := blk_one HK.out
        have hsz := HB.out.size
        have hgew : ge ≤ wr.heap.size := by have := HGE.out; omega
        by_cases hlt : (m : Int) < 80 + d
        · have hle : Hid (lenAt wr g7 = m) := Lib.hid (by unfold lenAt; rw [q0])
          go_upto_region 11 with (first
            | (at_builtin; refine wpList_append_any _ rfl (.const (.slice none 0 0)) (.tmp 36) _ rfl wr.heap.size 30 i1 _ 3 56 Tryd.underlying31 hi1 hy0 hy1 hy2 rfl (by omega) _ 0 [] rfl (World.ownsRow_nil _ _ _ _) wr.heap.size A m c (frow (some ⟨ge, 0, none⟩) m) rfl (Reads.of_own HO.out) (frow_one _ _) (by unfold maxLen; omega) (by omega) (Nat.le_refl _) ?_; intro v3 w3 own3 hg3 hat3; have HG3 : Hid (wr.grownBy w3 none) := Lib.hid hg3; have HO3 : Hid (w3.ownsRow wr.heap.size 30 3 v3 m (frow (some ⟨ge, 0, none⟩) m)) := Lib.hid (by simpa using own3); have hsz3 : wr.heap.size ≤ w3.heap.size := HG3.out.size; clear own3 hg3 hat3)
            | (at_builtin; refine wpList_append_any _ rfl (.tmp 37) (.tmp 40) _ rfl wr.heap.size 30 i1 _ 3 56 Tryd.underlying31 hi1 hy0 hy1 hy2 rfl (by omega) _ m (frow (some ⟨ge, 0, none⟩) m) rfl (HO3.out.alloc _) (w3.heap.size + 1) (some ⟨w3.heap.size, 0, none⟩) 1 1 [.int .i64 0, .slice none 0 0, .slice (some ⟨ge, 0, none⟩) 1 1] rfl (reads_new rfl) (by simp [Value.oneCell']) (by unfold maxLen; omega) (by omega) (by simp; omega) ?_; intro v5 w5 own5 hg5 hat5; obtain ⟨A5, c5, rfl, -⟩ := own_form own5))
          rw [frow_succ] at own5
          have HO5 := Lib.hid own5
          have hl5 := HO3.out.lt
          have HB5 : Hid (Below w.heap.size w w5) := Lib.hid (below_append ((HB.out.trans (Below.mono (show Below wr.heap.size wr w3 from ⟨HG3.out.os, HG3.out.tape, HG3.out.output, HG3.out.size, fun b hb => HG3.out.block b hb (fun e => by cases e)⟩) hsz)).alloc (by omega) _) (HO3.out.alloc _) hg5 hsz (by simp; omega))
          have HE5 : Hid (w5.ownsRow ge 26 5 (.slice (some ⟨ge, 0, none⟩) 1 1) 1 (inV [rt])) := Lib.hid (((HE.out.kept HG3.out (.inr (by simp [Value.ownBlock]))).alloc _).kept hg5 (own_two' (HE.out.kept HG3.out (.inr (by simp [Value.ownBlock]))) HO3.out (by decide)))
          have HK5 : Hid (Blk w5 g7 33 #[.slice A m c]) := Lib.hid (((HK.out.grown HG3.out (by simp)).alloc _).grown hg5 (fun e => by have := (hl5 _ e.symm).1; omega))
          have HN5 : Hid (∀ j, (Value.slice A5 (m + 1) c5).ownBlock = some j → j ≠ g7) := Lib.hid (fun j e => by have := own_blk_ne HO5.out HK5.out (by decide); intro e2; rw [e2] at e; exact this e)
          have HNE : Hid (∀ j, (Value.slice (some ⟨ge, 0, none⟩) 1 1).ownBlock = some j → j ≠ g7) := Lib.hid (fun j e => by have := own_blk_ne HE5.out HK5.out (by decide); intro e2; rw [e2] at e; exact this e)
          clear own5 hg5 hat5 hl5 HG3 HO3 HK q0 q1 q2
          obtain ⟨q0, q1, q2⟩ := blk_one HK5.out
          go_wp2
          go_roundw
          case rel => exact ⟨m + 1, A5, c5, by omega, by omega, Lib.hid (Blk.set_ HK5.out 0 _), Lib.hid (own_base (own_miss HO5.out _ HN5.out _) hgew), Lib.hid (own_miss HE5.out _ HNE.out _), Lib.hid (HB5.out.setCell hw7 _)⟩
          case measure =>
            rw [hle.out]
            have e : lenAt (w5.setCell ⟨g7, 0, none⟩ (.slice A5 (m + 1) c5)) g7 = m + 1 := by
              unfold lenAt
              rw [(blk_one (Blk.set_ HK5.out 0 (.slice A5 (m + 1) c5))).1]
            rw [e]; omega
        · have hme : (m : Int) = 80 + d := by omega
          have HNE : Hid (Nx wr 0 wr.heap.size (some ⟨ge, 0, none⟩) [rt]) := Lib.hid ((Rx.of_own HE.out).more (Nat.zero_le _) (Nat.le_refl _))
          have hl : (List.replicate m F0).length = m := List.length_replicate
          have HLL := Lib.hid hl
          clear hl
          go_wp2
          go_meet
          refine ⟨A, c, List.replicate m F0, 3, rfl, ?_, Lib.hid ⟨frow (some ⟨ge, 0, none⟩) m, ?_, frow_v m HNE.out⟩, Lib.hid ⟨by rw [HLL.out]; omega, fun i hi => ?_⟩, Lib.hid ?_, HB⟩
          · rw [HLL.out]; exact HK
          · rw [HLL.out]; exact (Rx.of_own HO.out).more (Nat.zero_le _) (Nat.le_refl _)
          · rw [HLL.out] at hi
            rw [List.getD_eq_getElem?_getD, List.getElem?_replicate, if_pos hi]
            intro s hs
            simp [F0] at hs
          · rw [lim_0 m (by omega)]
            by_cases hd0 : d ≤ 0
            · rw [if_pos hd0, if_neg (by omega)]
            · rw [if_neg hd0, if_pos (by omega)]
    · -- much code
      have e0 : ((r : Int) == 0) = false := by simp [hr']
      have e1 : ((r : Int) == 1) = true := by simp [hr']
      clear hr'
      obtain ⟨M, hM⟩ : ∃ M : Nat, (M : Int) = 1024 + d := ⟨(1024 + d).toNat, by omega⟩
      have hmk := fun W => run_make_rowN (P := Tryd.prog) 27 26 i0 _ Tryd.underlying27 hi0 hz0 .i64 .i64 M M (Nat.le_refl _) (by rw [hz2]; omega) (by omega) W
      rw [hM] at hmk
      simp only [hz1] at hmk
      have hMi : (M : Int) ≤ 1025 := by omega
      have hM1 : 1 ≤ M := by omega
      have HM := Lib.hid hM
      clear hM
      go_upto_region 14 with (fail)
      clear hmk
      obtain ⟨W5, hW5⟩ : ∃ W5, W5 = W4.alloc (.cells (madeCells #[.int .i64 0, .int .i64 0, .int .i64 0, .int .i64 0, .int .u64 0] (M * 5)) 26) := ⟨_, rfl⟩
      rw [← hW5]
      have HO5 : Hid (W5.ownsRow W4.heap.size 26 5 (.slice (some ⟨W4.heap.size, 0, none⟩) M M) M (inV (List.replicate 0 rt ++ List.replicate (M - 0) Ins.z))) := Lib.hid (by
        rw [hW5]
        have h := World.ownsRow_lit (base := W4.heap.size) (e := 26) (size := 5) W4 (madeCells #[.int .i64 0, .int .i64 0, .int .i64 0, .int .i64 0, .int .u64 0] (M * 5)) M (Nat.le_refl _) (by unfold maxLen; omega) (by rw [size_madeCells])
        have hml : (madeCells #[.int .i64 0, .int .i64 0, .int .i64 0, .int .i64 0, .int .u64 0] (M * 5)).toList = inV (List.replicate M Ins.z) := made_list M
        rw [hml] at h
        simpa using h)
      have HB5 : Hid (Below W4.heap.size W4 W5) := Lib.hid (by rw [hW5]; exact (Below.refl _ _).alloc (Nat.le_refl _) _)
      obtain ⟨gm, hgm⟩ : ∃ g, g = W4.heap.size := ⟨_, rfl⟩
      rw [← hgm] at HO5 ⊢
      have hgm4 : W4.heap.size ≤ gm := by omega
      have HGM := Lib.hid hgm
      clear hW5 hgm
      go_wp2
      go_loopw [11] (fun v wr => ∃ k : Nat, k ≤ M ∧ v = .int .i64 k ∧ Hid (wr.ownsRow gm 26 5 (.slice (some ⟨gm, 0, none⟩) M M) M (inV (List.replicate k rt ++ List.replicate (M - k) Ins.z))) ∧ Hid (Below W4.heap.size W4 wr)) (fun v _ => M - (intOf v).toNat)
      case atStart => exact ⟨0, by omega, rfl, HO5, HB5⟩
      case round =>
        clear HO5 HB5
        obtain ⟨k, hk, rfl, HO, HB⟩ := hrel
        have hk0 : (0 : Int) ≤ (k : Int) := by omega
        by_cases hlt : k < M
        · have hki : (k : Int) < (M : Int) := by omega
          have hll : k < (List.replicate k rt ++ List.replicate (M - k) Ins.z).length := by simp; omega
          have g0 : ∀ j, j < 5 → wr.cell? ⟨gm, k * 5 + j, none⟩ = (icells Ins.z)[j]? := fun j hj => (HO.out.cellAt (k * 5 + j) (by omega)).trans ((flat_get icells_len Ins.z _ k j hll hj).trans (by rw [rep_get k M hlt]))
          have y0 : wr.cell? ⟨gm, k * 5, none⟩ = some (.int .i64 0) := g0 0 (by omega)
          have y1 : wr.cell? ⟨gm, k * 5 + 1, none⟩ = some (.int .i64 0) := g0 1 (by omega)
          have y2 : wr.cell? ⟨gm, k * 5 + 2, none⟩ = some (.int .i64 0) := g0 2 (by omega)
          have y3 : wr.cell? ⟨gm, k * 5 + 3, none⟩ = some (.int .i64 0) := g0 3 (by omega)
          have y4 : wr.cell? ⟨gm, k * 5 + 4, none⟩ = some (.int .u64 0) := g0 4 (by omega)
          have f0 := HO.out.frozenAt (k * 5)
          have f1 := HO.out.frozenAt (k * 5 + 1)
          have f2 := HO.out.frozenAt (k * 5 + 2)
          have f3 := HO.out.frozenAt (k * 5 + 3)
          have f4 := HO.out.frozenAt (k * 5 + 4)
          have HST : Hid ((((((wr.setCell ⟨gm, k * 5, none⟩ (.int .i64 23)).setCell ⟨gm, k * 5 + 1, none⟩ (.int .i64 0)).setCell ⟨gm, k * 5 + 2, none⟩ (.int .i64 0)).setCell ⟨gm, k * 5 + 3, none⟩ (.int .i64 0)).setCell ⟨gm, k * 5 + 4, none⟩ (.int .u64 0)).ownsRow gm 26 5 (.slice (some ⟨gm, 0, none⟩) M M) M (inV (List.replicate (k + 1) rt ++ List.replicate (M - (k + 1)) Ins.z))) := Lib.hid (by
            have h := (((((((((HO.out.stored (k * 5) (.int .i64 23)).1.stored (k * 5 + 1) (.int .i64 0)).1.stored (k * 5 + 2) (.int .i64 0)).1.stored (k * 5 + 3) (.int .i64 0)).1.stored (k * 5 + 4) (.int .u64 0)).1))))
            rw [inV_rep _ k hll, rep_set k M hlt] at h
            exact h)
          clear g0 hll
          go_wp2
          go_roundw
          case rel => exact ⟨k + 1, by omega, by go_num, HST, Lib.hid (((((HB.out.setCell hgm4 _).setCell hgm4 _).setCell hgm4 _).setCell hgm4 _).setCell hgm4 _)⟩
          case measure => simp [intOf]; omega
        · obtain rfl : k = M := by omega
          have HOM : Hid (wr.ownsRow gm 26 5 (.slice (some ⟨gm, 0, none⟩) k k) k (inV (List.replicate k rt))) := Lib.hid (by have h := HO.out; simpa using h)
          have HORr := Lib.hid (own_keep HOR.out HB.out (Nat.le_refl _))
          have HOEr := Lib.hid (own_keep HOE.out HB.out (Nat.le_refl _))
          have HK7r := Lib.hid (HK7.out.after HB.out)
          have u5 : wr.cell? ⟨gr, 5, none⟩ = some (.slice (some ⟨ge, 0, none⟩) 1 1) := HORr.out.cellAt 5 (by omega)
          have uf := HORr.out.frozenAt 5
          obtain ⟨q0, q1, q2⟩ := blk_one HK7r.out
          have hszr := HB.out.size
          clear HO
          go_wp2
          go_meet
          have hbW : Below w.heap.size w (wr.setCell ⟨gr, 5, none⟩ (.slice (some ⟨gm, 0, none⟩) k k)) := (HB4.out.trans (HB.out.mono HB4.out.size)).setCell hwr _
          have hE := own_miss HOEr.out ⟨gr, 5, none⟩ (own_ne' HOEr.out HORr.out (by decide)) (.slice (some ⟨gm, 0, none⟩) k k)
          have hM' := own_miss HOM.out ⟨gr, 5, none⟩ (fun j e => by have e' : gm = j := (by simpa [Value.ownBlock] using e); show j ≠ gr; omega) (.slice (some ⟨gm, 0, none⟩) k k)
          have hlr : (List.replicate k rt).length = k := List.length_replicate
          have hN : Nx (wr.setCell ⟨gr, 5, none⟩ (.slice (some ⟨gm, 0, none⟩) k k)) 0 (wr.setCell ⟨gr, 5, none⟩ (.slice (some ⟨gm, 0, none⟩) k k)).heap.size (some ⟨gm, 0, none⟩) (List.replicate k rt) := by
            have h := (Rx.of_own hM').more (Nat.zero_le _) (Nat.le_refl _)
            unfold Nx
            rw [hlr]; exact h
          have hNe : Nx (wr.setCell ⟨gr, 5, none⟩ (.slice (some ⟨gm, 0, none⟩) k k)) 0 (wr.setCell ⟨gr, 5, none⟩ (.slice (some ⟨gm, 0, none⟩) k k)).heap.size (some ⟨ge, 0, none⟩) [rt] := (Rx.of_own hE).more (Nat.zero_le _) (Nat.le_refl _)
          have hV := Vx.setCode (i := 1) (ci := k) (frow_v 2 hNe) (by rw [frow_len]; rfl) (by simp) hN (by rw [hlr]; exact ⟨by unfold maxLen; omega, Nat.le_refl _⟩)
          rw [hlr] at hV
          refine ⟨some ⟨gr, 0, none⟩, 2, [F0, ⟨0, [], List.replicate k rt⟩], 3, rfl, Lib.hid (HK7r.out.far (by show ¬ g7 = gr; omega) _), Lib.hid ⟨_, (Rx.of_own (HORr.out.stored 5 (.slice (some ⟨gm, 0, none⟩) k k)).1).more (Nat.zero_le _) (Nat.le_refl _), hV⟩, Lib.hid ⟨by simp, fun i hi => ?_⟩, Lib.hid ?_, Lib.hid hbW⟩
          · have hi2 : i = 0 ∨ i = 1 := by simp at hi; omega
            rcases hi2 with rfl | rfl <;> (intro s hs; simp [F0] at hs)
          · rw [lim_1 k hM1]
            have := HM.out
            by_cases hd0 : d ≤ 0
            · rw [if_pos hd0, if_neg (by omega)]
            · rw [if_neg hd0, if_pos (by omega)]
    · -- parameters
      have e0 : ((r : Int) == 0) = false := by simp [hr']
      have e1 : ((r : Int) == 1) = false := by simp [hr']
      have e2 : ((r : Int) == 2) = true := by simp [hr']
      clear hr'
      have u3 := HOR.out.cellAt 3 (by omega)
      have uf := HOR.out.frozenAt 3
      have u3' : W4.cell? ⟨gr, 3, none⟩ = some (.int .i64 0) := u3
      obtain ⟨q0, q1, q2⟩ := blk_one HK7.out
      clear u3
      go_wp2
      go_meet
      have hE := own_miss HOE.out ⟨gr, 3, none⟩ (own_ne' HOE.out HOR.out (by decide)) (.int .i64 (8 + d))
      have hN : Nx (W4.setCell ⟨gr, 3, none⟩ (.int .i64 (8 + d))) 0 (W4.setCell ⟨gr, 3, none⟩ (.int .i64 (8 + d))).heap.size (some ⟨ge, 0, none⟩) [rt] := (Rx.of_own hE).more (Nat.zero_le _) (Nat.le_refl _)
      refine ⟨some ⟨gr, 0, none⟩, 2, [F0, ⟨8 + d, [], [rt]⟩], 4, rfl, Lib.hid (HK7.out.far (by show ¬ g7 = gr; omega) _), Lib.hid ⟨_, (Rx.of_own (HOR.out.stored 3 (.int .i64 (8 + d))).1).more (Nat.zero_le _) (Nat.le_refl _), two_v hN⟩, Lib.hid ⟨by simp, fun i hi => ?_⟩, Lib.hid ?_, Lib.hid (HB4.out.setCell hwr _)⟩
      · have hi2 : i = 0 ∨ i = 1 := by simp at hi; omega
        rcases hi2 with rfl | rfl <;> (intro s hs; simp [F0] at hs)
      · rw [lim_2]
        by_cases hd0 : d ≤ 0
        · rw [if_pos hd0, if_pos (inB_t.2 ⟨by omega, by omega⟩)]
        · rw [if_neg hd0, if_neg (by rw [inB_f.2 (by omega)]; simp)]
  case rest =>
    obtain ⟨A, c, p, wv, rfl, HK, HF, HL, HE, HB⟩ := hcut
    obtain ⟨hl, -⟩ := HL.out
    have HTc := Lib.hid (HT.out.below HB.out)
    obtain ⟨q0, q1, q2⟩ := blk_one HK.out
    by_cases hd0 : d ≤ 0
    · have HE' : Hid (progE p = 0) := Lib.hid (by rw [HE.out, if_pos hd0])
      go_wp2_with fail
      refine (check_any A p c _ 0 wc.heap.size HTc.out HF.out (Nat.le_refl _) (by unfold maxLen; omega) HL.out.2).mono ?_
      rintro e w9 ⟨rfl, bel9⟩
      rw [HE'.out]
      have HB9 : Hid (Below w.heap.size w w9) := Lib.hid (HB.out.trans (bel9.mono HB.out.size))
      clear bel9
      go_wp2
      go_ret
      exact ⟨rfl, HB9.out⟩
    · have HE' : Hid (progE p = wv) := Lib.hid (by rw [HE.out, if_neg hd0])
      go_wp2_with fail
      refine (check_any A p c _ 0 wc.heap.size HTc.out HF.out (Nat.le_refl _) (by unfold maxLen; omega) HL.out.2).mono ?_
      rintro e w9 ⟨rfl, bel9⟩
      rw [HE'.out]
      have HB9 : Hid (Below w.heap.size w w9) := Lib.hid (HB.out.trans (bel9.mono HB.out.size))
      clear bel9
      go_wp2
      go_ret
      exact ⟨ret_bool (by simp), HB9.out⟩
end Go.Proofs.YtbnnkcndhljidaaDoor.pm
