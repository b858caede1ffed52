/- Bytes of programs, the reference: parse. Printed by mkyx.py. -/
import Derived.Test.YtinfeglhjmnlaaaDoorYv
import Derived.Test.YtinfeglhjmnlaaaDoorYo
import Derived.Test.YtinfeglhjmnlaaaDoorGIa
import Derived.Deep.RegionLaw
import Derived.Deep.RegionHeld3
import Derived.Deep.DrawnRows
namespace Go.Proofs.YtinfeglhjmnlaaaDoor.pm
open Go.RowKit
set_option linter.unusedVariables false
set_option maxRecDepth 10000

theorem funR_len (l : List Nat) (p : Nat) : (funR l p).1.slots.length ≤ 512 ∧ (funR l p).1.code.length ≤ 1024 := by
  unfold funR
  obtain ⟨v1, p1, e1, h1⟩ : ∃ v' p' e', upS l M31 4 p 0 = (v', p', e') := ⟨_, _, _, rfl⟩
  obtain ⟨v2, p2, e2, h2⟩ : ∃ v' p' e', upS l 512 3 p1 e1 = (v', p', e') := ⟨_, _, _, rfl⟩
  obtain ⟨s, p3, e3, h3⟩ : ∃ v q e, manyS (slotR l) v2 p2 e2 = (v, q, e) := ⟨_, _, _, rfl⟩
  obtain ⟨v4, p4, e4, h4⟩ : ∃ v' p' e', upS l 1024 3 p3 e3 = (v', p', e') := ⟨_, _, _, rfl⟩
  have g2 := (upS_le l 512 3 p1 e1).1
  have g4 := (upS_le l 1024 3 p3 e3).1
  have k2 := manyS_len (slotR l) v2 p2 e2
  have k4 := manyS_len (insS l) v4 p4 e4
  rw [h2] at g2
  rw [h4] at g4
  rw [h3] at k2
  simp only [h1, h2, h3, h4]
  exact ⟨Nat.le_trans k2 g2, Nat.le_trans k4 g4⟩
theorem fsR_len (l : List Nat) (p e : Nat) : (fsR l p e).1.1.slots.length ≤ 512 ∧ (fsR l p e).1.1.code.length ≤ 1024 ∧ (fsR l p e).1.2.length ≤ l.length := by
  unfold fsR partR
  by_cases h : (sizeQ l p e).2.2 ≠ 0
  · rw [if_pos h]
    exact ⟨by simp [Fn.z], by simp [Fn.z], Nat.zero_le _⟩
  · rw [if_neg h]
    have h1 := funR_len (l.take ((sizeQ l p e).2.1 + (sizeQ l p e).1)) (sizeQ l p e).2.1
    refine ⟨h1.1, h1.2, ?_⟩
    simp only [List.length_take, List.length_drop]
    omega
theorem fsR_pos {l : List Nat} {p e : Nat} (hm : l.length ≤ 2147483647) (hp : p ≤ l.length) : (fsR l p e).2.1 ≤ l.length := by
  have hq : (upS l M31 4 p e).2.1 ≤ l.length := upS_pos hp (Nat.le_refl _)
  unfold fsR partR
  by_cases h : (sizeQ l p e).2.2 ≠ 0
  · rw [if_pos h]
    exact hq
  · rw [if_neg h]
    have hfit : (sizeQ l p e).2.1 + (sizeQ l p e).1 ≤ l.length := by
      unfold sizeQ at h ⊢
      simp only at h ⊢
      by_cases h3 : (upS l M31 4 p e).2.2 = 0 ∧ l.length - (upS l M31 4 p e).2.1 < (upS l M31 4 p e).1
      · rw [if_pos h3] at h; exact absurd (by decide) h
      · rw [if_neg h3] at h
        omega
    show (funR (l.take ((sizeQ l p e).2.1 + (sizeQ l p e).1)) (sizeQ l p e).2.1).2.1 ≤ l.length
    rw [funR_snd]
    refine Nat.le_trans (funS_pos (M := (sizeQ l p e).2.1 + (sizeQ l p e).1) (by omega) (by rw [List.length_take]; omega)) hfit
theorem progR_eq {l : List Nat} {N p e : Nat} (h : upS l 80 3 4 0 = (N, p, e)) : progR l = ((manyS (fsR l) N p e).1, endR l (manyS (fsR l) N p e).2.1 (manyS (fsR l) N p e).2.2) := by
  unfold progR
  rw [h]
section
variable {g2 g7 lo : Nat} {fs : List Fn} {o1 o2 : Value} {vs1 vs2 : List Value} {ds : List (List Nat)} {w W W' : World} {t : TypeId}
theorem far_rr : Far 141 := by unfold Far; decide
theorem PI.grownR {gr : Nat} {cs : Array Value} (h : PI g2 g7 lo fs o1 vs1 ds o2 vs2 w W) (hK : Blk W gr 141 cs) (hg : W.grownBy W' (some gr)) (hw : w.heap.size ≤ gr) : PI g2 g7 lo fs o1 vs1 ds o2 vs2 w W' :=
  h.kt (kt_of_grown hK hg) hg.size (h.bel.trans (below_of_grown hg hw h.bel.size)) far_rr
/-- one function more, in a fresh copy of the row -/
theorem PI.copy1 (h : PI g2 g7 lo fs o1 vs1 ds o2 vs2 w W) {f : Fn} {As Ai : Option Addr} {cs ci : Nat} {v' : Value} (hs : SxT W lo W.heap.size As f.slots) (hn : NxT W lo W.heap.size Ai f.code) (h3 : f.slots.length ≤ maxLen ∧ f.slots.length ≤ cs) (h4 : f.code.length ≤ maxLen ∧ f.code.length ≤ ci)
    (hw7 : w.heap.size ≤ g7) (h27 : g2 ≠ g7) (hlo : lo ≤ W.heap.size) (hb : Below W.heap.size W W')
    (hown : W'.ownsRow W.heap.size 97 3 v' (fs.length + 1) (vs1 ++ [.int .i64 f.params, .slice As f.slots.length cs, .slice Ai f.code.length ci])) :
    PI g2 g7 lo (fs ++ [f]) v' (vs1 ++ [.int .i64 f.params, .slice As f.slots.length cs, .slice Ai f.code.length ci]) ds o2 vs2 w (W'.setCell ⟨g7, 0, none⟩ v') := by
  have hP := h.after hb
  have hkl : Kp lo W.heap.size W W' := Kp.of_below hb (Nat.le_refl _)
  have hv := ((h.vq.snoc h.ow1.1 hs hn h3 h4).kt (t := 44) (Kt.of_kp hkl) (by decide) (by decide)).more (Nat.le_refl lo) hb.size
  have hk2 : Kt 44 0 W'.heap.size W' (W'.setCell ⟨g7, 0, none⟩ v') := kt_of_grown hP.x (gset6 _ _ _)
  have hkl2 := hk2.less (Nat.zero_le lo) (Nat.le_refl _)
  have hl1 : (fs ++ [f]).length = fs.length + 1 := by simp
  have hown2 := own_less hown hlo
  rw [← hl1] at hown2
  exact ⟨hP.f.far (by simpa using h27) _, hP.x.set_ 0 _, own_kt hown2 hk2 (by decide), (hv.kt hkl2 (by decide) (by decide)).more (Nat.le_refl _) (by simp), own_kt hP.ow2 hk2 (by decide), (hP.dq.kt hkl2 (by decide)).more (Nat.le_refl _) (by simp),
    hP.bel.setCell (p := ⟨g7, 0, none⟩) hw7 _⟩
end
set_option maxHeartbeats 2000000 in
theorem refparse_err (A : Option Addr) (n c : Nat) (l : List Nat) (w : World) (hb : Bs w w.heap.size A n l) (hn : n ≤ maxLen) (hc : n ≤ c) (hcm : c ≤ maxLen) (he : 1048576 < n ∨ n < 9 ∨ ¬ (l.take 4 = mgS ∧ crcB l = true)) :
    Calls Tryd.prog 68 #[.slice A n c] w (PaD l w) := by
  have hln := hb.len
  obtain ⟨W1, hW1⟩ : ∃ W1, W1 = w.alloc (.cells #[.slice none 0 0] 44) := ⟨_, rfl⟩
  have hB1 : Below w.heap.size w W1 := by rw [hW1]; exact (Below.refl _ _).alloc (Nat.le_refl _) _
  have HKT : Hid (Blk W1 w.heap.size 44 #[.slice none 0 0]) := Lib.hid (by rw [hW1]; exact Blk.new _ _ _)
  have HW1 := Lib.hid hW1
  have HZ := Lib.hid (put1_6 HKT.out (.slice none 0 0))
  have HZB : Hid (Below w.heap.size w (W1.setCell ⟨w.heap.size, 0, none⟩ (.slice none 0 0))) := Lib.hid (hB1.setCell (p := ⟨w.heap.size, 0, none⟩) (Nat.le_refl _) _)
  have hni : (n : Int) ≤ 9223372036854775807 := by unfold maxLen at hn; omega
  obtain ⟨d0, df0, dz⟩ := HKT.out.c1
  by_cases h1 : 1048576 < n
  · have HE : Hid (parE l = 3) := Lib.hid (parE_3 (by omega))
    have h1i : (1048576 : Int) < (n : Int) := by omega
    clear hW1 hB1 hb he hln h1
    go_enter Tryd.func68, Tryd.ntmps68
    go_upto_region 1 with (fail)
    rw [← HW1.out]
    go_wp2
    obtain ⟨e0, -⟩ := HZ.out.c1
    exact bodyPost_ret (v := .tuple #[.agg #[.slice none 0 0], .slice none 0 0, .int .i64 3]) (by simp [results, Tryd.results68, go_sem, e0]) rfl (PaD.err HE.out (by decide) HZB.out)
  by_cases h2 : n < 9
  · have HE : Hid (parE l = 1) := Lib.hid (parE_1 (by omega) (by omega))
    have h1i : ¬ (1048576 : Int) < (n : Int) := by omega
    have h2i : (n : Int) < 9 := by omega
    clear hW1 hB1 hb he hln h1 h2
    go_enter Tryd.func68, Tryd.ntmps68
    go_upto_region 1 with (fail)
    rw [← HW1.out]
    go_wp2
    obtain ⟨e0, -⟩ := HZ.out.c1
    exact bodyPost_ret (v := .tuple #[.agg #[.slice none 0 0], .slice none 0 0, .int .i64 1]) (by simp [results, Tryd.results68, go_sem, e0]) rfl (PaD.err HE.out (by decide) HZB.out)
  have h3 : ¬ (l.take 4 = mgS ∧ crcB l = true) := (he.resolve_left h1).resolve_left h2
  have HE : Hid (parE l = 2) := Lib.hid (parE_2 (k := n - 4) (by omega) (by omega) (by omega) (fun h => h3 ⟨h.1, by unfold crcB; rw [hln]; exact decide_eq_true ⟨by omega, h.2⟩⟩))
  have h1i : ¬ (1048576 : Int) < (n : Int) := by omega
  have h2i : ¬ (n : Int) < 9 := by omega
  have hb1 := hb.below hB1
  have hcv : ∀ c', (convert 22 9 (.slice A 4 c')).run Tryd.prog W1 = .ok (.string (strB (l.take 4))) W1 := fun c' => conv_take (c := c') hb1 4 (by omega) (by decide)
  have hmg : strB mgS = { data := #[83, 73, 82, 49] } := rfl
  have hst := strB_inj (l := l.take 4) (m := mgS) (fun x hx => hb.2 x (List.mem_of_mem_take hx)) (by decide)
  rw [hmg] at hst
  have HC := Lib.hid (crcis_any A n c l W1 w.heap.size hb1 (by omega) hc hcm)
  have h4c : (4 : Int) ≤ (c : Int) := by omega
  have h4c' : 4 ≤ c := by omega
  obtain ⟨sv, hsv⟩ : ∃ s, s = strB (l.take 4) := ⟨_, rfl⟩
  rw [← hsv] at hcv hst
  clear hW1 hB1 hb he hln h1 h2 hmg hsv hb1
  by_cases hm : l.take 4 = mgS
  · have hcb : crcB l = false := by
      cases hcb : crcB l with
      | true => exact absurd ⟨hm, hcb⟩ h3
      | false => rfl
    rw [hcb] at HC
    have hse := hst.2 hm
    subst hse
    clear hm h3 hcb hst
    go_enter Tryd.func68, Tryd.ntmps68
    go_upto_region 1 with (fail)
    rw [← HW1.out]
    go_wp2_with fail
    refine HC.out.mono ?_
    rintro e w2 ⟨rfl, rfl⟩
    go_wp2
    obtain ⟨e0, -⟩ := HZ.out.c1
    exact bodyPost_ret (v := .tuple #[.agg #[.slice none 0 0], .slice none 0 0, .int .i64 2]) (by simp [results, Tryd.results68, go_sem, e0]) rfl (PaD.err HE.out (by decide) HZB.out)
  · have hse : ¬ sv = { data := #[83, 73, 82, 49] } := fun h => hm (hst.1 h)
    have hse3 : ¬ sv.toList = [83, 73, 82, 49] := fun h => hse (by rw [ByteArray.toList_eq] at h; cases sv with | mk d => exact congrArg ByteArray.mk (Array.toList_inj.1 (by simpa using h)))
    have hse4 : (sv.toList == [83, 73, 82, 49]) = false := by rw [beq_eq_false_iff_ne]; exact hse3
    clear hm h3 hst
    go_enter Tryd.func68, Tryd.ntmps68
    go_upto_region 1 with (fail)
    rw [← HW1.out]
    go_wp2
    obtain ⟨e0, -⟩ := HZ.out.c1
    exact bodyPost_ret (v := .tuple #[.agg #[.slice none 0 0], .slice none 0 0, .int .i64 2]) (by simp [results, Tryd.results68, go_sem, e0]) rfl (PaD.err HE.out (by decide) HZB.out)
set_option maxHeartbeats 8000000 in
theorem refparse_ok (A : Option Addr) (n c : Nat) (l : List Nat) (w : World) (hb : Bs w w.heap.size A n l) (h1 : n ≤ 1048576) (h2 : 9 ≤ n) (hc : n ≤ c) (hcm : c ≤ maxLen) (hmg : l.take 4 = mgS) (hcb : crcB l = true) :
    Calls Tryd.prog 68 #[.slice A n c] w (PaD l w) := by
  have hln := hb.len
  obtain ⟨k, hk⟩ : ∃ k, n = k + 4 := ⟨n - 4, by omega⟩
  have HBS := Lib.hid hb
  have HN := Lib.hid hk
  obtain ⟨W1, hW1⟩ : ∃ W1, W1 = w.alloc (.cells #[.slice none 0 0] 44) := ⟨_, rfl⟩
  obtain ⟨g2, hg2⟩ : ∃ g, g = w.heap.size := ⟨_, rfl⟩
  have hB1 : Below w.heap.size w W1 := by rw [hW1]; exact (Below.refl _ _).alloc (Nat.le_refl _) _
  have HKT : Hid (Blk W1 g2 44 #[.slice none 0 0]) := Lib.hid (by rw [hW1, hg2]; exact Blk.new _ _ _)
  have HB1 := Lib.hid hB1
  have HW1 := Lib.hid hW1
  have HG2 := Lib.hid hg2
  have hwg : w.heap.size ≤ g2 := by omega
  have HS1 : Hid (W1.heap.size = g2 + 1) := Lib.hid (by rw [hW1, hg2]; simp)
  have hb1 := hb.below hB1
  have hcv : ∀ c', (convert 22 9 (.slice A 4 c')).run Tryd.prog W1 = .ok (.string { data := #[83, 73, 82, 49] }) W1 := fun c' => by
    have := conv_take (c := c') hb1 4 (by omega) (by decide)
    rw [hmg] at this
    exact this
  have HC := Lib.hid (crcis_any A n c l W1 w.heap.size hb1 (by omega) hc hcm)
  rw [hcb] at HC
  have h4c : (4 : Int) ≤ (c : Int) := by omega
  have h4c' : 4 ≤ c := by omega
  obtain ⟨xn, hxn⟩ : ∃ x : Int, (n : Int) = x := ⟨_, rfl⟩
  have hx1 : ¬ (1048576 : Int) < xn := by omega
  have hx2 : ¬ xn < 9 := by omega
  have hx3 : IntKind.i64.wrap (xn - 4) = (k : Int) := by rw [IntWalk.i64_in _ (by omega)]; omega
  have HNB : Hid (n ≤ 1048576 ∧ 9 ≤ n ∧ n ≤ c ∧ c ≤ maxLen ∧ l.length = n) := Lib.hid ⟨h1, h2, hc, hcm, hln⟩
  obtain ⟨lk, hlk⟩ : ∃ x, x = l.take k := ⟨_, rfl⟩
  have HLK : Hid (lk.length = k) := Lib.hid (by rw [hlk, List.length_take]; omega)
  have HBK : Hid (∀ W, Below w.heap.size w W → Bs W w.heap.size A k lk) := Lib.hid (fun W h => by rw [hlk]; exact (HBS.out.below h).take (by omega))
  have hseal : sealL lk = l := by
    have := of_decide_eq_true hcb
    rw [hlk]
    have h5 := this.2
    rw [hln, hk, Nat.add_sub_cancel] at h5
    exact h5
  have HPE0 : Hid (parE l = (progR lk).2 ∧ ((progR lk).2 = 0 → parP l = (progR lk).1)) := Lib.hid (by
    have h5 := parE_0 (l := l) (k := k) (by omega) (by omega) (by omega) ⟨hmg, by rw [← hlk]; exact hseal⟩
    rw [← hlk] at h5
    have h6 := progR_same (l := lk) (by rw [HLK.out]; omega) (by rw [HLK.out]; omega)
    exact ⟨by rw [h5.1, h6.1], fun h => by rw [h5.2 (by rw [← h6.1]; exact h), h6.2 (by rw [← h6.1]; exact h)]⟩)
  clear hW1 hg2 hB1 hb hln hk hb1 hlk h1 h2 hc hcm hmg hcb hseal
  go_enter Tryd.func68, Tryd.ntmps68
  go_upto_region 1 with (fail)
  rw [← HW1.out, ← HG2.out]
  go_upto_region 7 with (go_at_call 49; refine HC.out.mono ?_; rintro e w2 ⟨rfl, rfl⟩)
  clear hcv HC h4c h4c' hx1 hx2
  go_upto_region 9 with (fail)
  obtain ⟨W5, hW5⟩ : ∃ W5, W5 = (W1.alloc (.cells #[.slice A n c, .int .i64 4, .int .i64 (k : Int), .int .i64 0] 141)).alloc (.cells #[.slice none 0 0] 44) := ⟨_, rfl⟩
  obtain ⟨gr, hgr⟩ : ∃ g, g = W1.heap.size := ⟨_, rfl⟩
  obtain ⟨g7, hg7⟩ : ∃ g, g = gr + 1 := ⟨_, rfl⟩
  obtain ⟨lo, hlo⟩ : ∃ g, g = g7 + 1 := ⟨_, rfl⟩
  rw [← hW5, ← hgr, ← hg7]
  have hb5 : Below W1.heap.size W1 W5 := by rw [hW5]; exact ((Below.refl _ _).alloc (Nat.le_refl _) _).alloc (by simp) _
  have HK5 : Hid (Blk W5 gr 141 #[.slice A n c, .int .i64 ((4 : Nat) : Int), .int .i64 (k : Int), .int .i64 ((0 : Nat) : Int)]) := Lib.hid (by rw [hW5, hgr]; exact (Blk.new _ _ _).alloc _)
  have hb5w : Below w.heap.size w W5 := HB1.out.trans (hb5.mono HB1.out.size)
  have HP5 : Hid (PI g2 g7 lo [] (.slice none 0 0) [] [] (.slice none 0 0) [] w W5) := Lib.hid ⟨HKT.out.after hb5, by rw [hW5]; exact Blk.newAt (by simp; omega), World.ownsRow_nil _ _ _ _, fun i hi => by simp at hi, World.ownsRow_nil _ _ _ _, fun i hi => by simp at hi, hb5w⟩
  have hg2r : g2 < gr := by have := HS1.out; omega
  have hrg7 : gr < g7 := by omega
  have hg7l : g7 < lo := by omega
  have hz5 : lo ≤ W5.heap.size := by rw [hW5]; simp; omega
  have hwr : w.heap.size ≤ gr := by omega
  clear hW5 hgr hg7 hlo hb5 hb5w HKT HB1 HS1 hx3 hxn
  have hk5 : 5 ≤ k ∧ k ≤ 1048572 := by have := HNB.out; have := HN.out; omega
  have HCTc := Lib.hid (rcount6 gr w.heap.size A n c k lk 80 4 0 W5 HK5.out (HBK.out _ HP5.out.bel) (by have := HN.out; omega) (by have := HNB.out; omega) (by have := HNB.out; omega) (by have := HNB.out; omega) (by decide) (by decide))
  have HFNC := Lib.hid (fun (W : World) (q : Nat) (hk : Blk W gr 141 #[.slice A n c, .int .i64 (q : Int), .int .i64 (k : Int), .int .i64 ((0 : Nat) : Int)]) (h : Below w.heap.size w W) (hq : q ≤ k) => rfunction6 gr w.heap.size A n c k lk q W hk (HBK.out W h) (by omega) (by have := HN.out; omega) (by have := HNB.out; omega) (by have := HNB.out; omega) (by have := HNB.out; omega) hq)
  have HLL : Hid (lk.length ≤ k ∧ k ≤ lk.length) := Lib.hid (by rw [HLK.out]; exact ⟨Nat.le_refl _, Nat.le_refl _⟩)
  obtain ⟨N, p3, e3, he3⟩ : ∃ v p e, upS lk 80 3 4 0 = (v, p, e) := ⟨_, _, _, rfl⟩
  have hN80 : N ≤ 80 := by have := (upS_le lk 80 3 4 0).1; rw [he3] at this; exact this
  have hp3 : p3 ≤ k := by have := upS_pos (l := lk) (M := k) (lim := 80) (er := 3) (p := 4) (e := 0) (by omega) HLL.out.1; rw [he3] at this; exact this
  rw [he3] at HCTc
  have HPG := Lib.hid (progR_eq he3)
  clear he3
  go_wp2_with (go_at_call 102; refine HCTc.out.mono ?_; rintro e w6 ⟨rfl, hk6, hg6⟩)
  have HK6 := Lib.hid hk6
  have HP6 := Lib.hid (HP5.out.grownR HK5.out hg6 hwr)
  have hz6 : lo ≤ w6.heap.size := Nat.le_trans hz5 hg6.size
  clear hk6 hg6 HCTc HK5 HP5 hz5
  obtain ⟨i0, hi0, hz0, hz1, hz2⟩ := info_parts info_fn
  obtain ⟨i1, hi1, hy0, hy1, hy2⟩ := info_parts info_bs
  go_loopw [7, 8] (fun y x wr => ∃ (m q e : Nat) (fl : List (Fn × List Nat)) (o1 o2 : Value) (vs1 vs2 : List Value), x = .int .i64 (m : Int) ∧ o2 = y ∧ q ≤ k ∧ lo ≤ wr.heap.size ∧ Hid (fl.length + m ≤ 80) ∧ Hid (manyS (fsR lk) N p3 e3 = (fl ++ (manyS (fsR lk) m q e).1, (manyS (fsR lk) m q e).2)) ∧
    Hid (Blk wr gr 141 #[.slice A n c, .int .i64 (q : Int), .int .i64 (k : Int), .int .i64 (e : Int)]) ∧ Hid (PI g2 g7 lo (fl.map Prod.fst) o1 vs1 (fl.map Prod.snd) o2 vs2 w wr)) (fun y x _ => (intOf x).toNat)
  case atStart => exact ⟨N, p3, e3, [], .slice none 0 0, .slice none 0 0, [], [], rfl, rfl, hp3, hz6, Lib.hid (by simpa using hN80), Lib.hid (by simp), HK6, HP6⟩
  case round =>
    obtain ⟨m, q, e', fl, o1, o2, vs1, vs2, rfl, rfl, hq, hlz, HM, HCO, HKr, HPr⟩ := hrel
    have hm80 : (m : Int) ≤ 80 := by have := HM.out; omega
    obtain ⟨r0, r1, r2, r3, rf0, rf1, rf2, rf3, rz⟩ := HKr.out.c4
    clear HK6 HP6 hz6 hp3 hN80
    by_cases hend : m = 0 ∨ e' ≠ 0
    · have HPE : Hid (parE l = endR lk q e') := Lib.hid (by rw [HPE0.out.1, HPG.out]; simp only; rw [HCO.out, manyS_stop hend])
      have HPP : Hid (endR lk q e' = 0 → parP l = fl) := Lib.hid (fun h => by
        rw [HPE0.out.2 (by rw [← HPE0.out.1, HPE.out, h]), HPG.out]
        simp only
        rw [HCO.out, manyS_stop hend]
        simp)
      by_cases hm0 : m = 0
      case' pos =>
        subst hm0
        clear hend
        go_upto_region 16 with (fail)
      case' neg =>
        have hb' : e' ≠ 0 := hend.resolve_left hm0
        have hbe : ((e' : Int) == 0) = false := by rw [beq_eq_false_iff_ne]; omega
        have hmi : (0 : Int) < (m : Int) := by omega
        clear hend hm0 hb'
        go_upto_region 16 with (fail)
      all_goals
        obtain ⟨er, her⟩ : ∃ er, er = endR lk q e' := ⟨_, rfl⟩
        rw [← her] at HPE HPP
        have hcase : (e' = 0 ∧ q < k ∧ er = 2) ∨ (¬ (e' = 0 ∧ q < k) ∧ er = e') := by
          unfold endR at her
          rw [HLK.out] at her
          by_cases h : e' = 0 ∧ q < k
          · rw [if_pos h] at her; exact .inl ⟨h.1, h.2, her⟩
          · rw [if_neg h] at her; exact .inr ⟨h, her⟩
        have HCASE := Lib.hid hcase
        clear hcase her HCO HPE0 HPG HFNC HBK
        clear r0 r1 r2 r3 rf0 rf1 rf2 rf3 rz
        obtain ⟨r0, r1, r2, r3, rf0, rf1, rf2, rf3, rz⟩ := HKr.out.c4
        obtain ⟨bq, hbq⟩ : ∃ b, b = decide (e' = 0 ∧ q < k) := ⟨_, rfl⟩
        have HBQ := Lib.hid hbq
        go_cut [82] (fun s wx => s = .bool bq ∧ ∃ kk, wx = wr.drewN kk)
        case first =>
          by_cases h5 : e' = 0
          case neg =>
            have hx1 : ((e' : Int) == 0) = false := by rw [beq_eq_false_iff_ne]; omega
            have hx2 : bq = false := by rw [hbq]; simp [h5]
            subst hx2
            clear hbq h5
            go_quiet (fail)
            go_wp2_with fail
            go_meet
            exact ⟨rfl, _, rfl⟩
          case pos =>
            subst h5
            by_cases h6 : q < k
            case pos =>
              have hx1 : (q : Int) < (k : Int) := by omega
              have hx2 : bq = true := by rw [hbq]; simp [h6]
              have hx3 : decide (q < k) = true := by simp [h6]
              subst hx2
              clear hbq
              go_quiet (fail)
              go_wp2_with fail
              go_meet
              exact ⟨rfl, _, rfl⟩
            case neg =>
              have hx1 : ¬ (q : Int) < (k : Int) := by omega
              have hx2 : bq = false := by rw [hbq]; simp [h6]
              have hx3 : decide (q < k) = false := by simp [h6]
              subst hx2
              clear hbq
              go_quiet (fail)
              go_wp2_with fail
              go_meet
              exact ⟨rfl, _, rfl⟩
        case rest =>
        obtain ⟨rfl, kk, hwc⟩ := hcut
        have HKc : Hid (Blk wc gr 141 #[.slice A n c, .int .i64 (q : Int), .int .i64 (k : Int), .int .i64 (e' : Int)]) := Lib.hid (by rw [hwc]; exact HKr.out.drewN _)
        have HPc : Hid (PI g2 g7 lo (fl.map Prod.fst) o1 vs1 (fl.map Prod.snd) o2 vs2 w wc) := Lib.hid (HPr.out.after (by rw [hwc]; exact below_drewN (Below.refl _ _) _))
        clear hwc hbq HKr HPr r0 r1 r2 r3 rf0 rf1 rf2 rf3 rz
        generalize wc = w20 at *
        go_upto_if 82 with (fail)
        go_cut [] (fun wx => Blk wx gr 141 #[.slice A n c, .int .i64 (q : Int), .int .i64 (k : Int), .int .i64 (er : Int)] ∧ PI g2 g7 lo (fl.map Prod.fst) o1 vs1 (fl.map Prod.snd) o2 vs2 w wx)
        case first =>
          cases bq with
          | true =>
            have h5 : e' = 0 ∧ q < k := by simpa using HBQ.out.symm
            have h6 : er = 2 := by
              rcases HCASE.out with ⟨_, _, h⟩ | ⟨h, _⟩
              · exact h
              · exact absurd h5 h
            obtain ⟨h7, -⟩ := h5
            subst h7 h6
            have HFL := Lib.hid (rfail6 gr A n c q k 0 2 w20 HKc.out)
            rw [failE_z] at HFL
            go_wp2_with fail
            refine HFL.out.mono ?_
            rintro e w21 ⟨rfl, hk21, hg21⟩
            have HX := Lib.hid (⟨hk21, HPc.out.grownR HKc.out hg21 hwr⟩ : Blk w21 gr 141 #[.slice A n c, .int .i64 (q : Int), .int .i64 (k : Int), .int .i64 ((2 : Nat) : Int)] ∧ PI g2 g7 lo (fl.map Prod.fst) o1 vs1 (fl.map Prod.snd) o2 vs2 w w21)
            clear hk21 hg21 HFL
            go_wp2_with fail
            go_meet
            exact HX.out
          | false =>
            have h5 : er = e' := by
              have h6 : ¬ (e' = 0 ∧ q < k) := by have := HBQ.out; simpa using this.symm
              rcases HCASE.out with ⟨h7, h8, _⟩ | ⟨_, h⟩
              · exact absurd ⟨h7, h8⟩ h6
              · exact h
            subst h5
            go_wp2_with fail
            go_meet
            exact ⟨HKc.out, HPc.out⟩
        case rest =>
        obtain ⟨hk20, hp20⟩ := hcut
        generalize wc = w22 at *
        have HK20 := Lib.hid hk20
        have HP20 := Lib.hid hp20
        clear hk20 hp20 HKc HPc HBQ HCASE
        by_cases h0 : er = 0
        case neg =>
          have HNZ := Lib.hid h0
          have hne' : ((er : Int) != 0) = true := by rw [bne_iff_ne]; omega
          obtain ⟨r0, r1, r2, r3, -, -, -, -, rz⟩ := HK20.out.c4
          obtain ⟨d0, df0, dz⟩ := HP20.out.f.c1
          go_upto_region 19 with (fail)
          rename_i K9 hK9
          have hgne : gr ≠ g2 := by omega
          have HK21 : Hid (Blk (w22.setCell ⟨g2, 0, none⟩ (.slice none 0 0)) gr 141 #[.slice A n c, .int .i64 (q : Int), .int .i64 (k : Int), .int .i64 (er : Int)]) := Lib.hid (HK20.out.far (by simpa using hgne) _)
          have HZZ := Lib.hid (put1_6 HP20.out.f (.slice none 0 0))
          have HZB : Hid (Below w.heap.size w (w22.setCell ⟨g2, 0, none⟩ (.slice none 0 0))) := Lib.hid (HP20.out.bel.setCell (p := ⟨g2, 0, none⟩) (by show w.heap.size ≤ g2; omega) _)
          obtain ⟨q0, q1, q2, q3, -, -, -, -, qz⟩ := HK21.out.c4
          obtain ⟨e0, -⟩ := HZZ.out.c1
          have HSa : Hid (w22.drew.cell? ⟨gr, 3, none⟩ = some (.int .i64 (er : Int))) := Lib.hid r3
          have HSb : Hid ((w22.drew.setCell ⟨g2, 0, none⟩ (.slice none 0 0)).cell? ⟨gr, 3, none⟩ = some (.int .i64 (er : Int))) := Lib.hid q3
          have HSc : Hid ((w22.setCell ⟨g2, 0, none⟩ (.slice none 0 0)).drew.cell? ⟨gr, 3, none⟩ = some (.int .i64 (er : Int))) := Lib.hid q3
          have HSd : Hid ((w22.setCell ⟨g2, 0, none⟩ (.slice none 0 0)).cell? ⟨gr, 3, none⟩ = some (.int .i64 (er : Int))) := Lib.hid q3
          clear q0 q1 q2 q3 qz
          go_region_held3 (fun W => W.cell? ⟨gr, 3, none⟩ = some (.int .i64 (er : Int)))
            (with_reducible first | assumption | exact HSa.out | exact HSb.out | exact HSc.out | exact HSd.out)
            (fail)
          all_goals
            refine hK9 _ _ ?_
            refine wp_ret ?_
            change bodyPost Tryd.prog Tryd.f68 _ .ret _ _
            exact bodyPost_ret (v := .tuple #[.agg #[.slice none 0 0], .slice none 0 0, .int .i64 (er : Int)]) (by simp [results, Tryd.results68, go_sem, e0]) rfl (PaD.err HPE.out HNZ.out (by first | exact HZB.out | exact HZB.out.drew))
        case pos =>
          have HP0 : Hid (parE l = 0 ∧ parF l = fl.map Prod.fst ∧ parD l = fl.map Prod.snd) := Lib.hid ⟨by rw [HPE.out, h0], by unfold parF; rw [HPP.out h0], by unfold parD; rw [HPP.out h0]⟩
          subst h0
          obtain ⟨V1, cc1, ho1, hm1⟩ := own_form HP20.out.ow1
          obtain ⟨V2, cc2, ho2, hm2⟩ := own_form HP20.out.ow2
          subst ho1 ho2
          obtain ⟨nf, hnf⟩ : ∃ k, k = (fl.map Prod.fst).length := ⟨_, rfl⟩
          obtain ⟨nd, hnd⟩ : ∃ k, k = (fl.map Prod.snd).length := ⟨_, rfl⟩
          have HXt := Lib.hid HP20.out.x
          rw [← hnf] at HXt
          rw [← hnd]
          have HNF := Lib.hid hnf
          have HND := Lib.hid hnd
          clear HPE HPP hnf hnd hm1 hm2
          obtain ⟨r0, r1, r2, r3, -, -, -, -, rz⟩ := HK20.out.c4
          obtain ⟨d0, df0, dz⟩ := HP20.out.f.c1
          obtain ⟨x0, -, xz⟩ := HXt.out.c1
          have HZZ := Lib.hid (put1_6 HP20.out.f (.slice V1 nf cc1))
          have HFIN : Hid (PaD l w (.returned (.tuple #[.agg #[.slice V1 nf cc1], .slice V2 nd cc2, .int .i64 0])) (w22.setCell ⟨g2, 0, none⟩ (.slice V1 nf cc1))) := Lib.hid (by
            have hkz : Kp lo w22.heap.size w22 (w22.setCell ⟨g2, 0, none⟩ (.slice V1 nf cc1)) := (Kp.refl _ _ _).set (.inl (by show g2 < lo; omega)) _
            have hwl : w.heap.size ≤ lo := by omega
            have hf : Fx w22 lo w22.heap.size V1 (fl.map Prod.fst) := ⟨vs1, Rx.of_own HP20.out.ow1, HP20.out.vq.vx⟩
            have hd : Dx w22 lo w22.heap.size V2 (fl.map Prod.snd) := ⟨vs2, Rx.of_own HP20.out.ow2, HP20.out.dq⟩
            refine ⟨V1, cc1, V2, cc2, ?_, ?_, ?_, ?_, HP20.out.bel.setCell (p := ⟨g2, 0, none⟩) (by show w.heap.size ≤ g2; omega) _⟩
            · rw [HP0.out.1, HP0.out.2.1, HP0.out.2.2, ← HNF.out, ← HND.out]; rfl
            · rw [HP0.out.2.1]; exact (hf.keep hkz).more hwl (by simp)
            · rw [HP0.out.2.2]; exact (hd.keep hkz).more hwl (by simp)
            · rw [HP0.out.2.1, HP0.out.2.2]; exact ⟨(own_cap HP20.out.ow1).2, (own_cap HP20.out.ow2).2⟩)
          clear HP20 HK20 HP0 HXt
          go_wp2
          obtain ⟨e0, -⟩ := HZZ.out.c1
          exact bodyPost_ret (v := .tuple #[.agg #[.slice V1 nf cc1], .slice V2 nd cc2, .int .i64 0]) (by simp [results, Tryd.results68, go_sem, e0]) rfl HFIN.out
    · obtain ⟨hm0, hb0⟩ := not_or.1 hend
      obtain ⟨m', hm'⟩ := Nat.exists_eq_succ_of_ne_zero hm0
      have HM' : Hid (m = m' + 1) := Lib.hid hm'
      have hbf : e' = 0 := by simpa using hb0
      subst hbf
      have hmi : (0 : Int) < (m : Int) := by omega
      clear hend hm0 hb0 hm'
      generalize wr = wo at *
      have H1 := Lib.hid (HFNC.out wo q HKr.out HPr.out.bel hq)
      obtain ⟨fd, q', e'', hfd⟩ : ∃ fd q' e'', fsR lk q 0 = (fd, q', e'') := ⟨_, _, _, rfl⟩
      have hq' : q' ≤ k := by have := fsR_pos (l := lk) (p := q) (e := 0) (by rw [HLK.out]; omega) (by rw [HLK.out]; exact hq); rw [hfd, HLK.out] at this; exact this
      have hlen := fsR_len lk q 0
      rw [hfd, HLK.out] at hlen
      rw [hfd] at H1
      have HFD := Lib.hid hfd
      have HLEN := Lib.hid hlen
      clear hfd hlen
      go_wp2_with fail
      refine H1.out.mono ?_
      rintro e w7 ⟨Vs, cs, Vi, ci, D, cd, rfl, hsx, hnx, hbx, hcap, hk7, hg7⟩
      obtain ⟨f, d⟩ := fd
      simp only at hsx hnx hbx hcap hk7 ⊢
      clear r0 r1 r2 r3 rf0 rf1 rf2 rf3 rz
      go_upto_region 14 with (fail)
      obtain ⟨Y, hY⟩ : ∃ Y, Y = w7.alloc (.cells #[.int .i64 f.params, .slice Vs f.slots.length cs, .slice Vi f.code.length ci] 97) := ⟨_, rfl⟩
      obtain ⟨gx, hgx⟩ : ∃ g, g = w7.heap.size := ⟨_, rfl⟩
      rw [← hY, ← hgx]
      have hbY : Below w7.heap.size w7 Y := by rw [hY]; exact (Below.refl _ _).alloc (Nat.le_refl _) _
      have HIY : Hid (Blk Y gx 97 #[.int .i64 f.params, .slice Vs f.slots.length cs, .slice Vi f.code.length ci]) := Lib.hid (by rw [hY, hgx]; exact Blk.new _ _ _)
      have HKY := Lib.hid (hk7.after hbY)
      have HPY := Lib.hid ((HPr.out.grownR HKr.out hg7 hwr).after hbY)
      have hzY : lo ≤ Y.heap.size := Nat.le_trans (Nat.le_trans hlz hg7.size) hbY.size
      have hkpY : Kp lo w7.heap.size w7 Y := Kp.of_below hbY (Nat.le_refl _)
      have HSY : Hid (SxT Y lo Y.heap.size Vs f.slots) := Lib.hid (((hsx.more hlz (Nat.le_refl _)).kp hkpY).more (Nat.le_refl _) hbY.size)
      have HNY : Hid (NxT Y lo Y.heap.size Vi f.code) := Lib.hid (((hnx.more hlz (Nat.le_refl _)).kp hkpY).more (Nat.le_refl _) hbY.size)
      have HBY : Hid (BxT Y lo Y.heap.size D d) := Lib.hid (((hbx.more hlz (Nat.le_refl _)).kp hkpY).more (Nat.le_refl _) hbY.size)
      have HCAP := Lib.hid hcap
      clear hY hgx hbY hk7 hg7 H1 HKr HPr hlz hkpY hsx hnx hbx hcap
      obtain ⟨V9, c9, ho9, hm9⟩ := own_form HPY.out.ow1
      subst ho9
      obtain ⟨nf, hnf⟩ : ∃ k, k = (fl.map Prod.fst).length := ⟨_, rfl⟩
      have HNF := Lib.hid hnf
      have hnf80 : nf ≤ 80 := by have := HM.out; rw [hnf, List.length_map]; omega
      have HXY : Hid (Blk Y g7 44 #[.slice V9 nf c9]) := Lib.hid (by rw [hnf]; exact HPY.out.x)
      have RD9 : Hid (Reads Y Y.heap.size 3 V9 nf vs1) := Lib.hid (by rw [hnf]; exact Reads.of_own HPY.out.ow1)
      have ONE : Hid (∀ u ∈ vs1, u.oneCell' = true) := Lib.hid (Vx.one HPY.out.vq.vx HPY.out.ow1.1)
      obtain ⟨ns, hns⟩ : ∃ k, k = f.slots.length := ⟨_, rfl⟩
      obtain ⟨nc, hnc⟩ : ∃ k, k = f.code.length := ⟨_, rfl⟩
      obtain ⟨pa, hpa⟩ : ∃ k, k = f.params := ⟨_, rfl⟩
      rw [← hns, ← hnc, ← hpa] at HIY
      have HEQ := Lib.hid (⟨hns, hnc, hpa⟩ : ns = f.slots.length ∧ nc = f.code.length ∧ pa = f.params)
      clear hnf hm9 hns hnc hpa
      obtain ⟨j0, j1, j2, -, -, -, jz⟩ := HIY.out.c3
      obtain ⟨x0, xf0, xz⟩ := HXY.out.c1
      have h27 : g2 ≠ g7 := by omega
      have hw7 : w.heap.size ≤ g7 := by omega
      have hwlo : w.heap.size ≤ lo := by omega
      have hr7 : gr ≠ g7 := by omega
      go_cut [] (fun wx => ∃ o1' vs1', PI g2 g7 lo (fl.map Prod.fst ++ [f]) o1' vs1' (fl.map Prod.snd) o2 vs2 w wx ∧ Blk wx gr 141 #[.slice A n c, .int .i64 (q' : Int), .int .i64 (k : Int), .int .i64 (e'' : Int)] ∧ BxT wx lo wx.heap.size D d ∧ lo ≤ wx.heap.size)
      case first =>
        go_region_law (first
          | (refine copy_a Y rfl (.tmp 57) 42 rfl 97 i0 _ 3 56 Tryd.underlying42 hi0 hz0 hz1 hz2 rfl (by omega) V9 nf c9 vs1 (by first | (simp [Act.eval]; done) | (simp [Act.eval, Act.put]; done)) _ (by first | exact .inl rfl | exact .inr ⟨_, rfl⟩) RD9.out ONE.out (by unfold maxLen; omega) (by omega) ?_; intro v2 wA hownA hbA hgA; have HXA := HIY.out.after hbA; obtain ⟨j0, j1, j2, -, -, -, jz⟩ := HXA.c3)
          | (refine copy_b Y rfl (.tmp 58) (.tmp 60) 42 rfl 97 i0 _ 3 56 Tryd.underlying42 hi0 hz0 hz1 hz2 rfl (by omega) nf vs1 [.int .i64 pa, .slice Vs ns cs, .slice Vi nc ci] v2 wA hownA hbA (by first | (simp [Act.eval]; done) | (simp [Act.eval, Act.put]; done)) rfl (by simp [Value.oneCell']) _ (by first | (simp [Act.eval]; rfl) | (simp [Act.eval, Act.put]; rfl)) _ 97 (by first | exact .inl ⟨rfl, rfl⟩ | exact .inr ⟨hgA, rfl, rfl⟩) (by unfold maxLen; omega) (by omega) ?_; intro V3 c3 wB hownB hbB; have HTB := HXY.out.after hbB; obtain ⟨x0, xf0, xz⟩ := HTB.c1))
        all_goals
          have hpx : PI g2 g7 lo (fl.map Prod.fst ++ [f]) (.slice V3 (nf + 1) c3) (vs1 ++ [.int .i64 f.params, .slice Vs f.slots.length cs, .slice Vi f.code.length ci]) (fl.map Prod.snd) o2 vs2 w (wB.setCell ⟨g7, 0, none⟩ (.slice V3 (nf + 1) c3)) := HPY.out.copy1 HSY.out HNY.out ⟨by have := HLEN.out.1; simp only at this; unfold maxLen; omega, HCAP.out.1⟩ ⟨by have := HLEN.out.2.1; simp only at this; unfold maxLen; omega, HCAP.out.2.1⟩ hw7 h27 hzY hbB (by rw [← HEQ.out.1, ← HEQ.out.2.1, ← HEQ.out.2.2, ← HNF.out]; exact hownB)
          have hkx := (HKY.out.after hbB).far (p := ⟨g7, 0, none⟩) (by show gr ≠ g7; omega) (.slice V3 (nf + 1) c3)
          have hbx := ((HBY.out.kp (Kp.of_below hbB (Nat.le_refl _))).kp ((Kp.refl _ _ _).set (p := ⟨g7, 0, none⟩) (.inl (by show g7 < lo; omega)) (.slice V3 (nf + 1) c3))).more (Nat.le_refl _) (by have := hbB.size; simpa using this : Y.heap.size ≤ (wB.setCell ⟨g7, 0, none⟩ (.slice V3 (nf + 1) c3)).heap.size)
          have hzx : lo ≤ (wB.setCell ⟨g7, 0, none⟩ (.slice V3 (nf + 1) c3)).heap.size := by have := hbB.size; simp; omega
          have HALL := Lib.hid (⟨_, _, hpx, hkx, hbx, hzx⟩ : ∃ o1' vs1', PI g2 g7 lo (fl.map Prod.fst ++ [f]) o1' vs1' (fl.map Prod.snd) o2 vs2 w (wB.setCell ⟨g7, 0, none⟩ (.slice V3 (nf + 1) c3)) ∧ Blk (wB.setCell ⟨g7, 0, none⟩ (.slice V3 (nf + 1) c3)) gr 141 #[.slice A n c, .int .i64 (q' : Int), .int .i64 (k : Int), .int .i64 (e'' : Int)] ∧ BxT (wB.setCell ⟨g7, 0, none⟩ (.slice V3 (nf + 1) c3)) lo (wB.setCell ⟨g7, 0, none⟩ (.slice V3 (nf + 1) c3)).heap.size D d ∧ lo ≤ (wB.setCell ⟨g7, 0, none⟩ (.slice V3 (nf + 1) c3)).heap.size)
          clear hownA hbA hgA HXA hownB hbB HTB j0 j1 j2 jz x0 xf0 xz hpx hkx hbx hzx
          go_wp2_with fail
          go_meet
          exact HALL.out
      case rest =>
      obtain ⟨o1', vs1', hp10, hk10, hb10, hz10⟩ := hcut
      generalize wc = w10 at *
      have HP10 := Lib.hid hp10
      have HK10 := Lib.hid hk10
      have HB10 := Lib.hid hb10
      clear hp10 hk10 hb10 HPY HKY HSY HNY HBY HXY HIY RD9 ONE hzY j0 j1 j2 jz x0 xf0 xz
      obtain ⟨nd, hnd⟩ : ∃ k, k = (fl.map Prod.snd).length := ⟨_, rfl⟩
      have hnd80 : nd ≤ 80 := by have := HM.out; rw [hnd, List.length_map]; omega
      have HOW : Hid (w10.ownsRow lo 22 1 o2 nd vs2) := Lib.hid (by rw [hnd]; exact HP10.out.ow2)
      have HND := Lib.hid hnd
      obtain ⟨dl, hdl⟩ : ∃ k, k = d.length := ⟨_, rfl⟩
      have HDL := Lib.hid hdl
      rw [← hdl]
      clear hnd hdl
      go_wp2_with (at_builtin; refine wpList_append_any _ rfl (.tmp 63) (.tmp 65) _ rfl lo 22 i1 _ 1 24 Tryd.underlying35 hi1 hy0 hy1 hy2 rfl (by omega) o2 nd vs2 rfl (HOW.out.alloc _) (w10.heap.size + 1) (some ⟨w10.heap.size, 0, none⟩) 1 1 [.slice D dl cd] rfl (litX6 w10 _ [_] 1 1 rfl) (by simp [Value.oneCell']) (by unfold maxLen; omega) (by omega) (by simp; omega) ?_; intro v2 w13 hown1 hg1 hat1)
      have hob : Below w10.heap.size w10 (w10.alloc (.cells #[.slice D dl cd] 22)) := (Below.refl _ _).alloc (Nat.le_refl _) _
      have hpa := HP10.out.after hob
      have hbx : BxT (w10.alloc (.cells #[.slice D dl cd] 22)) lo (w10.alloc (.cells #[.slice D dl cd] 22)).heap.size D d := (HB10.out.kp (Kp.of_below hob (Nat.le_refl _))).more (Nat.le_refl _) hob.size
      have HPX := Lib.hid (hpa.app2 (d := d) (ci := cd) hbx ⟨by have := HLEN.out.2.2; simp only at this; unfold maxLen; omega, HCAP.out.2.2⟩ hwlo (Nat.le_trans hz10 hob.size) (by rw [← HND.out, ← HDL.out]; exact hown1) hg1)
      have HKX := Lib.hid ((HK10.out.alloc (.cells #[.slice D dl cd] 22)).grown hg1 (fun e => own_blk_ne hpa.ow2 (HK10.out.alloc _) (by decide) e.symm))
      have hz13 : lo ≤ w13.heap.size := Nat.le_trans hz10 (Nat.le_trans hob.size hg1.size)
      clear hob hpa hbx hown1 hg1 hat1
      go_roundw
      case rel =>
        refine ⟨m', q', e'', fl ++ [(f, d)], o1', v2, vs1', vs2 ++ [.slice D d.length cd], ?_, rfl, hq', hz13, Lib.hid ?_, Lib.hid ?_, HKX, Lib.hid ?_⟩
        · rw [show (m : Int) - 1 = (m' : Int) by have := HM'.out; omega]
        · have h1 := HM.out
          have h2 := HM'.out
          simp only [List.length_append, List.length_cons, List.length_nil]
          omega
        · have h := manyS_succ (f := fsR lk) (n := m') (p := q)
          rw [HFD.out] at h
          rw [HCO.out, HM'.out, h]
          simp
        · rw [List.map_append, List.map_append]
          exact HPX.out
      case measure =>
        have := HM'.out
        simp [intOf]
        omega
theorem refparse_any (A : Option Addr) (n c : Nat) (l : List Nat) (w : World) (hb : Bs w w.heap.size A n l) (hn : n ≤ maxLen) (hc : n ≤ c) (hcm : c ≤ maxLen) :
    Calls Tryd.prog 68 #[.slice A n c] w (PaD l w) := by
  by_cases h : 1048576 < n ∨ n < 9 ∨ ¬ (l.take 4 = mgS ∧ crcB l = true)
  · exact refparse_err A n c l w hb hn hc hcm h
  · have h1 : ¬ 1048576 < n := fun h' => h (.inl h')
    have h2 : ¬ n < 9 := fun h' => h (.inr (.inl h'))
    have h3 : l.take 4 = mgS ∧ crcB l = true := Decidable.byContradiction (fun h' => h (.inr (.inr h')))
    exact refparse_ok A n c l w hb (by omega) (by omega) hc hcm h3.1 h3.2
end Go.Proofs.YtinfeglhjmnlaaaDoor.pm
