/- A drawn program, and one with a call added to it, is right: plain mathematics. -/
import Derived.Test.YtdijeijbcoeopaaDoorGNo
import Derived.Test.YtdijeijbcoeopaaDoorNn
import Derived.Test.YtdijeijbcoeopaaDoorGNa
import Derived.Deep.CutBlock
set_option linter.unusedVariables false
set_option maxRecDepth 10000
set_option maxHeartbeats 8000000
namespace Go.Proofs.YtdijeijbcoeopaaDoor.pm
open Go.RowKit
theorem vi0_opx {nf : Nat} {prm : Int} {sl : List (Int × Int)} {x : Ins} (h : Vi0 nf prm sl x) : x.op ≠ 20 ∧ x.op ≠ 21 ∧ (0 ≤ x.imm ∧ x.imm < 18446744073709551616) := by
 cases h <;> dsimp only <;> refine ⟨by omega, by omega, by omega, by omega⟩
theorem vi_small {nf : Nat} {prm : Int} {sl : List (Int × Int)} {nc : Nat} {x : Ins} (h : Vi nf prm sl nc x) (h1 : nf ≤ 1000) (h2 : prm ≤ 1000) (h3 : sl.length ≤ 1000) (h4 : nc ≤ 1000) : SmallI x ∧ (0 ≤ x.imm ∧ x.imm < 18446744073709551616) := by
 unfold SmallI
 rcases h with ⟨_, h⟩ | ⟨a, h0, h1⟩ | ⟨a, b, h0, h1, h2, h3⟩
 · cases h <;> dsimp only <;> refine ⟨⟨by omega, by omega, by omega, by omega⟩, by omega, by omega⟩
 · dsimp only; refine ⟨⟨by omega, by omega, by omega, by omega⟩, by omega, by omega⟩
 · dsimp only; refine ⟨⟨by omega, by omega, by omega, by omega⟩, by omega, by omega⟩
theorem vi_sh {nf : Nat} {prm : Int} {sl : List (Int × Int)} {nc : Nat} {x : Ins} (h : Vi nf prm sl nc x) : Vi nf prm sl (nc + 1) (shI x) := by
 rcases h with ⟨_, h⟩ | ⟨a, h0, h1⟩ | ⟨a, b, h0, h1, h2, h3⟩
 · have := vi0_opx h
   have e : shI x = x := by unfold shI; rw [if_neg this.1, if_neg this.2.1]
   rw [e]; exact .plain _ h
 · exact .jump (a + 1) (by omega) (by omega)
 · exact .branch a (b + 1) h0 h1 (by omega) (by omega)
theorem sh_op (x : Ins) : (shI x).op = x.op := by
 unfold shI
 split
 · rfl
 · split <;> rfl
def FnO (nf : Nat) (f : Fn) : Prop :=
 0 ≤ f.params ∧ f.params ≤ 3 ∧ f.slots.length ≤ 6 ∧ (∀ s ∈ f.slots, SlotOk s) ∧ 1 ≤ f.code.length ∧ f.code.length ≤ 300 ∧ (∀ x ∈ f.code, Vi nf f.params f.slots f.code.length x) ∧
 (f.code.getD (f.code.length - 1) Ins.z).op ∈ [(23 : Int), 24]
theorem FnOk.o {nf : Nat} {f : Fn} (h : FnOk nf f) : FnO nf f := by
 obtain ⟨h1, h2, h3, h4, h5, h6, h7⟩ := h
 exact ⟨h1, h2, h3, h4, h5, by omega, h7⟩
theorem fn_oE {nf : Nat} {f : Fn} (h : FnO nf f) : funcE nf f = 0 := by
 obtain ⟨h1, h2, h3, h4, h5, h6, h7, h8⟩ := h
 have hs : slotsE f.slots = 0 := by
  unfold slotsE
  rw [if_neg (by omega), if_pos (List.all_eq_true.2 (fun s hs => slot_ok (h4 s hs)))]
 have hc : firstE (f.code.map (instrE nf f.params f.slots f.code.length)) = 0 := firstE_zero (fun y hy => by
  obtain ⟨x, hx, rfl⟩ := List.mem_map.1 hy
  exact vi_ok (h7 x hx))
 have ht : termB (f.code.getD (f.code.length - 1) Ins.z).op = true := by
  simp only [List.mem_cons, List.not_mem_nil, or_false] at h8
  rcases h8 with h | h <;> rw [h] <;> rfl
 unfold funcE
 rw [if_neg (by omega), if_neg (by rw [hs]; simp), if_neg (by rw [inB_f]; omega), if_neg (by rw [hc]; simp), if_neg]
 rw [ht]
 have : (f.code.length == 0) = false := by simpa using (show f.code.length ≠ 0 by omega)
 rw [this]
 simp
theorem cycF_o {nf : Nat} {f : Fn} (h : FnOk nf f) {j : Nat} (hj : j < nf) : FnO nf (cycF f j) := by
 obtain ⟨h1, h2, h3, h4, h5, h6, h7, h8⟩ := h
 have hl : (cycF f j).code.length = f.code.length + 1 := by simp [cycF]
 refine ⟨h1, h2, h3, h4, by omega, by omega, fun x hx => ?_, ?_⟩
 · rw [hl]
   have hx' : x ∈ (⟨22, j, 0, 0, 0⟩ : Ins) :: f.code.map shI := hx
   rcases List.mem_cons.1 hx' with rfl | h'
   · exact .plain _ (.call _ (by omega) (by omega))
   · obtain ⟨y, hy, rfl⟩ := List.mem_map.1 h'
     exact vi_sh (h7 y hy)
 · rw [hl, Nat.add_sub_cancel]
   have e : (cycF f j).code.getD f.code.length Ins.z = shI (f.code.getD (f.code.length - 1) Ins.z) := by
    unfold cycF
    rw [List.getD_eq_getElem?_getD, List.getD_eq_getElem?_getD]
    obtain ⟨n, hn⟩ : ∃ n, f.code.length = n + 1 := ⟨f.code.length - 1, by omega⟩
    rw [hn, List.getElem?_cons_succ, List.getElem?_map, Nat.add_sub_cancel, List.getElem?_eq_getElem (by omega)]
    rfl
   rw [e, sh_op]
   exact h8
def PrO (p : List Fn) : Prop := 1 ≤ p.length ∧ p.length ≤ 80 ∧ (p.getD 0 Fn.z).params = 0 ∧ ∀ f ∈ p, FnO p.length f
theorem PrOk.o {most : Nat} {p : List Fn} (h : PrOk most p) (hm : most ≤ 80) : PrO p := ⟨h.1, Nat.le_trans h.2.1 hm, h.2.2.1, fun f hf => (h.2.2.2 f hf).o⟩
theorem cyc_o {most : Nat} {p : List Fn} (h : PrOk most p) (hm : most ≤ 80) {i j : Nat} (hi : i < p.length) (hj : j < p.length) : PrO (cyc p i j) := by
 have hl : (cyc p i j).length = p.length := by simp [cyc]
 refine ⟨by rw [hl]; exact h.1, by rw [hl]; exact Nat.le_trans h.2.1 hm, ?_, fun f hf => ?_⟩
 · unfold cyc
   by_cases e : i = 0
   · subst e
     rw [List.getD_eq_getElem?_getD, List.getElem?_set_self hi]
     exact h.2.2.1
   · rw [List.getD_eq_getElem?_getD, List.getElem?_set_ne e, ← List.getD_eq_getElem?_getD]
     exact h.2.2.1
 · rw [hl]
   rcases List.mem_or_eq_of_mem_set hf with h1 | h1
   · exact (h.2.2.2 f h1).o
   · rw [h1]
     exact cycF_o (h.2.2.2 _ (getD_mem' hi)) hj
section
variable {p : List Fn} (h : PrO p)
include h
theorem PrO.E : progE p = 0 := by
 obtain ⟨h1, h2, h3, h4⟩ := h
 unfold progE
 rw [if_neg (by omega), if_neg (by omega), if_neg (by rw [h3]; simp)]
 exact firstE_zero (fun y hy => by
  obtain ⟨f, hf, rfl⟩ := List.mem_map.1 hy
  exact fn_oE (h4 f hf))
theorem PrO.r : ∀ i, i < p.length → FnR (p.getD i Fn.z) := fun i hi s hs => by
 have := (h.2.2.2 _ (getD_mem' hi)).2.2.2.1 s hs
 unfold SlotOk at this
 unfold I64
 omega
end
theorem PrOk.small {most : Nat} {p : List Fn} (h : PrOk most p) (hm : most ≤ 80) : ∀ i, i < p.length → (p.getD i Fn.z).code.length ≤ 500 ∧ ∀ x ∈ (p.getD i Fn.z).code, SmallI x := fun i hi => by
 obtain ⟨g1, g2, g3, g4, g5, g6, g7, g8⟩ := h.2.2.2 _ (getD_mem' hi)
 exact ⟨by omega, fun x hx => (vi_small (g7 x hx) (by have := h.2.1; omega) (by omega) (by omega) (by omega)).1⟩
attribute [local go_sem ↓] Go.wp_at_zero Go.wp_at_succ
def SceneD (A : Option Addr) (m c : Nat) (l : List Nat) (w : World) (e : Ending) (w' : World) : Prop :=
 ∃ (p : List Fn) (inp : List Nat) (F : Nat) (Ap : Option Addr) (cp : Nat) (iv : Value) (p' : Nat), e = .returned (.tuple #[.agg #[.slice Ap p.length cp], iv, .int .i64 (F : Int), .pointer (some ⟨w.heap.size + 1, 0, none⟩)]) ∧
  PrO p ∧ F < 256 ∧ (∀ v ∈ inp, v < 18446744073709551616) ∧ Fx w' (w.heap.size + 1 + 1) w'.heap.size Ap p ∧ InX w' w'.heap.size iv inp ∧ p.length ≤ cp ∧ CodesAt w' w.heap.size (w.heap.size + 1) A m c l p' ∧ Below w.heap.size w w'
theorem scene_any (A : Option Addr) (n c : Nat) (l : List Nat) (w : World) (hb : Bs w w.heap.size A n l) (hn : n ≤ maxLen) (hc : n ≤ c) :
 Calls Tryd.prog 5 #[.slice A n c] w (SceneD A (min n 300) c (l.take (min n 300)) w) := by
 obtain ⟨W1, hW1⟩ : ∃ W1, W1 = w.alloc (.cells #[.slice none 0 0] 26) := ⟨_, rfl⟩
 have HK1 : Hid (Blk W1 w.heap.size 26 #[.slice none 0 0]) := hQ (by rw [hW1]; exact Blk.new _ _ _)
 have hB1 : Below w.heap.size w W1 := by rw [hW1]; exact bR.alloc nL _
 have hs1 : W1.heap.size = w.heap.size + 1 := by rw [hW1]; simp
 have HBS : Hid (Bs W1 w.heap.size A n l) := hQ (by
  rw [hW1]
  exact hb.alloc nL _)
 have HW1 := hQ hW1
 have HB1 := hQ hB1
 clear hb hW1 hB1
 go_enter Tryd.func5, Tryd.ntmps5
 go_upto_region 1 with (fail)
 rw [← HW1.out]
 go_wp2_with fail
 refine (newcodes_any A n c l 300 _ hn hc (by omega)).mono ?_
 rintro e w2 ⟨rfl, hw2⟩
 have HC2 : Hid (CodesAt w2 w.heap.size (w.heap.size + 1) A (min n 300) c (l.take (min n 300)) 0) := hQ (by
  rw [hw2]
  exact ⟨Blk.newAt (by omega), ((HBS.out.take (Nat.min_le_left _ _)).alloc (by omega) _), Nat.zero_le _, Nat.le_succ _, by omega⟩)
 have HB2 : Hid (Below w.heap.size w w2) := hQ (by rw [hw2]; exact HB1.out.alloc (by omega) _)
 have HK12 : Hid (Blk w2 w.heap.size 26 #[.slice none 0 0]) := hQ (by rw [hw2]; exact HK1.out.alloc _)
 have hs2 : w2.heap.size = w.heap.size + 1 + 1 := by rw [hw2]; simp [hs1]
 generalize min n 300 = m at *
 generalize l.take m = l' at *
 clear hw2 HBS HK1
 have hs21 : w.heap.size < w2.heap.size := by omega
 go_wp2_with fail
 refine (program_d _ _ _ _ _ _ _ 4 12 _ HC2.out (by omega) (by omega) (by omega)).mono ?_
 rintro e w3 ⟨p, Ap, cp, p3, rfl, hpo, hcp, hfx, c3, g3⟩
 have HPO := hQ hpo
 have HFX := hQ hfx
 have HC3 := hQ c3
 have HB3 : Hid (Below w.heap.size w w3) := hQ (HB2.out.trans (below_of_grownR g3 (fun k e => by injection e; omega) (by omega)))
 have HK13 := hQ (HK12.out.grown g3 (some_ne (by omega)))
 have hs3 : w2.heap.size ≤ w3.heap.size := g3.size
 have hpl1 := hpo.1
 have hpl4 := hpo.2.1
 clear hpo hfx c3 g3 HC2 HK12
 go_upto_region 3 with (fail)
 obtain ⟨W4, hW4⟩ : ∃ W4, W4 = w3.alloc (.cells #[.slice Ap p.length cp] 26) := ⟨_, rfl⟩
 rw [← hW4]
 have HK7 : Hid (Blk W4 w3.heap.size 26 #[.slice Ap p.length cp]) := hQ (by rw [hW4]; exact Blk.new _ _ _)
 have hB4 : Below w3.heap.size w3 W4 := by rw [hW4]; exact bR.alloc nL _
 have HC4 := hQ (HC3.out.after hB4)
 have HB4 : Hid (Below w.heap.size w W4) := hQ (HB3.out.trans (hB4.mono (by omega)))
 have HK14 := hQ (HK13.out.after hB4)
 have HFX4 := hQ (HFX.out.keep (Kp.of_below hB4 nL))
 obtain ⟨g7, hg7⟩ : ∃ g7, g7 = w3.heap.size := ⟨_, rfl⟩
 rw [← hg7] at HK7 HFX4 ⊢
 have hs4 : W4.heap.size = g7 + 1 := by rw [hW4, hg7]; simp
 have hg72 : w2.heap.size ≤ g7 := by omega
 clear hW4 hB4 hg7 HC3 HB3 HK13 HFX
 go_wp2_with fail
 refine (next_d _ _ _ _ _ _ _ 6 _ HC4.out (by omega) (by omega)).mono ?_
 rintro e w5 ⟨t, p5, ht, rfl, c5, g5⟩
 have HC5 := hQ c5
 have HB5 : Hid (Below w.heap.size w w5) := hQ (HB4.out.trans (below_of_grownR g5 (fun k e => by injection e; omega) (by omega)))
 have HK75 := hQ (HK7.out.grown g5 (some_ne (by omega)))
 have HK15 := hQ (HK14.out.grown g5 (some_ne (by omega)))
 have HFX5 := hQ (HFX4.out.keep (Kp.of_grown g5 (by omega) (.inl (by omega))))
 have hs5 : W4.heap.size ≤ w5.heap.size := g5.size
 clear c5 g5 HC4 HB4 HK7 HK14 HFX4 ht
 obtain ⟨q0, qf, qz⟩ := Blk.one HK75.out
 go_upto_if 14 with (fail)
 go_cut [] (fun wx => ∃ (q : List Fn) (Aq : Option Addr) (cq p6 : Nat), Hid (PrO q) ∧ q.length ≤ cq ∧ Hid (Blk wx g7 26 #[.slice Aq q.length cq]) ∧ Hid (Blk wx w.heap.size 26 #[.slice none 0 0]) ∧ Hid (Fx wx (w.heap.size + 1 + 1) wx.heap.size Aq q) ∧ Hid (CodesAt wx w.heap.size (w.heap.size + 1) A m c l' p6) ∧ Hid (Below w.heap.size w wx) ∧ g7 < wx.heap.size)
 case first =>
  rcases ht5 : ((t : Int) == 5) with _ | _
  · go_wp2
    go_meet
    exact ⟨p, Ap, cp, p5, hQ (HPO.out.o (by omega)), hcp, HK75, HK15, hQ (HFX5.out.more (by omega) (by omega)), HC5, HB5, by omega⟩
  · go_wp2_with fail
    refine (cyclic_d _ _ _ _ _ _ _ _ p cp w2.heap.size g7 _ HC5.out HFX5.out (by omega) (by omega) (by omega) hpl1 (by omega) (HPO.out.small (by omega))).mono ?_
    rintro e w6 ⟨i, j, Aq, cq, p6, ⟨hi, hj⟩, rfl, hcq, hfq, c6, g6⟩
    have HFQ := hQ hfq
    have HC6 := hQ c6
    have HB6 : Hid (Below w.heap.size w w6) := hQ (HB5.out.trans (below_of_grownR g6 (fun k e => by injection e; omega) (by omega)))
    have HK76 := hQ (HK75.out.grown g6 (some_ne (by omega)))
    have HK16 := hQ (HK15.out.grown g6 (some_ne (by omega)))
    have hs6 : w5.heap.size ≤ w6.heap.size := g6.size
    have HPC := hQ (cyc_o HPO.out (by omega) hi hj)
    have hql : (cyc p i j).length = p.length := by simp [cyc]
    clear hfq c6 g6 q0 qf qz
    obtain ⟨q0, qf, qz⟩ := Blk.one HK76.out
    go_wp2
    go_meet
    refine ⟨cyc p i j, Aq, cq, p6, HPC, by omega, hQ (by rw [hql]; exact HK76.out.set_ 0 _), hQ (HK16.out.far (by show ¬ w.heap.size = g7; omega) _), hQ ?_, hQ (HC6.out.set (by show w.heap.size + 1 ≠ g7; omega) (by show w.heap.size ≤ g7; omega) _), hQ (HB6.out.setCell (by show w.heap.size ≤ g7; omega) _), by simp; omega⟩
    exact (HFQ.out _ ((Kp.refl _ _ _).set (p := ⟨g7, 0, none⟩) (.inr nL) _) ((Kp.refl _ _ _).set (p := ⟨g7, 0, none⟩) (.inl (by show g7 < w5.heap.size; omega)) _) (by simp)).more (by omega) nL
 case rest =>
  obtain ⟨q, Aq, cq, p6, HPQ, hcq, HK7, HK1, HFQ, HC6, HB6, hs6⟩ := hcut
  obtain ⟨W6, hW6⟩ : ∃ W6, W6 = wc := ⟨_, rfl⟩
  subst hW6
  clear q0 qf qz HC5 HB5 HK75 HK15 HFX5
  have hi6 : w.heap.size + 1 + 1 ≤ W6.heap.size := by have := HC6.out.1.lt; omega
  obtain ⟨x7, -, xg⟩ := Blk.one HK7.out
  obtain ⟨x1, xf, xl⟩ := Blk.one HK1.out
  go_upto_region 5 with (fail)
  go_region_law (first
   | (go_simp; refine (input_d _ _ _ _ _ _ _ _ (CodesAt.dr HC6.out)).mono ?_; rintro e wI ⟨r, inp, pI, rfl, hil, hiw, oI, cI, gI⟩; have HIW := hQ hiw; have HOI : Hid (wI.ownsRow W6.heap.size 35 1 r inp.length (inV8 inp)) := hQ oI; have HCI := hQ cI; have HGI : Hid (W6.grownBy wI (some (w.heap.size + 1))) := hQ (grownBy_trans (grownBy_drewN' W6 1 _) gI); have hswI : W6.heap.size ≤ wI.heap.size := HGI.out.size; have x7wI : wI.cell? ⟨g7, 0, none⟩ = some (.slice Aq q.length cq) := (Blk.one (HK7.out.grown HGI.out (some_ne (by omega)))).1; have x1wI : wI.cell? ⟨w.heap.size, 0, none⟩ = some (.slice none 0 0) := (Blk.one (HK1.out.grown HGI.out (some_ne (by omega)))).1; have xfwI : wI.frozen? ⟨w.heap.size, 0, none⟩ = false := (Blk.one (HK1.out.grown HGI.out (some_ne (by omega)))).2.1; have xlwI : w.heap.size < wI.heap.size := (by omega); have xgwI : g7 < wI.heap.size := (by omega); clear hiw oI cI gI)
   | (go_simp; refine (input_d _ _ _ _ _ _ _ _ HCN.out).mono ?_; rintro e wI ⟨r, inp, pI, rfl, hil, hiw, oI, cI, gI⟩; have HIW := hQ hiw; have HOI : Hid (wI.ownsRow W6.heap.size 35 1 r inp.length (inV8 inp)) := hQ oI; have HCI := hQ cI; have HGI : Hid (W6.grownBy wI (some (w.heap.size + 1))) := hQ (grownBy_trans (HGN.out) gI); have hswI : W6.heap.size ≤ wI.heap.size := HGI.out.size; have x7wI : wI.cell? ⟨g7, 0, none⟩ = some (.slice Aq q.length cq) := (Blk.one (HK7.out.grown HGI.out (some_ne (by omega)))).1; have x1wI : wI.cell? ⟨w.heap.size, 0, none⟩ = some (.slice none 0 0) := (Blk.one (HK1.out.grown HGI.out (some_ne (by omega)))).1; have xfwI : wI.frozen? ⟨w.heap.size, 0, none⟩ = false := (Blk.one (HK1.out.grown HGI.out (some_ne (by omega)))).2.1; have xlwI : w.heap.size < wI.heap.size := (by omega); have xgwI : g7 < wI.heap.size := (by omega); clear hiw oI cI gI)
   | (go_simp; refine (next_d _ _ _ _ _ _ _ 256 _ (CodesAt.dr HC6.out) (by omega) (by omega)).mono ?_; rintro e wN ⟨F, pN, hF, rfl, cN, gN⟩; have hF2 : F < 256 := (by omega); have HCN := hQ cN; have HGN : Hid (W6.grownBy wN (some (w.heap.size + 1))) := hQ (grownBy_trans (grownBy_drewN' W6 1 _) gN); have hswN : W6.heap.size ≤ wN.heap.size := HGN.out.size; have x7wN : wN.cell? ⟨g7, 0, none⟩ = some (.slice Aq q.length cq) := (Blk.one (HK7.out.grown HGN.out (some_ne (by omega)))).1; have x1wN : wN.cell? ⟨w.heap.size, 0, none⟩ = some (.slice none 0 0) := (Blk.one (HK1.out.grown HGN.out (some_ne (by omega)))).1; have xfwN : wN.frozen? ⟨w.heap.size, 0, none⟩ = false := (Blk.one (HK1.out.grown HGN.out (some_ne (by omega)))).2.1; have xlwN : w.heap.size < wN.heap.size := (by omega); have xgwN : g7 < wN.heap.size := (by omega); clear hF cN gN)
   | (go_simp; refine (next_d _ _ _ _ _ _ _ 256 _ HCI.out (by omega) (by omega)).mono ?_; rintro e wN ⟨F, pN, hF, rfl, cN, gN⟩; have hF2 : F < 256 := (by omega); have HCN := hQ cN; have HGN : Hid (W6.grownBy wN (some (w.heap.size + 1))) := hQ (grownBy_trans (HGI.out) gN); have HOI := hQ (own_draw HOI.out gN (by omega)); have hswN : W6.heap.size ≤ wN.heap.size := HGN.out.size; have x7wN : wN.cell? ⟨g7, 0, none⟩ = some (.slice Aq q.length cq) := (Blk.one (HK7.out.grown HGN.out (some_ne (by omega)))).1; have x1wN : wN.cell? ⟨w.heap.size, 0, none⟩ = some (.slice none 0 0) := (Blk.one (HK1.out.grown HGN.out (some_ne (by omega)))).1; have xfwN : wN.frozen? ⟨w.heap.size, 0, none⟩ = false := (Blk.one (HK1.out.grown HGN.out (some_ne (by omega)))).2.1; have xlwN : w.heap.size < wN.heap.size := (by omega); have xgwN : g7 < wN.heap.size := (by omega); clear hF cN gN))
  all_goals
   obtain ⟨Ai, ci, rfl, -⟩ := own_form HOI.out
   have HIC := own_cap HOI.out
   have HBN : Hid (Below w.heap.size w wN) := hQ (HB6.out.trans (below_of_grownR HGN.out (fun k e => by injection e; omega) (by omega)))
   clear x7 x1 x7wI x1wI x7wN xf xfwI
   go_wp2
   obtain ⟨W9, hW9⟩ : ∃ W9, W9 = wN.setCell ⟨w.heap.size, 0, none⟩ (.slice Aq q.length cq) := ⟨_, rfl⟩
   rw [← hW9]
   have hK9 : Blk W9 w.heap.size 26 #[.slice Aq q.length cq] := by
    rw [hW9]
    exact (HK1.out.grown HGN.out (some_ne (by omega))).set_ 0 _
   obtain ⟨r0, -, -⟩ := Blk.one hK9
   have hs9 : W9.heap.size = wN.heap.size := by rw [hW9]; simp [World.setCell]
   have hk1 : Kp (w.heap.size + 1 + 1) wN.heap.size wN W9 := by
    rw [hW9]
    exact (Kp.refl _ _ _).set (p := ⟨w.heap.size, 0, none⟩) (.inl (by show w.heap.size < _; omega)) _
   have hFX : Fx W9 (w.heap.size + 1 + 1) W9.heap.size Aq q := by
    rw [hs9]
    exact ((HFQ.out.keep (Kp.of_grown HGN.out nL (.inl (by omega)))).more nL hswN).keep hk1
   have hIX : InX W9 W9.heap.size (.slice Ai inp.length ci) inp := by
    rw [hs9]
    exact ⟨Ai, ci, rfl, HIC.2, by omega, ((Rx.keep ((Rx.of_own HOI.out).more (by omega) nL) hk1)).more (Nat.zero_le _) nL⟩
   have hC9 : CodesAt W9 w.heap.size (w.heap.size + 1) A m c l' pN := by
    rw [hW9]
    exact HCN.out.set (by show w.heap.size + 1 ≠ w.heap.size; omega) nL _
   have hB9 : Below w.heap.size w W9 := by
    rw [hW9]
    exact HBN.out.setCell nL _
   refine bodyPost_ret (v := .tuple #[.agg #[.slice Aq q.length cq], .slice Ai inp.length ci, .int .i64 F, .pointer (some ⟨w.heap.size + 1, 0, none⟩)]) (by simp [results, Tryd.results5, go_sem, r0]) rfl ?_
   exact ⟨q, inp, F, Aq, cq, _, pN, rfl, HPQ.out, hF2, HIW.out, hFX, hIX, hcq, hC9, hB9⟩
end Go.Proofs.YtdijeijbcoeopaaDoor.pm
