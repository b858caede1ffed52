/- A drawn program, and one with a call added to it, is right: plain mathematics. -/
import Derived.Test.YtillopkcmpcokaaDoorGNo
import Derived.Test.YtillopkcmpcokaaDoorNn
import Derived.Test.YtillopkcmpcokaaDoorGVe
import Derived.Test.YtillopkcmpcokaaDoorGNa
import Derived.Deep.CutBlock
namespace Go.Proofs.YtillopkcmpcokaaDoor.pm
open Go.RowKit
set_option linter.unusedVariables false
set_option maxRecDepth 10000
theorem vi0_opx {nf : Nat} {prm : Int} {sl : List (Int × Int)} {x : Ins} (h : Vi0 nf prm sl x) : x.op ≠ 20 ∧ x.op ≠ 21 ∧ (0 ≤ x.imm ∧ x.imm < 18446744073709551616) := by
  cases h <;> dsimp only <;> refine ⟨by omega, by omega, by omega, by omega⟩
theorem vi_small {nf : Nat} {prm : Int} {sl : List (Int × Int)} {nc : Nat} {x : Ins} (h : Vi nf prm sl nc x) (h1 : nf ≤ 1000) (h2 : prm ≤ 1000) (h3 : sl.length ≤ 1000) (h4 : nc ≤ 1000) : SmallI x ∧ (0 ≤ x.imm ∧ x.imm < 18446744073709551616) := by
  unfold SmallI
  rcases h with ⟨_, h⟩ | ⟨a, h0, h1⟩ | ⟨a, b, h0, h1, h2, h3⟩
  · cases h <;> dsimp only <;> refine ⟨⟨by omega, by omega, by omega, by omega⟩, by omega, by omega⟩
  · dsimp only; refine ⟨⟨by omega, by omega, by omega, by omega⟩, by omega, by omega⟩
  · dsimp only; refine ⟨⟨by omega, by omega, by omega, by omega⟩, by omega, by omega⟩
theorem vi_sh {nf : Nat} {prm : Int} {sl : List (Int × Int)} {nc : Nat} {x : Ins} (h : Vi nf prm sl nc x) : Vi nf prm sl (nc + 1) (shI x) := by
  rcases h with ⟨_, h⟩ | ⟨a, h0, h1⟩ | ⟨a, b, h0, h1, h2, h3⟩
  · have := vi0_opx h
    have e : shI x = x := by unfold shI; rw [if_neg this.1, if_neg this.2.1]
    rw [e]; exact .plain _ h
  · exact .jump (a + 1) (by omega) (by omega)
  · exact .branch a (b + 1) h0 h1 (by omega) (by omega)
theorem sh_op (x : Ins) : (shI x).op = x.op := by
  unfold shI
  split
  · rfl
  · split <;> rfl
/-- a function, a little longer than a drawn one -/
def FnO (nf : Nat) (f : Fn) : Prop :=
  0 ≤ f.params ∧ f.params ≤ 3 ∧ f.slots.length ≤ 6 ∧ (∀ s ∈ f.slots, SlotOk s) ∧ 1 ≤ f.code.length ∧ f.code.length ≤ 300 ∧ (∀ x ∈ f.code, Vi nf f.params f.slots f.code.length x) ∧
  (f.code.getD (f.code.length - 1) Ins.z).op ∈ [(23 : Int), 24]
theorem FnOk.o {nf : Nat} {f : Fn} (h : FnOk nf f) : FnO nf f := by
  obtain ⟨h1, h2, h3, h4, h5, h6, h7⟩ := h
  exact ⟨h1, h2, h3, h4, h5, by omega, h7⟩
theorem fn_oE {nf : Nat} {f : Fn} (h : FnO nf f) : funcE nf f = 0 := by
  obtain ⟨h1, h2, h3, h4, h5, h6, h7, h8⟩ := h
  have hs : slotsE f.slots = 0 := by
    unfold slotsE
    rw [if_neg (by omega), if_pos (List.all_eq_true.2 (fun s hs => slot_ok (h4 s hs)))]
  have hc : firstE (f.code.map (instrE nf f.params f.slots f.code.length)) = 0 := firstE_zero (fun y hy => by
    obtain ⟨x, hx, rfl⟩ := List.mem_map.1 hy
    exact vi_ok (h7 x hx))
  have ht : termB (f.code.getD (f.code.length - 1) Ins.z).op = true := by
    simp only [List.mem_cons, List.not_mem_nil, or_false] at h8
    rcases h8 with h | h <;> rw [h] <;> rfl
  unfold funcE
  rw [if_neg (by omega), if_neg (by rw [hs]; simp), if_neg (by rw [inB_f]; omega), if_neg (by rw [hc]; simp), if_neg]
  rw [ht]
  have : (f.code.length == 0) = false := by simpa using (show f.code.length ≠ 0 by omega)
  rw [this]
  simp
theorem cycF_o {nf : Nat} {f : Fn} (h : FnOk nf f) {j : Nat} (hj : j < nf) : FnO nf (cycF f j) := by
  obtain ⟨h1, h2, h3, h4, h5, h6, h7, h8⟩ := h
  have hl : (cycF f j).code.length = f.code.length + 1 := by simp [cycF]
  refine ⟨h1, h2, h3, h4, by omega, by omega, fun x hx => ?_, ?_⟩
  · rw [hl]
    have hx' : x ∈ (⟨22, j, 0, 0, 0⟩ : Ins) :: f.code.map shI := hx
    rcases List.mem_cons.1 hx' with rfl | h'
    · exact .plain _ (.call _ (by omega) (by omega))
    · obtain ⟨y, hy, rfl⟩ := List.mem_map.1 h'
      exact vi_sh (h7 y hy)
  · rw [hl, Nat.add_sub_cancel]
    have e : (cycF f j).code.getD f.code.length Ins.z = shI (f.code.getD (f.code.length - 1) Ins.z) := by
      unfold cycF
      rw [List.getD_eq_getElem?_getD, List.getD_eq_getElem?_getD]
      obtain ⟨n, hn⟩ : ∃ n, f.code.length = n + 1 := ⟨f.code.length - 1, by omega⟩
      rw [hn, List.getElem?_cons_succ, List.getElem?_map, Nat.add_sub_cancel, List.getElem?_eq_getElem (by omega)]
      rfl
    rw [e, sh_op]
    exact h8
/-- a program that is drawn, or has had a call added -/
def PrO (p : List Fn) : Prop := 1 ≤ p.length ∧ p.length ≤ 80 ∧ (p.getD 0 Fn.z).params = 0 ∧ ∀ f ∈ p, FnO p.length f
theorem PrOk.o {most : Nat} {p : List Fn} (h : PrOk most p) (hm : most ≤ 80) : PrO p := ⟨h.1, Nat.le_trans h.2.1 hm, h.2.2.1, fun f hf => (h.2.2.2 f hf).o⟩
theorem cyc_o {most : Nat} {p : List Fn} (h : PrOk most p) (hm : most ≤ 80) {i j : Nat} (hi : i < p.length) (hj : j < p.length) : PrO (cyc p i j) := by
  have hl : (cyc p i j).length = p.length := by simp [cyc]
  refine ⟨by rw [hl]; exact h.1, by rw [hl]; exact Nat.le_trans h.2.1 hm, ?_, fun f hf => ?_⟩
  · unfold cyc
    by_cases e : i = 0
    · subst e
      rw [List.getD_eq_getElem?_getD, List.getElem?_set_self hi]
      exact h.2.2.1
    · rw [List.getD_eq_getElem?_getD, List.getElem?_set_ne e, ← List.getD_eq_getElem?_getD]
      exact h.2.2.1
  · rw [hl]
    rcases List.mem_or_eq_of_mem_set hf with h1 | h1
    · exact (h.2.2.2 f h1).o
    · rw [h1]
      exact cycF_o (h.2.2.2 _ (getD_mem' hi)) hj
section
variable {p : List Fn} (h : PrO p)
include h
theorem PrO.E : progE p = 0 := by
  obtain ⟨h1, h2, h3, h4⟩ := h
  unfold progE
  rw [if_neg (by omega), if_neg (by omega), if_neg (by rw [h3]; simp)]
  exact firstE_zero (fun y hy => by
    obtain ⟨f, hf, rfl⟩ := List.mem_map.1 hy
    exact fn_oE (h4 f hf))
theorem PrO.r : ∀ i, i < p.length → FnR (p.getD i Fn.z) := fun i hi s hs => by
  have := (h.2.2.2 _ (getD_mem' hi)).2.2.2.1 s hs
  unfold SlotOk at this
  unfold I64
  omega
theorem PrO.gp : GP p := progE_gp h.E h.r (fun i hi x hx => by
  obtain ⟨g1, g2, g3, g4, g5, g6, g7, g8⟩ := h.2.2.2 _ (getD_mem' hi)
  exact (vi_small (g7 x hx) (by have := h.2.1; omega) (by omega) (by omega) (by omega)).2)
end
theorem PrOk.small {most : Nat} {p : List Fn} (h : PrOk most p) (hm : most ≤ 80) : ∀ i, i < p.length → (p.getD i Fn.z).code.length ≤ 500 ∧ ∀ x ∈ (p.getD i Fn.z).code, SmallI x := fun i hi => by
  obtain ⟨g1, g2, g3, g4, g5, g6, g7, g8⟩ := h.2.2.2 _ (getD_mem' hi)
  exact ⟨by omega, fun x hx => (vi_small (g7 x hx) (by have := h.2.1; omega) (by omega) (by omega) (by omega)).1⟩
end Go.Proofs.YtillopkcmpcokaaDoor.pm
namespace Go.Proofs.YtillopkcmpcokaaDoor.pm
open Go.RowKit
set_option linter.unusedVariables false
set_option maxRecDepth 10000
/-- n steps, or fewer if the run ends -/
def itX (p : List Fn) : Nat → Mx → Mx
  | 0, m => m
  | n + 1, m => if m.ended = true then m else itX p n (stepX p m)
def Mx.fin (m : Mx) : Mx := if m.ended = true then m else m.stop 4
section
variable {p : List Fn}
theorem itX_succ (n : Nat) (m : Mx) : itX p (n + 1) m = if m.ended = true then m else itX p n (stepX p m) := rfl
theorem itX_end {m : Mx} (h : m.ended = true) (n : Nat) : itX p n m = m := by
  cases n with
  | zero => rfl
  | succ n => unfold itX; rw [if_pos h]
theorem itX_add (a b : Nat) (m : Mx) : itX p (a + b) m = itX p b (itX p a m) := by
  induction a generalizing m with
  | zero => rw [Nat.zero_add]; rfl
  | succ a ih =>
    rw [show a + 1 + b = (a + b) + 1 by omega]
    by_cases h : m.ended = true
    · rw [itX_end h, itX_end h, itX_end h]
    · rw [itX_succ, itX_succ, if_neg h, if_neg h, ih]
theorem itX_trace (n : Nat) (m : Mx) : ∃ t, (itX p n m).trace = m.trace ++ t := by
  induction n generalizing m with
  | zero => exact ⟨[], by rw [List.append_nil]; rfl⟩
  | succ n ih =>
    by_cases h : m.ended = true
    · rw [itX_end h]; exact ⟨[], by rw [List.append_nil]⟩
    · unfold itX
      rw [if_neg h]
      obtain ⟨t, ht⟩ := ih (stepX p m)
      obtain ⟨u, hu, -⟩ := trace_stepX p m
      exact ⟨u ++ t, by rw [ht, hu, List.append_assoc]⟩
theorem itX_steps (n : Nat) (m : Mx) : m.steps ≤ (itX p n m).steps ∧ (itX p n m).steps ≤ m.steps + n ∧ ((itX p n m).ended = false → (itX p n m).steps = m.steps + n) := by
  induction n generalizing m with
  | zero => exact ⟨Nat.le_refl _, Nat.le_refl _, fun _ => rfl⟩
  | succ n ih =>
    by_cases h : m.ended = true
    · rw [itX_end h]; exact ⟨Nat.le_refl _, by omega, fun e => by rw [h] at e; cases e⟩
    · unfold itX
      rw [if_neg h]
      obtain ⟨h1, h2, h3⟩ := ih (stepX p m)
      rw [steps_stepX] at h1 h2 h3
      exact ⟨by omega, by omega, fun e => by rw [h3 e]; omega⟩
theorem runX_it (F n : Nat) (m : Mx) (h : m.steps + n = F) : runX p F (n + 2) m = (itX p n m).fin := by
  induction n generalizing m with
  | zero =>
    show runX p F (1 + 1) m = m.fin
    unfold runX Mx.fin
    by_cases he : m.ended = true
    · rw [if_pos he, if_pos he]
    · rw [if_neg he, if_neg he, if_pos (by omega)]
  | succ n ih =>
    rw [show n + 1 + 2 = (n + 2) + 1 by omega]
    unfold runX
    by_cases he : m.ended = true
    · rw [if_pos he, itX_end he]
      unfold Mx.fin
      rw [if_pos he]
    · rw [if_neg he, if_neg (by omega), ih (stepX p m) (by rw [steps_stepX]; omega)]
      conv => rhs; unfold itX
      rw [if_neg he]
/-- a run that has ended has not used up its fuel -/
def KX (m : Mx) : Prop := m.ended = false ∨ m.kind ≠ 4
theorem ite_kx {c : Prop} [Decidable c] {a b : Mx} (h1 : KX a) (h2 : KX b) : KX (if c then a else b) := by split <;> assumption
theorem KX.stop (m : Mx) {c : Int} (h : c ≠ 4) : KX (m.stop c) := .inr h
theorem kx_take {m : Mx} (h : m.ended = false) (r : Nat) (o : Option (Nat × Nat)) : KX (m.take r o) := by
  unfold Mx.take; split
  · exact .inl h
  · exact KX.stop _ (by decide)
theorem kx_defS {m : Mx} (h : m.ended = false) (k : Int) (v : Nat × Nat) : KX (m.defS k v) := by
  unfold Mx.defS; split <;> exact .inl h
theorem kx_defA {m : Mx} (h : m.ended = false) (k : Int) (v : Nat × Nat) : KX (m.defA k v) := by
  unfold Mx.defA; split <;> exact .inl h
theorem kx_moveIn {m : Mx} (h : m.ended = false) (a : Int) (r : Option (Nat × Nat)) : KX (m.moveIn a r) := by
  unfold Mx.moveIn; split
  · exact kx_defS h _ _
  · exact KX.stop _ (by decide)
theorem kx_step {m : Mx} (h : m.ended = false) : KX (stepX p m) := by
  have hn : m.next.ended = false := h
  unfold stepX
  split
  · unfold Mx.plain
    repeat' refine ite_kx ?_ ?_
    all_goals first
      | exact KX.stop _ (by decide)
      | exact .inl hn
  · unfold stepM
    dsimp only
    repeat' refine ite_kx ?_ ?_
    all_goals first
      | exact KX.stop _ (by decide)
      | exact kx_take hn _ _
      | exact kx_defS hn _ _
      | exact kx_defA hn _ _
      | exact kx_moveIn hn _ _
      | exact .inl hn
theorem kx_it (n : Nat) {m : Mx} (h : KX m) : KX (itX p n m) := by
  induction n generalizing m with
  | zero => exact h
  | succ n ih =>
    by_cases he : m.ended = true
    · rw [itX_end he]; exact h
    · unfold itX
      rw [if_neg he]
      exact ih (kx_step (by simpa using he))
/-- an outcome -/
def ocO (m : Mx) : Oc := ⟨m.kind, m.code, m.res.1, m.res.2, m.trace.map fun v => ((v.1 : Int), (v.2 : Int)), m.steps⟩
theorem ocO_v (m : Mx) (At : Option Addr) (ct : Nat) : outV m At ct = .agg (ocs (ocO m) At ct) := by
  unfold outV ocs ocO
  rw [List.length_map]
theorem ocO_u {w : World} {lo hi : Nat} {At : Option Addr} {m : Mx} (h : Rx w lo hi 2 At m.trace.length (m.trace.flatMap vcl)) : Ux w lo hi At (ocO m).tr := by
  have e : (ocO m).tr.flatMap ucells = m.trace.flatMap vcl := by
    unfold ocO
    rw [List.flatMap_map]
    rfl
  unfold Ux
  rw [e, show (ocO m).tr.length = m.trace.length from List.length_map ..]
  exact h
/-- the law on fuel -/
theorem fuel_law (m : Mx) (hm : m.ended = false) (hs : m.steps = 0) (F d : Nat) :
    let a := (itX p F m).fin
    let b := (itX p (F + d) m).fin
    a.steps ≤ b.steps ∧ a.steps ≤ F ∧ (∃ t, b.trace = a.trace ++ t) ∧ (a.kind ≠ 4 → a = b) ∧ (a.kind = 4 → a.steps = F) := by
  dsimp only
  have hk := kx_it (p := p) F (m := m) (.inl hm)
  have hst := itX_steps (p := p) F m
  rw [itX_add]
  generalize itX p F m = e at *
  have hst2 := itX_steps (p := p) d e
  obtain ⟨t, ht⟩ := itX_trace (p := p) d e
  by_cases he : e.ended = true
  · rw [itX_end he]
    have hf : e.fin = e := by unfold Mx.fin; rw [if_pos he]
    rw [hf]
    refine ⟨Nat.le_refl _, by omega, ⟨[], by simp⟩, fun _ => rfl, fun h4 => ?_⟩
    rcases hk with h | h
    · rw [h] at he; cases he
    · exact absurd h4 h
  · have hf : e.fin = e.stop 4 := by unfold Mx.fin; rw [if_neg he]
    have hf2 : ∀ x : Mx, x.fin.steps = x.steps ∧ x.fin.trace = x.trace := fun x => by unfold Mx.fin; split <;> exact ⟨rfl, rfl⟩
    have hse := hst.2.2 (by simpa using he)
    rw [(hf2 _).1, (hf2 _).2, (hf2 _).1, (hf2 _).2, hf]
    exact ⟨hst2.1, by omega, ⟨t, ht⟩, fun h4 => absurd rfl h4, fun _ => by show e.steps = F; omega⟩
end
end Go.Proofs.YtillopkcmpcokaaDoor.pm
namespace Go.Proofs.YtillopkcmpcokaaDoor.pm
open Go.RowKit
set_option linter.unusedVariables false
set_option maxRecDepth 10000
attribute [local go_sem ↓] Go.wp_at_zero Go.wp_at_succ
def SceneD (A : Option Addr) (m c : Nat) (l : List Nat) (w : World) (e : Ending) (w' : World) : Prop :=
  ∃ (p : List Fn) (inp : List Nat) (F : Nat) (Ap : Option Addr) (cp : Nat) (iv : Value) (p' : Nat), e = .returned (.tuple #[.agg #[.slice Ap p.length cp], iv, .int .i64 (F : Int), .pointer (some ⟨w.heap.size + 1, 0, none⟩)]) ∧
    PrO p ∧ F < 256 ∧ (∀ v ∈ inp, v < 18446744073709551616) ∧ Fx w' (w.heap.size + 1 + 1) w'.heap.size Ap p ∧ InX w' w'.heap.size iv inp ∧ p.length ≤ cp ∧ CodesAt w' w.heap.size (w.heap.size + 1) A m c l p' ∧ Below w.heap.size w w'
set_option maxHeartbeats 4000000 in
theorem scene_any (A : Option Addr) (n c : Nat) (l : List Nat) (w : World) (hb : Bs w w.heap.size A n l) (hn : n ≤ maxLen) (hc : n ≤ c) :
    Calls Tryd.prog 10 #[.slice A n c] w (SceneD A (min n 300) c (l.take (min n 300)) w) := by
  obtain ⟨W1, hW1⟩ : ∃ W1, W1 = w.alloc (.cells #[.slice none 0 0] 26) := ⟨_, rfl⟩
  have HK1 : Hid (Blk W1 w.heap.size 26 #[.slice none 0 0]) := Lib.hid (by rw [hW1]; exact Blk.new _ _ _)
  have hB1 : Below w.heap.size w W1 := by rw [hW1]; exact (Below.refl _ _).alloc (Nat.le_refl _) _
  have hs1 : W1.heap.size = w.heap.size + 1 := by rw [hW1]; simp
  have HBS : Hid (Bs W1 w.heap.size A n l) := Lib.hid (by
    rw [hW1]
    exact hb.alloc (Nat.le_refl _) _)
  have HW1 := Lib.hid hW1
  have HB1 := Lib.hid hB1
  clear hb hW1 hB1
  go_enter Tryd.func10, Tryd.ntmps10
  go_upto_region 1 with (fail)
  rw [← HW1.out]
  go_wp2_with fail
  refine (newcodes_any A n c l 300 _ hn hc (by omega)).mono ?_
  rintro e w2 ⟨rfl, hw2⟩
  have HC2 : Hid (CodesAt w2 w.heap.size (w.heap.size + 1) A (min n 300) c (l.take (min n 300)) 0) := Lib.hid (by
    rw [hw2]
    exact ⟨Blk.newAt (by omega), ((HBS.out.take (Nat.min_le_left _ _)).alloc (by omega) _), Nat.zero_le _, Nat.le_succ _, by omega⟩)
  have HB2 : Hid (Below w.heap.size w w2) := Lib.hid (by rw [hw2]; exact HB1.out.alloc (by omega) _)
  have HK12 : Hid (Blk w2 w.heap.size 26 #[.slice none 0 0]) := Lib.hid (by rw [hw2]; exact HK1.out.alloc _)
  have hs2 : w2.heap.size = w.heap.size + 1 + 1 := by rw [hw2]; simp [hs1]
  generalize min n 300 = m at *
  generalize l.take m = l' at *
  clear hw2 HBS HK1
  have hs21 : w.heap.size < w2.heap.size := by omega
  go_wp2_with fail
  refine (program_d _ _ _ _ _ _ _ 4 12 _ HC2.out (by omega) (by omega) (by omega)).mono ?_
  rintro e w3 ⟨p, Ap, cp, p3, rfl, hpo, hcp, hfx, c3, g3⟩
  have HPO := Lib.hid hpo
  have HFX := Lib.hid hfx
  have HC3 := Lib.hid c3
  have HB3 : Hid (Below w.heap.size w w3) := Lib.hid (HB2.out.trans (below_of_grownR g3 (fun k e => by injection e; omega) (by omega)))
  have HK13 := Lib.hid (HK12.out.grown g3 (some_ne (by omega)))
  have hs3 : w2.heap.size ≤ w3.heap.size := g3.size
  have hpl1 := hpo.1
  have hpl4 := hpo.2.1
  clear hpo hfx c3 g3 HC2 HK12
  go_upto_region 3 with (fail)
  obtain ⟨W4, hW4⟩ : ∃ W4, W4 = w3.alloc (.cells #[.slice Ap p.length cp] 26) := ⟨_, rfl⟩
  rw [← hW4]
  have HK7 : Hid (Blk W4 w3.heap.size 26 #[.slice Ap p.length cp]) := Lib.hid (by rw [hW4]; exact Blk.new _ _ _)
  have hB4 : Below w3.heap.size w3 W4 := by rw [hW4]; exact (Below.refl _ _).alloc (Nat.le_refl _) _
  have HC4 := Lib.hid (HC3.out.after hB4)
  have HB4 : Hid (Below w.heap.size w W4) := Lib.hid (HB3.out.trans (hB4.mono (by omega)))
  have HK14 := Lib.hid (HK13.out.after hB4)
  have HFX4 := Lib.hid (HFX.out.keep (Kp.of_below hB4 (Nat.le_refl _)))
  obtain ⟨g7, hg7⟩ : ∃ g7, g7 = w3.heap.size := ⟨_, rfl⟩
  rw [← hg7] at HK7 HFX4 ⊢
  have hs4 : W4.heap.size = g7 + 1 := by rw [hW4, hg7]; simp
  have hg72 : w2.heap.size ≤ g7 := by omega
  clear hW4 hB4 hg7 HC3 HB3 HK13 HFX
  go_wp2_with fail
  refine (next_d _ _ _ _ _ _ _ 6 _ HC4.out (by omega) (by omega)).mono ?_
  rintro e w5 ⟨t, p5, ht, rfl, c5, g5⟩
  have HC5 := Lib.hid c5
  have HB5 : Hid (Below w.heap.size w w5) := Lib.hid (HB4.out.trans (below_of_grownR g5 (fun k e => by injection e; omega) (by omega)))
  have HK75 := Lib.hid (HK7.out.grown g5 (some_ne (by omega)))
  have HK15 := Lib.hid (HK14.out.grown g5 (some_ne (by omega)))
  have HFX5 := Lib.hid (HFX4.out.keep (Kp.of_grown g5 (by omega) (.inl (by omega))))
  have hs5 : W4.heap.size ≤ w5.heap.size := g5.size
  clear c5 g5 HC4 HB4 HK7 HK14 HFX4 ht
  obtain ⟨q0, qf, qz⟩ := Blk.one HK75.out
  go_upto_if 14 with (fail)
  go_cut [] (fun wx => ∃ (q : List Fn) (Aq : Option Addr) (cq p6 : Nat), Hid (PrO q) ∧ q.length ≤ cq ∧ Hid (Blk wx g7 26 #[.slice Aq q.length cq]) ∧ Hid (Blk wx w.heap.size 26 #[.slice none 0 0]) ∧ Hid (Fx wx (w.heap.size + 1 + 1) wx.heap.size Aq q) ∧ Hid (CodesAt wx w.heap.size (w.heap.size + 1) A m c l' p6) ∧ Hid (Below w.heap.size w wx) ∧ g7 < wx.heap.size)
  case first =>
    rcases ht5 : ((t : Int) == 5) with _ | _
    · go_wp2
      go_meet
      exact ⟨p, Ap, cp, p5, Lib.hid (HPO.out.o (by omega)), hcp, HK75, HK15, Lib.hid (HFX5.out.more (by omega) (by omega)), HC5, HB5, by omega⟩
    · go_wp2_with fail
      refine (cyclic_d _ _ _ _ _ _ _ _ p cp w2.heap.size g7 _ HC5.out HFX5.out (by omega) (by omega) (by omega) hpl1 (by omega) (HPO.out.small (by omega))).mono ?_
      rintro e w6 ⟨i, j, Aq, cq, p6, ⟨hi, hj⟩, rfl, hcq, hfq, c6, g6⟩
      have HFQ := Lib.hid hfq
      have HC6 := Lib.hid c6
      have HB6 : Hid (Below w.heap.size w w6) := Lib.hid (HB5.out.trans (below_of_grownR g6 (fun k e => by injection e; omega) (by omega)))
      have HK76 := Lib.hid (HK75.out.grown g6 (some_ne (by omega)))
      have HK16 := Lib.hid (HK15.out.grown g6 (some_ne (by omega)))
      have hs6 : w5.heap.size ≤ w6.heap.size := g6.size
      have HPC := Lib.hid (cyc_o HPO.out (by omega) hi hj)
      have hql : (cyc p i j).length = p.length := by simp [cyc]
      clear hfq c6 g6 q0 qf qz
      obtain ⟨q0, qf, qz⟩ := Blk.one HK76.out
      go_wp2
      go_meet
      refine ⟨cyc p i j, Aq, cq, p6, HPC, by omega, Lib.hid (by rw [hql]; exact HK76.out.set_ 0 _), Lib.hid (HK16.out.far (by show ¬ w.heap.size = g7; omega) _), Lib.hid ?_, Lib.hid (HC6.out.set (by show w.heap.size + 1 ≠ g7; omega) (by show w.heap.size ≤ g7; omega) _), Lib.hid (HB6.out.setCell (by show w.heap.size ≤ g7; omega) _), by simp; omega⟩
      exact (HFQ.out _ ((Kp.refl _ _ _).set (p := ⟨g7, 0, none⟩) (.inr (Nat.le_refl _)) _) ((Kp.refl _ _ _).set (p := ⟨g7, 0, none⟩) (.inl (by show g7 < w5.heap.size; omega)) _) (by simp)).more (by omega) (Nat.le_refl _)
  case rest =>
    obtain ⟨q, Aq, cq, p6, HPQ, hcq, HK7, HK1, HFQ, HC6, HB6, hs6⟩ := hcut
    obtain ⟨W6, hW6⟩ : ∃ W6, W6 = wc := ⟨_, rfl⟩
    subst hW6
    clear q0 qf qz HC5 HB5 HK75 HK15 HFX5
    have hi6 : w.heap.size + 1 + 1 ≤ W6.heap.size := by have := HC6.out.1.lt; omega
    obtain ⟨x7, -, xg⟩ := Blk.one HK7.out
    obtain ⟨x1, xf, xl⟩ := Blk.one HK1.out
    go_upto_region 5 with (fail)
    go_region_law (first
      | (go_simp; refine (input_d _ _ _ _ _ _ _ _ (CodesAt.dr HC6.out)).mono ?_; rintro e wI ⟨r, inp, pI, rfl, hil, hiw, oI, cI, gI⟩; have HIW := Lib.hid hiw; have HOI : Hid (wI.ownsRow W6.heap.size 31 1 r inp.length (inV8 inp)) := Lib.hid oI; have HCI := Lib.hid cI; have HGI : Hid (W6.grownBy wI (some (w.heap.size + 1))) := Lib.hid (grownBy_trans (grownBy_drewN' W6 1 _) gI); have hswI : W6.heap.size ≤ wI.heap.size := HGI.out.size; have x7wI : wI.cell? ⟨g7, 0, none⟩ = some (.slice Aq q.length cq) := (Blk.one (HK7.out.grown HGI.out (some_ne (by omega)))).1; have x1wI : wI.cell? ⟨w.heap.size, 0, none⟩ = some (.slice none 0 0) := (Blk.one (HK1.out.grown HGI.out (some_ne (by omega)))).1; have xfwI : wI.frozen? ⟨w.heap.size, 0, none⟩ = false := (Blk.one (HK1.out.grown HGI.out (some_ne (by omega)))).2.1; have xlwI : w.heap.size < wI.heap.size := (by omega); have xgwI : g7 < wI.heap.size := (by omega); clear hiw oI cI gI)
      | (go_simp; refine (input_d _ _ _ _ _ _ _ _ HCN.out).mono ?_; rintro e wI ⟨r, inp, pI, rfl, hil, hiw, oI, cI, gI⟩; have HIW := Lib.hid hiw; have HOI : Hid (wI.ownsRow W6.heap.size 31 1 r inp.length (inV8 inp)) := Lib.hid oI; have HCI := Lib.hid cI; have HGI : Hid (W6.grownBy wI (some (w.heap.size + 1))) := Lib.hid (grownBy_trans (HGN.out) gI); have hswI : W6.heap.size ≤ wI.heap.size := HGI.out.size; have x7wI : wI.cell? ⟨g7, 0, none⟩ = some (.slice Aq q.length cq) := (Blk.one (HK7.out.grown HGI.out (some_ne (by omega)))).1; have x1wI : wI.cell? ⟨w.heap.size, 0, none⟩ = some (.slice none 0 0) := (Blk.one (HK1.out.grown HGI.out (some_ne (by omega)))).1; have xfwI : wI.frozen? ⟨w.heap.size, 0, none⟩ = false := (Blk.one (HK1.out.grown HGI.out (some_ne (by omega)))).2.1; have xlwI : w.heap.size < wI.heap.size := (by omega); have xgwI : g7 < wI.heap.size := (by omega); clear hiw oI cI gI)
      | (go_simp; refine (next_d _ _ _ _ _ _ _ 256 _ (CodesAt.dr HC6.out) (by omega) (by omega)).mono ?_; rintro e wN ⟨F, pN, hF, rfl, cN, gN⟩; have hF2 : F < 256 := (by omega); have HCN := Lib.hid cN; have HGN : Hid (W6.grownBy wN (some (w.heap.size + 1))) := Lib.hid (grownBy_trans (grownBy_drewN' W6 1 _) gN); have hswN : W6.heap.size ≤ wN.heap.size := HGN.out.size; have x7wN : wN.cell? ⟨g7, 0, none⟩ = some (.slice Aq q.length cq) := (Blk.one (HK7.out.grown HGN.out (some_ne (by omega)))).1; have x1wN : wN.cell? ⟨w.heap.size, 0, none⟩ = some (.slice none 0 0) := (Blk.one (HK1.out.grown HGN.out (some_ne (by omega)))).1; have xfwN : wN.frozen? ⟨w.heap.size, 0, none⟩ = false := (Blk.one (HK1.out.grown HGN.out (some_ne (by omega)))).2.1; have xlwN : w.heap.size < wN.heap.size := (by omega); have xgwN : g7 < wN.heap.size := (by omega); clear hF cN gN)
      | (go_simp; refine (next_d _ _ _ _ _ _ _ 256 _ HCI.out (by omega) (by omega)).mono ?_; rintro e wN ⟨F, pN, hF, rfl, cN, gN⟩; have hF2 : F < 256 := (by omega); have HCN := Lib.hid cN; have HGN : Hid (W6.grownBy wN (some (w.heap.size + 1))) := Lib.hid (grownBy_trans (HGI.out) gN); have HOI := Lib.hid (own_draw HOI.out gN (by omega)); have hswN : W6.heap.size ≤ wN.heap.size := HGN.out.size; have x7wN : wN.cell? ⟨g7, 0, none⟩ = some (.slice Aq q.length cq) := (Blk.one (HK7.out.grown HGN.out (some_ne (by omega)))).1; have x1wN : wN.cell? ⟨w.heap.size, 0, none⟩ = some (.slice none 0 0) := (Blk.one (HK1.out.grown HGN.out (some_ne (by omega)))).1; have xfwN : wN.frozen? ⟨w.heap.size, 0, none⟩ = false := (Blk.one (HK1.out.grown HGN.out (some_ne (by omega)))).2.1; have xlwN : w.heap.size < wN.heap.size := (by omega); have xgwN : g7 < wN.heap.size := (by omega); clear hF cN gN))
    all_goals
      obtain ⟨Ai, ci, rfl, -⟩ := own_form HOI.out
      have HIC := own_cap HOI.out
      have HBN : Hid (Below w.heap.size w wN) := Lib.hid (HB6.out.trans (below_of_grownR HGN.out (fun k e => by injection e; omega) (by omega)))
      clear x7 x1 x7wI x1wI x7wN xf xfwI
      go_wp2
      obtain ⟨W9, hW9⟩ : ∃ W9, W9 = wN.setCell ⟨w.heap.size, 0, none⟩ (.slice Aq q.length cq) := ⟨_, rfl⟩
      rw [← hW9]
      have hK9 : Blk W9 w.heap.size 26 #[.slice Aq q.length cq] := by
        rw [hW9]
        exact (HK1.out.grown HGN.out (some_ne (by omega))).set_ 0 _
      obtain ⟨r0, -, -⟩ := Blk.one hK9
      have hs9 : W9.heap.size = wN.heap.size := by rw [hW9]; simp [World.setCell]
      have hk1 : Kp (w.heap.size + 1 + 1) wN.heap.size wN W9 := by
        rw [hW9]
        exact (Kp.refl _ _ _).set (p := ⟨w.heap.size, 0, none⟩) (.inl (by show w.heap.size < _; omega)) _
      have hFX : Fx W9 (w.heap.size + 1 + 1) W9.heap.size Aq q := by
        rw [hs9]
        exact ((HFQ.out.keep (Kp.of_grown HGN.out (Nat.le_refl _) (.inl (by omega)))).more (Nat.le_refl _) hswN).keep hk1
      have hIX : InX W9 W9.heap.size (.slice Ai inp.length ci) inp := by
        rw [hs9]
        exact ⟨Ai, ci, rfl, HIC.2, by omega, ((Rx.keep ((Rx.of_own HOI.out).more (by omega) (Nat.le_refl _)) hk1)).more (Nat.zero_le _) (Nat.le_refl _)⟩
      have hC9 : CodesAt W9 w.heap.size (w.heap.size + 1) A m c l' pN := by
        rw [hW9]
        exact HCN.out.set (by show w.heap.size + 1 ≠ w.heap.size; omega) (Nat.le_refl _) _
      have hB9 : Below w.heap.size w W9 := by
        rw [hW9]
        exact HBN.out.setCell (Nat.le_refl _) _
      refine bodyPost_ret (v := .tuple #[.agg #[.slice Aq q.length cq], .slice Ai inp.length ci, .int .i64 F, .pointer (some ⟨w.heap.size + 1, 0, none⟩)]) (by simp [results, Tryd.results10, go_sem, r0]) rfl ?_
      exact ⟨q, inp, F, Aq, cq, _, pN, rfl, HPQ.out, hF2, HIW.out, hFX, hIX, hcq, hC9, hB9⟩
end Go.Proofs.YtillopkcmpcokaaDoor.pm
namespace Go.Proofs.YtillopkcmpcokaaDoor.pm
open Go.RowKit
set_option linter.unusedVariables false
set_option maxRecDepth 10000
theorem Rx.after {w w' : World} {lo hi size n : Nat} {A : Option Addr} {xs : List Value} (h : Rx w lo hi size A n xs) (hb : Below w.heap.size w w') (hh : hi ≤ w.heap.size) : Rx w' lo hi size A n xs := Rx.keep h (Kp.of_below hb hh)
/-- a run of a right program, from a world in which it lies -/
theorem run_o {p : List Fn} (hp : PrO p) (ad : Addr) (cp : Nat) (iv : Value) (inp : List Nat) (hi : ∀ v ∈ inp, v < 18446744073709551616) (F : Nat) (hF : F ≤ 100000) (w : World) (hT : Tb w) (hf : Fx w 0 w.heap.size (some ad) p) (hin : InX w w.heap.size iv inp) :
    Calls Tryd.prog 11 #[.agg #[.slice (some ad) p.length cp], iv, .int .i64 (F : Int)] w (OutD ((itX p F ((Mx.start inp).call 0)).fin) w) := by
  have hg := hp.gp
  rw [← runX_it F F ((Mx.start inp).call 0) (by simp [Mx.start, Mx.call])]
  exact out_x ad p cp iv inp F hF (Good p) w hT hf (by have := hp.2.1; unfold maxLen; omega) hp.r hp.E hin hp.1 (good_start hg hi) (fun m h1 h2 h3 => good_step hg h1 h2 (by omega))
theorem start_call (inp : List Nat) : ((Mx.start inp).call 0).ended = false ∧ ((Mx.start inp).call 0).steps = 0 := ⟨rfl, rfl⟩
theorem Ux.take {w : World} {lo hi : Nat} {A : Option Addr} {l : List (Int × Int)} (h : Ux w lo hi A l) (k : Nat) (hk : k ≤ l.length) : Ux w lo hi A (l.take k) := by
  have hl : (l.take k).length = k := by rw [List.length_take]; omega
  unfold Ux
  rw [hl]
  have ht : ∀ (l : List (Int × Int)) (k : Nat), (l.take k).flatMap ucells = (l.flatMap ucells).take (k * 2) := fun l k => by
    induction k generalizing l with
    | zero => simp
    | succ k ih =>
      rcases l with _ | ⟨x, r⟩
      · simp
      · rw [List.take_succ_cons, List.flatMap_cons, List.flatMap_cons, ih r, show (k + 1) * 2 = (ucells x).length + k * 2 by rw [ucells_len]; omega, List.take_length_add_append]
  refine ⟨⟨by rw [flat_len ucells_len, hl], fun hp => ?_⟩, fun ad e hp => h.2 ad e (by omega)⟩
  obtain ⟨ad, e, hb, hc⟩ := h.1.2 (by omega)
  refine ⟨ad, e, hb, fun j u hu => hc j u ?_⟩
  rw [ht, List.getElem?_take] at hu
  split at hu
  · exact hu
  · cases hu
theorem sameO_refl (a : Oc) : sameO a a = true := by
  unfold sameO
  rw [eqL_all (z := (0, 0)) rfl fun j _ => by simp [slEq]]
  simp
set_option maxHeartbeats 4000000 in
theorem fm_law (A : Option Addr) (n c : Nat) (l : List Nat) (more : Nat) (hmore : more < 256) (w : World) (hT : Tb w) (hb : Bs w w.heap.size A n l) (hn : n ≤ maxLen) (hc : n ≤ c) :
    Calls Tryd.prog 3 #[.slice A n c, .int .u8 (more : Int)] w fun e w' => e = .returned (.bool true) ∧ Below w.heap.size w w' := by
  have HT := Lib.hid hT
  have HB := Lib.hid hb
  clear hT hb
  go_enter Tryd.func3, Tryd.ntmps3
  go_wp2_with fail
  refine (awake8 _ HT.out).mono ?_
  rintro e w1 ⟨rfl, b1⟩
  have HB1 := Lib.hid b1
  have hs1 := b1.size
  have HBS1 : Hid (Bs w1 w1.heap.size A n l) := Lib.hid ((HB.out.below b1).more hs1)
  clear b1
  go_wp2_with fail
  refine (scene_any A n c l w1 HBS1.out hn hc).mono ?_
  rintro e w2 ⟨p, inp, F, Ap, cp, iv, p', rfl, hpo, hF, hiw, hfx, hix, hcp, -, b2⟩
  obtain ⟨ad, -, -, -, -, rfl, -⟩ := hfx.at_ hpo.1
  have HPO := Lib.hid hpo
  have HIW := Lib.hid hiw
  have HFX := Lib.hid hfx
  have HIX := Lib.hid hix
  have HB2 : Hid (Below w.heap.size w w2) := Lib.hid (HB1.out.trans (b2.mono hs1))
  clear hpo hiw hfx hix b2
  obtain ⟨Ai, ci, rfl, -⟩ := HIX.out
  go_upto_region 4 with (fail)
  obtain ⟨W3, hW3⟩ : ∃ W3, W3 = w2.alloc (.cells #[.slice (some ad) p.length cp] 26) := ⟨_, rfl⟩
  rw [← hW3]
  have HK5 : Hid (Blk W3 w2.heap.size 26 #[.slice (some ad) p.length cp]) := Lib.hid (by rw [hW3]; exact Blk.new _ _ _)
  have hB3 : Below w2.heap.size w2 W3 := by rw [hW3]; exact (Below.refl _ _).alloc (Nat.le_refl _) _
  have HB3 : Hid (Below w.heap.size w W3) := Lib.hid (HB2.out.trans (hB3.mono HB2.out.size))
  have HFX3 : Hid (Fx W3 0 W3.heap.size (some ad) p) := Lib.hid ((HFX.out.keep (Kp.of_below hB3 (Nat.le_refl _))).more (Nat.zero_le _) hB3.size)
  have HIX3 : Hid (InX W3 W3.heap.size (.slice Ai inp.length ci) inp) := Lib.hid ((HIX.out.after hB3).more hB3.size)
  have HT3 := Lib.hid (HT.out.below HB3.out)
  have hg5 : w2.heap.size < W3.heap.size := HK5.out.lt
  obtain ⟨g5, hg5e⟩ : ∃ g5, g5 = w2.heap.size := ⟨_, rfl⟩
  rw [← hg5e] at HK5 hg5 ⊢
  have hs3 := HB3.out.size
  clear hW3 hB3 HFX HIX hg5e
  have hFL := fuel_law (p := p) _ (start_call inp).1 (start_call inp).2 F more
  have HRUN := fun F hF w hT hf hin => run_o HPO.out ad cp (.slice Ai inp.length ci) inp HIW.out F hF w hT hf hin
  obtain ⟨a, ha⟩ : ∃ a, a = (itX p F ((Mx.start inp).call 0)).fin := ⟨_, rfl⟩
  obtain ⟨b, hb⟩ : ∃ b, b = (itX p (F + more) ((Mx.start inp).call 0)).fin := ⟨_, rfl⟩
  dsimp only at hFL
  have HR1 := Lib.hid (HRUN F (by omega) W3 HT3.out HFX3.out HIX3.out)
  have HR2 := Lib.hid (HRUN (F + more) (by omega))
  rw [← ha, ← hb] at hFL
  rw [← ha] at HR1
  rw [← hb] at HR2
  have HFL := Lib.hid hFL
  clear HRUN ha hb hFL
  obtain ⟨q0, -, qz⟩ := Blk.one HK5.out
  go_wp2_with fail
  refine HR1.out.mono ?_
  rintro e w4 ⟨At, ct, rfl, b4, o4⟩
  rw [ocO_v]
  unfold ocs
  have HU4 : Hid (Ux w4 W3.heap.size w4.heap.size At (ocO a).tr) := Lib.hid (ocO_u (Rx.of_own o4))
  have hcap4 := (own_cap o4).1
  have HB4 : Hid (Below w.heap.size w w4) := Lib.hid (HB3.out.trans (b4.mono hs3))
  have HK54 := Lib.hid (HK5.out.after b4)
  have HFX4 := Lib.hid ((HFX3.out.keep (Kp.of_below b4 (Nat.le_refl _))).more (Nat.zero_le _) b4.size)
  have HIX4 := Lib.hid ((HIX3.out.after b4).more b4.size)
  clear b4 o4 q0 qz HR1 HFX3 HIX3
  go_upto_region 5 with (fail)
  obtain ⟨W5, hW5⟩ : ∃ W5, W5 = w4.alloc (.cells #[.int .i64 (ocO a).kind, .int .u64 (ocO a).code, .int .u64 (ocO a).lo, .int .u64 (ocO a).hi, .slice At (ocO a).tr.length ct, .int .i64 (ocO a).st] 36) := ⟨_, rfl⟩
  rw [← hW5]
  have HK9 : Hid (Blk W5 w4.heap.size 36 #[.int .i64 (ocO a).kind, .int .u64 (ocO a).code, .int .u64 (ocO a).lo, .int .u64 (ocO a).hi, .slice At (ocO a).tr.length ct, .int .i64 (ocO a).st]) := Lib.hid (by rw [hW5]; exact Blk.new _ _ _)
  have hB5 : Below w4.heap.size w4 W5 := by rw [hW5]; exact (Below.refl _ _).alloc (Nat.le_refl _) _
  have hs4 := HB4.out.size
  have HB5 : Hid (Below w.heap.size w W5) := Lib.hid (HB4.out.trans (hB5.mono hs4))
  have HU5 := Lib.hid (HU4.out.keep (Kp.of_below hB5 (Nat.le_refl _)))
  have HK55 := Lib.hid (HK54.out.after hB5)
  have HFX5 := Lib.hid ((HFX4.out.keep (Kp.of_below hB5 (Nat.le_refl _))).more (Nat.zero_le _) hB5.size)
  have HIX5 := Lib.hid ((HIX4.out.after hB5).more hB5.size)
  have HT5 := Lib.hid (HT.out.below HB5.out)
  have hu4 : w4.heap.size ≤ W5.heap.size := hB5.size
  have hg9 : w4.heap.size < W5.heap.size := HK9.out.lt
  obtain ⟨g9, hg9e⟩ : ∃ g9, g9 = w4.heap.size := ⟨_, rfl⟩
  rw [← hg9e] at HK9 HU5 hg9 hu4 ⊢
  clear hW5 hB5 HFX4 HIX4 HU4 HK54 hg9e
  obtain ⟨F2, hF2⟩ : ∃ F2 : Nat, F2 = F + more := ⟨_, rfl⟩
  have hF2i : (F : Int) + (more : Int) = (F2 : Int) := by omega
  have hFi : (F : Int) < 256 := by omega
  have hMi : (more : Int) < 256 := by omega
  have hF0 : (0 : Int) ≤ (F : Int) := by omega
  have hM0 : (0 : Int) ≤ (more : Int) := by omega
  have hF2b : (F2 : Int) < 512 := by omega
  rw [← hF2] at HR2
  have HF2 := Lib.hid hF2
  clear hF2
  obtain ⟨q0, -, qz⟩ := Blk.one HK55.out
  go_wp2_with fail
  try rw [hF2i]
  refine (HR2.out W5 HT5.out HFX5.out HIX5.out).mono ?_
  rintro e w6 ⟨Bt, dt, rfl, b6, o6⟩
  rw [ocO_v]
  unfold ocs
  have HV6 : Hid (Ux w6 W5.heap.size w6.heap.size Bt (ocO b).tr) := Lib.hid (ocO_u (Rx.of_own o6))
  have hcap6 := (own_cap o6).1
  have hcp6 := (own_cap o6).2
  have hs5 := HB5.out.size
  have HB6 : Hid (Below w.heap.size w w6) := Lib.hid (HB5.out.trans (b6.mono hs5))
  have HU6 := Lib.hid (HU5.out.keep (Kp.of_below b6 hu4))
  have HK96 := Lib.hid (HK9.out.after b6)
  have hs6 : W5.heap.size ≤ w6.heap.size := b6.size
  clear b6 o6 q0 qz HR2 HFX5 HIX5 HU5 HK9
  go_upto_region 6 with (fail)
  obtain ⟨W7, hW7⟩ : ∃ W7, W7 = w6.alloc (.cells #[.int .i64 (ocO b).kind, .int .u64 (ocO b).code, .int .u64 (ocO b).lo, .int .u64 (ocO b).hi, .slice Bt (ocO b).tr.length dt, .int .i64 (ocO b).st] 36) := ⟨_, rfl⟩
  rw [← hW7]
  have HK11 : Hid (Blk W7 w6.heap.size 36 #[.int .i64 (ocO b).kind, .int .u64 (ocO b).code, .int .u64 (ocO b).lo, .int .u64 (ocO b).hi, .slice Bt (ocO b).tr.length dt, .int .i64 (ocO b).st]) := Lib.hid (by rw [hW7]; exact Blk.new _ _ _)
  have hB7 : Below w6.heap.size w6 W7 := by rw [hW7]; exact (Below.refl _ _).alloc (Nat.le_refl _) _
  have hs66 := HB6.out.size
  have HB7 : Hid (Below w.heap.size w W7) := Lib.hid (HB6.out.trans (hB7.mono hs66))
  have HU7 := Lib.hid (HU6.out.keep (Kp.of_below hB7 (by omega)))
  have HV7 := Lib.hid (HV6.out.keep (Kp.of_below hB7 (Nat.le_refl _)))
  have HK97 := Lib.hid (HK96.out.after hB7)
  have hu6 : w6.heap.size ≤ W7.heap.size := hB7.size
  obtain ⟨g11, hg11e⟩ : ∃ g11, g11 = w6.heap.size := ⟨_, rfl⟩
  rw [← hg11e] at HK11 HV7 hu6 ⊢
  have hgl : W5.heap.size ≤ g11 := by omega
  clear hW7 hB7 HU6 HV6 HK96 hg11e hs6
  obtain ⟨x0, x1, x2, x3, x4, x5, -, -, -, -, -, -, xz⟩ := HK97.out.c6
  obtain ⟨y0, y1, y2, y3, y4, y5, -, -, -, -, -, -, yz⟩ := HK11.out.c6
  obtain ⟨hst, hsF, ⟨tt, htt⟩, hk1, hk2⟩ := HFL.out
  have hla : (ocO a).tr.length = a.trace.length := List.length_map ..
  have hlb : (ocO b).tr.length = b.trace.length := List.length_map ..
  have hle : (ocO a).tr.length ≤ (ocO b).tr.length := by rw [hla, hlb, htt, List.length_append]; omega
  have hlei : ((ocO a).tr.length : Int) ≤ ((ocO b).tr.length : Int) := by omega
  have hsti : (ocO a).st ≤ (ocO b).st := by show (a.steps : Int) ≤ (b.steps : Int); omega
  have hsFi : (ocO a).st ≤ (F : Int) := by show (a.steps : Int) ≤ (F : Int); omega
  have HTT := Lib.hid htt
  have HK1 := Lib.hid hk1
  have HK2 := Lib.hid hk2
  clear htt hk1 hk2 hst hsF HFL
  go_upto_region 8 with (fail)
  have HLA := Lib.hid hla
  have HLB := Lib.hid hlb
  clear hla hlb hle
  rcases hk4 : ((ocO a).kind == 4) with _ | _
  · have hne : a.kind ≠ 4 := by rw [beq_eq_false_iff_ne] at hk4; exact hk4
    have hab := HK1.out hne
    have HAB : Hid (sameO (ocO a) (ocO b) = true) := Lib.hid (by rw [← hab]; exact sameO_refl _)
    have HS := refsame8_any (ocO a) (ocO b) At Bt ct dt W7 _ _ _ _ (by omega : g9 ≤ W7.heap.size) (by omega : g11 ≤ W7.heap.size) HU7.out HV7.out (by rw [HLA.out]; exact hcap4) (by rw [HLB.out]; exact hcap6)
    unfold ocs at HS
    have HSS := Lib.hid HS
    clear hne hab HS
    go_wp2_with fail
    refine HSS.out.mono ?_
    rintro e w8 ⟨rfl, b8⟩
    rw [HAB.out]
    have HB8 : Hid (Below w.heap.size w w8) := Lib.hid (HB7.out.trans (b8.mono HB7.out.size))
    clear b8 x0 x1 x2 x3 x4 x5 y0 y1 y2 y3 y4 y5 HSS
    go_wp2
    go_ret
    exact ⟨ret_bool (by simp), HB8.out⟩
  · have he4 : a.kind = 4 := by rw [beq_iff_eq] at hk4; exact hk4
    have hsF := HK2.out he4
    have hsF' : ((ocO a).st == (F : Int)) = true := by rw [beq_iff_eq]; show (a.steps : Int) = F; omega
    have HQ : Hid (∀ n, Calls Tryd.prog 13 #[.slice At a.trace.length ct, .slice Bt a.trace.length dt] (W7.drewN n) fun e w' => e = .returned (.bool true) ∧ ∃ k, w' = (W7.drewN n).drewN k) := Lib.hid (fun n => by
      have h2 : Ux W7 W5.heap.size g11 Bt (ocO a).tr := by
        have h := Ux.take HV7.out (ocO a).tr.length (by rw [HLA.out, HLB.out, HTT.out, List.length_append]; omega)
        have e : (ocO b).tr.take (ocO a).tr.length = (ocO a).tr := by
          have e1 : (ocO b).tr = (ocO a).tr ++ tt.map (fun v => ((v.1 : Int), (v.2 : Int))) := by
            show b.trace.map _ = a.trace.map _ ++ _
            rw [HTT.out, List.map_append]
          rw [e1, List.take_left']
          rfl
        rw [e] at h
        exact h
      have h := refequal_vals At Bt (ocO a).tr (ocO a).tr ct dt (W7.drewN n) _ _ _ _ HU7.out h2 (by rw [HLA.out]; exact hcap4) (by rw [HLA.out]; exact hcap4)
      rw [HLA.out, eqL_all (z := (0, 0)) rfl fun j _ => by simp [slEq]] at h
      exact h)
    rw [HLA.out] at x4 hlei
    rw [HLB.out] at y4 hlei
    have hcpi : (b.trace.length : Int) ≤ (dt : Int) := by omega
    go_upto_region 10 with (fail)
    go_quiet ((go_at_call 13; first | exact Calls.quiet_of (HQ.out _) | exact quiet_add (HQ.out _)))
    go_wp2
    go_ret
    exact ⟨ret_bool (by simp), below_drewN HB7.out _⟩
end Go.Proofs.YtillopkcmpcokaaDoor.pm
