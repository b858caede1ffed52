/- The draw Program: a program that is right. -/
import Derived.Test.YtmeoabpigibaoaaPd4
import Derived.Test.YtmeoabpigibaoaaPx
namespace Go.Proofs.Ytmeoabpigibaoaa.pm
open Go.RowKit
set_option linter.unusedVariables false
set_option maxRecDepth 10000

/-- what Program draws -/
def PrgD (B cb : Nat) (A : Option Addr) (n c : Nat) (l : List Nat) (most : Nat) (w : World) (e : Ending) (w' : World) : Prop :=
  ∃ (p : List Fn) (Ap : Option Addr) (cp p' : Nat), e = .returned (.agg #[.slice Ap p.length cp]) ∧ PrOk most p ∧ p.length ≤ cp ∧ Fx w' w.heap.size w'.heap.size Ap p ∧ CodesAt w' B cb A n c l p' ∧ w.grownBy w' (some cb)
theorem Blk.one {w : World} {g : Nat} {t : TypeId} {a : Value} (h : Blk w g t #[a]) : w.cell? ⟨g, 0, none⟩ = some a ∧ w.frozen? ⟨g, 0, none⟩ = false ∧ g < w.heap.size := ⟨Blk.cell h 0, Blk.frozen h 0, Blk.lt h⟩
theorem getD_snoc {ps : List Int} {v : Int} {j : Nat} : (ps ++ [v]).getD j 0 = if j < ps.length then ps.getD j 0 else if j = ps.length then v else 0 := by
  rw [List.getD_eq_getElem?_getD]
  by_cases h : j < ps.length
  · rw [if_pos h, List.getElem?_append_left h, List.getD_eq_getElem?_getD]
  · rw [if_neg h, List.getElem?_append_right (by omega)]
    by_cases h2 : j = ps.length
    · subst h2; simp
    · rw [if_neg h2, List.getElem?_eq_none (by simp; omega)]; rfl
def PsOk (ps : List Int) : Prop := 1 ≤ ps.length ∧ ps.getD 0 0 = 0 ∧ ∀ j, j < ps.length → 0 ≤ ps.getD j 0 ∧ ps.getD j 0 ≤ 3
theorem PsOk.one : PsOk [0] := ⟨by simp, rfl, fun j hj => by
  have : j = 0 := by simpa using hj
  subst this; simp⟩
theorem PsOk.snoc {ps : List Int} (h : PsOk ps) {v : Int} (h0 : 0 ≤ v) (h3 : v ≤ 3) : PsOk (ps ++ [v]) := by
  refine ⟨by simp, by rw [getD_snoc, if_pos (by have := h.1; omega)]; exact h.2.1, fun j hj => ?_⟩
  rw [getD_snoc]
  split
  · exact h.2.2 j ‹_›
  · rw [if_pos (by simp at hj; omega)]; exact ⟨h0, h3⟩
def FsOk (np : Nat) (ps : List Int) (pre : List Fn) : Prop := ∀ j, j < pre.length → FnOk np (pre.getD j Fn.z) ∧ (pre.getD j Fn.z).params = ps.getD j 0
theorem FsOk.snoc {np : Nat} {ps : List Int} {pre : List Fn} (h : FsOk np ps pre) {f : Fn} (hf : FnOk np f) (he : f.params = ps.getD pre.length 0) : FsOk np ps (pre ++ [f]) := fun j hj => by
  rw [List.length_append] at hj
  rcases Nat.lt_or_ge j pre.length with hlt | hge
  · have e : (pre ++ [f]).getD j Fn.z = pre.getD j Fn.z := by rw [List.getD_eq_getElem?_getD, List.getD_eq_getElem?_getD, List.getElem?_append_left hlt]
    rw [e]; exact h j hlt
  · obtain rfl : j = pre.length := by simp at hj; omega
    have e : (pre ++ [f]).getD pre.length Fn.z = f := by simp
    rw [e]; exact ⟨hf, he⟩
theorem pr_ok {most : Nat} {ps : List Int} {pre : List Fn} (h : FsOk ps.length ps pre) (hl : pre.length = ps.length) (hp : PsOk ps) (hm : ps.length ≤ most) : PrOk most pre := by
  refine ⟨by rw [hl]; exact hp.1, by rw [hl]; exact hm, ?_, fun f hf => ?_⟩
  · rw [(h 0 (by rw [hl]; exact hp.1)).2]; exact hp.2.1
  · obtain ⟨j, hj, rfl⟩ := List.mem_iff_getElem.1 hf
    have := (h j hj).1
    rw [List.getD_eq_getElem?_getD, List.getElem?_eq_getElem hj] at this
    rw [hl]
    simpa using this
set_option maxHeartbeats 4000000 in
theorem program_d (B cb : Nat) (A : Option Addr) (n c : Nat) (l : List Nat) (p : Nat) (funcs most : Nat) (w : World) (h : CodesAt w B cb A n c l p) (hf1 : 1 ≤ funcs) (hf : funcs ≤ 100) (hmost : most ≤ 12) :
    Calls Try.prog 15 #[.pointer (some ⟨cb, 0, none⟩), .int .i64 (funcs : Int), .int .i64 (most : Int)] w (PrgD B cb A n c l funcs w) := by
  obtain ⟨i0, hi0, hz0, hz1, hz2⟩ := info_parts info_int
  obtain ⟨i1, hi1, hy0, hy1, hy2⟩ := info_parts info_fn
  have hlt := h.1.lt
  have hB := h.2.2.2.1
  have HC := Lib.hid h
  have hfi : (funcs : Int) ≤ 100 := by omega
  have hmi : (most : Int) ≤ 12 := by omega
  have nw : ¬ (w.heap.size = cb) := by omega
  clear h
  go_enter Try.func15, Try.ntmps15
  go_wp2_with fail
  have HKR : Hid (Blk ((w.alloc (.cells #[.slice none 0 0] 51)).alloc (.cells #[.int .i64 0] 3)) w.heap.size 51 #[.slice none 0 0]) := Lib.hid ((Blk.new w _ _).alloc _)
  have HOW : Hid (((w.alloc (.cells #[.slice none 0 0] 51)).alloc (.cells #[.int .i64 0] 3)).ownsRow w.heap.size 3 1 (.slice (some ⟨(w.alloc (.cells #[.slice none 0 0] 51)).heap.size, 0, none⟩) 1 1) 1 [.int .i64 0]) := Lib.hid (World.ownsRow_lit (base := w.heap.size) (e := 3) (size := 1) (w.alloc (.cells #[.slice none 0 0] 51)) #[.int .i64 0] 1 (by simp) (by unfold maxLen; omega) rfl)
  refine (next_d _ _ _ _ _ _ _ (funcs : Int) _ ((HC.out.alloc _).alloc _) (by omega) (by omega)).mono ?_
  rintro e w1 ⟨t, p1, ht, rfl, c1, g1⟩
  have HC1 := Lib.hid c1
  have HG1 : Hid (w.grownBy w1 (some cb)) := Lib.hid (grownBy_trans (grownBy_al (grownBy_al (World.grownBy.refl _ _) _) _) g1)
  have HKR1 := Lib.hid (HKR.out.grown g1 (some_ne nw))
  have HOW1 : Hid (w1.ownsRow w.heap.size 3 1 (.slice (some ⟨w.heap.size + 1, 0, none⟩) 1 1) 1 ([(0 : Int)].map (Value.int .i64))) := Lib.hid (by have := own_draw HOW.out g1 hlt; simpa using this)
  have htf : t < funcs := by omega
  clear c1 g1 HKR HOW HC ht
  go_wp2
  go_loopw [7, 8] (fun o x wr => ∃ (k p1 : Nat) (ps : List Int), x = .int .i64 k ∧ k ≤ 100 ∧ Hid (ps.length + k ≤ funcs) ∧ Hid (PsOk ps) ∧ wr.ownsRow w.heap.size 3 1 o ps.length (ps.map (Value.int .i64)) ∧ Hid (CodesAt wr B cb A n c l p1) ∧ Hid (w.grownBy wr (some cb)) ∧ Hid (Blk wr w.heap.size 51 #[.slice none 0 0])) (fun _ x _ => (intOf x).toNat)
  case atStart => exact ⟨t, p1, [0], rfl, by omega, Lib.hid (by simp; omega), Lib.hid PsOk.one, HOW1.out, HC1, HG1, HKR1⟩
  case round =>
    clear HC1 HG1 HKR1 HOW1
    obtain ⟨k, p2, ps, rfl, hk, HL, HP, own, HCW, HGW, HKW⟩ := hrel
    have hpl : ps.length ≤ 100 := by have := HL.out; omega
    have hk0 : (0 : Int) ≤ (k : Int) := by omega
    have hk1 : (k : Int) ≤ 100 := by omega
    have hszw : w.heap.size ≤ wr.heap.size := HGW.out.size
    rcases Nat.eq_zero_or_pos k with hkz | hpos
    · have hkle : ¬ (0 < k) := by omega
      have HLE : Hid (ps.length ≤ funcs) := Lib.hid (by have := HL.out; omega)
      have hp1 : 1 ≤ ps.length := HP.out.1
      obtain ⟨pg, pc, hform, hpb, hpgl⟩ := own.form (by omega)
      subst hform
      have HOP := Lib.hid own
      have hpli : (ps.length : Int) ≤ 100 := by omega
      have hltw : cb < wr.heap.size := by omega
      obtain ⟨W1, hW1⟩ : ∃ W1, W1 = wr := ⟨_, rfl⟩
      subst hW1
      have nW1 : ¬ (W1.heap.size = cb) := by omega
      obtain ⟨np, hnp⟩ : ∃ np, np = ps.length := ⟨_, rfl⟩
      have HNP := Lib.hid hnp
      rw [← hnp] at HOP hp1 hpli
      rw [← hnp]
      clear own HL hpl hk hk0 hk1 hnp hkz
      go_wp2
      go_loopw [10] (fun x wr => ∃ (k p1 : Nat) (pre : List Fn) (Af : Option Addr) (cf : Nat) (vs : List Value), x = .int .i64 k ∧ k ≤ np ∧ Hid (pre.length = k) ∧ Hid (Blk wr W1.heap.size 51 #[.slice Af k cf]) ∧ Hid (wr.ownsRow W1.heap.size 70 3 (.slice Af k cf) k vs) ∧ Hid (Vx wr (W1.heap.size + 1) wr.heap.size vs pre) ∧ Hid (FsOk np ps pre) ∧ Hid (CodesAt wr B cb A n c l p1) ∧ Hid (W1.grownBy wr (some cb))) (fun x _ => np - (intOf x).toNat)
      case atStart => exact ⟨0, p2, [], none, 0, [], rfl, by omega, Lib.hid rfl, Lib.hid (Blk.new _ _ _), Lib.hid (World.ownsRow_nil _ _ _ _), Lib.hid (Vx.nil _ _ _), Lib.hid (fun j hj => by simp at hj), Lib.hid (HCW.out.alloc _), Lib.hid (grownBy_al (World.grownBy.refl _ _) _)⟩
      case round =>
        obtain ⟨k, p3, pre, Af, cf, vs, rfl, hk, HPL, HKP, HOF, HVX, HFS, HCw, HGw⟩ := hrel
        have hk0 : (0 : Int) ≤ (k : Int) := by omega
        have hszr : W1.heap.size ≤ wr.heap.size := HGw.out.size
        obtain ⟨q0, q1, q2⟩ := Blk.one HKP.out
        by_cases hkl : k < np
        · have hki : (k : Int) < (np : Int) := by omega
          have HVL : Hid (vs.length = pre.length * 3) := Lib.hid (by rw [HPL.out]; exact HOF.out.1)
          have HV1 : Hid (∀ u ∈ vs, u.oneCell' = true) := Lib.hid (Vx.one HVX.out HVL.out)
          have HNB : Hid (Value.ownBlock (.slice Af k cf) ≠ some W1.heap.size) := Lib.hid (own_blk_ne HOF.out HKP.out (by decide))
          go_wp2_with (at_builtin; refine wpList_append_any _ rfl (.const (.slice none 0 0)) (.tmp 32) _ rfl W1.heap.size 70 i1 _ 3 56 Try.underlying49 hi1 hy0 hy1 hy2 rfl (by omega) _ 0 [] rfl (World.ownsRow_nil _ _ _ _) wr.heap.size Af k cf vs rfl (Reads.of_own HOF.out) HV1.out (by unfold maxLen; omega) (by omega) hszr ?_; intro v3 w3 own3 hg3 hat3)
          have HG3 : Hid (wr.grownBy w3 none) := Lib.hid hg3
          have HO3 : Hid (w3.ownsRow W1.heap.size 70 3 v3 k vs) := Lib.hid (by simpa using own3)
          have HK3 := Lib.hid (HKP.out.grown HG3.out (by simp))
          have HC3 : Hid (CodesAt w3 B cb A n c l p3) := Lib.hid (HCw.out.grown' HG3.out (by simp) (fun j e => by cases e))
          have HGG3 : Hid (W1.grownBy w3 (some cb)) := Lib.hid (grownBy_step HGw.out HG3.out (fun j e => by cases e))
          have HVX3 : Hid (Vx w3 (W1.heap.size + 1) wr.heap.size vs pre) := Lib.hid (HVX.out.keep (Kp.of_grownR HG3.out (Nat.le_refl _) (fun j e => by cases e)))
          have HAT3 : Hid (∀ j, v3.ownBlock = some j → wr.heap.size ≤ j ∧ j < w3.heap.size) := Lib.hid (fun j e => ⟨by rcases hat3 with h1 | h1 <;> rw [h1] at e <;> cases e <;> simp, (own3.lt j e).2⟩)
          have hsz3 : wr.heap.size ≤ w3.heap.size := hg3.size
          have hcb3 : cb < w3.heap.size := by omega
          have HOP3 : Hid (w3.ownsRow w.heap.size 3 1 (.slice (some ⟨pg, 0, none⟩) np pc) np (ps.map (Value.int .i64))) := Lib.hid (by have := own_draw2 HOP.out HGG3.out hlt; exact this)
          clear own3 hg3 hat3 HG3 HCw HGw HKP HOF HVX q0 q1
          go_wp2_with fail
          refine (function_d B cb A n c l p3 k most (some ⟨pg, 0, none⟩) np pc ps w3 w.heap.size hlt HC3.out HOP3.out (by omega) hkl (by have := HP.out.2.2; rw [← HNP.out] at this; exact this) hmost).mono ?_
          rintro e w4 ⟨f, As, cs, Ai, ci, p4, rfl, hfp, hfo, os4, oi4, c4, g4⟩
          have HFS4 : Hid (FsOk np ps (pre ++ [f])) := Lib.hid (HFS.out.snoc hfo (by rw [HPL.out]; exact hfp))
          have HK4 := Lib.hid (HK3.out.grown g4 (some_ne nW1))
          have HC4 := Lib.hid c4
          have HGG4 := Lib.hid (grownBy_trans HGG3.out g4)
          have HO4 : Hid (w4.ownsRow W1.heap.size 70 3 v3 k vs) := Lib.hid (own_draw2 HO3.out g4 hltw)
          have HSC := Lib.hid (own_cap os4)
          have HIC := Lib.hid (own_cap oi4)
          have HOS4 := Lib.hid os4
          have HOI4 := Lib.hid oi4
          have hsz4 : w3.heap.size ≤ w4.heap.size := g4.size
          have hwl : W1.heap.size < wr.heap.size := q2
          have HVX4 : Hid (Vx w4 (W1.heap.size + 1) wr.heap.size vs pre) := Lib.hid (HVX3.out.keep (Kp.of_grown g4 hsz3 (.inl (by omega))))
          have hprm : f.params = ps.getD k 0 := hfp
          rw [← hprm]
          clear c4 g4 os4 oi4 hfp hfo HFS HO3 HC3 HGG3 HK3 HVX3 hprm HOP3
          go_upto_region 11 with (at_builtin; refine wpList_append_any _ rfl (.tmp 33) (.tmp 39) _ rfl W1.heap.size 70 i1 _ 3 56 Try.underlying49 hi1 hy0 hy1 hy2 rfl (by omega) _ k vs rfl (HO4.out.alloc _) (w4.heap.size + 1) (some ⟨w4.heap.size, 0, none⟩) 1 1 [.int .i64 f.params, .slice As f.slots.length cs, .slice Ai f.code.length ci] rfl (reads_new rfl) (by simp [Value.oneCell']) (by unfold maxLen; omega) (by omega) (by simp; omega) ?_; intro v5 w5 own5 hg5 hat5; obtain ⟨A5, c5, rfl, -⟩ := own_form own5)
          have HO5 := Lib.hid own5
          have hn5 : ∀ j, v3.ownBlock = some j → wr.heap.size ≤ j := fun j e => (HAT3.out j e).1
          have HK5 : Hid (Blk w5 W1.heap.size 51 #[.slice Af k cf]) := Lib.hid ((HK4.out.alloc _).grown hg5 (fun e => by have := hn5 _ e.symm; omega))
          have HC5 : Hid (CodesAt w5 B cb A n c l p4) := Lib.hid ((HC4.out.alloc _).grown' hg5 (fun e => by have := hn5 _ e; omega) (fun j e => by have := hn5 _ e; omega))
          have HGG5 : Hid (W1.grownBy w5 (some cb)) := Lib.hid (grownBy_step (grownBy_al HGG4.out _) hg5 (fun j e => .inl (by have := hn5 _ e; omega)))
          have hsz5 : w4.heap.size < w5.heap.size := by have := hg5.size; simp at this; omega
          have HVX5 : Hid (Vx w5 (W1.heap.size + 1) wr.heap.size vs pre) := Lib.hid (HVX4.out.keep ((Kp.alloc (Kp.refl _ _ _) (by omega) _).trans (Kp.of_grownR hg5 (by simp; omega) (fun j e => .inr (hn5 _ e)))))
          have HS5 : Hid (Sx w5 (W1.heap.size + 1) w5.heap.size As f.slots) := Lib.hid ((Rx.of_own ((HOS4.out.alloc _).kept hg5 (own_two' HOS4.out HO4.out (by decide)))).more (by omega) (Nat.le_refl _))
          have HI5 : Hid (Nx w5 (W1.heap.size + 1) w5.heap.size Ai f.code) := Lib.hid ((Rx.of_own ((HOI4.out.alloc _).kept hg5 (own_two' HOI4.out HO4.out (by decide)))).more (by omega) (Nat.le_refl _))
          have HVS : Hid (Vx w5 (W1.heap.size + 1) w5.heap.size (vs ++ [.int .i64 f.params, .slice As f.slots.length cs, .slice Ai f.code.length ci]) (pre ++ [f])) := Lib.hid (Vx.snoc (HVX5.out.more (Nat.le_refl _) (by omega)) HVL.out HS5.out HI5.out HSC.out HIC.out)
          obtain ⟨q0, q1, q2'⟩ := Blk.one HK5.out
          have HNB5 : Hid (∀ j, (Value.slice A5 (k + 1) c5).ownBlock = some j → j ≠ W1.heap.size) := Lib.hid (fun j e => by have := own_blk_ne HO5.out HK5.out (by decide); intro e2; rw [e2] at e; exact this e)
          clear own5 hg5 hat5 HK4 HC4 HGG4 HVX4 HOS4 HOI4 HVX5 HS5 HI5 HSC HIC HO4 hn5 HAT3
          go_wp2
          go_roundw
          case rel => exact ⟨k + 1, p4, pre ++ [f], A5, c5, vs ++ [.int .i64 f.params, .slice As f.slots.length cs, .slice Ai f.code.length ci], by go_num, by omega, Lib.hid (by rw [List.length_append, HPL.out]; rfl), Lib.hid (Blk.set_ HK5.out 0 _), Lib.hid (own_miss HO5.out _ HNB5.out _), Lib.hid ((HVS.out.keep (Kp.set (Kp.refl _ _ _) (p := ⟨W1.heap.size, 0, none⟩) (.inl (Nat.lt_succ_self _)) _)).more (Nat.le_refl _) (by simp)), HFS4, Lib.hid (HC5.out.set (show cb ≠ W1.heap.size by omega) (show B ≤ W1.heap.size by omega) _), Lib.hid (grownBy_set HGG5.out (Nat.le_refl _) _)⟩
          case measure => simp [intOf]; omega
        · obtain rfl : k = np := by omega
          have HKR := Lib.hid (HKW.out.grown HGw.out (some_ne nw))
          obtain ⟨r0, r1, r2⟩ := Blk.one HKR.out
          have hw1 : w.heap.size < W1.heap.size := HKW.out.lt
          have HPR : Hid (PrOk funcs pre) := Lib.hid (pr_ok (by rw [← HNP.out]; exact HFS.out) (by rw [HPL.out, HNP.out]) HP.out HLE.out)
          have HFX : Hid (Fx wr W1.heap.size wr.heap.size Af pre) := Lib.hid ⟨vs, by rw [HPL.out]; exact Rx.of_own HOF.out, HVX.out.more (Nat.le_succ _) (Nat.le_refl _)⟩
          go_wp2
          refine bodyPost_ret (v := .agg #[.slice Af k cf]) (by simp [results, Try.results15, go_sem, r0]) rfl ?_
          refine ⟨pre, Af, cf, p3, ?_, HPR.out, ?_, ?_, ?_, ?_⟩
          · rw [HPL.out]
          · rw [HPL.out]; exact (own_cap HOF.out).2
          · exact (HFX.out.keep (Kp.set (Kp.refl _ _ _) (p := ⟨w.heap.size, 0, none⟩) (.inl hw1) _)).more (by omega) (by simp)
          · exact HCw.out.set (show cb ≠ w.heap.size by omega) (show B ≤ w.heap.size by omega) _
          · exact grownBy_set (grownBy_trans HGW.out HGw.out) (Nat.le_refl _) _
    · have hpi : (0 : Int) < (k : Int) := by omega
      go_wp2_with fail
      refine (next_d _ _ _ _ _ _ _ (4 : Int) _ HCW.out (by omega) (by omega)).mono ?_
      rintro e w3 ⟨v, p3, hv, rfl, c3, g3⟩
      have HC3 := Lib.hid c3
      have HG3 := Lib.hid (grownBy_trans HGW.out g3)
      have own3 := own_draw own g3 hlt
      have HK3 := Lib.hid (HKW.out.grown g3 (some_ne nw))
      have hsz3 : w.heap.size ≤ w3.heap.size := HG3.out.size
      have HP3 : Hid (PsOk (ps ++ [(v : Int)])) := Lib.hid (HP.out.snoc (by omega) (by omega))
      have HLT3 := Lib.hid (fun j (e : Value.ownBlock _ = some j) => ((own3.alloc (.cells #[Value.int .i64 (v : Int)] 3)).lt j e).1)
      clear c3 g3 own HCW HGW HKW HP hv
      go_wp2_with (at_builtin; refine wpList_append_any _ rfl (.tmp 20) (.tmp 23) _ rfl w.heap.size 3 i0 _ 1 8 Try.underlying67 hi0 hz0 hz1 hz2 rfl (by omega) _ ps.length (ps.map (Value.int .i64)) rfl (own3.alloc _) (w3.heap.size + 1) (some ⟨w3.heap.size, 0, none⟩) 1 1 [Value.int .i64 (v : Int)] rfl (reads_new rfl) (by simp [Value.oneCell']) (by unfold maxLen; omega) (by omega) (by simp; omega) ?_; intro v4 w4 own4 hg4 hat4)
      have HN4 := Lib.hid (own_ne_codes (own3.alloc (.cells #[Value.int .i64 (v : Int)] 3)) hlt)
      have HNK := Lib.hid (own_blk_ne (own3.alloc (.cells #[Value.int .i64 (v : Int)] 3)) (HK3.out.alloc _) (by decide))
      go_roundw
      case rel => exact ⟨k - 1, p3, ps ++ [(v : Int)], (by congr 1; omega), by omega, Lib.hid (by have := HL.out; simp; omega), HP3, by rw [List.length_append, List.map_append]; exact own4, Lib.hid ((HC3.out.alloc _).grown' hg4 HN4.out (fun j e => by have := HLT3.out j e; omega)), Lib.hid (grownBy_step (grownBy_al HG3.out _) hg4 (fun j e => .inl (HLT3.out j e))), Lib.hid ((HK3.out.alloc _).grown hg4 (Ne.symm HNK.out))⟩
      case measure => simp [intOf]; omega
end Go.Proofs.Ytmeoabpigibaoaa.pm
