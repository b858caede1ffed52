/- Contracts: the small functions of the machine. -/
import Derived.Test.YtillopkcmpcokaaDoorMh
import Derived.BigQuiet
import Derived.Deep.QuietTactic
import Derived.Deep.RegionHeld3
import Derived.Deep.RegionLaw
namespace Go.Proofs.YtillopkcmpcokaaDoor.pm
open Go.RowKit
set_option linter.unusedVariables false
set_option maxRecDepth 10000
section
variable {B n mb cs ct : Nat} {ad : Addr} {pv iv : Value} {As At : Option Addr} {bl : List Nat} {m : Mx}
theorem below_set {B : Nat} {w : World} {p : Addr} (h : B ≤ p.block) (u : Value) : Below B w (w.setCell p u) := (Below.refl _ _).setCell h u
set_option maxHeartbeats 400000 in
theorem stop_any (w : World) (k : Int) (h : MAt w B n mb ad pv iv As cs At ct bl m) :
    Calls Tryd.prog 38 #[.pointer (some ⟨mb, 0, none⟩), .int .i64 k] w fun e w' => e = .returned (.tuple #[]) ∧ MAt w' B n mb ad pv iv As cs At ct bl (m.stop k) ∧ Below B w w' := by
  have f0 := h.blk.frozen 20
  have f1 := h.blk.frozen 26
  have c0 : w.cell? ⟨mb, 20, none⟩ = some (.int .i64 m.kind) := h.blk.cell 20
  have c1 : w.cell? ⟨mb, 26, none⟩ = some (.bool m.ended) := h.blk.cell 26
  have hlt := h.blk.lt
  have HM := Lib.hid h
  clear h
  go_enter Tryd.func38, Tryd.ntmps38
  go_wp2
  go_end0
  exact ⟨rfl, (HM.out.mset 20 (.int .i64 k) { m with kind := k } rfl rfl rfl rfl).mset 26 (.bool true) (m.stop k) rfl rfl rfl rfl, (below_set (p := ⟨mb, 20, none⟩) HM.out.hmb _).trans (below_set (p := ⟨mb, 26, none⟩) HM.out.hmb _)⟩
/-- a register is written -/
theorem MAt.rset {w : World} (h : MAt w B n mb ad pv iv As cs At ct bl m) (hr8 : m.regs.length = 8) {r : Nat} (hr : r < 8) (v : Nat × Nat) :
    MAt ((w.setCell ⟨mb, 2 + r * 2, none⟩ (.int .u64 v.1)).setCell ⟨mb, 2 + r * 2 + 1, none⟩ (.int .u64 v.2)) B n mb ad pv iv As cs At ct bl { m with regs := m.regs.set r v } := by
  have h1 := h.mset (2 + r * 2) (.int .u64 v.1) { m with regs := m.regs.set r (v.1, (rg m r).2) } rfl rfl rfl (by
    obtain ⟨regs, acts, hp, deep, inp, kind, code, res, steps, trace, ended⟩ := m
    match regs, hr8 with
    | [r0, r1, r2, r3, r4, r5, r6, r7], _ =>
      have e : r = 0 ∨ r = 1 ∨ r = 2 ∨ r = 3 ∨ r = 4 ∨ r = 5 ∨ r = 6 ∨ r = 7 := by omega
      rcases e with rfl | rfl | rfl | rfl | rfl | rfl | rfl | rfl <;> rfl)
  have h2 := h1.mset (2 + r * 2 + 1) (.int .u64 v.2) { m with regs := m.regs.set r v } rfl rfl rfl (by
    obtain ⟨regs, acts, hp, deep, inp, kind, code, res, steps, trace, ended⟩ := m
    match regs, hr8 with
    | [r0, r1, r2, r3, r4, r5, r6, r7], _ =>
      have e : r = 0 ∨ r = 1 ∨ r = 2 ∨ r = 3 ∨ r = 4 ∨ r = 5 ∨ r = 6 ∨ r = 7 := by omega
      rcases e with rfl | rfl | rfl | rfl | rfl | rfl | rfl | rfl <;> rfl)
  exact h2
set_option maxHeartbeats 400000 in
theorem take_any (w : World) (r : Nat) (hr : r < 8) (hr8 : m.regs.length = 8) (v : Nat × Nat) (ok : Bool) (h : MAt w B n mb ad pv iv As cs At ct bl m) :
    Calls Tryd.prog 48 #[.pointer (some ⟨mb, 0, none⟩), .int .i64 (r : Int), .agg #[.int .u64 v.1, .int .u64 v.2], .bool ok] w fun e w' => e = .returned (.tuple #[]) ∧ MAt w' B n mb ad pv iv As cs At ct bl (m.take r (if ok then some v else none)) ∧ Below B w w' := by
  obtain ⟨W1, hW1⟩ : ∃ W1, W1 = w.alloc (.cells #[.int .u64 v.1, .int .u64 v.2] 33) := ⟨_, rfl⟩
  have hB1 : Below w.heap.size w W1 := by rw [hW1]; exact (Below.refl _ _).alloc (Nat.le_refl _) _
  have HK : Hid (Blk W1 w.heap.size 33 #[.int .u64 v.1, .int .u64 v.2]) := Lib.hid (by rw [hW1]; exact Blk.new _ _ _)
  have hlt0 := h.blk.lt
  have hmb := h.hmb
  have HM := Lib.hid (h.after hB1)
  have HB1 : Hid (Below B w W1) := Lib.hid (hB1.mono (by omega))
  have HW1 := Lib.hid hW1
  have hri : (r : Int) < 8 := by omega
  have hr0 : (0 : Int) ≤ (r : Int) := by omega
  clear h hW1 hB1
  have hlt := HM.out.blk.lt
  obtain ⟨x0, x1, -⟩ := HK.out.c2
  cases ok with
  | true =>
    obtain ⟨c0, c1⟩ := reg_cell HM.out.blk hr
    have f0 := HM.out.blk.frozen (2 + r * 2)
    have f1 := HM.out.blk.frozen (2 + r * 2 + 1)
    go_enter Tryd.func48, Tryd.ntmps48
    go_upto_region 1 with (fail)
    rw [← HW1.out]
    go_wp2_with fail
    go_region_with (fail)
    go_wp2
    go_end0
    exact ⟨rfl, (HM.out.rset hr8 hr v).after ((Below.refl _ _).drew), HB1.out.trans (((below_set (p := ⟨mb, 2 + r * 2, none⟩) hmb _).trans (below_set (p := ⟨mb, 2 + r * 2 + 1, none⟩) hmb _)).drew)⟩
  | false => 
    go_enter Tryd.func48, Tryd.ntmps48
    go_upto_region 1 with (fail)
    rw [← HW1.out]
    go_wp2_with fail
    refine (stop_any _ 3 HM.out).mono ?_
    rintro e w3 ⟨rfl, m3, b3⟩
    have HM3 := Lib.hid m3
    have HB3 := Lib.hid (HB1.out.trans b3)
    clear m3 b3
    go_wp2
    go_end0
    exact ⟨rfl, HM3.out, HB3.out⟩
def CallD (w : World) (B n mb : Nat) (ad : Addr) (pv iv : Value) (At : Option Addr) (ct : Nat) (bl : List Nat) (m : Mx) (e : Ending) (w' : World) : Prop :=
  e = .returned (.tuple #[]) ∧ Below B w w' ∧ ∃ As' cs', MAt w' B n mb ad pv iv As' cs' At ct bl m
set_option maxHeartbeats 1000000 in
theorem call_any (w : World) (np cp f : Nat) (hf : f < np) (hnp : np ≤ maxLen) (hacts : m.acts.length ≤ 1000000) (h : MAt w B n mb ad (.slice (some ad) np cp) iv As cs At ct bl m) (hB : B ≤ w.heap.size) :
    Calls Tryd.prog 37 #[.pointer (some ⟨mb, 0, none⟩), .int .i64 (f : Int)] w (CallD w B n mb ad (.slice (some ad) np cp) iv At ct bl (m.call f)) := by
  obtain ⟨i0, hi0, hz0, hz1, hz2⟩ := info_parts info_act
  obtain ⟨c0, -, c18, c19, -, -, -, hlt⟩ := h.cells
  have f18 := h.blk.frozen 18
  have hmb := h.hmb
  have HM := Lib.hid h
  have hfi : (f : Int) < (np : Int) := by omega
  have hf0 : (0 : Int) ≤ (f : Int) := by omega
  clear h
  go_enter Tryd.func37, Tryd.ntmps37
  go_upto_region 0 with (fail)
  go_cut [] (fun wx => ∃ A6 c6, Hid (MAt wx B n mb ad (.slice (some ad) np cp) iv A6 c6 At ct bl { m with acts := m.acts ++ [⟨f, 0, none, none⟩] }) ∧ Hid (Below B w wx))
  case first =>
    go_region_law (first
      | (refine step_append_any _ rfl (.tmp 8) (.tmp 17) 71 rfl B 96 i0 _ 4 32 Tryd.underlying71 hi0 hz0 hz1 hz2 rfl (by omega) (.slice As m.acts.length cs) m.acts.length (m.acts.flatMap (acV ad bl)) (by first | (simp [Act.eval]; done) | (simp [Act.eval, Act.put]; done)) (World.ownsRow.drew (HM.out.own.alloc _)) (w.heap.size + 1) (some ⟨w.heap.size, 0, none⟩) 1 1 _ (by first | (simp [Act.eval]; done) | (simp [Act.eval, Act.put]; done)) (show Reads (World.alloc w _) _ _ _ _ _ from reads_new1 rfl) (by simp [Value.oneCell']) (by unfold maxLen; omega) (by omega) (by simp; omega) ?_; intro v6 w6 own6 gX atX; clear atX; have HO6 : Hid (w6.ownsRow B 96 4 v6 (m.acts.length + 1) (m.acts.flatMap (acV ad bl) ++ [.pointer (some (ad.add (f * 3))), .int .i64 0, .map none, .map none])) := Lib.hid own6; have HG6 : Hid (w.grownBy w6 (Value.slice As m.acts.length cs).ownBlock) := Lib.hid (grownBy_transR (grownBy_of_below (((Below.refl _ _).alloc (Nat.le_refl _) _).drew) _) gX); obtain ⟨A6, c6, rfl, -⟩ := own_form own6; have y18 : w6.cell? ⟨mb, 18, none⟩ = some (.slice As m.acts.length cs) := (HM.out.blk.grown HG6.out (fun e => HM.out.mb_own e.symm)).cell 18; have yf := (HM.out.blk.grown HG6.out (fun e => HM.out.mb_own e.symm)).frozen 18; clear own6 gX))
    all_goals go_wp2_with fail
    all_goals go_meet
    all_goals exact ⟨_, _, Lib.hid (HM.out.push HG6.out HO6.out), Lib.hid ((below_of_grownR HG6.out (fun k hk => (HM.out.lt_own k hk).1) hB).trans (below_set (p := ⟨mb, 18, none⟩) hmb _))⟩
  case rest =>
    obtain ⟨A6, c6, HM6, HB6⟩ := hcut
    obtain ⟨W6, hW6⟩ : ∃ W6, W6 = wc := ⟨_, rfl⟩
    subst hW6
    clear c0 c18 c19 f18
    obtain ⟨c0, -, c18, c19, -, -, -, hlt6⟩ := HM6.out.cells
    have hl6 : ({ m with acts := m.acts ++ [⟨f, 0, none, none⟩] } : Mx).acts.length = m.acts.length + 1 := by simp
    rw [hl6] at c18
    have c19' : W6.cell? ⟨mb, 19, none⟩ = some (.int .i64 m.deep) := c19
    clear c19
    have f19 := HM6.out.blk.frozen 19
    go_upto_region 1 with (fail)
    go_region_with (fail)
    all_goals go_wp2
    all_goals go_end0
    all_goals
      first
      | (have hd : m.deep < m.acts.length + 1 := by omega
         have e : (m.acts.length : Int) + 1 = (((m.call f).deep : Nat) : Int) := by simp [Mx.call, hd]
         rw [e]
         exact ⟨rfl, HB6.out.trans ((below_set (p := ⟨mb, 19, none⟩) hmb _).drew), _, _, (HM6.out.mset 19 _ (m.call f) rfl rfl rfl rfl).after ((Below.refl _ _).drew)⟩)
      | (have hd : ¬ m.deep < m.acts.length + 1 := by omega
         have e : (m.deep : Int) = (((m.call f).deep : Nat) : Int) := by simp [Mx.call, hd]
         rw [e]
         exact ⟨rfl, HB6.out.trans ((below_set (p := ⟨mb, 19, none⟩) hmb _).drew), _, _, (HM6.out.mset 19 _ (m.call f) rfl rfl rfl rfl).after ((Below.refl _ _).drew)⟩)
end
end Go.Proofs.YtillopkcmpcokaaDoor.pm
