/- Contracts: core.end; compute: Const, Copy, High. -/
import Derived.Test.YtcnndoefgjbmiaaGreatGJp
set_option linter.unusedVariables false
set_option maxRecDepth 10000
set_option maxHeartbeats 8000000
namespace Go.Proofs.YtcnndoefgjbmiaaGreat.pm
open Go.RowKit
section
variable {B mb cs ct np cp : Nat} {L : Pl} {ad : Addr} {pv iv : Value} {As At : Option Addr} {m : Mx}
theorem const_any (w : World) (a : Nat) (b c : Int) (imm : Nat) (ha : a < 8) (hr8 : m.regs.length = 8) (h : MAt w B mb L ad (.slice (some ad) np cp) iv As cs At ct m) (hB : B ≤ w.heap.size) :
 Calls Tryz.prog 49 #[.pointer (some ⟨mb, 0, none⟩), .agg #[.int .i64 0, .int .i64 a, .int .i64 b, .int .i64 c, .int .u64 imm]] w (StepD w B mb L ad (.slice (some ad) np cp) iv { m with regs := m.regs.set a (imm, 0) }) := by
 obtain ⟨W1, hW1⟩ : ∃ W1, W1 = w.alloc (.cells #[.int .i64 0, .int .i64 a, .int .i64 b, .int .i64 c, .int .u64 imm] 50) := ⟨_, rfl⟩
 have hB1 : Below w.heap.size w W1 := by rw [hW1]; exact bR.alloc nL _
 have HK : Hid (Blk W1 w.heap.size 50 #[.int .i64 0, .int .i64 a, .int .i64 b, .int .i64 c, .int .u64 imm]) := hQ (by rw [hW1]; exact Blk.new _ _ _)
 have HM := hQ (h.after hB1)
 have hmb := h.hmb
 have HB1 : Hid (Below B w W1) := hQ (hB1.mono hB)
 have HW1 := hQ hW1
 have hai : (a : Int) < 8 := by omega
 have ha0 : (0 : Int) ≤ (a : Int) := by omega
 clear h hW1 hB1
 obtain ⟨x0, x1, -, -, x4, -⟩ := HK.out.c5
 obtain ⟨c0, c1⟩ := reg_cell HM.out.blk ha
 have f0 := HM.out.blk.frozen (a * 2)
 have f1 := HM.out.blk.frozen (a * 2 + 1)
 have hlt := HM.out.blk.lt
 go_enter Tryz.func49, Tryz.ntmps49
 go_upto_region 1 with (fail)
 rw [← HW1.out]
 go_upto_region 8 with (fail)
 go_region_with (fail)
 all_goals go_wp2
 all_goals go_end0
 all_goals have hm := (HM.out.rset hr8 ha (imm, 0)).after (bR.drew)
 all_goals exact ⟨rfl, HB1.out.trans (((below_set (p := ⟨mb, a * 2, none⟩) hmb _).trans (below_set (p := ⟨mb, a * 2 + 1, none⟩) hmb _)).drew), _, _, _, _, hm⟩
theorem comp_copy (w : World) (a b : Nat) (c : Int) (imm : Int) (ha : a < 8) (hb : b < 8) (hr8 : m.regs.length = 8) (h : MAt w B mb L ad (.slice (some ad) np cp) iv As cs At ct m) (hB : B ≤ w.heap.size) :
 Calls Tryz.prog 49 #[.pointer (some ⟨mb, 0, none⟩), .agg #[.int .i64 1, .int .i64 a, .int .i64 b, .int .i64 c, .int .u64 imm]] w (StepD w B mb L ad (.slice (some ad) np cp) iv { m with regs := m.regs.set a (rg m b) }) := by
 obtain ⟨W1, hW1⟩ : ∃ W1, W1 = w.alloc (.cells #[.int .i64 1, .int .i64 a, .int .i64 b, .int .i64 c, .int .u64 imm] 50) := ⟨_, rfl⟩
 have hB1 : Below w.heap.size w W1 := by rw [hW1]; exact bR.alloc nL _
 have HK : Hid (Blk W1 w.heap.size 50 #[.int .i64 1, .int .i64 a, .int .i64 b, .int .i64 c, .int .u64 imm]) := hQ (by rw [hW1]; exact Blk.new _ _ _)
 have HM := hQ (h.after hB1)
 have hmb := h.hmb
 have HB1 : Hid (Below B w W1) := hQ (hB1.mono hB)
 have HW1 := hQ hW1
 have hai : (a : Int) < 8 := by omega
 have ha0 : (0 : Int) ≤ (a : Int) := by omega
 have hbi : (b : Int) < 8 := by omega
 have hb0 : (0 : Int) ≤ (b : Int) := by omega
 clear h hW1 hB1
 obtain ⟨x0, x1, x2, -, -, -⟩ := HK.out.c5
 obtain ⟨c0, c1⟩ := reg_cell HM.out.blk ha
 obtain ⟨d0, d1⟩ := reg_cell HM.out.blk hb
 have f0 := HM.out.blk.frozen (a * 2)
 have f1 := HM.out.blk.frozen (a * 2 + 1)
 have hlt := HM.out.blk.lt
 go_enter Tryz.func49, Tryz.ntmps49
 go_upto_region 1 with (fail)
 rw [← HW1.out]
 go_upto_region 10 with (fail)
 go_region_with (fail)
 all_goals go_wp2
 all_goals go_end0
 all_goals have hm := (HM.out.rset hr8 ha (rg m b)).after (bR.drew)
 all_goals exact ⟨rfl, HB1.out.trans (((below_set (p := ⟨mb, a * 2, none⟩) hmb _).trans (below_set (p := ⟨mb, a * 2 + 1, none⟩) hmb _)).drew), _, _, _, _, hm⟩
theorem comp_high (w : World) (a b : Nat) (c : Int) (imm : Int) (ha : a < 8) (hb : b < 8) (hr8 : m.regs.length = 8) (h : MAt w B mb L ad (.slice (some ad) np cp) iv As cs At ct m) (hB : B ≤ w.heap.size) :
 Calls Tryz.prog 49 #[.pointer (some ⟨mb, 0, none⟩), .agg #[.int .i64 12, .int .i64 a, .int .i64 b, .int .i64 c, .int .u64 imm]] w (StepD w B mb L ad (.slice (some ad) np cp) iv { m with regs := m.regs.set a ((rg m b).2, 0) }) := by
 obtain ⟨W1, hW1⟩ : ∃ W1, W1 = w.alloc (.cells #[.int .i64 12, .int .i64 a, .int .i64 b, .int .i64 c, .int .u64 imm] 50) := ⟨_, rfl⟩
 have hB1 : Below w.heap.size w W1 := by rw [hW1]; exact bR.alloc nL _
 have HK : Hid (Blk W1 w.heap.size 50 #[.int .i64 12, .int .i64 a, .int .i64 b, .int .i64 c, .int .u64 imm]) := hQ (by rw [hW1]; exact Blk.new _ _ _)
 have HM := hQ (h.after hB1)
 have hmb := h.hmb
 have HB1 : Hid (Below B w W1) := hQ (hB1.mono hB)
 have HW1 := hQ hW1
 have hai : (a : Int) < 8 := by omega
 have ha0 : (0 : Int) ≤ (a : Int) := by omega
 have hbi : (b : Int) < 8 := by omega
 have hb0 : (0 : Int) ≤ (b : Int) := by omega
 clear h hW1 hB1
 obtain ⟨x0, x1, x2, -, -, -⟩ := HK.out.c5
 obtain ⟨c0, c1⟩ := reg_cell HM.out.blk ha
 obtain ⟨d0, d1⟩ := reg_cell HM.out.blk hb
 have f0 := HM.out.blk.frozen (a * 2)
 have f1 := HM.out.blk.frozen (a * 2 + 1)
 have hlt := HM.out.blk.lt
 have HC : Hid (∀ W, Calls Tryz.prog 72 #[.agg #[.int .u64 (rg m b).1, .int .u64 (rg m b).2]] W fun e w' => e = .returned (.agg #[.int .u64 (rg m b).2, .int .u64 0]) ∧ Below W.heap.size W w') := hQ (fun W => (high_any _ _ W).mono fun e w' ⟨p, q⟩ => ⟨p, q⟩)
 go_enter Tryz.func49, Tryz.ntmps49
 go_upto_region 1 with (fail)
 rw [← HW1.out]
 go_upto_region 14 with (fail)
 go_region_with (first
  | (go_at_call 72; refine (HC.out _).mono ?_; rintro e w2 ⟨rfl, b2⟩; have hb2 := (show Below W1.heap.size W1 w2 from (Below.refl W1.heap.size W1).drew.trans b2); obtain ⟨y0, y1, y2, -, -, -⟩ := (HK.out.after hb2).c5; have HM2 := hQ (HM.out.after hb2); have HB2 : Hid (Below B W1 w2) := hQ (hb2.mono (Nat.le_trans hB HB1.out.size)); obtain ⟨c0', c1'⟩ := reg_cell HM2.out.blk ha; have f0' := HM2.out.blk.frozen (a * 2); have f1' := HM2.out.blk.frozen (a * 2 + 1); have hlt' := HM2.out.blk.lt; clear b2 hb2))
 all_goals go_wp2
 all_goals go_end0
 all_goals have hm := HM2.out.rset hr8 ha ((rg m b).2, 0)
 all_goals exact ⟨rfl, HB1.out.trans (HB2.out.trans ((below_set (p := ⟨mb, a * 2, none⟩) hmb _).trans (below_set (p := ⟨mb, a * 2 + 1, none⟩) hmb _))), _, _, _, _, hm⟩
end
section
variable {B mb cs ct np cp : Nat} {L : Pl} {ad : Addr} {pv iv : Value} {As At : Option Addr} {m : Mx}
theorem info_val8 : (Tryz.prog.info? 38).map (fun i => (i.zero, i.size, i.bytes)) = some (some (.agg #[.int .u64 0, .int .u64 0]), 2, 16) := by kernel_rfl
theorem comp_out (w : World) (a : Nat) (b c imm : Int) (ha : a < 8) (htr : m.trace.length ≤ 1000000) (h : MAt w B mb L ad (.slice (some ad) np cp) iv As cs At ct m) (hB : B ≤ w.heap.size) :
 Calls Tryz.prog 49 #[.pointer (some ⟨mb, 0, none⟩), .agg #[.int .i64 14, .int .i64 a, .int .i64 b, .int .i64 c, .int .u64 imm]] w (StepD w B mb L ad (.slice (some ad) np cp) iv { m with trace := m.trace ++ [rg m a] }) := by
 obtain ⟨i0, hi0, hz0, hz1, hz2⟩ := info_parts info_val8
 obtain ⟨W1, hW1⟩ : ∃ W1, W1 = w.alloc (.cells #[.int .i64 14, .int .i64 a, .int .i64 b, .int .i64 c, .int .u64 imm] 50) := ⟨_, rfl⟩
 have hB1 : Below w.heap.size w W1 := by rw [hW1]; exact bR.alloc nL _
 have HK : Hid (Blk W1 w.heap.size 50 #[.int .i64 14, .int .i64 a, .int .i64 b, .int .i64 c, .int .u64 imm]) := hQ (by rw [hW1]; exact Blk.new _ _ _)
 have HM := hQ (h.after hB1)
 have hmb := h.hmb
 have HB1 : Hid (Below B w W1) := hQ (hB1.mono hB)
 have hBW : B ≤ W1.heap.size := Nat.le_trans hB hB1.size
 have HW1 := hQ hW1
 have hai : (a : Int) < 8 := by omega
 have ha0 : (0 : Int) ≤ (a : Int) := by omega
 clear h hW1 hB1
 obtain ⟨x0, x1, -, -, -, -⟩ := HK.out.c5
 obtain ⟨c0, c1⟩ := reg_cell HM.out.blk ha
 obtain ⟨-, c24, -, -, -, -, -, -, -, -, -, hlt⟩ := HM.out.cells
 have f24 := HM.out.blk.frozen 21
 go_enter Tryz.func49, Tryz.ntmps49
 go_upto_region 1 with (fail)
 rw [← HW1.out]
 go_upto_region 20 with (fail)
 go_region_law (first
  | (refine step_append_any _ rfl (.tmp 138) (.tmp 145) 39 rfl B 38 i0 _ 2 16 Tryz.underlying39 hi0 hz0 hz1 hz2 rfl (by omega) (.slice At m.trace.length ct) m.trace.length (m.trace.flatMap vcl) (by first | (simp [Act.eval]; done) | (simp [Act.eval, Act.put]; done)) (World.ownsRow.drew (HM.out.tr.alloc _)) (W1.heap.size + 1) (some ⟨W1.heap.size, 0, none⟩) 1 1 _ (by first | (simp [Act.eval]; done) | (simp [Act.eval, Act.put]; done)) (show Reads (World.alloc W1 _) _ _ _ _ _ from reads_new1 rfl) (by simp [Value.oneCell']) (by unfold maxLen; omega) (by omega) (by simp; omega) ?_; intro v6 w6 own6 gX atX; clear atX; have HO6 : Hid (w6.ownsRow B 38 2 v6 (m.trace.length + 1) (m.trace.flatMap vcl ++ [.int .u64 (rg m a).1, .int .u64 (rg m a).2])) := hQ own6; have HG6 : Hid (W1.grownBy w6 (Value.slice At m.trace.length ct).ownBlock) := hQ (grownBy_transR (grownBy_of_below ((bR.alloc nL _).drew) _) gX); obtain ⟨A6, c6, rfl, -⟩ := own_form own6; have y24 : w6.cell? ⟨mb, 21, none⟩ = some (.slice At m.trace.length ct) := (HM.out.blk.grown HG6.out (fun e => HM.out.mb_tr e.symm)).cell 21; have yf := (HM.out.blk.grown HG6.out (fun e => HM.out.mb_tr e.symm)).frozen 21; clear own6 gX))
 all_goals go_wp2
 all_goals go_end0
 all_goals
  have hl : (m.trace ++ [rg m a]).length = m.trace.length + 1 := by simp
  have ho : w6.ownsRow B 38 2 (.slice A6 (m.trace ++ [rg m a]).length c6) (m.trace ++ [rg m a]).length ((m.trace ++ [rg m a]).flatMap vcl) := by
   rw [hl, List.flatMap_append]; exact HO6.out
  have hm := HM.out.retrace HG6.out ho
  rw [hl] at hm
  exact ⟨rfl, HB1.out.trans ((below_of_grownR HG6.out (fun k hk => (HM.out.tr.lt k hk).1) hBW).trans (below_set (p := ⟨mb, 21, none⟩) hmb _)), _, _, _, _, hm⟩
end
end Go.Proofs.YtcnndoefgjbmiaaGreat.pm
