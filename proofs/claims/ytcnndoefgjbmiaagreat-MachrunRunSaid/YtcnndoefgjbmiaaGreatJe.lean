/- compute: Pair. -/
import Derived.Test.YtcnndoefgjbmiaaGreatGJc
set_option linter.unusedVariables false
set_option maxRecDepth 10000
set_option maxHeartbeats 8000000
namespace Go.Proofs.YtcnndoefgjbmiaaGreat.pm
open Go.RowKit
section
variable {B mb cs ct np cp : Nat} {L : Pl} {ad : Addr} {pv iv : Value} {As At : Option Addr} {m : Mx}
theorem comp_pair (w : World) (a b c : Nat) (imm : Int) (ha : a < 8) (hb : b < 8) (hc : c < 8) (hr8 : m.regs.length = 8) (h : MAt w B mb L ad (.slice (some ad) np cp) iv As cs At ct m) (hB : B ≤ w.heap.size) :
 Calls Tryz.prog 49 #[.pointer (some ⟨mb, 0, none⟩), .agg #[.int .i64 11, .int .i64 a, .int .i64 b, .int .i64 c, .int .u64 imm]] w (StepD w B mb L ad (.slice (some ad) np cp) iv { m with regs := m.regs.set a ((rg m b).1, (rg m c).1) }) := by
 obtain ⟨W1, hW1⟩ : ∃ W1, W1 = w.alloc (.cells #[.int .i64 11, .int .i64 a, .int .i64 b, .int .i64 c, .int .u64 imm] 50) := ⟨_, rfl⟩
 have hB1 : Below w.heap.size w W1 := by rw [hW1]; exact bR.alloc nL _
 have HK : Hid (Blk W1 w.heap.size 50 #[.int .i64 11, .int .i64 a, .int .i64 b, .int .i64 c, .int .u64 imm]) := hQ (by rw [hW1]; exact Blk.new _ _ _)
 have HM := hQ (h.after hB1)
 have hmb := h.hmb
 have HB1 : Hid (Below B w W1) := hQ (hB1.mono hB)
 have HW1 := hQ hW1
 have hai : (a : Int) < 8 := by omega
 have ha0 : (0 : Int) ≤ (a : Int) := by omega
 have hbi : (b : Int) < 8 := by omega
 have hb0 : (0 : Int) ≤ (b : Int) := by omega
 have hci : (c : Int) < 8 := by omega
 have hc0 : (0 : Int) ≤ (c : Int) := by omega
 clear h hW1 hB1
 obtain ⟨x0, x1, x2, x3, -, -⟩ := HK.out.c5
 obtain ⟨c0, c1⟩ := reg_cell HM.out.blk ha
 obtain ⟨d0, d1⟩ := reg_cell HM.out.blk hb
 obtain ⟨e0, e1⟩ := reg_cell HM.out.blk hc
 have f0 := HM.out.blk.frozen (a * 2)
 have f1 := HM.out.blk.frozen (a * 2 + 1)
 have hlt := HM.out.blk.lt
 have HC : Hid (∀ W, Calls Tryz.prog 71 #[.agg #[.int .u64 (rg m b).1, .int .u64 (rg m b).2], .agg #[.int .u64 (rg m c).1, .int .u64 (rg m c).2]] W fun e w' => e = .returned (.agg #[.int .u64 (rg m b).1, .int .u64 (rg m c).1]) ∧ Below W.heap.size W w') := hQ (fun W => (pair_any _ _ _ _ W).mono fun e w' ⟨p, q⟩ => ⟨p, q⟩)
 go_enter Tryz.func49, Tryz.ntmps49
 go_upto_region 1 with (fail)
 rw [← HW1.out]
 go_upto_region 12 with (fail)
 go_region_with (first
  | (go_at_call 71; refine (HC.out _).mono ?_; rintro e w2 ⟨rfl, b2⟩; have hb2 := (show Below W1.heap.size W1 w2 from (Below.refl W1.heap.size W1).drew.trans b2); obtain ⟨y0, y1, y2, y3, -, -⟩ := (HK.out.after hb2).c5; have HM2 := hQ (HM.out.after hb2); have HB2 : Hid (Below B W1 w2) := hQ (hb2.mono (Nat.le_trans hB HB1.out.size)); obtain ⟨c0', c1'⟩ := reg_cell HM2.out.blk ha; have f0' := HM2.out.blk.frozen (a * 2); have f1' := HM2.out.blk.frozen (a * 2 + 1); have hlt' := HM2.out.blk.lt; clear b2 hb2))
 all_goals go_wp2
 all_goals go_end0
 all_goals have hm := HM2.out.rset hr8 ha ((rg m b).1, (rg m c).1)
 all_goals exact ⟨rfl, HB1.out.trans (HB2.out.trans ((below_set (p := ⟨mb, a * 2, none⟩) hmb _).trans (below_set (p := ⟨mb, a * 2 + 1, none⟩) hmb _))), _, _, _, _, hm⟩
end
end Go.Proofs.YtcnndoefgjbmiaaGreat.pm
