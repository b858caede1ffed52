/- compute: the binary operations. -/
import Derived.Test.YtgakphichcihjaaGJc
namespace Go.Proofs.Ytgakphichcihjaa.pm
open Go.RowKit
set_option linter.unusedVariables false
set_option maxRecDepth 10000
section
variable {B mb cs ct np cp : Nat} {L : Pl} {ad : Addr} {pv iv : Value} {As At : Option Addr} {m : Mx}
def binM (m : Mx) (a : Nat) (r : (Nat × Nat) × Bool) : Mx := if r.2 = true then { m with regs := m.regs.set a r.1 } else m.stop 2
set_option maxHeartbeats 8000000 in
theorem comp_apply (w : World) (op : Int) (h1 : 2 ≤ op) (h2 : op ≤ 10) (a b c : Nat) (imm : Int) (ha : a < 8) (hb : b < 8) (hc : c < 8) (hr8 : m.regs.length = 8) (hvb : W64x (rg m b)) (hvc : W64x (rg m c)) (h : MAt w B mb L ad (.slice (some ad) np cp) iv As cs At ct m) (hB : B ≤ w.heap.size) :
    Calls Try.prog 91 #[.pointer (some ⟨mb, 0, none⟩), .agg #[.int .i64 op, .int .i64 a, .int .i64 b, .int .i64 c, .int .u64 imm]] w (StepD w B mb L ad (.slice (some ad) np cp) iv (binM m a (apV op (rg m b).1 (rg m b).2 (rg m c).1 (rg m c).2))) := by
  obtain ⟨W1, hW1⟩ : ∃ W1, W1 = w.alloc (.cells #[.int .i64 op, .int .i64 a, .int .i64 b, .int .i64 c, .int .u64 imm] 45) := ⟨_, rfl⟩
  have hB1 : Below w.heap.size w W1 := by rw [hW1]; exact (Below.refl _ _).alloc (Nat.le_refl _) _
  have HK : Hid (Blk W1 w.heap.size 45 #[.int .i64 op, .int .i64 a, .int .i64 b, .int .i64 c, .int .u64 imm]) := Lib.hid (by rw [hW1]; exact Blk.new _ _ _)
  have HM := Lib.hid (h.after hB1)
  have hmb := h.hmb
  have HB1 : Hid (Below B w W1) := Lib.hid (hB1.mono hB)
  have hB2 : B ≤ W1.heap.size := Nat.le_trans hB hB1.size
  have HW1 := Lib.hid hW1
  have hai : (a : Int) < 8 := by omega
  have ha0 : (0 : Int) ≤ (a : Int) := by omega
  have hbi : (b : Int) < 8 := by omega
  have hb0 : (0 : Int) ≤ (b : Int) := by omega
  have hci : (c : Int) < 8 := by omega
  have hc0 : (0 : Int) ≤ (c : Int) := by omega
  have n0 : (op == 0) = false := by rw [beq_eq_false_iff_ne]; omega
  have n1 : (op == 1) = false := by rw [beq_eq_false_iff_ne]; omega
  have n11 : (op == 11) = false := by rw [beq_eq_false_iff_ne]; omega
  have n12 : (op == 12) = false := by rw [beq_eq_false_iff_ne]; omega
  have n13 : (op == 13) = false := by rw [beq_eq_false_iff_ne]; omega
  have n14 : (op == 14) = false := by rw [beq_eq_false_iff_ne]; omega
  obtain ⟨r, hr⟩ : ∃ r, r = apV op (rg m b).1 (rg m b).2 (rg m c).1 (rg m c).2 := ⟨_, rfl⟩
  have HC : Hid (∀ W, Below W1.heap.size W1 W → Calls Try.prog 102 #[.int .i64 op, .agg #[.int .u64 (rg m b).1, .int .u64 (rg m b).2], .agg #[.int .u64 (rg m c).1, .int .u64 (rg m c).2]] W fun e w' => e = .returned (.tuple #[.agg #[.int .u64 (r.1.1 : Int), .int .u64 (r.1.2 : Int)], .bool r.2]) ∧ Below W.heap.size W w') := Lib.hid (fun W hW => (apply_any op _ _ _ _ hvb.1 hvb.2 hvc.1 hvc.2 W).mono fun e w' ⟨p, q⟩ => ⟨by rw [hr]; exact p, q⟩)
  rw [← hr]
  clear h hW1 hB1 hr hvb hvc
  obtain ⟨x0, x1, x2, x3, -, -⟩ := HK.out.c5
  obtain ⟨c0, c1⟩ := reg_cell HM.out.blk hb
  obtain ⟨d0, d1⟩ := reg_cell HM.out.blk hc
  have hlt := HM.out.blk.lt
  go_enter Try.func91, Try.ntmps91
  go_upto_region 1 with (fail)
  rw [← HW1.out]
  go_upto_region 3 with (fail)
  have hkx : w.heap.size < W1.heap.size := HK.out.lt
  have HKL : Hid (∀ W, Below W1.heap.size W1 W → (W.cell? ⟨w.heap.size, 0, none⟩ = some (.int .i64 op) ∧ W.cell? ⟨w.heap.size, 2, none⟩ = some (.int .i64 b) ∧ W.cell? ⟨w.heap.size, 3, none⟩ = some (.int .i64 c)) ∧ (W.cell? ⟨mb, b * 2, none⟩ = some (.int .u64 (rg m b).1) ∧ W.cell? ⟨mb, b * 2 + 1, none⟩ = some (.int .u64 (rg m b).2)) ∧ (W.cell? ⟨mb, c * 2, none⟩ = some (.int .u64 (rg m c).1) ∧ W.cell? ⟨mb, c * 2 + 1, none⟩ = some (.int .u64 (rg m c).2)) ) := Lib.hid (fun W h => ⟨⟨(h.cell (cell_lt x0)).trans x0, (h.cell (cell_lt x2)).trans x2, (h.cell (cell_lt x3)).trans x3⟩, ⟨(h.cell (cell_lt c0)).trans c0, (h.cell (cell_lt c1)).trans c1⟩, ⟨(h.cell (cell_lt d0)).trans d0, (h.cell (cell_lt d1)).trans d1⟩⟩)
  have HD1 : Hid (Below W1.heap.size W1 W1.drew) := Lib.hid ((Below.refl _ _).drew)
  clear x0 x1 x2 x3 c0 c1 d0 d1
  go_cut [5, 6] (fun s5 s6 wx => ∃ q, s5 = .pointer (some ⟨q, 0, none⟩) ∧ s6 = .bool r.2 ∧ W1.heap.size ≤ q ∧ Hid (Blk wx q 54 #[.int .u64 r.1.1, .int .u64 r.1.2]) ∧ Hid (Below W1.heap.size W1 wx))
  case first =>
    have HA : Hid (∀ W o, Below W1.heap.size W1 W → Below W1.heap.size W1 (W.alloc o)) := Lib.hid (fun W o h => h.alloc h.size o)
    have HX : Hid (∀ (W : World) (g : Nat) (u v : Value), W1.heap.size ≤ g → Below W1.heap.size W1 W → Below W1.heap.size W1 ((W.setCell ⟨g, 0, none⟩ u).setCell ⟨g, 1, none⟩ v)) := Lib.hid (fun W g u v hg h => (h.setCell (by simpa using hg) u).setCell (by simpa using hg) v)
    go_region_held3 (fun W => (W.cell? ⟨w.heap.size, 0, none⟩ = some (.int .i64 op) ∧ W.cell? ⟨w.heap.size, 2, none⟩ = some (.int .i64 b) ∧ W.cell? ⟨w.heap.size, 3, none⟩ = some (.int .i64 c)) ∧ (W.cell? ⟨mb, b * 2, none⟩ = some (.int .u64 (rg m b).1) ∧ W.cell? ⟨mb, b * 2 + 1, none⟩ = some (.int .u64 (rg m b).2)) ∧ (W.cell? ⟨mb, c * 2, none⟩ = some (.int .u64 (rg m c).1) ∧ W.cell? ⟨mb, c * 2 + 1, none⟩ = some (.int .u64 (rg m c).2)))
      (with_reducible first | assumption | exact HKL.out _ HD1.out | exact HKL.out _ (HA.out _ _ HD1.out) | exact HKL.out _ (Hid.out (by assumption)) | exact HKL.out _ (HA.out _ _ (Hid.out (by assumption))) | exact HKL.out _ (HA.out _ _ (Below.refl _ _)).drew | exact HKL.out _ (HX.out _ _ _ _ (Nat.le_refl _) (Hid.out (by assumption))) | exact HKL.out _ (HX.out _ _ _ _ (Hid.out HB2).size (HA.out _ _ (Hid.out HB2))))
      (first
        | (go_at_call 102; refine (HC.out _ HD1.out).mono ?_; rintro e w2 ⟨rfl, b2⟩; have HB2 : Hid (Below W1.heap.size W1 w2) := Lib.hid (HD1.out.trans (b2.mono HD1.out.size)); clear b2)
        | (go_at_call 102; refine (HC.out _ (HA.out _ _ HD1.out)).mono ?_; rintro e w2 ⟨rfl, b2⟩; have HB2 : Hid (Below W1.heap.size W1 w2) := Lib.hid ((HA.out _ _ HD1.out).trans (b2.mono (HA.out _ _ HD1.out).size)); have HKB : Hid (Blk w2 W1.heap.size 54 #[.int .u64 0, .int .u64 0]) := Lib.hid ((Blk.new W1.drew _ _).after b2); obtain ⟨y0, y1, g0, g1, yz⟩ := HKB.out.c2; clear b2))
    all_goals go_wp2_with fail
    all_goals go_meet
    all_goals first
      | exact ⟨_, rfl, rfl, HB2.out.size, Lib.hid ((Blk.new w2 _ _).drew), Lib.hid (HA.out _ _ HB2.out).drew⟩
      | exact ⟨_, rfl, rfl, HB2.out.size, Lib.hid (Blk.new w2 _ _), Lib.hid (HA.out _ _ HB2.out)⟩
      | exact ⟨_, rfl, rfl, Nat.le_refl _, Lib.hid ((HKB.out.set_ 0 _).set_ 1 _), Lib.hid (HX.out _ _ _ _ (Nat.le_refl _) HB2.out)⟩
  case rest =>
    obtain ⟨q, rfl, rfl, hq, HQ, HB2⟩ := hcut
    obtain ⟨W2, hW2⟩ : ∃ W2, W2 = wc := ⟨_, rfl⟩
    subst hW2
    have HK2 := Lib.hid (HK.out.after HB2.out)
    have HM2 := Lib.hid (HM.out.after HB2.out)
    clear HKL HD1 HC hkx hlt
    obtain ⟨-, x1, -, -, -, -⟩ := HK2.out.c5
    obtain ⟨v0, v1, -, -, hqlt⟩ := HQ.out.c2
    obtain ⟨c0, c1⟩ := reg_cell HM2.out.blk ha
    have f0 := HM2.out.blk.frozen (a * 2)
    have f1 := HM2.out.blk.frozen (a * 2 + 1)
    have hlt := HM2.out.blk.lt
    have hs2 : W1.heap.size ≤ W2.heap.size := HB2.out.size
    have HB2' : Hid (Below B W1 W2) := Lib.hid (HB2.out.mono hB2)
    rcases hr2 : r.2 with _ | _
    · skip
      go_wp2_with fail
      refine (stop_any _ 2 HM2.out).mono ?_
      rintro e w3 ⟨rfl, m3, b3⟩
      have HM3 := Lib.hid m3
      have HB3 := Lib.hid (HB1.out.trans (HB2'.out.trans b3))
      clear m3 b3
      go_wp2
      go_end0
      have he : binM m a r = m.stop 2 := by unfold binM; rw [hr2, if_neg (by decide)]
      rw [he]
      exact ⟨rfl, HB3.out, _, _, _, _, HM3.out⟩
    · skip
      go_upto_region 6 with (fail)
      go_region_with (fail)
      all_goals go_wp2
      all_goals go_end0
      all_goals have hm := (HM2.out.rset hr8 ha r.1).after ((Below.refl _ _).drew)
      all_goals have he : binM m a r = { m with regs := m.regs.set a r.1 } := by unfold binM; rw [hr2, if_pos rfl]
      all_goals rw [he]
      all_goals exact ⟨rfl, HB1.out.trans (HB2'.out.trans (((below_set (p := ⟨mb, a * 2, none⟩) hmb _).trans (below_set (p := ⟨mb, a * 2 + 1, none⟩) hmb _)).drew)), _, _, _, _, hm⟩
end
end Go.Proofs.Ytgakphichcihjaa.pm
