/- compute: In. -/
import Derived.Test.YtcnndoefgjbmiaaGreatJe
set_option linter.unusedVariables false
set_option maxRecDepth 10000
set_option maxHeartbeats 8000000
namespace Go.Proofs.YtcnndoefgjbmiaaGreat.pm
open Go.RowKit
section
variable {B mb cs ct np cp : Nat} {L : Pl} {ad : Addr} {pv iv : Value} {As At : Option Addr} {m : Mx}
theorem comp_in (w : World) (a : Nat) (b c imm : Int) (ha : a < 8) (hr8 : m.regs.length = 8) (h : MAt w B mb L ad (.slice (some ad) np cp) iv As cs At ct m) (hin : InX w B iv m.inp) (hB : B ≤ w.heap.size) :
 Calls Tryz.prog 49 #[.pointer (some ⟨mb, 0, none⟩), .agg #[.int .i64 13, .int .i64 a, .int .i64 b, .int .i64 c, .int .u64 imm]] w (StepI w B mb L ad (.slice (some ad) np cp) { m with regs := m.regs.set a (m.inp.headD 0, 0), inp := m.inp.tail }) := by
 obtain ⟨W1, hW1⟩ : ∃ W1, W1 = w.alloc (.cells #[.int .i64 13, .int .i64 a, .int .i64 b, .int .i64 c, .int .u64 imm] 50) := ⟨_, rfl⟩
 have hB1 : Below w.heap.size w W1 := by rw [hW1]; exact bR.alloc nL _
 have HK : Hid (Blk W1 w.heap.size 50 #[.int .i64 13, .int .i64 a, .int .i64 b, .int .i64 c, .int .u64 imm]) := hQ (by rw [hW1]; exact Blk.new _ _ _)
 have HM := hQ (h.after hB1)
 have hmb := h.hmb
 have HB1 : Hid (Below B w W1) := hQ (hB1.mono hB)
 have hB2 : B ≤ W1.heap.size := Nat.le_trans hB hB1.size
 have HIN := hQ (hin.after HB1.out)
 have HW1 := hQ hW1
 have hai : (a : Int) < 8 := by omega
 have ha0 : (0 : Int) ≤ (a : Int) := by omega
 clear h hW1 hB1 hin
 obtain ⟨x0, x1, -, -, -, -⟩ := HK.out.c5
 obtain ⟨c0, c1⟩ := reg_cell HM.out.blk ha
 have f0 := HM.out.blk.frozen (a * 2)
 have f1 := HM.out.blk.frozen (a * 2 + 1)
 have hlt := HM.out.blk.lt
 go_enter Tryz.func49, Tryz.ntmps49
 go_upto_region 1 with (fail)
 rw [← HW1.out]
 go_upto_region 16 with (fail)
 go_cut [] (fun wx => Hid (MAt wx B mb L ad (.slice (some ad) np cp) iv As cs At ct { m with regs := m.regs.set a (0, 0) }) ∧ Hid (Below B W1 wx) ∧ Hid (Blk wx w.heap.size 50 #[.int .i64 13, .int .i64 a, .int .i64 b, .int .i64 c, .int .u64 imm]))
 case first =>
  go_region_with (fail)
  all_goals go_wp2_with fail
  all_goals go_meet
  all_goals
   exact ⟨hQ ((HM.out.rset hr8 ha (0, 0)).after (bR.drew)), hQ (((below_set (p := ⟨mb, a * 2, none⟩) hmb _).trans (below_set (p := ⟨mb, a * 2 + 1, none⟩) hmb _)).drew), hQ ((((HK.out.far (p := ⟨mb, a * 2, none⟩) (Blk.ne_ HK.out HM.out.blk (by decide)) _)).far (p := ⟨mb, a * 2 + 1, none⟩) (Blk.ne_ HK.out HM.out.blk (by decide)) _).drew)⟩
 case rest =>
  obtain ⟨HM2, HB2, HK2⟩ := hcut
  obtain ⟨W2, hW2⟩ : ∃ W2, W2 = wc := ⟨_, rfl⟩
  subst hW2
  clear x0 x1 c0 c1 f0 f1 hlt
  obtain ⟨x0, x1, -, -, -, -⟩ := HK2.out.c5
  obtain ⟨Ai, ci, e0, hci, hil, hrx⟩ := HIN.out.after HB2.out
  subst e0
  obtain ⟨c1, -, -, -, -, -, -, -, -, -, -, hlt⟩ := HM2.out.cells
  have hr2 : (m.regs.set a ((0 : Nat), (0 : Nat))).length = 8 := by rw [List.length_set]; exact hr8
  rcases hinp : m.inp with _ | ⟨v, r⟩
  · rw [hinp] at c1
    have HE : Hid (InX W2 B (.slice Ai 0 ci) []) := hQ ⟨Ai, ci, rfl, by simp, by simp, by rw [hinp] at hrx; exact hrx⟩
    have HM3 := HM2
    rw [hinp] at HM3
    clear hrx HIN HM2
    go_wp2
    go_end0
    exact ⟨rfl, HB1.out.trans HB2.out, _, _, _, _, _, by rw [hinp]; exact HM3.out, by rw [hinp]; exact HE.out⟩
  · rw [hinp] at c1
    obtain ⟨ai, e1, hb, hcl⟩ := hrx.1.2 (by rw [hinp]; simp)
    subst e1
    have y0 : W2.cell? ai = some (.int .u64 v) := by
     have := hcl 0 (.int .u64 v) (by rw [hinp]; rfl)
     simpa [Addr.add] using this
    have hi0 : (0 : Int) < ((r.length + 1 : Nat) : Int) := by omega
    have HE : Hid (InX W2 B (.slice (if ci = 1 then some ai else some ⟨ai.block, ai.off + 1, none⟩) r.length (ci - 1)) r) := hQ (by
     rw [hinp] at hci hil hrx
     exact InX.tail hci hil hrx)
    have hcl1 : r.length + 1 ≤ ci := by rw [hinp] at hci; simpa using hci
    have HM3 := HM2
    rw [hinp] at HM3
    obtain ⟨z0, -⟩ := reg_cell HM3.out.blk ha
    have f0 := HM3.out.blk.frozen (a * 2)
    have f1 := HM3.out.blk.frozen 16
    clear hrx HIN HM2 hcl
    have c1' : W2.cell? ⟨mb, 16, none⟩ = some (.slice (some ai) (r.length + 1) ci) := c1
    have hl1 : (1 : Int) ≤ (r.length : Int) + 1 := by omega
    have hl0 : (0 : Int) < (r.length : Int) + 1 := by omega
    have hlc : (r.length : Int) + 1 ≤ (ci : Int) := by omega
    have HI := hQ hinp
    clear hb c1 hi0 hinp hci hil
    go_upto_region 18 with (fail)
    have HL := hQ (HM3.out.lset hr2 ha v)
    have HMM : Hid (∀ W, MAt W B mb L ad (.slice (some ad) np cp) (.slice (if ci = 1 then some ai else some ⟨ai.block, ai.off + 1, none⟩) r.length (ci - 1)) As cs At ct { m with regs := (m.regs.set a (0, 0)).set a (v, (rg { m with regs := m.regs.set a (0, 0), inp := v :: r } a).2), inp := r } → MAt W B mb L ad (.slice (some ad) np cp) (.slice (if ci = 1 then some ai else some ⟨ai.block, ai.off + 1, none⟩) r.length (ci - 1)) As cs At ct { m with regs := m.regs.set a (v, 0), inp := r }) := hQ (fun W hm => by
     have e : (rg { m with regs := m.regs.set a ((0 : Nat), (0 : Nat)), inp := v :: r } a).2 = 0 := by
      have := rg_set (m := m) (r := a) (by omega) (0, 0)
      exact congrArg Prod.snd this
     rw [e, List.set_set] at hm
     exact hm)
    obtain ⟨A', hA'⟩ : ∃ A', A' = (if ci = 1 then some ai else some (⟨ai.block, ai.off + 1, none⟩ : Addr)) := ⟨_, rfl⟩
    rw [← hA'] at HE HMM
    have HA' := hQ hA'
    clear hA'
    go_region_law (fail)
    all_goals rw [← HA'.out]
    all_goals go_wp2
    all_goals go_end0
    all_goals
     exact ⟨rfl, HB1.out.trans (HB2.out.trans (((below_set (p := ⟨mb, a * 2, none⟩) hmb _).trans (below_set (p := ⟨mb, 16, none⟩) hmb _)).drew)), _, _, _, _, _, by rw [HI.out]; exact HMM.out _ ((HL.out.iset _ r).after (bR.drew)), by rw [HI.out]; exact HE.out.after (((below_set (p := ⟨mb, a * 2, none⟩) hmb _).trans (below_set (p := ⟨mb, 16, none⟩) hmb _)).drew)⟩
end
section
variable {B mb cs ct np cp : Nat} {L : Pl} {ad : Addr} {pv iv : Value} {As At : Option Addr} {m : Mx}
def binM (m : Mx) (a : Nat) (r : (Nat × Nat) × Bool) : Mx := if r.2 = true then { m with regs := m.regs.set a r.1 } else m.stop 2
theorem comp_apply (w : World) (op : Int) (h1 : 2 ≤ op) (h2 : op ≤ 10) (a b c : Nat) (imm : Int) (ha : a < 8) (hb : b < 8) (hc : c < 8) (hr8 : m.regs.length = 8) (hvb : W64x (rg m b)) (hvc : W64x (rg m c)) (h : MAt w B mb L ad (.slice (some ad) np cp) iv As cs At ct m) (hB : B ≤ w.heap.size) :
 Calls Tryz.prog 49 #[.pointer (some ⟨mb, 0, none⟩), .agg #[.int .i64 op, .int .i64 a, .int .i64 b, .int .i64 c, .int .u64 imm]] w (StepD w B mb L ad (.slice (some ad) np cp) iv (binM m a (apV op (rg m b).1 (rg m b).2 (rg m c).1 (rg m c).2))) := by
 obtain ⟨W1, hW1⟩ : ∃ W1, W1 = w.alloc (.cells #[.int .i64 op, .int .i64 a, .int .i64 b, .int .i64 c, .int .u64 imm] 50) := ⟨_, rfl⟩
 have hB1 : Below w.heap.size w W1 := by rw [hW1]; exact bR.alloc nL _
 have HK : Hid (Blk W1 w.heap.size 50 #[.int .i64 op, .int .i64 a, .int .i64 b, .int .i64 c, .int .u64 imm]) := hQ (by rw [hW1]; exact Blk.new _ _ _)
 have HM := hQ (h.after hB1)
 have hmb := h.hmb
 have HB1 : Hid (Below B w W1) := hQ (hB1.mono hB)
 have hB2 : B ≤ W1.heap.size := Nat.le_trans hB hB1.size
 have HW1 := hQ hW1
 have hai : (a : Int) < 8 := by omega
 have ha0 : (0 : Int) ≤ (a : Int) := by omega
 have hbi : (b : Int) < 8 := by omega
 have hb0 : (0 : Int) ≤ (b : Int) := by omega
 have hci : (c : Int) < 8 := by omega
 have hc0 : (0 : Int) ≤ (c : Int) := by omega
 have n0 : (op == 0) = false := by rw [beq_eq_false_iff_ne]; omega
 have n1 : (op == 1) = false := by rw [beq_eq_false_iff_ne]; omega
 have n11 : (op == 11) = false := by rw [beq_eq_false_iff_ne]; omega
 have n12 : (op == 12) = false := by rw [beq_eq_false_iff_ne]; omega
 have n13 : (op == 13) = false := by rw [beq_eq_false_iff_ne]; omega
 have n14 : (op == 14) = false := by rw [beq_eq_false_iff_ne]; omega
 obtain ⟨r, hr⟩ : ∃ r, r = apV op (rg m b).1 (rg m b).2 (rg m c).1 (rg m c).2 := ⟨_, rfl⟩
 have HC : Hid (∀ W, Below W1.heap.size W1 W → Calls Tryz.prog 73 #[.int .i64 op, .agg #[.int .u64 (rg m b).1, .int .u64 (rg m b).2], .agg #[.int .u64 (rg m c).1, .int .u64 (rg m c).2]] W fun e w' => e = .returned (.tuple #[.agg #[.int .u64 (r.1.1 : Int), .int .u64 (r.1.2 : Int)], .bool r.2]) ∧ Below W.heap.size W w') := hQ (fun W hW => (apply_any op _ _ _ _ hvb.1 hvb.2 hvc.1 hvc.2 W).mono fun e w' ⟨p, q⟩ => ⟨by rw [hr]; exact p, q⟩)
 rw [← hr]
 clear h hW1 hB1 hr hvb hvc
 obtain ⟨x0, x1, x2, x3, -, -⟩ := HK.out.c5
 obtain ⟨c0, c1⟩ := reg_cell HM.out.blk hb
 obtain ⟨d0, d1⟩ := reg_cell HM.out.blk hc
 have hlt := HM.out.blk.lt
 go_enter Tryz.func49, Tryz.ntmps49
 go_upto_region 1 with (fail)
 rw [← HW1.out]
 go_upto_region 3 with (fail)
 have hkx : w.heap.size < W1.heap.size := HK.out.lt
 have HKL : Hid (∀ W, Below W1.heap.size W1 W → (W.cell? ⟨w.heap.size, 0, none⟩ = some (.int .i64 op) ∧ W.cell? ⟨w.heap.size, 2, none⟩ = some (.int .i64 b) ∧ W.cell? ⟨w.heap.size, 3, none⟩ = some (.int .i64 c)) ∧ (W.cell? ⟨mb, b * 2, none⟩ = some (.int .u64 (rg m b).1) ∧ W.cell? ⟨mb, b * 2 + 1, none⟩ = some (.int .u64 (rg m b).2)) ∧ (W.cell? ⟨mb, c * 2, none⟩ = some (.int .u64 (rg m c).1) ∧ W.cell? ⟨mb, c * 2 + 1, none⟩ = some (.int .u64 (rg m c).2)) ) := hQ (fun W h => ⟨⟨(h.cell (cell_lt x0)).trans x0, (h.cell (cell_lt x2)).trans x2, (h.cell (cell_lt x3)).trans x3⟩, ⟨(h.cell (cell_lt c0)).trans c0, (h.cell (cell_lt c1)).trans c1⟩, ⟨(h.cell (cell_lt d0)).trans d0, (h.cell (cell_lt d1)).trans d1⟩⟩)
 have HD1 : Hid (Below W1.heap.size W1 W1.drew) := hQ (bR.drew)
 clear x0 x1 x2 x3 c0 c1 d0 d1
 go_cut [5, 6] (fun s5 s6 wx => ∃ q, s5 = .pointer (some ⟨q, 0, none⟩) ∧ s6 = .bool r.2 ∧ W1.heap.size ≤ q ∧ Hid (Blk wx q 38 #[.int .u64 r.1.1, .int .u64 r.1.2]) ∧ Hid (Below W1.heap.size W1 wx))
 case first =>
  have HA : Hid (∀ W o, Below W1.heap.size W1 W → Below W1.heap.size W1 (W.alloc o)) := hQ (fun W o h => h.alloc h.size o)
  have HX : Hid (∀ (W : World) (g : Nat) (u v : Value), W1.heap.size ≤ g → Below W1.heap.size W1 W → Below W1.heap.size W1 ((W.setCell ⟨g, 0, none⟩ u).setCell ⟨g, 1, none⟩ v)) := hQ (fun W g u v hg h => (h.setCell (by simpa using hg) u).setCell (by simpa using hg) v)
  go_region_held3 (fun W => (W.cell? ⟨w.heap.size, 0, none⟩ = some (.int .i64 op) ∧ W.cell? ⟨w.heap.size, 2, none⟩ = some (.int .i64 b) ∧ W.cell? ⟨w.heap.size, 3, none⟩ = some (.int .i64 c)) ∧ (W.cell? ⟨mb, b * 2, none⟩ = some (.int .u64 (rg m b).1) ∧ W.cell? ⟨mb, b * 2 + 1, none⟩ = some (.int .u64 (rg m b).2)) ∧ (W.cell? ⟨mb, c * 2, none⟩ = some (.int .u64 (rg m c).1) ∧ W.cell? ⟨mb, c * 2 + 1, none⟩ = some (.int .u64 (rg m c).2)))
   (with_reducible first | assumption | exact HKL.out _ HD1.out | exact HKL.out _ (HA.out _ _ HD1.out) | exact HKL.out _ (Hid.out (by assumption)) | exact HKL.out _ (HA.out _ _ (Hid.out (by assumption))) | exact HKL.out _ (HA.out _ _ bR).drew | exact HKL.out _ (HX.out _ _ _ _ nL (Hid.out (by assumption))) | exact HKL.out _ (HX.out _ _ _ _ (Hid.out HB2).size (HA.out _ _ (Hid.out HB2))))
   (first
    | (go_at_call 73; refine (HC.out _ HD1.out).mono ?_; rintro e w2 ⟨rfl, b2⟩; have HB2 : Hid (Below W1.heap.size W1 w2) := hQ (HD1.out.trans (b2.mono HD1.out.size)); clear b2)
    | (go_at_call 73; refine (HC.out _ (HA.out _ _ HD1.out)).mono ?_; rintro e w2 ⟨rfl, b2⟩; have HB2 : Hid (Below W1.heap.size W1 w2) := hQ ((HA.out _ _ HD1.out).trans (b2.mono (HA.out _ _ HD1.out).size)); have HKB : Hid (Blk w2 W1.heap.size 38 #[.int .u64 0, .int .u64 0]) := hQ ((Blk.new W1.drew _ _).after b2); obtain ⟨y0, y1, g0, g1, yz⟩ := HKB.out.c2; clear b2))
  all_goals go_wp2_with fail
  all_goals go_meet
  all_goals first
   | exact ⟨_, rfl, rfl, HB2.out.size, hQ ((Blk.new w2 _ _).drew), hQ (HA.out _ _ HB2.out).drew⟩
   | exact ⟨_, rfl, rfl, HB2.out.size, hQ (Blk.new w2 _ _), hQ (HA.out _ _ HB2.out)⟩
   | exact ⟨_, rfl, rfl, Nat.le_refl _, hQ ((HKB.out.set_ 0 _).set_ 1 _), hQ (HX.out _ _ _ _ nL HB2.out)⟩
 case rest =>
  obtain ⟨q, rfl, rfl, hq, HQ, HB2⟩ := hcut
  obtain ⟨W2, hW2⟩ : ∃ W2, W2 = wc := ⟨_, rfl⟩
  subst hW2
  have HK2 := hQ (HK.out.after HB2.out)
  have HM2 := hQ (HM.out.after HB2.out)
  clear HKL HD1 HC hkx hlt
  obtain ⟨-, x1, -, -, -, -⟩ := HK2.out.c5
  obtain ⟨v0, v1, -, -, hqlt⟩ := HQ.out.c2
  obtain ⟨c0, c1⟩ := reg_cell HM2.out.blk ha
  have f0 := HM2.out.blk.frozen (a * 2)
  have f1 := HM2.out.blk.frozen (a * 2 + 1)
  have hlt := HM2.out.blk.lt
  have hs2 : W1.heap.size ≤ W2.heap.size := HB2.out.size
  have HB2' : Hid (Below B W1 W2) := hQ (HB2.out.mono hB2)
  rcases hr2 : r.2 with _ | _
  · skip
    go_wp2_with fail
    refine (stop_any _ 2 HM2.out).mono ?_
    rintro e w3 ⟨rfl, m3, b3⟩
    have HM3 := hQ m3
    have HB3 := hQ (HB1.out.trans (HB2'.out.trans b3))
    clear m3 b3
    go_wp2
    go_end0
    have he : binM m a r = m.stop 2 := by unfold binM; rw [hr2, if_neg (by decide)]
    rw [he]
    exact ⟨rfl, HB3.out, _, _, _, _, HM3.out⟩
  · skip
    go_upto_region 6 with (fail)
    go_region_with (fail)
    all_goals go_wp2
    all_goals go_end0
    all_goals have hm := (HM2.out.rset hr8 ha r.1).after (bR.drew)
    all_goals have he : binM m a r = { m with regs := m.regs.set a r.1 } := by unfold binM; rw [hr2, if_pos rfl]
    all_goals rw [he]
    all_goals exact ⟨rfl, HB1.out.trans (HB2'.out.trans (((below_set (p := ⟨mb, a * 2, none⟩) hmb _).trans (below_set (p := ⟨mb, a * 2 + 1, none⟩) hmb _)).drew)), _, _, _, _, hm⟩
end
section
variable {B mb cs ct np cp : Nat} {L : Pl} {ad : Addr} {pv iv : Value} {As At : Option Addr} {m : Mx}
theorem comp_any (w : World) (x : Ins) (nf : Nat) (prm sz : Int) (nc : Nat) (gx : GX nf prm sz nc x) (hop : x.op ≤ 14) (hi : 0 ≤ x.imm) (hr8 : m.regs.length = 8) (hrg : ∀ r, W64x (rg m r)) (htr : m.trace.length ≤ 1000000) (h : MAt w B mb L ad (.slice (some ad) np cp) iv As cs At ct m) (hin : InX w B iv m.inp) (hB : B ≤ w.heap.size) :
 Calls Tryz.prog 49 #[.pointer (some ⟨mb, 0, none⟩), .agg #[.int .i64 x.op, .int .i64 x.a, .int .i64 x.b, .int .i64 x.c, .int .u64 x.imm]] w (StepI w B mb L ad (.slice (some ad) np cp) (m.plain x)) := by
 obtain ⟨op, xa, xb, xc, xi⟩ := x
 have h0 := gx.op.1
 dsimp only at hop hi h0
 have hca := gx.ra (.inl (by dsimp only; omega))
 dsimp only at hca
 obtain ⟨a, rfl⟩ := Int.eq_ofNat_of_zero_le hca.1
 have ha : a < 8 := by have := hca.2; omega
 by_cases e0 : op = 0
 · subst e0
   obtain ⟨i, rfl⟩ := Int.eq_ofNat_of_zero_le hi
   refine (const_any w a xb xc i ha hr8 h hB).mono fun e w' hd => ?_
   exact StepI.of hd hin
 by_cases e13 : op = 13
 · subst e13
   exact comp_in w a xb xc xi ha hr8 h hin hB
 by_cases e14 : op = 14
 · subst e14
   exact (comp_out w a xb xc xi ha htr h hB).mono fun e w' hd => StepI.of hd hin
 have hcb := gx.rb (by dsimp only; omega)
 dsimp only at hcb
 obtain ⟨b, rfl⟩ := Int.eq_ofNat_of_zero_le hcb.1
 have hb : b < 8 := by have := hcb.2; omega
 by_cases e1 : op = 1
 · subst e1
   exact (comp_copy w a b xc xi ha hb hr8 h hB).mono fun e w' hd => StepI.of hd hin
 by_cases e12 : op = 12
 · subst e12
   exact (comp_high w a b xc xi ha hb hr8 h hB).mono fun e w' hd => StepI.of hd hin
 have hcc := gx.rc (by dsimp only; omega)
 dsimp only at hcc
 obtain ⟨c, rfl⟩ := Int.eq_ofNat_of_zero_le hcc.1
 have hc : c < 8 := by have := hcc.2; omega
 by_cases e11 : op = 11
 · subst e11
   exact (comp_pair w a b c xi ha hb hc hr8 h hB).mono fun e w' hd => StepI.of hd hin
 have hE : m.plain ⟨op, (a : Int), (b : Int), (c : Int), xi⟩ = binM m a (apV op (rg m b).1 (rg m b).2 (rg m c).1 (rg m c).2) := by
  unfold Mx.plain binM
  dsimp only
  rw [if_neg e0, if_neg e1, if_neg e11, if_neg e12, if_neg e13, if_neg e14]
  rfl
 rw [hE]
 refine (comp_apply w op (by omega) (by omega) a b c xi ha hb hc hr8 (hrg b) (hrg c) h hB).mono fun e w' hd => StepI.of hd ?_
 unfold binM
 split
 · exact hin
 · exact hin
end
end Go.Proofs.YtcnndoefgjbmiaaGreat.pm
