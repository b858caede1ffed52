/- compute: the binary operations. -/
import Derived.Test.YtdijeijbcoeopaaDoorGMt
import Derived.Test.YtdijeijbcoeopaaDoorNb
import Derived.Test.YtdijeijbcoeopaaDoorMcq
import Derived.Test.YtdijeijbcoeopaaDoorGSc
set_option linter.unusedVariables false
set_option maxRecDepth 10000
set_option maxHeartbeats 8000000
namespace Go.Proofs.YtdijeijbcoeopaaDoor.pm
open Go.RowKit
section
variable {B n mb cs ct np cp : Nat} {ad : Addr} {iv : Value} {As At : Option Addr} {bl : List Nat} {m : Mx}
def binM (m : Mx) (a : Nat) (r : (Nat × Nat) × Bool) : Mx := if r.2 = true then { m with regs := m.regs.set a r.1 } else m.stop 2
theorem comp_apply (w : World) (op : Int) (h1 : 2 ≤ op) (h2 : op ≤ 10) (a b c : Nat) (imm : Int) (ha : a < 8) (hb : b < 8) (hc : c < 8) (hr8 : m.regs.length = 8) (hvb : W64x (rg m b)) (hvc : W64x (rg m c)) (h : MAt w B n mb ad (.slice (some ad) np cp) iv As cs At ct bl m) (hB : B ≤ w.heap.size) :
 Calls Tryd.prog 44 #[.pointer (some ⟨mb, 0, none⟩), .agg #[.int .i64 op, .int .i64 a, .int .i64 b, .int .i64 c, .int .u64 imm]] w (StepD w B n mb ad (.slice (some ad) np cp) iv (binM m a (apV op (rg m b).1 (rg m b).2 (rg m c).1 (rg m c).2))) := by
 obtain ⟨W1, hW1⟩ : ∃ W1, W1 = w.alloc (.cells #[.int .i64 op, .int .i64 a, .int .i64 b, .int .i64 c, .int .u64 imm] 50) := ⟨_, rfl⟩
 have hB1 : Below w.heap.size w W1 := by rw [hW1]; exact bR.alloc nL _
 have HK : Hid (Blk W1 w.heap.size 50 #[.int .i64 op, .int .i64 a, .int .i64 b, .int .i64 c, .int .u64 imm]) := hQ (by rw [hW1]; exact Blk.new _ _ _)
 have HM := hQ (h.after hB1)
 have hmb := h.hmb
 have HB1 : Hid (Below B w W1) := hQ (hB1.mono hB)
 have hB2 : B ≤ W1.heap.size := Nat.le_trans hB hB1.size
 have HW1 := hQ hW1
 have hai : (a : Int) < 8 := by omega
 have ha0 : (0 : Int) ≤ (a : Int) := by omega
 have hbi : (b : Int) < 8 := by omega
 have hb0 : (0 : Int) ≤ (b : Int) := by omega
 have hci : (c : Int) < 8 := by omega
 have hc0 : (0 : Int) ≤ (c : Int) := by omega
 have n0 : (op == 0) = false := by rw [beq_eq_false_iff_ne]; omega
 have n1 : (op == 1) = false := by rw [beq_eq_false_iff_ne]; omega
 have n11 : (op == 11) = false := by rw [beq_eq_false_iff_ne]; omega
 have n12 : (op == 12) = false := by rw [beq_eq_false_iff_ne]; omega
 have n13 : (op == 13) = false := by rw [beq_eq_false_iff_ne]; omega
 have n14 : (op == 14) = false := by rw [beq_eq_false_iff_ne]; omega
 obtain ⟨r, hr⟩ : ∃ r, r = apV op (rg m b).1 (rg m b).2 (rg m c).1 (rg m c).2 := ⟨_, rfl⟩
 have HC : Hid (∀ W, Below W1.heap.size W1 W → Calls Tryd.prog 57 #[.int .i64 op, .agg #[.int .u64 (rg m b).1, .int .u64 (rg m b).2], .agg #[.int .u64 (rg m c).1, .int .u64 (rg m c).2]] W fun e w' => e = .returned (.tuple #[.agg #[.int .u64 (r.1.1 : Int), .int .u64 (r.1.2 : Int)], .bool r.2]) ∧ Below W.heap.size W w') := hQ (fun W hW => (apply_any op _ _ _ _ hvb.1 hvb.2 hvc.1 hvc.2 W).mono fun e w' ⟨p, q⟩ => ⟨by rw [hr]; exact p, q⟩)
 rw [← hr]
 clear h hW1 hB1 hr hvb hvc
 obtain ⟨x0, x1, x2, x3, -, -⟩ := HK.out.c5
 obtain ⟨c0, c1⟩ := reg_cell HM.out.blk hb
 obtain ⟨d0, d1⟩ := reg_cell HM.out.blk hc
 have hlt := HM.out.blk.lt
 go_enter Tryd.func44, Tryd.ntmps44
 go_upto_region 1 with (fail)
 rw [← HW1.out]
 go_upto_region 3 with (fail)
 have hkx : w.heap.size < W1.heap.size := HK.out.lt
 have HKL : Hid (∀ W, Below W1.heap.size W1 W → (W.cell? ⟨w.heap.size, 0, none⟩ = some (.int .i64 op) ∧ W.cell? ⟨w.heap.size, 2, none⟩ = some (.int .i64 b) ∧ W.cell? ⟨w.heap.size, 3, none⟩ = some (.int .i64 c)) ∧ (W.cell? ⟨mb, 2 + b * 2, none⟩ = some (.int .u64 (rg m b).1) ∧ W.cell? ⟨mb, 2 + b * 2 + 1, none⟩ = some (.int .u64 (rg m b).2)) ∧ (W.cell? ⟨mb, 2 + c * 2, none⟩ = some (.int .u64 (rg m c).1) ∧ W.cell? ⟨mb, 2 + c * 2 + 1, none⟩ = some (.int .u64 (rg m c).2)) ) := hQ (fun W h => ⟨⟨(h.cell (cell_lt x0)).trans x0, (h.cell (cell_lt x2)).trans x2, (h.cell (cell_lt x3)).trans x3⟩, ⟨(h.cell (cell_lt c0)).trans c0, (h.cell (cell_lt c1)).trans c1⟩, ⟨(h.cell (cell_lt d0)).trans d0, (h.cell (cell_lt d1)).trans d1⟩⟩)
 have HD1 : Hid (Below W1.heap.size W1 W1.drew) := hQ (bR.drew)
 clear x0 x1 x2 x3 c0 c1 d0 d1
 go_cut [5, 6] (fun s5 s6 wx => ∃ q, s5 = .pointer (some ⟨q, 0, none⟩) ∧ s6 = .bool r.2 ∧ W1.heap.size ≤ q ∧ Hid (Blk wx q 37 #[.int .u64 r.1.1, .int .u64 r.1.2]) ∧ Hid (Below W1.heap.size W1 wx))
 case first =>
  have HA : Hid (∀ W o, Below W1.heap.size W1 W → Below W1.heap.size W1 (W.alloc o)) := hQ (fun W o h => h.alloc h.size o)
  have HX : Hid (∀ (W : World) (g : Nat) (u v : Value), W1.heap.size ≤ g → Below W1.heap.size W1 W → Below W1.heap.size W1 ((W.setCell ⟨g, 0, none⟩ u).setCell ⟨g, 1, none⟩ v)) := hQ (fun W g u v hg h => (h.setCell (by simpa using hg) u).setCell (by simpa using hg) v)
  go_region_held3 (fun W => (W.cell? ⟨w.heap.size, 0, none⟩ = some (.int .i64 op) ∧ W.cell? ⟨w.heap.size, 2, none⟩ = some (.int .i64 b) ∧ W.cell? ⟨w.heap.size, 3, none⟩ = some (.int .i64 c)) ∧ (W.cell? ⟨mb, 2 + b * 2, none⟩ = some (.int .u64 (rg m b).1) ∧ W.cell? ⟨mb, 2 + b * 2 + 1, none⟩ = some (.int .u64 (rg m b).2)) ∧ (W.cell? ⟨mb, 2 + c * 2, none⟩ = some (.int .u64 (rg m c).1) ∧ W.cell? ⟨mb, 2 + c * 2 + 1, none⟩ = some (.int .u64 (rg m c).2)))
   (with_reducible first | assumption | exact HKL.out _ HD1.out | exact HKL.out _ (HA.out _ _ HD1.out) | exact HKL.out _ (Hid.out (by assumption)) | exact HKL.out _ (HA.out _ _ (Hid.out (by assumption))) | exact HKL.out _ (HA.out _ _ bR).drew | exact HKL.out _ (HX.out _ _ _ _ nL (Hid.out (by assumption))) | exact HKL.out _ (HX.out _ _ _ _ (Hid.out HB2).size (HA.out _ _ (Hid.out HB2))))
   (first
    | (go_at_call 57; refine (HC.out _ HD1.out).mono ?_; rintro e w2 ⟨rfl, b2⟩; have HB2 : Hid (Below W1.heap.size W1 w2) := hQ (HD1.out.trans (b2.mono HD1.out.size)); clear b2)
    | (go_at_call 57; refine (HC.out _ (HA.out _ _ HD1.out)).mono ?_; rintro e w2 ⟨rfl, b2⟩; have HB2 : Hid (Below W1.heap.size W1 w2) := hQ ((HA.out _ _ HD1.out).trans (b2.mono (HA.out _ _ HD1.out).size)); have HKB : Hid (Blk w2 W1.heap.size 37 #[.int .u64 0, .int .u64 0]) := hQ ((Blk.new W1.drew _ _).after b2); obtain ⟨y0, y1, g0, g1, yz⟩ := HKB.out.c2; clear b2))
  all_goals go_wp2_with fail
  all_goals go_meet
  all_goals first
   | exact ⟨_, rfl, rfl, HB2.out.size, hQ ((Blk.new w2 _ _).drew), hQ (HA.out _ _ HB2.out).drew⟩
   | exact ⟨_, rfl, rfl, HB2.out.size, hQ (Blk.new w2 _ _), hQ (HA.out _ _ HB2.out)⟩
   | exact ⟨_, rfl, rfl, Nat.le_refl _, hQ ((HKB.out.set_ 0 _).set_ 1 _), hQ (HX.out _ _ _ _ nL HB2.out)⟩
 case rest =>
  obtain ⟨q, rfl, rfl, hq, HQ, HB2⟩ := hcut
  obtain ⟨W2, hW2⟩ : ∃ W2, W2 = wc := ⟨_, rfl⟩
  subst hW2
  have HK2 := hQ (HK.out.after HB2.out)
  have HM2 := hQ (HM.out.after HB2.out)
  clear HKL HD1 HC hkx hlt
  obtain ⟨-, x1, -, -, -, -⟩ := HK2.out.c5
  obtain ⟨v0, v1, -, -, hqlt⟩ := HQ.out.c2
  obtain ⟨c0, c1⟩ := reg_cell HM2.out.blk ha
  have f0 := HM2.out.blk.frozen (2 + a * 2)
  have f1 := HM2.out.blk.frozen (2 + a * 2 + 1)
  have hlt := HM2.out.blk.lt
  have hs2 : W1.heap.size ≤ W2.heap.size := HB2.out.size
  have HB2' : Hid (Below B W1 W2) := hQ (HB2.out.mono hB2)
  rcases hr2 : r.2 with _ | _
  · skip
    go_wp2_with fail
    refine (stop_any _ 2 HM2.out).mono ?_
    rintro e w3 ⟨rfl, m3, b3⟩
    have HM3 := hQ m3
    have HB3 := hQ (HB1.out.trans (HB2'.out.trans b3))
    clear m3 b3
    go_wp2
    go_end0
    have he : binM m a r = m.stop 2 := by unfold binM; rw [hr2, if_neg (by decide)]
    rw [he]
    exact ⟨rfl, HB3.out, _, _, _, _, _, HM3.out.mono (Nat.le_succ _)⟩
  · skip
    go_upto_region 6 with (fail)
    go_region_with (fail)
    all_goals go_wp2
    all_goals go_end0
    all_goals have hm := (HM2.out.rset hr8 ha r.1).after (bR.drew)
    all_goals have he : binM m a r = { m with regs := m.regs.set a r.1 } := by unfold binM; rw [hr2, if_pos rfl]
    all_goals rw [he]
    all_goals exact ⟨rfl, HB1.out.trans (HB2'.out.trans (((below_set (p := ⟨mb, 2 + a * 2, none⟩) hmb _).trans (below_set (p := ⟨mb, 2 + a * 2 + 1, none⟩) hmb _)).drew)), _, _, _, _, _, hm.mono (Nat.le_succ _)⟩
end
section
variable {B n mb cs ct np cp : Nat} {ad : Addr} {iv : Value} {As At : Option Addr} {bl : List Nat} {m : Mx}
theorem comp_any (w : World) (op a b c imm : Int) (hok : PlOk m ⟨op, a, b, c, imm⟩) (hr8 : m.regs.length = 8) (h : MAt w B n mb ad (.slice (some ad) np cp) iv As cs At ct bl m) (hin : InX w B iv m.inp) (hB : B ≤ w.heap.size) :
 Calls Tryd.prog 44 #[.pointer (some ⟨mb, 0, none⟩), .agg #[.int .i64 op, .int .i64 a, .int .i64 b, .int .i64 c, .int .u64 imm]] w (StepI w B n mb ad (.slice (some ad) np cp) (m.plain ⟨op, a, b, c, imm⟩)) := by
 obtain ⟨⟨o1, o2⟩, ⟨ha0, ha1⟩, ⟨hb0, hb1⟩, ⟨hc0, hc1⟩, ht, hv⟩ := hok
 dsimp only at o1 o2 ha0 ha1 hb0 hb1 hc0 hc1
 obtain ⟨a, rfl⟩ := Int.eq_ofNat_of_zero_le ha0
 obtain ⟨b, rfl⟩ := Int.eq_ofNat_of_zero_le hb0
 obtain ⟨c, rfl⟩ := Int.eq_ofNat_of_zero_le hc0
 have ha : a < 8 := by omega
 have hb : b < 8 := by omega
 have hc : c < 8 := by omega
 have e : op = 1 ∨ op = 11 ∨ op = 12 ∨ op = 13 ∨ op = 14 ∨ (2 ≤ op ∧ op ≤ 10) := by omega
 rcases e with rfl | rfl | rfl | rfl | rfl | ⟨p1, p2⟩
 · exact (comp_copy w a b c imm ha hb hr8 h hB).mono fun e w' k => StepI.of k hin
 · exact (comp_pair w a b c imm ha hb hc hr8 h hB).mono fun e w' k => StepI.of k hin
 · exact (comp_high w a b c imm ha hb hr8 h hB).mono fun e w' k => StepI.of k hin
 · exact comp_in w a b c imm ha hr8 h hin hB
 · exact (comp_out w a b c imm ha ht h hB).mono fun e w' k => StepI.of k hin
 · have hp : m.plain ⟨op, a, b, c, imm⟩ = binM m a (apV op (rg m b).1 (rg m b).2 (rg m c).1 (rg m c).2) := by
    unfold Mx.plain binM
    rw [if_neg (by dsimp only; omega), if_neg (by dsimp only; omega), if_neg (by dsimp only; omega), if_neg (by dsimp only; omega), if_neg (by dsimp only; omega)]
    rfl
   rw [hp]
   exact (comp_apply w op p1 p2 a b c imm ha hb hc hr8 (hv b) (hv c) h hB).mono fun e w' k => StepI.of k (by
    unfold binM
    split <;> exact hin)
end
section
variable {B n mb cs ct np cp : Nat} {ad : Addr} {iv : Value} {As At : Option Addr} {bl : List Nat} {m : Mx} {p : List Fn}
theorem step_e (w : World) (h : Pre w B n mb ad p cp iv As cs At ct bl m) (hin : InX w B iv m.inp) (hop : PlOk m (m.ins p)) :
 Calls Tryd.prog 32 #[.pointer (some ⟨mb, 0, none⟩)] w (StepI w B n mb ad (.slice (some ad) p.length cp) (stepX p m)) := by
 obtain ⟨g, t, rfl, ht, hgB, htop, -⟩ := h.top_cells
 obtain ⟨-, -, c18, -, -, -, -, hlt⟩ := h.at_.cells
 have hbig := h.big
 rw [ht] at c18
 have hti : (t : Int) < (t : Int) + 1 := by omega
 have ht0 : (0 : Int) ≤ (t : Int) := by omega
 have htb : (t : Int) ≤ 1000000 := by omega
 have H0 := hQ h
 have HIN := hQ hin
 clear hin
 have HT := hQ ht
 have hmb := h.at_.hmb
 clear h ht
 go_enter Tryd.func32, Tryd.ntmps32
 go_upto_region 0 with (fail)
 go_quiet (fail)
 go_upto_region 1 with (fail)
 have HB1 : Hid (Below w.heap.size w (w.drewN nq)) := hQ (below_drewN bR _)
 obtain ⟨W1, hW1⟩ : ∃ W1, W1 = w.drewN nq := ⟨_, rfl⟩
 rw [← hW1] at HB1 ⊢
 clear hW1 c18 hlt
 have H := hQ (H0.out.after HB1.out)
 have h := H.out
 obtain ⟨g', t', e1, e2, -, -, a0, a1, a2, a3, hfz⟩ := h.top_cells
 obtain rfl : g = g' := by injection e1 with e1; injection e1
 obtain rfl : t = t' := by have := HT.out; omega
 obtain ⟨lf, lc, -, -⟩ := h.wf.live _ htop
 obtain ⟨ad', As', cs', Ai, ci, hadd, hbl, -, -, y2, -, -, -, nx, -, m1, m2⟩ := h.fx.whole lf
 obtain rfl : ad = ad' := by injection hadd
 obtain ⟨ai, rfl, hbi, x0, x1, x2, x3, x4⟩ := nx.whole lc
 obtain ⟨-, -, c18, -, -, c25, -, hlt⟩ := h.at_.cells
 have f25 := h.at_.blk.frozen 25
 have hpc := h.pc _ htop
 have hst := h.st
 have hB := h.hB
 have hp := h.hp
 have f1 := hfz (t * 4 + 1)
 rw [e2] at c18
 obtain ⟨fc, hfc⟩ : ∃ fc, fc = (p.getD m.top.f Fn.z).code := ⟨_, rfl⟩
 obtain ⟨x, hx⟩ : ∃ x, x = fc.getD m.top.pc Ins.z := ⟨_, rfl⟩
 rw [← hfc] at y2 lc x0 x1 x2 x3 x4 m1 m2
 rw [← hx] at x0 x1 x2 x3 x4
 have hxe : m.ins p = x := by rw [hx, hfc]; rfl
 have hop' : PlOk m x := by rw [← hxe]; exact hop
 have HXE := hQ hxe
 obtain ⟨pc, hpce⟩ : ∃ pc, pc = m.top.pc := ⟨_, rfl⟩
 obtain ⟨tf, htf⟩ : ∃ tf, tf = m.top.f := ⟨_, rfl⟩
 rw [← hpce] at a1 lc x0 x1 x2 x3 x4 hpc
 rw [← htf] at a0 lf y2
 have hpi : (pc : Int) < (fc.length : Int) := by omega
 have hp0 : (0 : Int) ≤ (pc : Int) := by omega
 have hpc' : (pc : Int) ≤ 1000000 := by omega
 have hst' : (m.steps : Int) ≤ 1000000 := by omega
 have HX := hQ hx
 have HFC := hQ hfc
 have HPC := hQ hpce
 have HTF := hQ htf
 clear h hx hfc hpce htf hfz hadd nx hop e1 e2 hxe
 go_cut [3] (fun s3 wx => s3 = .pointer (some ⟨W1.heap.size, 0, none⟩) ∧ Hid (Blk wx W1.heap.size 50 #[.int .i64 x.op, .int .i64 x.a, .int .i64 x.b, .int .i64 x.c, .int .u64 x.imm]) ∧ Hid (Below W1.heap.size W1 wx))
 case first =>
  go_region_held3 (fun W => (W.cell? ⟨g, t * 4, none⟩ = some (.pointer (some (ad.add (tf * 3)))) ∧ W.cell? ⟨g, t * 4 + 1, none⟩ = some (.int .i64 pc)) ∧ W.cell? ⟨(ad.add (tf * 3)).block, (ad.add (tf * 3)).off + 2, none⟩ = some (.slice (some ai) fc.length ci) ∧ (W.cell? (ai.add (pc * 5)) = some (.int .i64 x.op) ∧ W.cell? ⟨(ai.add (pc * 5)).block, (ai.add (pc * 5)).off + 1, none⟩ = some (.int .i64 x.a) ∧ W.cell? ⟨(ai.add (pc * 5)).block, (ai.add (pc * 5)).off + 2, none⟩ = some (.int .i64 x.b) ∧ W.cell? ⟨(ai.add (pc * 5)).block, (ai.add (pc * 5)).off + 3, none⟩ = some (.int .i64 x.c) ∧ W.cell? ⟨(ai.add (pc * 5)).block, (ai.add (pc * 5)).off + 4, none⟩ = some (.int .u64 x.imm))) (first | exact ⟨⟨a0, a1⟩, y2, x0, x1, x2, x3, x4⟩ | go_keep) (fail)
  all_goals go_wp2_with fail
  all_goals go_meet
  all_goals exact ⟨rfl, hQ ((Blk.new _ _ _).drew), hQ ((bR.alloc nL _).drew)⟩
 case rest =>
  obtain ⟨rfl, HK3, HB3⟩ := hcut
  obtain ⟨W2, hW2⟩ : ∃ W2, W2 = wc := ⟨_, rfl⟩
  subst hW2
  have HM2 := hQ (H.out.at_.after HB3.out)
  have HB2 : Hid (Below B w W2) := hQ ((HB1.out.mono (by have := H0.out.hB; omega)).trans (HB3.out.mono hB))
  clear a0 a1 a2 a3 y2 x0 x1 x2 x3 x4 c18 c25 f25 f1 hlt
  obtain ⟨g3, hg3⟩ : ∃ g3, g3 = W1.heap.size := ⟨_, rfl⟩
  rw [← hg3] at HK3 ⊢
  have hg3B : B ≤ g3 := by omega
  clear hg3
  have z1 : W2.cell? ⟨g, t * 4 + 1, none⟩ = some (.int .i64 pc) := by
   have h := H.out.after HB3.out
   obtain ⟨g', t', e1, e2, -, -, -, a1, -⟩ := h.top_cells
   obtain rfl : g = g' := by injection e1 with e1; injection e1
   obtain rfl : t = t' := by have := HT.out; omega
   rw [HPC.out]; exact a1
  have zf : W2.frozen? ⟨g, t * 4 + 1, none⟩ = false := HM2.out.own.frozenAt _
  go_upto_region 3 with (fail)
  obtain ⟨W3, hW3⟩ : ∃ W3, W3 = W2.setCell ⟨g, t * 4 + 1, none⟩ (.int .i64 ((pc : Int) + 1)) := ⟨_, rfl⟩
  rw [← hW3]
  have HM3 : Hid (MAt W3 B n mb ad (.slice (some ad) p.length cp) iv (some ⟨g, 0, none⟩) cs At ct bl (m.setTop { m.top with pc := m.top.pc + 1 })) := hQ (by
   rw [hW3, HPC.out]
   exact HM2.out.aset HT.out (by omega) _ _ (by simp [acV]))
  have HB23 : Hid (Below B W2 W3) := hQ (by rw [hW3]; exact below_set (p := ⟨g, t * 4 + 1, none⟩) hgB _)
  have HK33 : Hid (Blk W3 g3 50 #[.int .i64 x.op, .int .i64 x.a, .int .i64 x.b, .int .i64 x.c, .int .u64 x.imm]) := hQ (by rw [hW3]; exact HK3.out.far (p := ⟨g, t * 4 + 1, none⟩) (fun e => blk_own_ne (gb := 0) HK3.out HM2.out.own (by decide) (by rw [e]; rfl)) _)
  clear hW3 z1 zf
  obtain ⟨-, -, -, -, -, c25, -, hlt⟩ := HM3.out.cells
  have c25' : W3.cell? ⟨mb, 25, none⟩ = some (.int .i64 m.steps) := c25
  have f25 := HM3.out.blk.frozen 25
  clear c25
  go_upto_region 4 with (fail)
  obtain ⟨W4, hW4⟩ : ∃ W4, W4 = W3.setCell ⟨mb, 25, none⟩ (.int .i64 ((m.steps : Int) + 1)) := ⟨_, rfl⟩
  rw [← hW4]
  have HM4 : Hid (MAt W4 B n mb ad (.slice (some ad) p.length cp) iv (some ⟨g, 0, none⟩) cs At ct bl m.next) := hQ (by
   rw [hW4]
   exact HM3.out.mset 25 _ m.next rfl rfl rfl rfl)
  have HB4 : Hid (Below B w W4) := hQ (by rw [hW4]; exact (HB2.out.trans HB23.out).trans (below_set (p := ⟨mb, 25, none⟩) hmb _))
  have HK4 : Hid (Blk W4 g3 50 #[.int .i64 x.op, .int .i64 x.a, .int .i64 x.b, .int .i64 x.c, .int .u64 x.imm]) := hQ (by rw [hW4]; exact HK33.out.far (p := ⟨mb, 25, none⟩) (Blk.ne_ HK33.out HM3.out.blk (by decide)) _)
  have HBs : Hid (B ≤ W4.heap.size) := hQ (Nat.le_trans H0.out.hB HB4.out.size)
  have HL : Hid (m.next.acts.length = t + 1) := hQ (by simp [Mx.next, Mx.setTop]; exact HT.out)
  have HR8 : Hid (m.next.regs.length = 8) := hQ H0.out.wf.regs
  clear hW4 c25' f25 hlt HM2 HM3 HK3 HK33 HB23 HB2
  obtain ⟨o0, o1, o2, o3, o4, -⟩ := HK4.out.c5
  have HOPS := hQ hop'
  clear hop'
  have HTOP := hQ (next_top (m := m) H0.out.wf.some_)
  have HLIV := hQ (next_live H0.out.wf)
  have ho1 := HOPS.out.1.1
  have ho2 := HOPS.out.1.2
  have n15 : (x.op == 15) = false := by rw [beq_eq_false_iff_ne]; omega
  have n16 : (x.op == 16) = false := by rw [beq_eq_false_iff_ne]; omega
  have n17 : (x.op == 17) = false := by rw [beq_eq_false_iff_ne]; omega
  have n18 : (x.op == 18) = false := by rw [beq_eq_false_iff_ne]; omega
  have n19 : (x.op == 19) = false := by rw [beq_eq_false_iff_ne]; omega
  have n20 : (x.op == 20) = false := by rw [beq_eq_false_iff_ne]; omega
  have n21 : (x.op == 21) = false := by rw [beq_eq_false_iff_ne]; omega
  have n22 : (x.op == 22) = false := by rw [beq_eq_false_iff_ne]; omega
  have n23 : (x.op == 23) = false := by rw [beq_eq_false_iff_ne]; omega
  have n24 : (x.op == 24) = false := by rw [beq_eq_false_iff_ne]; omega
  have HE : Hid (stepX p m = m.next.plain x) := hQ (by unfold stepX; rw [HXE.out, if_pos ⟨ho1, ho2⟩])
  have HPL : Hid (PlOk m.next ⟨x.op, x.a, x.b, x.c, x.imm⟩) := HOPS
  clear ho1 ho2
  go_wp2_with fail
  refine (comp_any _ _ _ _ _ _ HPL.out HR8.out HM4.out (HIN.out.after HB4.out) HBs.out).mono ?_
  rintro e w5 ⟨rfl, b5, iv', As', cs', At', ct', bl', m5, i5⟩
  have HM5 := hQ m5
  have HI5 := hQ i5
  have HB5 := hQ (HB4.out.trans b5)
  clear m5 b5 i5
  go_wp2
  go_end0
  rw [HE.out]
  exact ⟨rfl, HB5.out, _, _, _, _, _, _, HM5.out, HI5.out⟩
theorem inp_take (m : Mx) (r : Nat) (o : Option (Nat × Nat)) : (m.take r o).inp = m.inp := by
 unfold Mx.take; split <;> rfl
theorem inp_defS (m : Mx) (k : Int) (v : Nat × Nat) : (m.defS k v).inp = m.inp := by
 unfold Mx.defS; split <;> rfl
theorem inp_defA (m : Mx) (k : Int) (v : Nat × Nat) : (m.defA k v).inp = m.inp := by
 unfold Mx.defA; split <;> rfl
theorem inp_moveIn (m : Mx) (a : Int) (r : Option (Nat × Nat)) : (m.moveIn a r).inp = m.inp := by
 unfold Mx.moveIn; split
 · exact inp_defS _ _ _
 · rfl
theorem inp_call (m : Mx) (f : Nat) : (m.call f).inp = m.inp := rfl
theorem inp_stop (m : Mx) (k : Int) : (m.stop k).inp = m.inp := rfl
theorem inp_setTop (m : Mx) (a : Ac) : (m.setTop a).inp = m.inp := rfl
theorem inp_stepM (p : List Fn) (m : Mx) : (stepM p m).inp = m.inp := by
 have hn : m.next.inp = m.inp := rfl
 unfold stepM
 simp only [apply_ite Mx.inp, inp_take, inp_defS, inp_defA, inp_moveIn, inp_call, inp_stop, inp_setTop, hn, ite_self]
def OkX (p : List Fn) (m : Mx) (x : Ins) : Prop := ((1 ≤ x.op ∧ x.op ≤ 14) ∧ PlOk m x) ∨ (¬ (1 ≤ x.op ∧ x.op ≤ 14) ∧ OpOk p m x)
theorem step_x (w : World) (h : Pre w B n mb ad p cp iv As cs At ct bl m) (hin : InX w B iv m.inp) (hop : OkX p m (m.ins p)) :
 Calls Tryd.prog 32 #[.pointer (some ⟨mb, 0, none⟩)] w (StepI w B n mb ad (.slice (some ad) p.length cp) (stepX p m)) := by
 rcases hop with ⟨-, h2⟩ | ⟨h1, h2⟩
 · exact step_e w h hin h2
 · have e : stepX p m = stepM p m := if_neg h1
   rw [e]
   exact (step_any w h h2).mono fun e w' k => StepI.of k (by rw [inp_stepM]; exact hin)
end
def runX (p : List Fn) (F : Nat) : Nat → Mx → Mx
 | 0, m => m
 | k + 1, m => if m.ended = true then m else if F ≤ m.steps then m.stop 4 else runX p F k (stepX p m)
theorem steps_take (m : Mx) (r : Nat) (o : Option (Nat × Nat)) : (m.take r o).steps = m.steps := by
 unfold Mx.take; split <;> rfl
theorem steps_defS (m : Mx) (k : Int) (v : Nat × Nat) : (m.defS k v).steps = m.steps := by
 unfold Mx.defS; split <;> rfl
theorem steps_defA (m : Mx) (k : Int) (v : Nat × Nat) : (m.defA k v).steps = m.steps := by
 unfold Mx.defA; split <;> rfl
theorem steps_moveIn (m : Mx) (a : Int) (r : Option (Nat × Nat)) : (m.moveIn a r).steps = m.steps := by
 unfold Mx.moveIn; split
 · exact steps_defS _ _ _
 · rfl
theorem steps_call (m : Mx) (f : Nat) : (m.call f).steps = m.steps := rfl
theorem steps_stop (m : Mx) (k : Int) : (m.stop k).steps = m.steps := rfl
theorem steps_setTop (m : Mx) (a : Ac) : (m.setTop a).steps = m.steps := rfl
theorem steps_stepM' (p : List Fn) (m : Mx) : (stepM p m).steps = m.steps + 1 := by
 have hn : m.next.steps = m.steps + 1 := rfl
 unfold stepM
 simp only [apply_ite Mx.steps, steps_take, steps_defS, steps_defA, steps_moveIn, steps_call, steps_stop, steps_setTop, hn, ite_self]
theorem steps_plain (m : Mx) (x : Ins) : (m.plain x).steps = m.steps := by
 unfold Mx.plain
 simp only [apply_ite Mx.steps, steps_stop, ite_self]
theorem steps_stepX (p : List Fn) (m : Mx) : (stepX p m).steps = m.steps + 1 := by
 unfold stepX
 split
 · rw [steps_plain]; rfl
 · exact steps_stepM' p m
def FitX (p : List Fn) (m : Mx) : Prop := Wf p m ∧ OkX p m (m.ins p) ∧ m.acts.length ≤ 1000000 ∧ ∀ a ∈ m.acts, a.pc ≤ 1000000
def stepsAt (w : World) (mb : Nat) : Nat :=
 match w.cell? ⟨mb, 25, none⟩ with
 | some (.int _ n) => n.toNat
 | _ => 0
section
variable {B n mb cs ct np cp : Nat} {ad : Addr} {iv : Value} {As At : Option Addr} {bl : List Nat} {m : Mx} {p : List Fn}
theorem MAt.stepsAt {w : World} {pv : Value} (h : MAt w B n mb ad pv iv As cs At ct bl m) : stepsAt w mb = m.steps := by
 obtain ⟨-, -, -, -, -, c25, -⟩ := h.cells
 unfold pm.stepsAt
 rw [c25]
 simp
def RunX (p : List Fn) (inp : List Nat) (F : Nat) (w : World) (e : Ending) (w' : World) : Prop :=
 ∃ mb, e = .returned (.tuple #[.pointer (some ⟨mb, 0, none⟩), .int .i64 0]) ∧ Below w.heap.size w w' ∧ ∃ n ad pv iv As cs At ct bl, MAt w' w.heap.size n mb ad pv iv As cs At ct bl (runX p F (F + 2) ((Mx.start inp).call 0))
theorem InX.more {w : World} {B B' : Nat} {iv : Value} {inp : List Nat} (h : InX w B iv inp) (hB : B ≤ B') : InX w B' iv inp := by
 obtain ⟨Ai, ci, h1, h2, h3, h4⟩ := h
 exact ⟨Ai, ci, h1, h2, h3, h4.more nL hB⟩
theorem start_at {w : World} {pv iv : Value} {inp : List Nat} {mb : Nat} (hB : B ≤ mb) (hb : Blk w mb 71 (mcs pv iv (.slice none 0 0) (.slice none 0 0) (Mx.start inp))) :
 MAt w B n mb ad pv iv none 0 none 0 [] (Mx.start inp) :=
 ⟨hb, hB, World.ownsRow_nil _ _ _ _, World.ownsRow_nil _ _ _ _, rfl, List.nodup_nil, fun i hi => by simp at hi⟩
theorem run_x (ad : Addr) (p : List Fn) (cp : Nat) (iv0 : Value) (inp : List Nat) (F : Nat) (hF : F ≤ 100000) (Good : Mx → Prop) (w : World) (hT : Tb w) (hf : Fx w 0 w.heap.size (some ad) p) (hm : p.length ≤ maxLen) (hr : ∀ i, i < p.length → FnR (p.getD i Fn.z)) (hE : progE p = 0) (hin : InX w w.heap.size iv0 inp) (hp1 : 0 < p.length)
 (hg0 : Good ((Mx.start inp).call 0)) (hg : ∀ m, Good m → m.ended = false → m.steps < F → FitX p m ∧ Good (stepX p m)) :
 Calls Tryd.prog 23 #[.agg #[.slice (some ad) p.length cp], iv0, .int .i64 (F : Int)] w (RunX p inp F w) := by
 obtain ⟨Ai, ci, rfl, hi1, hi2, hi3⟩ := hin
 obtain ⟨ni, hni⟩ : ∃ ni, ni = inp.length := ⟨_, rfl⟩
 have HIN : Hid (InX w w.heap.size (.slice Ai ni ci) inp) := hQ (by rw [hni]; exact ⟨Ai, ci, rfl, hi1, hi2, hi3⟩)
 rw [← hni]
 clear hi1 hi2 hi3 hni
 obtain ⟨W1, hW1⟩ : ∃ W1, W1 = w.alloc (.cells #[.slice (some ad) p.length cp] 26) := ⟨_, rfl⟩
 have hB1 : Below w.heap.size w W1 := by rw [hW1]; exact bR.alloc nL _
 have HKP : Hid (Blk W1 w.heap.size 26 #[.slice (some ad) p.length cp]) := hQ (by rw [hW1]; exact Blk.new _ _ _)
 have HT1 := hQ (hT.below hB1)
 have HF0 := hQ hf
 have HF1 := hQ (hf.keep (Kp.of_below hB1 nL))
 have HB1 := hQ hB1
 have HW1 := hQ hW1
 have HR := hQ hr
 have HG0 := hQ hg0
 have HG := hQ hg
 have hs1 := hB1.size
 have hF0 : (0 : Int) ≤ (F : Int) := by omega
 have hF1 : (F : Int) ≤ 100000 := by omega
 clear hT hf hW1 hB1 hr hg hg0
 obtain ⟨q0, -, qz⟩ := blk_one HKP.out
 go_enter Tryd.func23, Tryd.ntmps23
 go_upto_region 1 with (fail)
 rw [← HW1.out]
 go_wp2_with fail
 refine (check_any (some ad) p cp W1 _ _ HT1.out HF1.out hs1 hm HR.out).mono ?_
 rintro e w2 ⟨rfl, bel2⟩
 rw [hE]
 have HB2 : Hid (Below w.heap.size w w2) := hQ (HB1.out.trans (bel2.mono hs1))
 have HKP2 := hQ (HKP.out.after bel2)
 have hs2 : W1.heap.size ≤ w2.heap.size := bel2.size
 clear bel2 q0 qz
 obtain ⟨q0, -, qz⟩ := blk_one HKP2.out
 go_upto_region 7 with (fail)
 obtain ⟨mb, hmb⟩ : ∃ mb, mb = w2.heap.size := ⟨_, rfl⟩
 obtain ⟨W3, hW3⟩ : ∃ W3, W3 = w2.alloc (.cells (mcs (.slice (some ad) p.length cp) (.slice Ai ni ci) (.slice none 0 0) (.slice none 0 0) (Mx.start inp)) 71) := ⟨_, rfl⟩
 have hW3' : W3 = w2.alloc (.cells #[.slice (some ad) p.length cp, .slice Ai ni ci, .int .u64 0, .int .u64 0, .int .u64 0, .int .u64 0, .int .u64 0, .int .u64 0, .int .u64 0, .int .u64 0, .int .u64 0, .int .u64 0, .int .u64 0, .int .u64 0, .int .u64 0, .int .u64 0, .int .u64 0, .int .u64 0, .slice none 0 0, .int .i64 0, .int .i64 0, .int .u64 0, .int .u64 0, .int .u64 0, .slice none 0 0, .int .i64 0, .bool false] 71) := hW3
 have HM3 : Hid (MAt W3 w.heap.size 0 mb ad (.slice (some ad) p.length cp) (.slice Ai ni ci) none 0 none 0 [] (Mx.start inp)) := hQ (start_at (by omega) (by rw [hW3]; exact Blk.newAt hmb))
 have HB3 : Hid (Below w.heap.size w W3) := hQ (by rw [hW3]; exact HB2.out.alloc HB2.out.size _)
 rw [← hW3', ← hmb]
 have hBm : w.heap.size ≤ mb := by omega
 clear hW3 hW3' hmb q0 qz HKP HKP2
 go_wp2_with fail
 refine (call_any W3 p.length cp 0 hp1 hm (by simp [Mx.start]) HM3.out HB3.out.size).mono ?_
 rintro e w4 ⟨rfl, b4, As4, cs4, m4⟩
 have HM4 := hQ m4
 have HB4 : Hid (Below w.heap.size w w4) := hQ (HB3.out.trans b4)
 clear m4 b4 HM3 HB3
 go_wp2
 go_loopw [] (fun wr => ∃ M iv As cs At ct bl, Good M ∧ Hid (MAt wr w.heap.size M.steps mb ad (.slice (some ad) p.length cp) iv As cs At ct bl M) ∧ Hid (InX wr w.heap.size iv M.inp) ∧ Hid (Below w.heap.size w wr) ∧ M.steps ≤ F ∧ Hid (runX p F (F + 2 - M.steps) M = runX p F (F + 2) ((Mx.start inp).call 0))) (fun wr => F + 1 - stepsAt wr mb)
 case atStart => exact ⟨_, _, _, _, _, _, _, HG0.out, HM4, hQ (HIN.out.after HB4.out), HB4, by simp [Mx.start, Mx.call], hQ (by simp [Mx.start, Mx.call])⟩
 case round =>
  obtain ⟨M, iv, As, cs, At, ct, bl, hgM, HM, HI, HB, hst, HQ⟩ := hrel
  obtain ⟨-, -, -, -, -, c25, c26, hlt⟩ := HM.out.cells
  have hsti : (M.steps : Int) ≤ (F : Int) := by omega
  have hsz := HB.out.size
  rcases hen : M.ended with _ | _
  · rw [hen] at c26
    by_cases hle : F ≤ M.steps
    · have hli : (F : Int) ≤ (M.steps : Int) := by omega
      have HE : Hid (runX p F (F + 2) ((Mx.start inp).call 0) = M.stop 4) := hQ (by
       rw [← HQ.out, show F + 2 - M.steps = 1 + 1 by omega]
       unfold runX
       rw [hen, if_neg (by decide), if_pos hle])
      go_wp2_with fail
      refine (stop_any _ 4 HM.out).mono ?_
      rintro e w5 ⟨rfl, m5, b5⟩
      have HM5 := hQ m5
      have HB5 := hQ (HB.out.trans b5)
      clear m5 b5 c25 c26
      go_wp2
      go_ret2
      exact ⟨mb, rfl, HB5.out, _, _, _, _, _, _, _, _, _, by rw [HE.out]; exact HM5.out⟩
    · have hli : ¬ (F : Int) ≤ (M.steps : Int) := by omega
      have hli2 : (M.steps : Int) < (F : Int) := by omega
      obtain ⟨⟨h1, h2, h3, h4⟩, h5⟩ := HG.out M hgM hen (by omega)
      have HPRE : Hid (Pre wr w.heap.size M.steps mb ad p cp iv As cs At ct bl M) := hQ ⟨HM.out, h1, HF0.out.keep (Kp.of_below HB.out nL), hsz, hm, h3, by omega, h4, by omega⟩
      have HG5 := hQ h5
      have HOK := hQ h2
      have HE : Hid (runX p F (F + 2 - (M.steps + 1)) (stepX p M) = runX p F (F + 2) ((Mx.start inp).call 0)) := hQ (by
       rw [← HQ.out, show F + 2 - M.steps = (F + 2 - (M.steps + 1)) + 1 by omega]
       conv => rhs; unfold runX
       rw [hen, if_neg (by decide), if_neg hle])
      clear h1 h2 h3 h4 h5
      go_wp2_with fail
      refine (step_x wr HPRE.out HI.out HOK.out).mono ?_
      rintro e w5 ⟨rfl, b5, iv5, As5, cs5, At5, ct5, bl5, m5, i5⟩
      have HI5 := hQ i5
      have HM5 : Hid (MAt w5 w.heap.size (stepX p M).steps mb ad (.slice (some ad) p.length cp) iv5 As5 cs5 At5 ct5 bl5 (stepX p M)) := hQ (by rw [steps_stepX]; exact m5)
      have HB5 := hQ (HB.out.trans b5)
      have HS0 := hQ HM.out.stepsAt
      have HS5 := hQ HM5.out.stepsAt
      clear m5 b5 i5 c25 c26
      go_wp2
      go_roundw
      case rel => exact ⟨_, _, _, _, _, _, _, HG5.out, HM5, HI5, HB5, by rw [steps_stepX]; omega, hQ (by rw [steps_stepX]; exact HE.out)⟩
      case measure => rw [HS0.out, HS5.out, steps_stepX]; omega
  · rw [hen] at c26
    have HE : Hid (runX p F (F + 2) ((Mx.start inp).call 0) = M) := hQ (by
     rw [← HQ.out, show F + 2 - M.steps = (F + 1 - M.steps) + 1 by omega]
     unfold runX
     rw [hen, if_pos rfl])
    go_wp2
    go_ret2
    exact ⟨mb, rfl, HB.out, _, _, _, _, _, _, _, _, _, by rw [HE.out]; exact HM.out⟩
end
def outV (m : Mx) (At : Option Addr) (ct : Nat) : Value := .agg #[.int .i64 m.kind, .int .u64 m.code, .int .u64 m.res.1, .int .u64 m.res.2, .slice At m.trace.length ct, .int .i64 m.steps]
def OutD (m : Mx) (w : World) (e : Ending) (w' : World) : Prop :=
 ∃ At ct, e = .returned (.tuple #[outV m At ct, .int .i64 0]) ∧ Below w.heap.size w w' ∧ w'.ownsRow w.heap.size 37 2 (.slice At m.trace.length ct) m.trace.length (m.trace.flatMap vcl)
theorem out_x (ad : Addr) (p : List Fn) (cp : Nat) (iv0 : Value) (inp : List Nat) (F : Nat) (hF : F ≤ 100000) (Good : Mx → Prop) (w : World) (hT : Tb w) (hf : Fx w 0 w.heap.size (some ad) p) (hm : p.length ≤ maxLen) (hr : ∀ i, i < p.length → FnR (p.getD i Fn.z)) (hE : progE p = 0) (hin : InX w w.heap.size iv0 inp) (hp1 : 0 < p.length)
 (hg0 : Good ((Mx.start inp).call 0)) (hg : ∀ m, Good m → m.ended = false → m.steps < F → FitX p m ∧ Good (stepX p m)) :
 Calls Tryd.prog 8 #[.agg #[.slice (some ad) p.length cp], iv0, .int .i64 (F : Int)] w (OutD (runX p F (F + 2) ((Mx.start inp).call 0)) w) := by
 obtain ⟨W1, hW1⟩ : ∃ W1, W1 = (w.alloc (.cells #[.slice (some ad) p.length cp] 26)).alloc (.cells #[.int .i64 0, .int .u64 0, .int .u64 0, .int .u64 0, .slice none 0 0, .int .i64 0] 40) := ⟨_, rfl⟩
 have hB1 : Below w.heap.size w W1 := by rw [hW1]; exact (bR.alloc nL _).alloc (by simp) _
 have HKP : Hid (Blk W1 w.heap.size 26 #[.slice (some ad) p.length cp]) := hQ (by rw [hW1]; exact (Blk.new _ _ _).alloc _)
 have HKO : Hid (Blk W1 (w.heap.size + 1) 40 #[.int .i64 0, .int .u64 0, .int .u64 0, .int .u64 0, .slice none 0 0, .int .i64 0]) := hQ (by rw [hW1]; exact Blk.newAt (by simp))
 have hs1 := hB1.size
 have HRUN := hQ (run_x ad p cp iv0 inp F hF Good W1 (hT.below hB1) ((hf.keep (Kp.of_below hB1 nL)).more nL hs1) hm hr hE (hin.after hB1 |>.more hs1) hp1 hg0 hg)
 have HB1 := hQ hB1
 have HW1 := hQ hW1
 clear hT hf hW1 hB1 hr hg hg0
 obtain ⟨q0, -, qz⟩ := blk_one HKP.out
 obtain ⟨M, hM⟩ : ∃ M, M = runX p F (F + 2) ((Mx.start inp).call 0) := ⟨_, rfl⟩
 rw [← hM]
 go_enter Tryd.func8, Tryd.ntmps8
 go_upto_region 1 with (fail)
 rw [← HW1.out]
 go_wp2_with fail
 refine HRUN.out.mono ?_
 rintro e w2 ⟨mb, rfl, b2, n, ad', pv, iv2, As, cs, At, ct, bl, hm2⟩
 rw [← hM] at hm2
 have HM2 := hQ hm2
 have HB2 : Hid (Below w.heap.size w w2) := hQ (HB1.out.trans (b2.mono hs1))
 have HKO2 := hQ (HKO.out.after b2)
 clear b2 hm2 q0 qz hM HRUN
 have c20 : w2.cell? ⟨mb, 20, none⟩ = some (.int .i64 M.kind) := HM2.out.blk.cell 20
 have c21 : w2.cell? ⟨mb, 21, none⟩ = some (.int .u64 M.code) := HM2.out.blk.cell 21
 have c22 : w2.cell? ⟨mb, 22, none⟩ = some (.int .u64 M.res.1) := HM2.out.blk.cell 22
 have c23 : w2.cell? ⟨mb, 23, none⟩ = some (.int .u64 M.res.2) := HM2.out.blk.cell 23
 have c24 : w2.cell? ⟨mb, 24, none⟩ = some (.slice At M.trace.length ct) := HM2.out.blk.cell 24
 have c25 : w2.cell? ⟨mb, 25, none⟩ = some (.int .i64 M.steps) := HM2.out.blk.cell 25
 have hlt := HM2.out.blk.lt
 obtain ⟨o0, o1, o2, o3, o4, o5, f0, f1, f2, f3, f4, f5, oz⟩ := HKO2.out.c6
 go_wp2
 obtain ⟨W3, hW3⟩ : ∃ W3, W3 = (((((w2.setCell ⟨w.heap.size + 1, 0, none⟩ (.int .i64 M.kind)).setCell ⟨w.heap.size + 1, 1, none⟩ (.int .u64 M.code)).setCell ⟨w.heap.size + 1, 2, none⟩ (.int .u64 M.res.1)).setCell ⟨w.heap.size + 1, 3, none⟩ (.int .u64 M.res.2)).setCell ⟨w.heap.size + 1, 4, none⟩ (.slice At M.trace.length ct)).setCell ⟨w.heap.size + 1, 5, none⟩ (.int .i64 M.steps) := ⟨_, rfl⟩
 rw [← hW3]
 have hK : Blk W3 (w.heap.size + 1) 40 #[.int .i64 M.kind, .int .u64 M.code, .int .u64 M.res.1, .int .u64 M.res.2, .slice At M.trace.length ct, .int .i64 M.steps] := by
  rw [hW3]
  exact (((((HKO2.out.set_ 0 _).set_ 1 _).set_ 2 _).set_ 3 _).set_ 4 _).set_ 5 _
 have htr : W3.ownsRow w.heap.size 37 2 (.slice At M.trace.length ct) M.trace.length (M.trace.flatMap vcl) := by
  have hne : ∀ j, (Value.slice At M.trace.length ct).ownBlock = some j → j ≠ w.heap.size + 1 := fun j e e' => blk_own_ne (gb := 0) HKO2.out HM2.out.tr (by decide) (by rw [e, e'])
  rw [hW3]
  exact own_base (own_miss8 (own_miss8 (own_miss8 (own_miss8 (own_miss8 (own_miss8 HM2.out.tr _ hne _) _ hne _) _ hne _) _ hne _) _ hne _) _ hne _) hs1
 have hB3 : Below w.heap.size w W3 := by
  rw [hW3]
  exact (((((HB2.out.setCell (Nat.le_succ _) _).setCell (Nat.le_succ _) _).setCell (Nat.le_succ _) _).setCell (Nat.le_succ _) _).setCell (Nat.le_succ _) _).setCell (Nat.le_succ _) _
 clear hW3 o0 o1 o2 o3 o4 o5 f0 f1 f2 f3 f4 f5
 obtain ⟨o0, o1, o2, o3, o4, o5, -⟩ := hK.c6
 refine bodyPost_ret (v := .tuple #[outV M At ct, .int .i64 0]) (by simp [outV, results, Tryd.results8, go_sem, o0, o1, o2, o3, o4, o5]) rfl ?_
 exact ⟨At, ct, rfl, hB3, htr⟩
def DepD (m : Mx) (w : World) (e : Ending) (w' : World) : Prop := e = .returned (.tuple #[.int .i64 m.deep, .int .i64 0]) ∧ Below w.heap.size w w'
theorem depth_x (ad : Addr) (p : List Fn) (cp : Nat) (iv0 : Value) (inp : List Nat) (F : Nat) (hF : F ≤ 100000) (Good : Mx → Prop) (w : World) (hT : Tb w) (hf : Fx w 0 w.heap.size (some ad) p) (hm : p.length ≤ maxLen) (hr : ∀ i, i < p.length → FnR (p.getD i Fn.z)) (hE : progE p = 0) (hin : InX w w.heap.size iv0 inp) (hp1 : 0 < p.length)
 (hg0 : Good ((Mx.start inp).call 0)) (hg : ∀ m, Good m → m.ended = false → m.steps < F → FitX p m ∧ Good (stepX p m)) :
 Calls Tryd.prog 10 #[.agg #[.slice (some ad) p.length cp], iv0, .int .i64 (F : Int)] w (DepD (runX p F (F + 2) ((Mx.start inp).call 0)) w) := by
 obtain ⟨W1, hW1⟩ : ∃ W1, W1 = w.alloc (.cells #[.slice (some ad) p.length cp] 26) := ⟨_, rfl⟩
 have hB1 : Below w.heap.size w W1 := by rw [hW1]; exact bR.alloc nL _
 have HKP : Hid (Blk W1 w.heap.size 26 #[.slice (some ad) p.length cp]) := hQ (by rw [hW1]; exact Blk.new _ _ _)
 have hs1 := hB1.size
 have HRUN := hQ (run_x ad p cp iv0 inp F hF Good W1 (hT.below hB1) ((hf.keep (Kp.of_below hB1 nL)).more nL hs1) hm hr hE (hin.after hB1 |>.more hs1) hp1 hg0 hg)
 have HB1 := hQ hB1
 have HW1 := hQ hW1
 clear hT hf hW1 hB1 hr hg hg0
 obtain ⟨q0, -, qz⟩ := blk_one HKP.out
 obtain ⟨M, hM⟩ : ∃ M, M = runX p F (F + 2) ((Mx.start inp).call 0) := ⟨_, rfl⟩
 rw [← hM]
 go_enter Tryd.func10, Tryd.ntmps10
 go_upto_region 1 with (fail)
 rw [← HW1.out]
 go_wp2_with fail
 refine HRUN.out.mono ?_
 rintro e w2 ⟨mb, rfl, b2, n, ad', pv, iv2, As, cs, At, ct, bl, hm2⟩
 rw [← hM] at hm2
 have HM2 := hQ hm2
 have HB2 : Hid (Below w.heap.size w w2) := hQ (HB1.out.trans (b2.mono hs1))
 clear b2 hm2 q0 qz hM HRUN
 obtain ⟨-, -, -, c19, -, -, -, hlt⟩ := HM2.out.cells
 go_wp2
 go_ret2
 exact ⟨rfl, HB2.out⟩
theorem reads_of_blk {w : World} {g : Nat} {t : TypeId} {cs : Array Value} {n size : Nat} (h : Blk w g t cs) (hl : cs.size = n * size) : Reads w w.heap.size size (some ⟨g, 0, none⟩) n cs.toList :=
 ⟨by rw [Array.length_toList, hl], fun _ => ⟨⟨g, 0, none⟩, rfl, h.lt, fun j u hu => by
  have e : (⟨g, 0, none⟩ : Addr).add j = ⟨g, j, none⟩ := by unfold Addr.add; by_cases hj : j = 0 <;> simp [hj]
  rw [e, Blk.cell h j]
  rw [Array.getElem?_toList] at hu
  exact hu⟩⟩
theorem fx_one {w : World} {g1 g2 ci : Nat} {prm : Int} {code : List Ins} (h1 : Blk w g1 50 (inV code).toArray) (h2 : Blk w g2 54 #[.int .i64 prm, .slice none 0 0, .slice (some ⟨g1, 0, none⟩) code.length ci]) (hl : code.length ≤ maxLen) (hc : code.length ≤ ci) :
 Fx w 0 w.heap.size (some ⟨g2, 0, none⟩) [⟨prm, [], code⟩] := by
 have hr := reads_of_blk (n := 1) (size := 3) h2 rfl
 have hn : Nx w 0 w.heap.size (some ⟨g1, 0, none⟩) code := by
  have := reads_of_blk (n := code.length) (size := 5) h1 (by rw [List.size_toArray]; exact flat_len icells_len code)
  exact Rx.of_reads (by simpa using this)
 refine ⟨_, Rx.of_reads hr, fun i hi => ?_⟩
 obtain rfl : i = 0 := by simpa using hi
 exact ⟨none, 0, some ⟨g1, 0, none⟩, ci, rfl, rfl, rfl, Rx.nil _ _ _ _, hn, ⟨by simp, by simp⟩, hl, hc⟩
theorem inx_nil (w : World) (B : Nat) : InX w B (.slice none 0 0) [] := ⟨none, 0, rfl, by simp, by simp, Rx.nil _ _ _ _⟩
def awP : List Fn := [⟨0, [], [⟨0, 0, 0, 0, 5⟩, ⟨23, 0, 0, 0, 0⟩]⟩]
def aw0 : Mx := ⟨List.replicate 8 (0, 0), [⟨0, 0, none, none⟩], [], 1, [], 0, 0, (0, 0), 0, [], false⟩
def aw1 : Mx := ⟨(5, 0) :: List.replicate 7 (0, 0), [⟨0, 1, none, none⟩], [], 1, [], 0, 0, (0, 0), 1, [], false⟩
def aw2 : Mx := ⟨(5, 0) :: List.replicate 7 (0, 0), [], [], 1, [], 0, 0, (5, 0), 2, [], true⟩
theorem aw_start : (Mx.start []).call 0 = aw0 := rfl
theorem aw_step0 : stepX awP aw0 = aw1 := rfl
theorem aw_step1 : stepX awP aw1 = aw2 := rfl
theorem aw_prog : progE awP = 0 := by decide
theorem aw_good : ∀ m, (m = aw0 ∨ m = aw1 ∨ m = aw2) → m.ended = false → m.steps < 9 → FitX awP m ∧ (stepX awP m = aw0 ∨ stepX awP m = aw1 ∨ stepX awP m = aw2) := by
 rintro m (rfl | rfl | rfl) he _
 · refine ⟨⟨⟨rfl, fun a ha => ?_, by decide⟩, .inr ⟨by decide, .inl ⟨rfl, ⟨by decide, by decide⟩, by decide⟩⟩, by decide, fun a ha => ?_⟩, .inr (.inl aw_step0)⟩
   all_goals
    simp [aw0] at ha
    subst ha
    simp [awP]
 · refine ⟨⟨⟨rfl, fun a ha => ?_, by decide⟩, .inr ⟨by decide, .inr (.inr (.inl rfl))⟩, by decide, fun a ha => ?_⟩, .inr (.inr aw_step1)⟩
   all_goals
    simp [aw1] at ha
    subst ha
    simp [awP]
 · cases he
theorem aw_out (At : Option Addr) (ct : Nat) : outV aw2 At ct = .agg #[.int .i64 0, .int .u64 0, .int .u64 5, .int .u64 0, .slice At 0 ct, .int .i64 2] := rfl
theorem aw_run : runX awP 9 (9 + 2) aw0 = aw2 := rfl
theorem awake8 (w : World) (hT : Tb w) : Calls Tryd.prog 4 #[] w fun e w' => e = .returned (.bool true) ∧ Below w.heap.size w w' := by
 obtain ⟨W1, hW1⟩ : ∃ W1, W1 = (w.alloc (.cells #[.int .i64 0, .int .i64 0, .int .i64 0, .int .i64 0, .int .u64 5, .int .i64 23, .int .i64 0, .int .i64 0, .int .i64 0, .int .u64 0] 50)).alloc (.cells #[.int .i64 0, .slice none 0 0, .slice (some ⟨w.heap.size, 0, none⟩) 2 2] 54) := ⟨_, rfl⟩
 have hB1 : Below w.heap.size w W1 := by rw [hW1]; exact (bR.alloc nL _).alloc (by simp) _
 have h1 : Blk W1 w.heap.size 50 (inV [⟨0, 0, 0, 0, 5⟩, ⟨23, 0, 0, 0, 0⟩]).toArray := by rw [hW1]; exact (Blk.new _ _ _).alloc _
 have h2 : Blk W1 (w.heap.size + 1) 54 #[.int .i64 0, .slice none 0 0, .slice (some ⟨w.heap.size, 0, none⟩) [(⟨0, 0, 0, 0, 5⟩ : Ins), ⟨23, 0, 0, 0, 0⟩].length 2] := by rw [hW1]; exact Blk.newAt (by simp)
 have hf := fx_one h1 h2 (by simp [maxLen]) (by simp)
 have HO := hQ (out_x ⟨w.heap.size + 1, 0, none⟩ awP 1 (.slice none 0 0) [] 9 (by omega) (fun m => m = aw0 ∨ m = aw1 ∨ m = aw2) W1 (hT.below hB1) hf (by simp [awP, maxLen]) (fun i hi s hs => by
  have : i = 0 := by simpa [awP] using hi
  subst this
  simp [awP] at hs) aw_prog (inx_nil _ _) (by simp [awP]) (.inl rfl) aw_good)
 have HB1 := hQ hB1
 have hs1 := hB1.size
 have HW1 := hQ hW1
 clear hT h1 h2 hf hW1 hB1
 go_enter Tryd.func4, Tryd.ntmps4
 go_wp2_with fail
 rw [← HW1.out]
 refine HO.out.mono ?_
 rintro e w2 ⟨At, ct, rfl, b2, -⟩
 have HB2 : Hid (Below w.heap.size w w2) := hQ (HB1.out.trans (b2.mono hs1))
 rw [aw_start, aw_run, aw_out]
 have hs2 := HB2.out.size
 clear b2 HO
 go_wp2
 go_ret
 exact ⟨ret_bool (by decide), HB2.out.alloc hs2 _⟩
end Go.Proofs.YtdijeijbcoeopaaDoor.pm
