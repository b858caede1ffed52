/- compute: In. -/
import Derived.Test.YtdijeijbcoeopaaDoorGMt
set_option linter.unusedVariables false
set_option maxRecDepth 10000
set_option maxHeartbeats 8000000
namespace Go.Proofs.YtdijeijbcoeopaaDoor.pm
open Go.RowKit
section
variable {B n mb cs ct np cp : Nat} {ad : Addr} {iv : Value} {As At : Option Addr} {bl : List Nat} {m : Mx}
theorem comp_in (w : World) (a : Nat) (b c imm : Int) (ha : a < 8) (hr8 : m.regs.length = 8) (h : MAt w B n mb ad (.slice (some ad) np cp) iv As cs At ct bl m) (hin : InX w B iv m.inp) (hB : B ≤ w.heap.size) :
 Calls Tryd.prog 44 #[.pointer (some ⟨mb, 0, none⟩), .agg #[.int .i64 13, .int .i64 a, .int .i64 b, .int .i64 c, .int .u64 imm]] w (StepI w B n mb ad (.slice (some ad) np cp) { m with regs := m.regs.set a (m.inp.headD 0, 0), inp := m.inp.tail }) := by
 obtain ⟨W1, hW1⟩ : ∃ W1, W1 = w.alloc (.cells #[.int .i64 13, .int .i64 a, .int .i64 b, .int .i64 c, .int .u64 imm] 50) := ⟨_, rfl⟩
 have hB1 : Below w.heap.size w W1 := by rw [hW1]; exact bR.alloc nL _
 have HK : Hid (Blk W1 w.heap.size 50 #[.int .i64 13, .int .i64 a, .int .i64 b, .int .i64 c, .int .u64 imm]) := hQ (by rw [hW1]; exact Blk.new _ _ _)
 have HM := hQ (h.after hB1)
 have hmb := h.hmb
 have HB1 : Hid (Below B w W1) := hQ (hB1.mono hB)
 have hB2 : B ≤ W1.heap.size := Nat.le_trans hB hB1.size
 have HIN := hQ (hin.after HB1.out)
 have HW1 := hQ hW1
 have hai : (a : Int) < 8 := by omega
 have ha0 : (0 : Int) ≤ (a : Int) := by omega
 clear h hW1 hB1 hin
 obtain ⟨x0, x1, -, -, -, -⟩ := HK.out.c5
 obtain ⟨c0, c1⟩ := reg_cell HM.out.blk ha
 have f0 := HM.out.blk.frozen (2 + a * 2)
 have f1 := HM.out.blk.frozen (2 + a * 2 + 1)
 have hlt := HM.out.blk.lt
 go_enter Tryd.func44, Tryd.ntmps44
 go_upto_region 1 with (fail)
 rw [← HW1.out]
 go_upto_region 16 with (fail)
 go_cut [] (fun wx => Hid (MAt wx B n mb ad (.slice (some ad) np cp) iv As cs At ct bl { m with regs := m.regs.set a (0, 0) }) ∧ Hid (Below B W1 wx) ∧ Hid (Blk wx w.heap.size 50 #[.int .i64 13, .int .i64 a, .int .i64 b, .int .i64 c, .int .u64 imm]))
 case first =>
  go_region_with (fail)
  all_goals go_wp2_with fail
  all_goals go_meet
  all_goals
   exact ⟨hQ ((HM.out.rset hr8 ha (0, 0)).after (bR.drew)), hQ (((below_set (p := ⟨mb, 2 + a * 2, none⟩) hmb _).trans (below_set (p := ⟨mb, 2 + a * 2 + 1, none⟩) hmb _)).drew), hQ ((((HK.out.far (p := ⟨mb, 2 + a * 2, none⟩) (Blk.ne_ HK.out HM.out.blk (by decide)) _)).far (p := ⟨mb, 2 + a * 2 + 1, none⟩) (Blk.ne_ HK.out HM.out.blk (by decide)) _).drew)⟩
 case rest =>
  obtain ⟨HM2, HB2, HK2⟩ := hcut
  obtain ⟨W2, hW2⟩ : ∃ W2, W2 = wc := ⟨_, rfl⟩
  subst hW2
  clear x0 x1 c0 c1 f0 f1 hlt
  obtain ⟨x0, x1, -, -, -, -⟩ := HK2.out.c5
  obtain ⟨Ai, ci, e0, hci, hil, hrx⟩ := HIN.out.after HB2.out
  subst e0
  obtain ⟨-, c1, -, -, -, -, -, hlt⟩ := HM2.out.cells
  have hr2 : (m.regs.set a ((0 : Nat), (0 : Nat))).length = 8 := by rw [List.length_set]; exact hr8
  rcases hinp : m.inp with _ | ⟨v, r⟩
  · rw [hinp] at c1
    have HE : Hid (InX W2 B (.slice Ai 0 ci) []) := hQ ⟨Ai, ci, rfl, by simp, by simp, by rw [hinp] at hrx; exact hrx⟩
    have HM3 := HM2
    rw [hinp] at HM3
    clear hrx HIN HM2
    go_wp2
    go_end0
    exact ⟨rfl, HB1.out.trans HB2.out, _, _, _, _, _, _, by rw [hinp]; exact HM3.out.mono (Nat.le_succ _), by rw [hinp]; exact HE.out⟩
  · rw [hinp] at c1
    obtain ⟨ai, e1, hb, hcl⟩ := hrx.1.2 (by rw [hinp]; simp)
    subst e1
    have y0 : W2.cell? ai = some (.int .u64 v) := by
     have := hcl 0 (.int .u64 v) (by rw [hinp]; rfl)
     simpa [Addr.add] using this
    have hi0 : (0 : Int) < ((r.length + 1 : Nat) : Int) := by omega
    have HE : Hid (InX W2 B (.slice (if ci = 1 then some ai else some ⟨ai.block, ai.off + 1, none⟩) r.length (ci - 1)) r) := hQ (by
     rw [hinp] at hci hil hrx
     exact InX.tail hci hil hrx)
    have hcl1 : r.length + 1 ≤ ci := by rw [hinp] at hci; simpa using hci
    have HM3 := HM2
    rw [hinp] at HM3
    obtain ⟨z0, -⟩ := reg_cell HM3.out.blk ha
    have f0 := HM3.out.blk.frozen (2 + a * 2)
    have f1 := HM3.out.blk.frozen 1
    clear hrx HIN HM2 hcl
    have c1' : W2.cell? ⟨mb, 1, none⟩ = some (.slice (some ai) (r.length + 1) ci) := c1
    have hl1 : (1 : Int) ≤ (r.length : Int) + 1 := by omega
    have hl0 : (0 : Int) < (r.length : Int) + 1 := by omega
    have hlc : (r.length : Int) + 1 ≤ (ci : Int) := by omega
    have HI := hQ hinp
    clear hb c1 hi0 hinp hci hil
    go_upto_region 18 with (fail)
    have HL := hQ (HM3.out.lset hr2 ha v)
    have HMM : Hid (∀ W, MAt W B n mb ad (.slice (some ad) np cp) (.slice (if ci = 1 then some ai else some ⟨ai.block, ai.off + 1, none⟩) r.length (ci - 1)) As cs At ct bl { m with regs := (m.regs.set a (0, 0)).set a (v, (rg { m with regs := m.regs.set a (0, 0), inp := v :: r } a).2), inp := r } → MAt W B (n + 1) mb ad (.slice (some ad) np cp) (.slice (if ci = 1 then some ai else some ⟨ai.block, ai.off + 1, none⟩) r.length (ci - 1)) As cs At ct bl { m with regs := m.regs.set a (v, 0), inp := r }) := hQ (fun W hm => by
     have e : (rg { m with regs := m.regs.set a ((0 : Nat), (0 : Nat)), inp := v :: r } a).2 = 0 := by
      have := rg_set (m := m) (r := a) (by omega) (0, 0)
      exact congrArg Prod.snd this
     rw [e, List.set_set] at hm
     exact hm.mono (Nat.le_succ _))
    obtain ⟨A', hA'⟩ : ∃ A', A' = (if ci = 1 then some ai else some (⟨ai.block, ai.off + 1, none⟩ : Addr)) := ⟨_, rfl⟩
    rw [← hA'] at HE HMM
    have HA' := hQ hA'
    clear hA'
    go_region_law (fail)
    all_goals rw [← HA'.out]
    all_goals go_wp2
    all_goals go_end0
    all_goals
     exact ⟨rfl, HB1.out.trans (HB2.out.trans (((below_set (p := ⟨mb, 2 + a * 2, none⟩) hmb _).trans (below_set (p := ⟨mb, 1, none⟩) hmb _)).drew)), _, _, _, _, _, _, by rw [HI.out]; exact HMM.out _ ((HL.out.iset _ r).after (bR.drew)), by rw [HI.out]; exact HE.out.after (((below_set (p := ⟨mb, 2 + a * 2, none⟩) hmb _).trans (below_set (p := ⟨mb, 1, none⟩) hmb _)).drew)⟩
end
end Go.Proofs.YtdijeijbcoeopaaDoor.pm
