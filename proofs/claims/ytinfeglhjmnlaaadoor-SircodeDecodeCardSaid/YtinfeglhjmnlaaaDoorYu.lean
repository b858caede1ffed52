/- Bytes of programs, the reference's reader: instr. Printed by mkyu.py. -/
import Derived.Test.YtinfeglhjmnlaaaDoorYt
import Derived.Test.YtinfeglhjmnlaaaDoorGRc
import Derived.Test.YtinfeglhjmnlaaaDoorGYg
import Derived.Deep.CutBlock
namespace Go.Proofs.YtinfeglhjmnlaaaDoor.pm
open Go.RowKit
set_option linter.unusedVariables false
set_option maxRecDepth 10000

def RiD6 (gr : Nat) (A : Option Addr) (n c en : Nat) (r : Ins × Nat × Nat) (w : World) (e : Ending) (w' : World) : Prop :=
  e = .returned (.agg #[.int .i64 r.1.op, .int .i64 r.1.a, .int .i64 r.1.b, .int .i64 r.1.c, .int .u64 r.1.imm]) ∧ Blk w' gr 141 #[.slice A n c, .int .i64 (r.2.1 : Int), .int .i64 (en : Int), .int .i64 (r.2.2 : Int)] ∧ w.grownBy w' (some gr)
def puts5 (w : World) (g : Nat) (a b c d e : Value) : World := ((((w.setCell ⟨g, 0, none⟩ a).setCell ⟨g, 1, none⟩ b).setCell ⟨g, 2, none⟩ c).setCell ⟨g, 3, none⟩ d).setCell ⟨g, 4, none⟩ e
theorem blk_puts5 {w : World} {g : Nat} {t : TypeId} {b0 b1 b2 b3 b4 : Value} (h : Blk w g t #[b0, b1, b2, b3, b4]) (a0 a1 a2 a3 a4 : Value) : Blk (puts5 w g a0 a1 a2 a3 a4) g t #[a0, a1, a2, a3, a4] := by
  have := ((((h.set_ 0 a0).set_ 1 a1).set_ 2 a2).set_ 3 a3).set_ 4 a4
  simpa [puts5] using this
theorem rid6_end {gr g2 n c en q b : Nat} {A : Option Addr} {x : Ins} {w W : World} {b0 b1 b2 b3 b4 : Value} (hR : Blk W gr 141 #[.slice A n c, .int .i64 (q : Int), .int .i64 (en : Int), .int .i64 (b : Int)]) (hF : Blk W g2 58 #[b0, b1, b2, b3, b4]) (hg : w.grownBy W (some gr)) (hw : w.heap.size ≤ g2) :
    RiD6 gr A n c en (x, q, b) w (.returned (.agg #[.int .i64 x.op, .int .i64 x.a, .int .i64 x.b, .int .i64 x.c, .int .u64 x.imm])) (puts5 W g2 (.int .i64 x.op) (.int .i64 x.a) (.int .i64 x.b) (.int .i64 x.c) (.int .u64 x.imm)) := by
  have hne : gr ≠ g2 := hR.ne_ hF (by decide)
  exact ⟨rfl, ((((hR.far (by simpa using hne) _).far (by simpa using hne) _).far (by simpa using hne) _).far (by simpa using hne) _).far (by simpa using hne) _, gst6 (gst6 (gst6 (gst6 (gst6 hg hw _) hw _) hw _) hw _) hw _⟩
theorem icell6' (on : Nat) (vs : List Nat) (i u : Nat) (hi : vs.length = i) (h3 : i < 3) :
    (#[Value.int .i64 (on : Int), .int .i64 ((vs.getD 0 0 : Nat) : Int), .int .i64 ((vs.getD 1 0 : Nat) : Int), .int .i64 ((vs.getD 2 0 : Nat) : Int), .int .u64 0] : Array Value).setIfInBounds (i + 1) (.int .i64 (u : Int)) =
    #[Value.int .i64 (on : Int), .int .i64 (((vs ++ [u]).getD 0 0 : Nat) : Int), .int .i64 (((vs ++ [u]).getD 1 0 : Nat) : Int), .int .i64 (((vs ++ [u]).getD 2 0 : Nat) : Int), .int .u64 0] := by
  subst hi
  match vs, h3 with
  | [], _ => rfl
  | [a], _ => rfl
  | [a, b], _ => rfl
theorem ins_zero (l : List Nat) (q e : Nat) (h : e ≠ 0) : insR6 l (0, q, e) = (Ins.z, q, e) := by
  have h1 : opsS l (opS ((0 : Nat) : Int)) q e = ([0], q, e) := by
    have h2 : opS ((0 : Nat) : Int) = 1 := by decide
    rw [h2]
    unfold opsS
    simp only [opsS]
    rw [upS_err h]
    rfl
  unfold insR6
  simp only [h1]
  rw [immS_err h]
  rfl
set_option maxHeartbeats 8000000 in
theorem rinstr6 (gr B : Nat) (A : Option Addr) (n c en : Nat) (l : List Nat) (p e : Nat) (w : World) (hK : Blk w gr 141 #[.slice A n c, .int .i64 (p : Int), .int .i64 (en : Int), .int .i64 (e : Int)]) (hb : Bs w B A en l) (hgr : B ≤ gr) (hen : en ≤ n) (hn : n ≤ 2000000) (hc : n ≤ c) (hcm : c ≤ maxLen) (hp : p < 2000000) :
    Calls Tryd.prog 131 #[.pointer (some ⟨gr, 0, none⟩)] w (RiD6 gr A n c en (insS l p e) w) := by
  have hlen : l.length = en := hb.len
  have hll : l.length ≤ 2000000 := by omega
  have hBw : B ≤ w.heap.size := by have := hK.lt; omega
  have HRD : Hid (∀ W, w.grownBy W (some gr) → Bs W B A en l) := Lib.hid (fun W h => ⟨hb.1.grown h hBw (by intro g e; injection e with e; omega), hb.2⟩)
  obtain ⟨W1, hW1⟩ : ∃ W1, W1 = w.alloc (.cells #[.int .i64 0, .int .i64 0, .int .i64 0, .int .i64 0, .int .u64 0] 58) := ⟨_, rfl⟩
  obtain ⟨g2, hg2⟩ : ∃ g, g = w.heap.size := ⟨_, rfl⟩
  have hg1 : w.grownBy W1 (some gr) := by rw [hW1]; exact galc6 (World.grownBy.refl _ _) _
  have HR1 : Hid (Blk W1 gr 141 #[.slice A n c, .int .i64 (p : Int), .int .i64 (en : Int), .int .i64 (e : Int)]) := Lib.hid (by rw [hW1]; exact hK.alloc _)
  have HF1 : Hid (Blk W1 g2 58 #[.int .i64 0, .int .i64 0, .int .i64 0, .int .i64 0, .int .u64 0]) := Lib.hid (by rw [hW1, hg2]; exact Blk.new _ _ _)
  have HG1 := Lib.hid hg1
  have HW1 := Lib.hid hW1
  have hgw : gr < g2 := by rw [hg2]; exact hK.lt
  have hwg : w.heap.size ≤ g2 := by omega
  have HG2 := Lib.hid hg2
  have hni : (n : Int) ≤ 2000000 := by omega
  have hpi : (p : Int) < 2000000 := by omega
  have hp0 : (0 : Int) ≤ (p : Int) := by omega
  have HNU := Lib.hid (fun (W : World) (q b : Nat) (h : Blk W gr 141 #[.slice A n c, .int .i64 (q : Int), .int .i64 (en : Int), .int .i64 (b : Int)]) (hg : w.grownBy W (some gr)) (hq : q ≤ 2000000) => rnumber6 gr B A n c en l q b W h (HRD.out _ hg) hen hn hc hcm hq)
  have HWO := Lib.hid (fun (W : World) (q b : Nat) (h : Blk W gr 141 #[.slice A n c, .int .i64 (q : Int), .int .i64 (en : Int), .int .i64 (b : Int)]) (hg : w.grownBy W (some gr)) (hq : q ≤ 2000000) => rword6 gr B A n c en l q b W h (HRD.out _ hg) hen hn hc hcm hq)
  have HNB := Lib.hid (⟨hen, hn, hc, hcm⟩ : en ≤ n ∧ n ≤ 2000000 ∧ n ≤ c ∧ c ≤ maxLen)
  clear hW1 hg1 hK hb hg2 hc hcm
  go_enter Tryd.func131, Tryd.ntmps131
  go_upto_region 1 with (fail)
  rw [← HW1.out, ← HG2.out]
  obtain ⟨r0, r1, r2, r3, rf0, rf1, rf2, rf3, rz⟩ := HR1.out.c4
  have HGD : Hid (∀ W k, w.grownBy W (some gr) → w.grownBy (W.drewN k) (some gr)) := Lib.hid (fun W k h => h.trans ⟨rfl, rfl, rfl, Nat.le_refl _, fun _ _ _ => rfl⟩)
  by_cases h0 : e = 0
  case neg =>
    have HBN := Lib.hid h0
    have hb1 : ((e : Int) == 0) = false := by rw [beq_eq_false_iff_ne]; omega
    have HE : Hid (insS l p e = (Ins.z, p, e)) := Lib.hid (by unfold insS; rw [opX_err h0, ins_zero l p e h0])
    clear h0
    go_quiet (fail)
    go_upto_region 3 with (fail)
    obtain ⟨W2, hW2⟩ : ∃ W2, W2 = W1.drewN nq := ⟨_, rfl⟩
    rw [← hW2]
    have HR2 : Hid (Blk W2 gr 141 #[.slice A n c, .int .i64 (p : Int), .int .i64 (en : Int), .int .i64 (e : Int)]) := Lib.hid (by rw [hW2]; exact HR1.out.drewN _)
    have HF2 : Hid (Blk W2 g2 58 #[.int .i64 0, .int .i64 0, .int .i64 0, .int .i64 0, .int .u64 0]) := Lib.hid (by rw [hW2]; exact HF1.out.drewN _)
    have HG2' : Hid (w.grownBy W2 (some gr)) := Lib.hid (by rw [hW2]; exact HGD.out _ _ HG1.out)
    clear hW2 r0 r1 r2 r3 rf0 rf1 rf2 rf3 rz
    obtain ⟨r0, r1, r2, r3, rf0, rf1, rf2, rf3, rz⟩ := HR2.out.c4
    go_quiet (fail)
    obtain ⟨W3, hW3⟩ : ∃ W3, W3 = W2.drewN nq := ⟨_, rfl⟩
    rw [← hW3]
    have HR : Hid (Blk W3 gr 141 #[.slice A n c, .int .i64 (p : Int), .int .i64 (en : Int), .int .i64 (e : Int)]) := Lib.hid (by rw [hW3]; exact HR2.out.drewN _)
    have HF : Hid (Blk W3 g2 58 #[.int .i64 0, .int .i64 0, .int .i64 0, .int .i64 0, .int .u64 0]) := Lib.hid (by rw [hW3]; exact HF2.out.drewN _)
    have HG : Hid (w.grownBy W3 (some gr)) := Lib.hid (by rw [hW3]; exact HGD.out _ _ HG2'.out)
    clear hW3 r0 r1 r2 r3 rf0 rf1 rf2 rf3 rz HR1 HF1 HG1 HR2 HF2 HG2'
    obtain ⟨r0, r1, r2, r3, -, -, -, -, rz⟩ := HR.out.c4
    obtain ⟨d0, d1, d2, d3, d4, e0, e1, e2, e3, e4, dz⟩ := HF.out.c5
    have HFI := Lib.hid (rid6_end (x := Ins.z) HR.out HF.out HG.out hwg)
    have HPU := Lib.hid (blk_puts5 HF.out (.int .i64 0) (.int .i64 0) (.int .i64 0) (.int .i64 0) (.int .u64 0))
    have hbn : ((e : Int) != 0) = true := by rw [bne_iff_ne]; have := HBN.out; omega
    clear HRD HNU HWO
    rw [← HE.out] at HFI
    go_wp2
    obtain ⟨u0, u1, u2, u3, u4, -⟩ := HPU.out.c5
    unfold puts5 at u0 u1 u2 u3 u4
    exact bodyPost_ret (v := .agg #[.int .i64 Ins.z.op, .int .i64 Ins.z.a, .int .i64 Ins.z.b, .int .i64 Ins.z.c, .int .u64 Ins.z.imm]) (by simp [results, Tryd.results131, go_sem, u0, u1, u2, u3, u4, Ins.z]) rfl HFI.out
  case pos =>
  subst h0
  by_cases hle : en ≤ p
  case pos =>
    have hi : (en : Int) ≤ (p : Int) := by omega
    have HBN : Hid ((1 : Nat) ≠ 0) := Lib.hid (by decide)
    have HE : Hid (insS l p 0 = (Ins.z, p, 1)) := Lib.hid (by
      have h1 : opX l p 0 = (0, p, 1) := by unfold opX; rw [if_neg (by simp), if_pos (by omega)]
      unfold insS
      rw [h1, ins_zero l p 1 (by decide)])
    clear hle
    go_quiet (fail)
    obtain ⟨W2, hW2⟩ : ∃ W2, W2 = W1.drewN nq := ⟨_, rfl⟩
    rw [← hW2]
    have HR2 : Hid (Blk W2 gr 141 #[.slice A n c, .int .i64 (p : Int), .int .i64 (en : Int), .int .i64 ((0 : Nat) : Int)]) := Lib.hid (by rw [hW2]; exact HR1.out.drewN _)
    have HF2 : Hid (Blk W2 g2 58 #[.int .i64 0, .int .i64 0, .int .i64 0, .int .i64 0, .int .u64 0]) := Lib.hid (by rw [hW2]; exact HF1.out.drewN _)
    have HG2' : Hid (w.grownBy W2 (some gr)) := Lib.hid (by rw [hW2]; exact HGD.out _ _ HG1.out)
    have HFL := Lib.hid (rfail6 gr A n c p en 0 1 W2 HR2.out)
    rw [failE_z] at HFL
    clear hW2 r0 r1 r2 r3 rf0 rf1 rf2 rf3 rz
    go_wp2_with fail
    refine HFL.out.mono ?_
    rintro e1 w2 ⟨rfl, hk2, hg2⟩
    have HRa := Lib.hid hk2
    have HFa := Lib.hid (HF2.out.grown hg2 (by intro h; injection h with h; omega))
    have HGa := Lib.hid (HG2'.out.trans hg2)
    clear hk2 hg2 HFL HR2 HF2 HG2'
    obtain ⟨r0, r1, r2, r3, rf0, rf1, rf2, rf3, rz⟩ := HRa.out.c4
    go_upto_region 3 with (fail)
    go_quiet (fail)
    obtain ⟨W3, hW3⟩ : ∃ W3, W3 = w2.drewN nq := ⟨_, rfl⟩
    rw [← hW3]
    have HR : Hid (Blk W3 gr 141 #[.slice A n c, .int .i64 (p : Int), .int .i64 (en : Int), .int .i64 ((1 : Nat) : Int)]) := Lib.hid (by rw [hW3]; exact HRa.out.drewN _)
    have HF : Hid (Blk W3 g2 58 #[.int .i64 0, .int .i64 0, .int .i64 0, .int .i64 0, .int .u64 0]) := Lib.hid (by rw [hW3]; exact HFa.out.drewN _)
    have HG : Hid (w.grownBy W3 (some gr)) := Lib.hid (by rw [hW3]; exact HGD.out _ _ HGa.out)
    clear hW3 r0 r1 r2 r3 rf0 rf1 rf2 rf3 rz HR1 HF1 HG1 HRa HFa HGa
    obtain ⟨r0, r1, r2, r3, -, -, -, -, rz⟩ := HR.out.c4
    obtain ⟨d0, d1, d2, d3, d4, e0, e1, e2, e3, e4, dz⟩ := HF.out.c5
    have HFI := Lib.hid (rid6_end (x := Ins.z) HR.out HF.out HG.out hwg)
    have HPU := Lib.hid (blk_puts5 HF.out (.int .i64 0) (.int .i64 0) (.int .i64 0) (.int .i64 0) (.int .u64 0))
    have hbn : ((1 : Int) != 0) = true := by rw [bne_iff_ne]; have := HBN.out; omega
    clear HRD HNU HWO
    rw [← HE.out] at HFI
    go_wp2
    obtain ⟨u0, u1, u2, u3, u4, -⟩ := HPU.out.c5
    unfold puts5 at u0 u1 u2 u3 u4
    exact bodyPost_ret (v := .agg #[.int .i64 Ins.z.op, .int .i64 Ins.z.a, .int .i64 Ins.z.b, .int .i64 Ins.z.c, .int .u64 Ins.z.imm]) (by simp [results, Tryd.results131, go_sem, u0, u1, u2, u3, u4, Ins.z]) rfl HFI.out
  case neg =>
  have hi : ¬ (en : Int) ≤ (p : Int) := by omega
  have hi1 : (p : Int) < (n : Int) := by omega
  obtain ⟨ad, hA, hadb, hcell⟩ := (HRD.out _ HG1.out).at_ (by omega : p < en)
  have hby := (HRD.out _ HG1.out).lt p
  have hdc : decide (en ≤ p) = false := by simpa using hle
  have HO : Hid (opX l p 0 = if 25 ≤ l.getD p 0 then (0, p, 4) else (l.getD p 0, p + 1, 0)) := Lib.hid (by unfold opX; rw [if_neg (by simp), if_neg (by omega)])
  generalize l.getD p 0 = on at hcell hby HO
  have hcz : ad.block < W1.heap.size := by have := HR1.out.lt; omega
  subst hA
  go_quiet (fail)
  obtain ⟨W2, hW2⟩ : ∃ W2, W2 = W1.drewN nq := ⟨_, rfl⟩
  rw [← hW2]
  have HR2 : Hid (Blk W2 gr 141 #[.slice (some ad) n c, .int .i64 (p : Int), .int .i64 (en : Int), .int .i64 ((0 : Nat) : Int)]) := Lib.hid (by rw [hW2]; exact HR1.out.drewN _)
  have HF2 : Hid (Blk W2 g2 58 #[.int .i64 0, .int .i64 0, .int .i64 0, .int .i64 0, .int .u64 0]) := Lib.hid (by rw [hW2]; exact HF1.out.drewN _)
  have HG2' : Hid (w.grownBy W2 (some gr)) := Lib.hid (by rw [hW2]; exact HGD.out _ _ HG1.out)
  have hcell2 : W2.cell? (ad.add p) = some (.int .u8 (on : Int)) := by rw [hW2]; exact hcell
  have hcz2 : ad.block < W2.heap.size := by rw [hW2]; exact hcz
  clear hW2 r0 r1 r2 r3 rf0 rf1 rf2 rf3 rz HR1 HF1 HG1 hcell hcz
  obtain ⟨r0, r1, r2, r3, rf0, rf1, rf2, rf3, rz⟩ := HR2.out.c4
  go_upto_region 3 with (fail)
  by_cases h25 : 25 ≤ on
  case pos =>
    have hi25 : (25 : Int) ≤ (on : Int) := by omega
    have HBN : Hid ((4 : Nat) ≠ 0) := Lib.hid (by decide)
    have HE : Hid (insS l p 0 = (Ins.z, p, 4)) := Lib.hid (by
      have h1 := HO.out
      rw [if_pos h25] at h1
      unfold insS
      rw [h1, ins_zero l p 4 (by decide)])
    have hd25 : decide (25 ≤ on) = true := by simpa using h25
    clear hle h25 hdc
    go_quiet (fail)
    obtain ⟨W3, hW3⟩ : ∃ W3, W3 = W2.drewN nq := ⟨_, rfl⟩
    rw [← hW3]
    have HR3 : Hid (Blk W3 gr 141 #[.slice (some ad) n c, .int .i64 (p : Int), .int .i64 (en : Int), .int .i64 ((0 : Nat) : Int)]) := Lib.hid (by rw [hW3]; exact HR2.out.drewN _)
    have HF3 : Hid (Blk W3 g2 58 #[.int .i64 0, .int .i64 0, .int .i64 0, .int .i64 0, .int .u64 0]) := Lib.hid (by rw [hW3]; exact HF2.out.drewN _)
    have HG3 : Hid (w.grownBy W3 (some gr)) := Lib.hid (by rw [hW3]; exact HGD.out _ _ HG2'.out)
    have HFL := Lib.hid (rfail6 gr (some ad) n c p en 0 4 W3 HR3.out)
    rw [failE_z] at HFL
    clear hW3 r0 r1 r2 r3 rf0 rf1 rf2 rf3 rz HR2 HF2 HG2' hcell2 hcz2
    go_wp2_with fail
    refine HFL.out.mono ?_
    rintro e1 w4 ⟨rfl, hk4, hg4⟩
    have HR := Lib.hid hk4
    have HF := Lib.hid (HF3.out.grown hg4 (by intro h; injection h with h; omega))
    have HG := Lib.hid (HG3.out.trans hg4)
    clear hk4 hg4 HFL HR3 HF3 HG3
    obtain ⟨r0, r1, r2, r3, -, -, -, -, rz⟩ := HR.out.c4
    obtain ⟨d0, d1, d2, d3, d4, e0, e1, e2, e3, e4, dz⟩ := HF.out.c5
    have HFI := Lib.hid (rid6_end (x := Ins.z) HR.out HF.out HG.out hwg)
    have HPU := Lib.hid (blk_puts5 HF.out (.int .i64 0) (.int .i64 0) (.int .i64 0) (.int .i64 0) (.int .u64 0))
    have hbn : ((4 : Int) != 0) = true := by rw [bne_iff_ne]; have := HBN.out; omega
    clear HRD HNU HWO
    rw [← HE.out] at HFI
    go_wp2
    obtain ⟨u0, u1, u2, u3, u4, -⟩ := HPU.out.c5
    unfold puts5 at u0 u1 u2 u3 u4
    exact bodyPost_ret (v := .agg #[.int .i64 Ins.z.op, .int .i64 Ins.z.a, .int .i64 Ins.z.b, .int .i64 Ins.z.c, .int .u64 Ins.z.imm]) (by simp [results, Tryd.results131, go_sem, u0, u1, u2, u3, u4, Ins.z]) rfl HFI.out
  case neg =>
  have hi25 : ¬ (25 : Int) ≤ (on : Int) := by omega
  have HH25 : Hid (on < 25) := Lib.hid (by omega)
  have hw0 : IntKind.i64.wrap (on : Int) = (on : Int) := IntWalk.i64_in _ ⟨by omega, by omega⟩
  have hd25 : decide (25 ≤ on) = false := by simpa using h25
  obtain ⟨p1, hp1⟩ : ∃ q, q = p + 1 := ⟨_, rfl⟩
  have HO2 : Hid (opX l p 0 = (on, p1, 0)) := Lib.hid (by rw [HO.out, if_neg h25, hp1])
  have hp12 : p1 ≤ 2000000 := by omega
  have hpm : IntKind.i64.wrap ((p : Int) + 1) = (p1 : Int) := by rw [IntWalk.i64_in _ (by omega)]; omega
  clear hp1 HO
  go_quiet (fail)
  obtain ⟨W3, hW3⟩ : ∃ W3, W3 = W2.drewN nq := ⟨_, rfl⟩
  rw [← hW3]
  have HR3 : Hid (Blk W3 gr 141 #[.slice (some ad) n c, .int .i64 (p : Int), .int .i64 (en : Int), .int .i64 ((0 : Nat) : Int)]) := Lib.hid (by rw [hW3]; exact HR2.out.drewN _)
  have HF3 : Hid (Blk W3 g2 58 #[.int .i64 0, .int .i64 0, .int .i64 0, .int .i64 0, .int .u64 0]) := Lib.hid (by rw [hW3]; exact HF2.out.drewN _)
  have HG3 : Hid (w.grownBy W3 (some gr)) := Lib.hid (by rw [hW3]; exact HGD.out _ _ HG2'.out)
  have hcell3 : W3.cell? (ad.add p) = some (.int .u8 (on : Int)) := by rw [hW3]; exact hcell2
  have hcz3 : ad.block < W3.heap.size := by rw [hW3]; exact hcz2
  have hcz4 : (ad.add p).block < W3.heap.size := by rw [block_of_add]; exact hcz3
  have hca : ∀ o, (W3.drew.alloc o).cell? (ad.add p) = some (.int .u8 (on : Int)) := fun o => by rw [World.cell?_of_block (Below.heap_alloc W3.drew o _ (by show (ad.add p).block < W3.heap.size; exact hcz4))]; exact hcell3
  clear hW3 r0 r1 r2 r3 rf0 rf1 rf2 rf3 rz HR2 HF2 HG2' hcell2 hcz2 hdc hd25 hi25 hle h25
  obtain ⟨r0, r1, r2, r3, rf0, rf1, rf2, rf3, rz⟩ := HR3.out.c4
  go_upto_region 7 with (fail)
  go_cut [3] (fun s wx => ∃ gx, s = .pointer (some ⟨gx, 0, none⟩) ∧ W3.heap.size ≤ gx ∧ Blk wx gx 58 #[.int .i64 (on : Int), .int .i64 0, .int .i64 0, .int .i64 0, .int .u64 0] ∧ Below W3.heap.size W3 wx)
  case first =>
    go_region_with (fail)
    all_goals (go_wp2_with fail; go_meet; refine ⟨W3.heap.size, rfl, Nat.le_refl _, ?_, ?_⟩; (first | exact (Blk.new _ _ _).drew | exact Blk.new _ _ _); (first | exact Below.drew ((Below.refl _ _).alloc (Nat.le_refl _) _) | exact (Below.drew (Below.refl _ _)).alloc (Nat.le_refl _) _))
  case rest =>
  obtain ⟨gx, rfl, hgx, hkx, hbx⟩ := hcut
  have HR4 := Lib.hid (HR3.out.after hbx)
  have HF4 := Lib.hid (HF3.out.after hbx)
  have HG4 := Lib.hid (HG3.out.trans (⟨hbx.os, hbx.tape, hbx.output, hbx.size, fun b hb hne => hbx.block b hb⟩ : W3.grownBy wc (some gr)))
  have HI4 := Lib.hid hkx
  have hrx : gr ≠ gx := by have := HR3.out.lt; omega
  have h2x : g2 < gx := by have := HF3.out.lt; omega
  have hwx : w.heap.size ≤ gx := by omega
  clear hkx hbx r0 r1 r2 r3 rf0 rf1 rf2 rf3 rz hcell3 hcz3 hcz4 hca HR3 HF3 HG3 hgx
  obtain ⟨r0, r1, r2, r3, rf0, rf1, rf2, rf3, rz⟩ := HR4.out.c4
  go_upto_region 9 with (fail)
  obtain ⟨W5, hW5⟩ : ∃ W5, W5 = wc.setCell ⟨gr, 1, none⟩ (.int .i64 (p1 : Int)) := ⟨_, rfl⟩
  rw [← hW5]
  have HR5 : Hid (Blk W5 gr 141 #[.slice (some ad) n c, .int .i64 (p1 : Int), .int .i64 (en : Int), .int .i64 ((0 : Nat) : Int)]) := Lib.hid (by rw [hW5]; exact HR4.out.set_ 1 _)
  have HF5 : Hid (Blk W5 g2 58 #[.int .i64 0, .int .i64 0, .int .i64 0, .int .i64 0, .int .u64 0]) := Lib.hid (by rw [hW5]; exact HF4.out.far (by simp; omega) _)
  have HI5 : Hid (Blk W5 gx 58 #[.int .i64 (on : Int), .int .i64 0, .int .i64 0, .int .i64 0, .int .u64 0]) := Lib.hid (by rw [hW5]; exact HI4.out.far (by simpa using hrx.symm) _)
  have HG5 : Hid (w.grownBy W5 (some gr)) := Lib.hid (by rw [hW5]; exact HG4.out.trans (gset6 _ _ _))
  clear hW5 HR4 HF4 HI4 HG4 r0 r1 r2 r3 rf0 rf1 rf2 rf3 rz hpm hpi hi hi1 hw0
  obtain ⟨nn, hnn⟩ : ∃ k, k = opS (on : Int) := ⟨_, rfl⟩
  obtain ⟨ib, hib⟩ : ∃ k, k = immB (on : Int) := ⟨_, rfl⟩
  have hus := useS on HH25.out
  rw [← hnn, ← hib] at hus
  have HOP := Lib.hid (fun W => operands_any on HH25.out W)
  rw [hus.1, hus.2.1, hus.2.2.1, hus.2.2.2] at HOP
  have hnn3 : nn ≤ 3 := by rw [hnn]; exact opS_le _
  have HNN := Lib.hid hnn
  have HIB := Lib.hid hib
  obtain ⟨x0, x1, x2, x3, x4, -, -, -, -, -, xz⟩ := HI5.out.c5
  clear hnn hib hus
  go_wp2_with fail
  refine (HOP.out _).mono ?_
  rintro e6 w6 ⟨rfl, rfl⟩
  clear HOP x0 x1 x2 x3 x4 xz
  obtain ⟨W6, hW6⟩ : ∃ W6, W6 = W5 := ⟨_, rfl⟩
  have HS0 : Hid (Blk W5 gr 141 #[.slice (some ad) n c, .int .i64 ((opsS l (min 0 nn) p1 0).2.1 : Int), .int .i64 (en : Int), .int .i64 ((opsS l (min 0 nn) p1 0).2.2 : Int)] ∧ Blk W5 gx 58 #[.int .i64 (on : Int), .int .i64 (((opsS l (min 0 nn) p1 0).1.getD 0 0 : Nat) : Int), .int .i64 (((opsS l (min 0 nn) p1 0).1.getD 1 0 : Nat) : Int), .int .i64 (((opsS l (min 0 nn) p1 0).1.getD 2 0 : Nat) : Int), .int .u64 0] ∧ Blk W5 g2 58 #[.int .i64 0, .int .i64 0, .int .i64 0, .int .i64 0, .int .u64 0] ∧ w.grownBy W5 (some gr)) := Lib.hid (by
    rw [show min 0 nn = 0 by omega]
    exact ⟨HR5.out, HI5.out, HF5.out, HG5.out⟩)
  clear HR5 HF5 HI5 HG5 hW6
  generalize W5 = V0 at *
  go_upto_if 79 with (fail)
  go_cut [3, 5, 6, 7] (fun s3 s5 s6 s7 wx => (s3 = .pointer (some ⟨gx, 0, none⟩) ∧ s5 = .bool (decide (2 ≤ nn)) ∧ s6 = .bool (decide (3 ≤ nn)) ∧ s7 = .bool ib) ∧ Blk wx gr 141 #[.slice (some ad) n c, .int .i64 ((opsS l (min 1 nn) p1 0).2.1 : Int), .int .i64 (en : Int), .int .i64 ((opsS l (min 1 nn) p1 0).2.2 : Int)] ∧ Blk wx gx 58 #[.int .i64 (on : Int), .int .i64 (((opsS l (min 1 nn) p1 0).1.getD 0 0 : Nat) : Int), .int .i64 (((opsS l (min 1 nn) p1 0).1.getD 1 0 : Nat) : Int), .int .i64 (((opsS l (min 1 nn) p1 0).1.getD 2 0 : Nat) : Int), .int .u64 0] ∧ Blk wx g2 58 #[.int .i64 0, .int .i64 0, .int .i64 0, .int .i64 0, .int .u64 0] ∧ w.grownBy wx (some gr))
  case first =>
    obtain ⟨hR, hI, hF, hG⟩ := HS0.out
    by_cases hj : 0 < nn
    case neg =>
      have hd : decide (1 ≤ nn) = false := by simp; omega
      have e1 : min 1 nn = min 0 nn := by omega
      rw [← e1] at hR hI
      have HX := Lib.hid (⟨hR, hI, hF, hG⟩ : Blk V0 gr 141 #[.slice (some ad) n c, .int .i64 ((opsS l (min 1 nn) p1 0).2.1 : Int), .int .i64 (en : Int), .int .i64 ((opsS l (min 1 nn) p1 0).2.2 : Int)] ∧ Blk V0 gx 58 #[.int .i64 (on : Int), .int .i64 (((opsS l (min 1 nn) p1 0).1.getD 0 0 : Nat) : Int), .int .i64 (((opsS l (min 1 nn) p1 0).1.getD 1 0 : Nat) : Int), .int .i64 (((opsS l (min 1 nn) p1 0).1.getD 2 0 : Nat) : Int), .int .u64 0] ∧ Blk V0 g2 58 #[.int .i64 0, .int .i64 0, .int .i64 0, .int .i64 0, .int .u64 0] ∧ w.grownBy V0 (some gr))
      clear hR hI hF hG HS0 e1
      go_wp2_with fail
      go_meet
      exact ⟨⟨rfl, rfl, rfl, rfl⟩, HX.out⟩
    case pos =>
      have hd : decide (1 ≤ nn) = true := by simp; omega
      have e1 : min 0 nn = 0 := by omega
      have e2 : min 1 nn = 0 + 1 := by omega
      rw [e1] at hR hI
      obtain ⟨vs, pv, bv, hst⟩ : ∃ vs pv bv, opsS l 0 p1 0 = (vs, pv, bv) := ⟨_, _, _, rfl⟩
      have hlv : vs.length = 0 := by have := opsS_len l 0 p1 0; rw [hst] at this; exact this
      have hpv : pv ≤ 2000000 := by have := opsS_pos (l := l) (k := 0) (e := 0) hp12 hll; rw [hst] at this; exact this
      rw [hst] at hR hI
      simp only at hR hI
      have HN := Lib.hid (HNU.out V0 pv bv hR hG hpv)
      obtain ⟨u, pu, bu, heu⟩ : ∃ u pu bu, upS l M31 4 pv bv = (u, pu, bu) := ⟨_, _, _, rfl⟩
      rw [heu] at HN
      have HST : Hid (opsS l (min 1 nn) p1 0 = (vs ++ [u], pu, bu)) := Lib.hid (by
        rw [e2]
        show ((opsS l 0 p1 0).1 ++ [(upS l M31 4 (opsS l 0 p1 0).2.1 (opsS l 0 p1 0).2.2).1], (upS l M31 4 (opsS l 0 p1 0).2.1 (opsS l 0 p1 0).2.2).2) = _
        simp only [hst, heu])
      have HLV := Lib.hid hlv
      have HI := Lib.hid hI
      have HF := Lib.hid hF
      have HG := Lib.hid hG
      clear heu hst hlv hR hI hF hG HS0 e1 e2
      go_wp2_with fail
      refine HN.out.mono ?_
      rintro e7 w7 ⟨rfl, hk7, hg7⟩
      simp only at hk7 ⊢
      have hI7 := HI.out.grown hg7 (by intro h; injection h with h; omega)
      have hF7 := HF.out.grown hg7 (by intro h; injection h with h; omega)
      obtain ⟨t0, t1, t2, t3, t4, tf0, tf1, tf2, tf3, tf4, tz⟩ := hI7.c5
      have HI7 := Lib.hid hI7
      have HF7 := Lib.hid hF7
      have HK7 := Lib.hid hk7
      have HG7 := Lib.hid (HG.out.trans hg7)
      clear hI7 hF7 hk7 hg7 HN
      go_wp2_with fail
      go_meet
      refine ⟨⟨rfl, rfl, rfl, rfl⟩, ?_, ?_, HF7.out.far (by simp; omega) _, gst6 HG7.out hwx _⟩
      · rw [HST.out]
        exact HK7.out.far (by simpa using hrx) _
      · rw [HST.out]
        have h := HI7.out.set_ (0 + 1) (.int .i64 (u : Int))
        rw [icell6' on vs 0 u HLV.out (by decide)] at h
        exact h
  case rest =>
  obtain ⟨⟨rfl, rfl, rfl, rfl⟩, hs⟩ := hcut
  have HS1 := Lib.hid hs
  clear hs HS0
  generalize wc = V1 at *
  go_upto_if 83 with (fail)
  go_cut [3, 5, 6, 7] (fun s3 s5 s6 s7 wx => (s3 = .pointer (some ⟨gx, 0, none⟩) ∧ s5 = .bool (decide (2 ≤ nn)) ∧ s6 = .bool (decide (3 ≤ nn)) ∧ s7 = .bool ib) ∧ Blk wx gr 141 #[.slice (some ad) n c, .int .i64 ((opsS l (min 2 nn) p1 0).2.1 : Int), .int .i64 (en : Int), .int .i64 ((opsS l (min 2 nn) p1 0).2.2 : Int)] ∧ Blk wx gx 58 #[.int .i64 (on : Int), .int .i64 (((opsS l (min 2 nn) p1 0).1.getD 0 0 : Nat) : Int), .int .i64 (((opsS l (min 2 nn) p1 0).1.getD 1 0 : Nat) : Int), .int .i64 (((opsS l (min 2 nn) p1 0).1.getD 2 0 : Nat) : Int), .int .u64 0] ∧ Blk wx g2 58 #[.int .i64 0, .int .i64 0, .int .i64 0, .int .i64 0, .int .u64 0] ∧ w.grownBy wx (some gr))
  case first =>
    obtain ⟨hR, hI, hF, hG⟩ := HS1.out
    by_cases hj : 1 < nn
    case neg =>
      have hd : decide (2 ≤ nn) = false := by simp; omega
      have e1 : min 2 nn = min 1 nn := by omega
      rw [← e1] at hR hI
      have HX := Lib.hid (⟨hR, hI, hF, hG⟩ : Blk V1 gr 141 #[.slice (some ad) n c, .int .i64 ((opsS l (min 2 nn) p1 0).2.1 : Int), .int .i64 (en : Int), .int .i64 ((opsS l (min 2 nn) p1 0).2.2 : Int)] ∧ Blk V1 gx 58 #[.int .i64 (on : Int), .int .i64 (((opsS l (min 2 nn) p1 0).1.getD 0 0 : Nat) : Int), .int .i64 (((opsS l (min 2 nn) p1 0).1.getD 1 0 : Nat) : Int), .int .i64 (((opsS l (min 2 nn) p1 0).1.getD 2 0 : Nat) : Int), .int .u64 0] ∧ Blk V1 g2 58 #[.int .i64 0, .int .i64 0, .int .i64 0, .int .i64 0, .int .u64 0] ∧ w.grownBy V1 (some gr))
      clear hR hI hF hG HS1 e1
      go_wp2_with fail
      go_meet
      exact ⟨⟨rfl, rfl, rfl, rfl⟩, HX.out⟩
    case pos =>
      have hd : decide (2 ≤ nn) = true := by simp; omega
      have e1 : min 1 nn = 1 := by omega
      have e2 : min 2 nn = 1 + 1 := by omega
      rw [e1] at hR hI
      obtain ⟨vs, pv, bv, hst⟩ : ∃ vs pv bv, opsS l 1 p1 0 = (vs, pv, bv) := ⟨_, _, _, rfl⟩
      have hlv : vs.length = 1 := by have := opsS_len l 1 p1 0; rw [hst] at this; exact this
      have hpv : pv ≤ 2000000 := by have := opsS_pos (l := l) (k := 1) (e := 0) hp12 hll; rw [hst] at this; exact this
      rw [hst] at hR hI
      simp only at hR hI
      have HN := Lib.hid (HNU.out V1 pv bv hR hG hpv)
      obtain ⟨u, pu, bu, heu⟩ : ∃ u pu bu, upS l M31 4 pv bv = (u, pu, bu) := ⟨_, _, _, rfl⟩
      rw [heu] at HN
      have HST : Hid (opsS l (min 2 nn) p1 0 = (vs ++ [u], pu, bu)) := Lib.hid (by
        rw [e2]
        show ((opsS l 1 p1 0).1 ++ [(upS l M31 4 (opsS l 1 p1 0).2.1 (opsS l 1 p1 0).2.2).1], (upS l M31 4 (opsS l 1 p1 0).2.1 (opsS l 1 p1 0).2.2).2) = _
        simp only [hst, heu])
      have HLV := Lib.hid hlv
      have HI := Lib.hid hI
      have HF := Lib.hid hF
      have HG := Lib.hid hG
      clear heu hst hlv hR hI hF hG HS1 e1 e2
      go_wp2_with fail
      refine HN.out.mono ?_
      rintro e7 w7 ⟨rfl, hk7, hg7⟩
      simp only at hk7 ⊢
      have hI7 := HI.out.grown hg7 (by intro h; injection h with h; omega)
      have hF7 := HF.out.grown hg7 (by intro h; injection h with h; omega)
      obtain ⟨t0, t1, t2, t3, t4, tf0, tf1, tf2, tf3, tf4, tz⟩ := hI7.c5
      have HI7 := Lib.hid hI7
      have HF7 := Lib.hid hF7
      have HK7 := Lib.hid hk7
      have HG7 := Lib.hid (HG.out.trans hg7)
      clear hI7 hF7 hk7 hg7 HN
      go_wp2_with fail
      go_meet
      refine ⟨⟨rfl, rfl, rfl, rfl⟩, ?_, ?_, HF7.out.far (by simp; omega) _, gst6 HG7.out hwx _⟩
      · rw [HST.out]
        exact HK7.out.far (by simpa using hrx) _
      · rw [HST.out]
        have h := HI7.out.set_ (1 + 1) (.int .i64 (u : Int))
        rw [icell6' on vs 1 u HLV.out (by decide)] at h
        exact h
  case rest =>
  obtain ⟨⟨rfl, rfl, rfl, rfl⟩, hs⟩ := hcut
  have HS2 := Lib.hid hs
  clear hs HS1
  generalize wc = V2 at *
  go_upto_if 87 with (fail)
  go_cut [3, 5, 6, 7] (fun s3 s5 s6 s7 wx => (s3 = .pointer (some ⟨gx, 0, none⟩) ∧ s5 = .bool (decide (2 ≤ nn)) ∧ s6 = .bool (decide (3 ≤ nn)) ∧ s7 = .bool ib) ∧ Blk wx gr 141 #[.slice (some ad) n c, .int .i64 ((opsS l (min 3 nn) p1 0).2.1 : Int), .int .i64 (en : Int), .int .i64 ((opsS l (min 3 nn) p1 0).2.2 : Int)] ∧ Blk wx gx 58 #[.int .i64 (on : Int), .int .i64 (((opsS l (min 3 nn) p1 0).1.getD 0 0 : Nat) : Int), .int .i64 (((opsS l (min 3 nn) p1 0).1.getD 1 0 : Nat) : Int), .int .i64 (((opsS l (min 3 nn) p1 0).1.getD 2 0 : Nat) : Int), .int .u64 0] ∧ Blk wx g2 58 #[.int .i64 0, .int .i64 0, .int .i64 0, .int .i64 0, .int .u64 0] ∧ w.grownBy wx (some gr))
  case first =>
    obtain ⟨hR, hI, hF, hG⟩ := HS2.out
    by_cases hj : 2 < nn
    case neg =>
      have hd : decide (3 ≤ nn) = false := by simp; omega
      have e1 : min 3 nn = min 2 nn := by omega
      rw [← e1] at hR hI
      have HX := Lib.hid (⟨hR, hI, hF, hG⟩ : Blk V2 gr 141 #[.slice (some ad) n c, .int .i64 ((opsS l (min 3 nn) p1 0).2.1 : Int), .int .i64 (en : Int), .int .i64 ((opsS l (min 3 nn) p1 0).2.2 : Int)] ∧ Blk V2 gx 58 #[.int .i64 (on : Int), .int .i64 (((opsS l (min 3 nn) p1 0).1.getD 0 0 : Nat) : Int), .int .i64 (((opsS l (min 3 nn) p1 0).1.getD 1 0 : Nat) : Int), .int .i64 (((opsS l (min 3 nn) p1 0).1.getD 2 0 : Nat) : Int), .int .u64 0] ∧ Blk V2 g2 58 #[.int .i64 0, .int .i64 0, .int .i64 0, .int .i64 0, .int .u64 0] ∧ w.grownBy V2 (some gr))
      clear hR hI hF hG HS2 e1
      go_wp2_with fail
      go_meet
      exact ⟨⟨rfl, rfl, rfl, rfl⟩, HX.out⟩
    case pos =>
      have hd : decide (3 ≤ nn) = true := by simp; omega
      have e1 : min 2 nn = 2 := by omega
      have e2 : min 3 nn = 2 + 1 := by omega
      rw [e1] at hR hI
      obtain ⟨vs, pv, bv, hst⟩ : ∃ vs pv bv, opsS l 2 p1 0 = (vs, pv, bv) := ⟨_, _, _, rfl⟩
      have hlv : vs.length = 2 := by have := opsS_len l 2 p1 0; rw [hst] at this; exact this
      have hpv : pv ≤ 2000000 := by have := opsS_pos (l := l) (k := 2) (e := 0) hp12 hll; rw [hst] at this; exact this
      rw [hst] at hR hI
      simp only at hR hI
      have HN := Lib.hid (HNU.out V2 pv bv hR hG hpv)
      obtain ⟨u, pu, bu, heu⟩ : ∃ u pu bu, upS l M31 4 pv bv = (u, pu, bu) := ⟨_, _, _, rfl⟩
      rw [heu] at HN
      have HST : Hid (opsS l (min 3 nn) p1 0 = (vs ++ [u], pu, bu)) := Lib.hid (by
        rw [e2]
        show ((opsS l 2 p1 0).1 ++ [(upS l M31 4 (opsS l 2 p1 0).2.1 (opsS l 2 p1 0).2.2).1], (upS l M31 4 (opsS l 2 p1 0).2.1 (opsS l 2 p1 0).2.2).2) = _
        simp only [hst, heu])
      have HLV := Lib.hid hlv
      have HI := Lib.hid hI
      have HF := Lib.hid hF
      have HG := Lib.hid hG
      clear heu hst hlv hR hI hF hG HS2 e1 e2
      go_wp2_with fail
      refine HN.out.mono ?_
      rintro e7 w7 ⟨rfl, hk7, hg7⟩
      simp only at hk7 ⊢
      have hI7 := HI.out.grown hg7 (by intro h; injection h with h; omega)
      have hF7 := HF.out.grown hg7 (by intro h; injection h with h; omega)
      obtain ⟨t0, t1, t2, t3, t4, tf0, tf1, tf2, tf3, tf4, tz⟩ := hI7.c5
      have HI7 := Lib.hid hI7
      have HF7 := Lib.hid hF7
      have HK7 := Lib.hid hk7
      have HG7 := Lib.hid (HG.out.trans hg7)
      clear hI7 hF7 hk7 hg7 HN
      go_wp2_with fail
      go_meet
      refine ⟨⟨rfl, rfl, rfl, rfl⟩, ?_, ?_, HF7.out.far (by simp; omega) _, gst6 HG7.out hwx _⟩
      · rw [HST.out]
        exact HK7.out.far (by simpa using hrx) _
      · rw [HST.out]
        have h := HI7.out.set_ (2 + 1) (.int .i64 (u : Int))
        rw [icell6' on vs 2 u HLV.out (by decide)] at h
        exact h
  case rest =>
  obtain ⟨⟨rfl, rfl, rfl, rfl⟩, hs⟩ := hcut
  have HS3 := Lib.hid hs
  clear hs HS2
  generalize wc = V3 at *
  have e3 : min 3 nn = nn := by omega
  rw [e3] at HS3
  obtain ⟨vs, pv, bv, hst⟩ : ∃ vs pv bv, opsS l nn p1 0 = (vs, pv, bv) := ⟨_, _, _, rfl⟩
  have hpv : pv ≤ 2000000 := by have := opsS_pos (l := l) (k := nn) (e := 0) hp12 hll; rw [hst] at this; exact this
  rw [hst] at HS3
  obtain ⟨im, pz, bz, him⟩ : ∃ im pz bz, immS l ib pv bv = (im, pz, bz) := ⟨_, _, _, rfl⟩
  have HIN : Hid (insS l p 0 = (mkI on vs im, pz, bz)) := Lib.hid (by
    unfold insS insR6
    rw [HO2.out]
    simp only
    rw [← HNN.out, ← HIB.out, hst]
    simp only [him])
  have HIM := Lib.hid him
  obtain ⟨y0, hy0⟩ : ∃ y : Int, y = ((vs.getD 0 0 : Nat) : Int) := ⟨_, rfl⟩
  obtain ⟨y1, hy1⟩ : ∃ y : Int, y = ((vs.getD 1 0 : Nat) : Int) := ⟨_, rfl⟩
  obtain ⟨y2, hy2⟩ : ∃ y : Int, y = ((vs.getD 2 0 : Nat) : Int) := ⟨_, rfl⟩
  have HMK : Hid (mkI on vs im = ⟨(on : Int), y0, y1, y2, (im : Int)⟩) := Lib.hid (by rw [hy0, hy1, hy2]; rfl)
  simp only [← hy0, ← hy1, ← hy2] at HS3
  clear e3 hst him hy0 hy1 hy2
  go_upto_if 91 with (fail)
  go_cut [3] (fun s3 wx => s3 = .pointer (some ⟨gx, 0, none⟩) ∧ Blk wx gr 141 #[.slice (some ad) n c, .int .i64 (pz : Int), .int .i64 (en : Int), .int .i64 (bz : Int)] ∧ Blk wx gx 58 #[.int .i64 (on : Int), .int .i64 y0, .int .i64 y1, .int .i64 y2, .int .u64 (im : Int)] ∧ Blk wx g2 58 #[.int .i64 0, .int .i64 0, .int .i64 0, .int .i64 0, .int .u64 0] ∧ w.grownBy wx (some gr))
  case first =>
    obtain ⟨hR, hI, hF, hG⟩ := HS3.out
    cases ib with
    | false =>
      have h := HIM.out
      unfold immS at h
      simp only [Bool.false_eq_true, if_false, Prod.mk.injEq] at h
      obtain ⟨rfl, rfl, rfl⟩ := h
      have HX := Lib.hid (⟨hR, hI, hF, hG⟩ : Blk V3 gr 141 #[.slice (some ad) n c, .int .i64 (pv : Int), .int .i64 (en : Int), .int .i64 (bv : Int)] ∧ Blk V3 gx 58 #[.int .i64 (on : Int), .int .i64 y0, .int .i64 y1, .int .i64 y2, .int .u64 ((0 : Nat) : Int)] ∧ Blk V3 g2 58 #[.int .i64 0, .int .i64 0, .int .i64 0, .int .i64 0, .int .u64 0] ∧ w.grownBy V3 (some gr))
      clear hR hI hF hG HS3
      go_wp2_with fail
      go_meet
      exact ⟨rfl, HX.out⟩
    | true =>
      have h := HIM.out
      unfold immS at h
      simp only [if_true] at h
      have HN := Lib.hid (HWO.out V3 pv bv hR hG hpv)
      rw [h] at HN
      have HI := Lib.hid hI
      have HF := Lib.hid hF
      have HG := Lib.hid hG
      clear h hR hI hF hG HS3
      go_wp2_with fail
      refine HN.out.mono ?_
      rintro e7 w7 ⟨rfl, hk7, hg7⟩
      simp only at hk7 ⊢
      have hI7 := HI.out.grown hg7 (by intro h; injection h with h; omega)
      have hF7 := HF.out.grown hg7 (by intro h; injection h with h; omega)
      obtain ⟨t0, t1, t2, t3, t4, tf0, tf1, tf2, tf3, tf4, tz⟩ := hI7.c5
      have HI7 := Lib.hid hI7
      have HF7 := Lib.hid hF7
      have HK7 := Lib.hid hk7
      have HG7 := Lib.hid (HG.out.trans hg7)
      clear hI7 hF7 hk7 hg7 HN
      go_wp2_with fail
      go_meet
      exact ⟨rfl, HK7.out.far (by simpa using hrx) _, HI7.out.set_ 4 _, HF7.out.far (by simp; omega) _, gst6 HG7.out hwx _⟩
  case rest =>
  obtain ⟨rfl, hR, hI, hF, hG⟩ := hcut
  generalize wc = V4 at *
  have HFI : Hid (RiD6 gr (some ad) n c en (insS l p 0) w (.returned (.agg #[.int .i64 (on : Int), .int .i64 y0, .int .i64 y1, .int .i64 y2, .int .u64 (im : Int)])) (puts5 V4 g2 (.int .i64 (on : Int)) (.int .i64 y0) (.int .i64 y1) (.int .i64 y2) (.int .u64 (im : Int)))) := Lib.hid (by
    rw [HIN.out, HMK.out]
    exact rid6_end (x := ⟨(on : Int), y0, y1, y2, (im : Int)⟩) hR hF hG hwg)
  have HPU := Lib.hid (blk_puts5 hF (.int .i64 (on : Int)) (.int .i64 y0) (.int .i64 y1) (.int .i64 y2) (.int .u64 (im : Int)))
  obtain ⟨x0, x1, x2, x3, x4, -, -, -, -, -, xz⟩ := hI.c5
  obtain ⟨d0, d1, d2, d3, d4, f0, f1, f2, f3, f4, dz⟩ := hF.c5
  clear hR hI hF hG HS3 HNU HWO HRD HGD HIN HMK HIM
  go_wp2
  obtain ⟨u0, u1, u2, u3, u4, -⟩ := HPU.out.c5
  unfold puts5 at u0 u1 u2 u3 u4
  exact bodyPost_ret (v := .agg #[.int .i64 (on : Int), .int .i64 y0, .int .i64 y1, .int .i64 y2, .int .u64 (im : Int)]) (by simp [results, Tryd.results131, go_sem, u0, u1, u2, u3, u4]) rfl HFI.out
end Go.Proofs.YtinfeglhjmnlaaaDoor.pm
