/- Bytes of targets: the reference of chapter 11 reads an instruction. Printed by mkij.py. -/
import Derived.Test.YtinfeglhjmnlaaaDoorIh
import Derived.Deep.CutBlock
import Derived.Deep.DrawnRows
namespace Go.Proofs.YtinfeglhjmnlaaaDoor.pm
open Go.RowKit
set_option linter.unusedVariables false
set_option maxRecDepth 10000
attribute [local go_sem ↓] Go.wp_at_zero Go.wp_at_succ

theorem blk_put5 {w : World} {g : Nat} {t : TypeId} {b0 b1 b2 b3 b4 : Value} (h : Blk w g t #[b0, b1, b2, b3, b4]) (a0 a1 a2 a3 a4 : Value) : Blk (((((w.setCell ⟨g, 0, none⟩ a0).setCell ⟨g, 1, none⟩ a1).setCell ⟨g, 2, none⟩ a2).setCell ⟨g, 3, none⟩ a3).setCell ⟨g, 4, none⟩ a4) g t #[a0, a1, a2, a3, a4] := by
  have := ((((h.set_ 0 a0).set_ 1 a1).set_ 2 a2).set_ 3 a3).set_ 4 a4
  simpa using this
def put5 (w : World) (g : Nat) (a0 a1 a2 a3 a4 : Value) : World := ((((w.setCell ⟨g, 0, none⟩ a0).setCell ⟨g, 1, none⟩ a1).setCell ⟨g, 2, none⟩ a2).setCell ⟨g, 3, none⟩ a3).setCell ⟨g, 4, none⟩ a4
def RiD (gr : Nat) (A : Option Addr) (n c : Nat) (r : Ins × Nat × Bool) (w : World) (e : Ending) (w' : World) : Prop :=
  e = .returned (insV r.1) ∧ Blk w' gr 85 #[.slice A n c, .int .i64 (r.2.1 : Int), .bool r.2.2] ∧ w.grownBy w' (some gr)
theorem rid_end {gr g2 : Nat} {A : Option Addr} {n c : Nat} {x : Ins} {q : Nat} {b : Bool} {w W : World} {cs : Array Value} (hR : Blk W gr 85 #[.slice A n c, .int .i64 (q : Int), .bool b]) (hF : Blk W g2 58 cs) (hg : w.grownBy W (some gr)) (hw : w.heap.size ≤ g2) :
    RiD gr A n c (x, q, b) w (.returned (insV x)) (put5 W g2 (.int .i64 x.op) (.int .i64 x.a) (.int .i64 x.b) (.int .i64 x.c) (.int .u64 x.imm)) := by
  have hne : gr ≠ g2 := hR.ne_ hF (by decide)
  refine ⟨rfl, ((((hR.far (by simpa using hne) _).far (by simpa using hne) _).far (by simpa using hne) _).far (by simpa using hne) _).far (by simpa using hne) _, ?_⟩
  exact grown_set' (grown_set' (grown_set' (grown_set' (grown_set' hg hw _) hw _) hw _) hw _) hw _
set_option maxHeartbeats 8000000 in
theorem instr11 (gr B : Nat) (A : Option Addr) (n c : Nat) (l : List Nat) (p : Nat) (ok : Bool) (w : World) (hK : Blk w gr 85 #[.slice A n c, .int .i64 (p : Int), .bool ok]) (hb : Bs w B A n l) (hgr : B ≤ gr) (hn : n ≤ 2000000) (hp : p < 2000000) :
    Calls Tryd.prog 51 #[.pointer (some ⟨gr, 0, none⟩)] w (RiD gr A n c (insPQ l p ok) w) := by
  have hlen : l.length = n := hb.len
  have HLN := Lib.hid hlen
  have hBw : B ≤ w.heap.size := by have := hK.lt; omega
  have HRD : Hid (∀ W, w.grownBy W (some gr) → Bs W B A n l) := Lib.hid (fun W h => ⟨hb.1.grown h hBw (by intro g e; injection e with e; omega), hb.2⟩)
  obtain ⟨W1, hW1⟩ : ∃ W1, W1 = w.alloc (.cells #[.int .i64 0, .int .i64 0, .int .i64 0, .int .i64 0, .int .u64 0] 58) := ⟨_, rfl⟩
  obtain ⟨g2, hg2⟩ : ∃ g, g = w.heap.size := ⟨_, rfl⟩
  have hg1 : w.grownBy W1 (some gr) := by rw [hW1]; exact ⟨rfl, rfl, rfl, by simp, fun b hb _ => Below.heap_alloc w _ b hb⟩
  have HR1 : Hid (Blk W1 gr 85 #[.slice A n c, .int .i64 (p : Int), .bool ok]) := Lib.hid (by rw [hW1]; exact hK.alloc _)
  have HF1 : Hid (Blk W1 g2 58 #[.int .i64 0, .int .i64 0, .int .i64 0, .int .i64 0, .int .u64 0]) := Lib.hid (by rw [hW1, hg2]; exact Blk.new _ _ _)
  have HG1 := Lib.hid hg1
  have HW1 := Lib.hid hW1
  have hgw : gr < g2 := by rw [hg2]; exact hK.lt
  have hwg : w.heap.size ≤ g2 := by omega
  have HG2 := Lib.hid hg2
  have hni : (n : Int) ≤ 2000000 := by omega
  have hpi : (p : Int) < 2000000 := by omega
  have hp0 : (0 : Int) ≤ (p : Int) := by omega
  have HNU := Lib.hid (fun (W : World) (q : Nat) (b : Bool) (h : Blk W gr 85 #[.slice A n c, .int .i64 (q : Int), .bool b]) (hg : w.grownBy W (some gr)) (hq : q ≤ 2000000) => number11 gr B A n c l 2147483647 q b W h (HRD.out _ hg) hn hq (by decide))
  have HWO := Lib.hid (fun (W : World) (q : Nat) (b : Bool) (h : Blk W gr 85 #[.slice A n c, .int .i64 (q : Int), .bool b]) (hg : w.grownBy W (some gr)) (hq : q ≤ 2000000) => word11 gr B A n c l q b W h (HRD.out _ hg) hn hq)
  have HUP := Lib.hid (fun (q : Nat) (b : Bool) (hq : q ≤ 2000000) => (up_posQ (l := l) (lim := 2147483647) (b := b) hq (by omega) : (upPQ l 2147483647 q b).2.1 ≤ 2000000))
  clear hW1 hg1 hK hb hg2
  go_enter Tryd.func51, Tryd.ntmps51
  go_upto_region 1 with (fail)
  rw [← HW1.out, ← HG2.out]
  obtain ⟨r0, r1, r2, rf0, rf1, rf2, rz⟩ := HR1.out.c3
  have HGD : Hid (∀ W k, w.grownBy W (some gr) → w.grownBy (W.drewN k) (some gr)) := Lib.hid (fun W k h => h.trans ⟨rfl, rfl, rfl, Nat.le_refl _, fun _ _ _ => rfl⟩)
  have HZ : Hid (ok = false ∨ n ≤ p ∨ 25 ≤ l.getD p 0 → insPQ l p ok = (Ins.z, p, false)) := Lib.hid (fun h => by unfold insPQ; rw [if_pos (by rw [hlen]; exact h)])
  cases ok with
  | false =>
    have HE := Lib.hid (HZ.out (.inl rfl))
    clear hlen
    go_quiet (fail)
    go_upto_region 3 with (fail)
    have HR3 : Hid (Blk ((W1.drewN nq).setCell ⟨gr, 2, none⟩ (.bool false)) gr 85 #[.slice A n c, .int .i64 (p : Int), .bool false]) := Lib.hid ((HR1.out.drewN nq).set_ 2 (.bool false))
    have HF3 : Hid (Blk ((W1.drewN nq).setCell ⟨gr, 2, none⟩ (.bool false)) g2 58 #[.int .i64 0, .int .i64 0, .int .i64 0, .int .i64 0, .int .u64 0]) := Lib.hid ((HF1.out.drewN nq).far (by simp; omega) _)
    have HG3 : Hid (w.grownBy ((W1.drewN nq).setCell ⟨gr, 2, none⟩ (.bool false)) (some gr)) := Lib.hid ((HGD.out _ _ HG1.out).trans (grown_set _ _ _))
    generalize (W1.drewN nq).setCell ⟨gr, 2, none⟩ (.bool false) = W3 at *
    clear r0 r1 r2 rf0 rf1 rf2 rz
    obtain ⟨d0, d1, d2, d3, d4, e0, e1, e2, e3, e4, dz⟩ := HF3.out.c5
    have HFI := Lib.hid (rid_end (x := Ins.z) HR3.out HF3.out HG3.out hwg)
    have HPU := Lib.hid (blk_put5 HF3.out (.int .i64 0) (.int .i64 0) (.int .i64 0) (.int .i64 0) (.int .u64 0))
    go_wp2
    obtain ⟨u0, u1, u2, u3, u4, -⟩ := HPU.out.c5
    rw [HE.out]
    exact bodyPost_ret (v := insV Ins.z) (by simp [results, Tryd.results51, go_sem, u0, u1, u2, u3, u4, insV, Ins.z]) rfl HFI.out
  | true =>
  by_cases hle : n ≤ p
  · have hi : (n : Int) ≤ (p : Int) := by omega
    have HE := Lib.hid (HZ.out (.inr (.inl hle)))
    clear hle hlen
    go_quiet (fail)
    go_upto_region 3 with (fail)
    have HR3 : Hid (Blk ((W1.drewN nq).setCell ⟨gr, 2, none⟩ (.bool false)) gr 85 #[.slice A n c, .int .i64 (p : Int), .bool false]) := Lib.hid ((HR1.out.drewN nq).set_ 2 (.bool false))
    have HF3 : Hid (Blk ((W1.drewN nq).setCell ⟨gr, 2, none⟩ (.bool false)) g2 58 #[.int .i64 0, .int .i64 0, .int .i64 0, .int .i64 0, .int .u64 0]) := Lib.hid ((HF1.out.drewN nq).far (by simp; omega) _)
    have HG3 : Hid (w.grownBy ((W1.drewN nq).setCell ⟨gr, 2, none⟩ (.bool false)) (some gr)) := Lib.hid ((HGD.out _ _ HG1.out).trans (grown_set _ _ _))
    generalize (W1.drewN nq).setCell ⟨gr, 2, none⟩ (.bool false) = W3 at *
    clear r0 r1 r2 rf0 rf1 rf2 rz
    obtain ⟨d0, d1, d2, d3, d4, e0, e1, e2, e3, e4, dz⟩ := HF3.out.c5
    have HFI := Lib.hid (rid_end (x := Ins.z) HR3.out HF3.out HG3.out hwg)
    have HPU := Lib.hid (blk_put5 HF3.out (.int .i64 0) (.int .i64 0) (.int .i64 0) (.int .i64 0) (.int .u64 0))
    go_wp2
    obtain ⟨u0, u1, u2, u3, u4, -⟩ := HPU.out.c5
    rw [HE.out]
    exact bodyPost_ret (v := insV Ins.z) (by simp [results, Tryd.results51, go_sem, u0, u1, u2, u3, u4, insV, Ins.z]) rfl HFI.out
  have hi : (p : Int) < (n : Int) := by omega
  obtain ⟨ad, hA, hadb, hcell⟩ := (HRD.out _ HG1.out).at_ (by omega : p < n)
  have hby := (HRD.out _ HG1.out).lt p
  have HM : Hid (¬ 25 ≤ l.getD p 0 → insPQ l p true = insRQ l (l.getD p 0, p + 1, true)) := Lib.hid (fun h => by unfold insPQ; rw [if_neg (fun hh => hh.elim (fun hh => by cases hh) (fun hh => hh.elim (fun hh => by omega) h))])
  obtain ⟨on, hon⟩ : ∃ o, o = l.getD p 0 := ⟨_, rfl⟩
  rw [← hon] at hcell hby HM HZ
  have hadg : ad.block ≠ gr := by omega
  have hcz : ad.block < W1.heap.size := by have := HR1.out.lt; omega
  subst hA
  have hdc : decide (n ≤ p) = false := by simpa using hle
  clear hlen hon
  by_cases h25 : 25 ≤ on
  · have hi25 : (25 : Int) ≤ (on : Int) := by omega
    have HE := Lib.hid (HZ.out (.inr (.inr h25)))
    clear h25
    go_quiet (fail)
    go_upto_region 3 with (fail)
    have HR3 : Hid (Blk ((W1.drewN nq).setCell ⟨gr, 2, none⟩ (.bool false)) gr 85 #[.slice (some ad) n c, .int .i64 (p : Int), .bool false]) := Lib.hid ((HR1.out.drewN nq).set_ 2 (.bool false))
    have HF3 : Hid (Blk ((W1.drewN nq).setCell ⟨gr, 2, none⟩ (.bool false)) g2 58 #[.int .i64 0, .int .i64 0, .int .i64 0, .int .i64 0, .int .u64 0]) := Lib.hid ((HF1.out.drewN nq).far (by simp; omega) _)
    have HG3 : Hid (w.grownBy ((W1.drewN nq).setCell ⟨gr, 2, none⟩ (.bool false)) (some gr)) := Lib.hid ((HGD.out _ _ HG1.out).trans (grown_set _ _ _))
    generalize (W1.drewN nq).setCell ⟨gr, 2, none⟩ (.bool false) = W3 at *
    clear r0 r1 r2 rf0 rf1 rf2 rz
    obtain ⟨d0, d1, d2, d3, d4, e0, e1, e2, e3, e4, dz⟩ := HF3.out.c5
    have HFI := Lib.hid (rid_end (x := Ins.z) HR3.out HF3.out HG3.out hwg)
    have HPU := Lib.hid (blk_put5 HF3.out (.int .i64 0) (.int .i64 0) (.int .i64 0) (.int .i64 0) (.int .u64 0))
    go_wp2
    obtain ⟨u0, u1, u2, u3, u4, -⟩ := HPU.out.c5
    rw [HE.out]
    exact bodyPost_ret (v := insV Ins.z) (by simp [results, Tryd.results51, go_sem, u0, u1, u2, u3, u4, insV, Ins.z]) rfl HFI.out
  have hi25 : ¬ (25 : Int) ≤ (on : Int) := by omega
  have HE := Lib.hid (HM.out h25)
  have HH25 : Hid (on < 25) := Lib.hid (by omega)
  have hw0 : IntKind.i64.wrap (on : Int) = (on : Int) := IntWalk.i64_in _ ⟨by omega, by omega⟩
  have hdc2 : decide (25 ≤ on) = false := by simpa using h25
  clear HZ HM
  go_quiet (fail)
  go_upto_region 4 with (fail)
  obtain ⟨W3, hW3⟩ : ∃ W3, W3 = W1.drewN nq := ⟨_, rfl⟩
  have HR3 : Hid (Blk W3 gr 85 #[.slice (some ad) n c, .int .i64 (p : Int), .bool true]) := Lib.hid (by rw [hW3]; exact HR1.out.drewN _)
  have HF3 : Hid (Blk W3 g2 58 #[.int .i64 0, .int .i64 0, .int .i64 0, .int .i64 0, .int .u64 0]) := Lib.hid (by rw [hW3]; exact HF1.out.drewN _)
  have HG3 : Hid (w.grownBy W3 (some gr)) := Lib.hid (by rw [hW3]; exact HGD.out _ _ HG1.out)
  have hcell3 : W3.cell? (ad.add p) = some (.int .u8 (on : Int)) := by rw [hW3]; exact hcell
  have hcz3 : ad.block < W3.heap.size := by rw [hW3]; exact hcz
  have hcz4 : (ad.add p).block < W3.heap.size := by rw [block_of_add]; exact hcz3
  have hca : ∀ o, (W3.drew.alloc o).cell? (ad.add p) = some (.int .u8 (on : Int)) := fun o => by rw [World.cell?_of_block (Below.heap_alloc W3.drew o _ (by show (ad.add p).block < W3.heap.size; exact hcz4))]; exact hcell3
  rw [← hW3]
  clear hW3 r0 r1 r2 rf0 rf1 rf2 rz hcell hcz HR1 HF1 HG1
  obtain ⟨r0, r1, r2, rf0, rf1, rf2, rz⟩ := HR3.out.c3
  clear hle hdc h25 hi25 hdc2 hpi hni
  go_cut [3] (fun s wx => ∃ gx, s = .pointer (some ⟨gx, 0, none⟩) ∧ W3.heap.size ≤ gx ∧ Blk wx gx 58 #[.int .i64 (on : Int), .int .i64 0, .int .i64 0, .int .i64 0, .int .u64 0] ∧ Below W3.heap.size W3 wx)
  case first =>
    go_region_with (fail)
    all_goals (go_wp2_with fail; go_meet; refine ⟨W3.heap.size, rfl, Nat.le_refl _, ?_, ?_⟩; (first | exact (Blk.new _ _ _).drew | exact Blk.new _ _ _); (first | exact Below.drew ((Below.refl _ _).alloc (Nat.le_refl _) _) | exact (Below.drew (Below.refl _ _)).alloc (Nat.le_refl _) _))
  case rest =>
  obtain ⟨gx, rfl, hgx, hkx, hbx⟩ := hcut
  have HR4 := Lib.hid (HR3.out.after hbx)
  have HF4 := Lib.hid (HF3.out.after hbx)
  have HG4 := Lib.hid (grown_bel HG3.out hbx)
  have HI4 := Lib.hid hkx
  have hrx : gr ≠ gx := by have := HR3.out.lt; omega
  have h2x : g2 < gx := by have := HF3.out.lt; omega
  clear hkx hbx r0 r1 r2 rf0 rf1 rf2 rz hcell3 hcz3 hcz4 hca HR3 HF3 HG3
  obtain ⟨r0, r1, r2, rf0, rf1, rf2, rz⟩ := HR4.out.c3
  have hw1 : IntKind.i64.wrap ((p : Int) + 1) = ((p + 1 : Nat) : Int) := by rw [IntWalk.i64_in _ (by omega)]; omega
  obtain ⟨p1, hp1⟩ : ∃ q, q = p + 1 := ⟨_, rfl⟩
  rw [← hp1] at hw1 HE
  have hp12 : p1 ≤ 2000000 := by omega
  have hpe : (p : Int) + 1 = (p1 : Int) := by omega
  have hpi : (p : Int) < 2000000 := by omega
  have HPE := Lib.hid hpe
  have hpm : IntKind.i64.wrap ((p : Int) + 1) = (p : Int) + 1 := IntWalk.i64_in _ (by omega)
  clear hpe hw1 hp1
  go_upto_region 6 with (fail)
  rw [HPE.out]
  obtain ⟨W5, hW5⟩ : ∃ W5, W5 = wc.setCell ⟨gr, 1, none⟩ (.int .i64 (p1 : Int)) := ⟨_, rfl⟩
  rw [← hW5]
  have HR5 : Hid (Blk W5 gr 85 #[.slice (some ad) n c, .int .i64 (p1 : Int), .bool true]) := Lib.hid (by rw [hW5]; exact HR4.out.set_ 1 _)
  have HF5 : Hid (Blk W5 g2 58 #[.int .i64 0, .int .i64 0, .int .i64 0, .int .i64 0, .int .u64 0]) := Lib.hid (by rw [hW5]; exact HF4.out.far (by simp; omega) _)
  have HI5 : Hid (Blk W5 gx 58 #[.int .i64 (on : Int), .int .i64 0, .int .i64 0, .int .i64 0, .int .u64 0]) := Lib.hid (by rw [hW5]; exact HI4.out.far (by simpa using hrx.symm) _)
  have HG5 : Hid (w.grownBy W5 (some gr)) := Lib.hid (by rw [hW5]; exact HG4.out.trans (grown_set _ _ _))
  clear hi hW5 HR4 HF4 HI4 HG4 r0 r1 r2 rf0 rf1 rf2 rz hpm hpi
  have HOP := Lib.hid (fun W => refoperands10_all on HH25.out W)
  have hwx : w.heap.size ≤ gx := by omega
  have h31 : (2147483647 : Nat) = M31 := rfl
  have H31 := Lib.hid h31
  clear h31
  have hcase : (opN (on : Int) = 0 ∧ immB (on : Int) = true) ∨ (opN (on : Int) = 0 ∧ immB (on : Int) = false) ∨ (opN (on : Int) = 1 ∧ immB (on : Int) = true) ∨ (opN (on : Int) = 1 ∧ immB (on : Int) = false) ∨ (opN (on : Int) = 2 ∧ immB (on : Int) = false) ∨ (opN (on : Int) = 3 ∧ immB (on : Int) = false) := by
    have hd : ∀ o : Nat, o < 25 → (opN (o : Int) = 0 ∧ immB (o : Int) = true) ∨ (opN (o : Int) = 0 ∧ immB (o : Int) = false) ∨ (opN (o : Int) = 1 ∧ immB (o : Int) = true) ∨ (opN (o : Int) = 1 ∧ immB (o : Int) = false) ∨ (opN (o : Int) = 2 ∧ immB (o : Int) = false) ∨ (opN (o : Int) = 3 ∧ immB (o : Int) = false) := by decide
    exact hd on HH25.out
  rcases hcase with ⟨hkk, him⟩ | ⟨hkk, him⟩ | ⟨hkk, him⟩ | ⟨hkk, him⟩ | ⟨hkk, him⟩ | ⟨hkk, him⟩
  · have hu1 : (useT (on : Int)).1 = false := by unfold useT; rw [hkk]; rfl
    have hu2 : (useT (on : Int)).2.1 = false := by unfold useT; rw [hkk]; rfl
    have hu3 : (useT (on : Int)).2.2.1 = false := by unfold useT; rw [hkk]; rfl
    have hu4 : (useT (on : Int)).2.2.2 = true := him
    obtain ⟨x0, x1, x2, x3, x4, -, -, -, -, -, xz⟩ := HI5.out.c5
    go_wp2_with fail
    refine (HOP.out _).mono ?_
    rintro e w6 ⟨rfl, rfl⟩
    simp only [hu1, hu2, hu3, hu4]
    obtain ⟨v0, q0, b0, he0⟩ : ∃ v q b, anyPQ l p1 true = (v, q, b) := ⟨_, _, _, rfl⟩
    have HC0 := Lib.hid (HWO.out W5 p1 true HR5.out HG5.out hp12)
    rw [he0] at HC0
    have HE0 := Lib.hid he0
    clear he0
    go_wp2_with fail
    refine HC0.out.mono ?_
    rintro e z0 ⟨rfl, hk0, hg0⟩
    simp only at hk0 ⊢
    have HIa0 := Lib.hid (HI5.out.grown hg0 (by intro h; injection h with h; omega))
    have HFa0 := Lib.hid (HF5.out.grown hg0 (by intro h; injection h with h; omega))
    have HGa0 := Lib.hid (HG5.out.trans hg0)
    have HKa0 := Lib.hid hk0
    clear hk0 hg0 x0 x1 x2 x3 x4 xz
    obtain ⟨x0, x1, x2, x3, x4, xf0, xf1, xf2, xf3, xf4, xz⟩ := HIa0.out.c5
    go_upto_region 15 with (fail)
    obtain ⟨Y0, hY0⟩ : ∃ Y, Y = z0.setCell ⟨gx, 4, none⟩ (.int .u64 (v0 : Int)) := ⟨_, rfl⟩
    rw [← hY0]
    have HIb0 : Hid (Blk Y0 gx 58 #[.int .i64 (on : Int), .int .i64 0, .int .i64 0, .int .i64 0, .int .u64 (v0 : Int)]) := Lib.hid (by rw [hY0]; exact HIa0.out.set_ 4 _)
    have HFb0 : Hid (Blk Y0 g2 58 #[.int .i64 0, .int .i64 0, .int .i64 0, .int .i64 0, .int .u64 0]) := Lib.hid (by rw [hY0]; exact HFa0.out.far (by simp; omega) _)
    have HKb0 : Hid (Blk Y0 gr 85 #[.slice (some ad) n c, .int .i64 (q0 : Int), .bool b0]) := Lib.hid (by rw [hY0]; exact HKa0.out.far (by simpa using hrx) _)
    have HGb0 : Hid (w.grownBy Y0 (some gr)) := Lib.hid (by rw [hY0]; exact grown_set' HGa0.out hwx _)
    clear hY0 HIa0 HFa0 HKa0 HGa0 x0 x1 x2 x3 x4 xf0 xf1 xf2 xf3 xf4 xz HR5 HF5 HI5 HG5 HC0
    obtain ⟨x0, x1, x2, x3, x4, -, -, -, -, -, xz⟩ := HIb0.out.c5
    have HEND : Hid (insPQ l p true = (⟨(on : Int), 0, 0, 0, (v0 : Int)⟩, q0, b0)) := Lib.hid (by
      rw [HE.out]
      unfold insRQ
      simp only [hkk, him]
      have gi : anyPQ l p1 true = (v0, q0, b0) := HE0.out
      simp [opsPQ, immPQ, insO, gi])
    clear x0 x1 x2 x3 x4 xz
    obtain ⟨x0, x1, x2, x3, x4, -, -, -, -, -, xz⟩ := HIb0.out.c5
    obtain ⟨d0, d1, d2, d3, d4, f0, f1, f2, f3, f4, dz⟩ := HFb0.out.c5
    have HFI := Lib.hid (rid_end (x := ⟨(on : Int), 0, 0, 0, (v0 : Int)⟩) HKb0.out HFb0.out HGb0.out hwg)
    have HPU := Lib.hid (blk_put5 HFb0.out (.int .i64 (on : Int)) (.int .i64 0) (.int .i64 0) (.int .i64 0) (.int .u64 (v0 : Int)))
    rw [← HEND.out] at HFI
    clear hu1 hu2 hu3 hu4 hkk him
    go_wp2
    obtain ⟨u0, u1, u2, u3, u4, -⟩ := HPU.out.c5
    exact bodyPost_ret (v := .agg #[.int .i64 (on : Int), .int .i64 0, .int .i64 0, .int .i64 0, .int .u64 (v0 : Int)]) (by simp [results, Tryd.results51, go_sem, u0, u1, u2, u3, u4]) rfl HFI.out
  · have hu1 : (useT (on : Int)).1 = false := by unfold useT; rw [hkk]; rfl
    have hu2 : (useT (on : Int)).2.1 = false := by unfold useT; rw [hkk]; rfl
    have hu3 : (useT (on : Int)).2.2.1 = false := by unfold useT; rw [hkk]; rfl
    have hu4 : (useT (on : Int)).2.2.2 = false := him
    obtain ⟨x0, x1, x2, x3, x4, -, -, -, -, -, xz⟩ := HI5.out.c5
    go_wp2_with fail
    refine (HOP.out _).mono ?_
    rintro e w6 ⟨rfl, rfl⟩
    simp only [hu1, hu2, hu3, hu4]
    have HEND : Hid (insPQ l p true = (⟨(on : Int), 0, 0, 0, 0⟩, p1, true)) := Lib.hid (by
      rw [HE.out]
      unfold insRQ
      simp only [hkk, him]
      simp [opsPQ, immPQ, insO])
    clear x0 x1 x2 x3 x4 xz
    obtain ⟨x0, x1, x2, x3, x4, -, -, -, -, -, xz⟩ := HI5.out.c5
    obtain ⟨d0, d1, d2, d3, d4, f0, f1, f2, f3, f4, dz⟩ := HF5.out.c5
    have HFI := Lib.hid (rid_end (x := ⟨(on : Int), 0, 0, 0, 0⟩) HR5.out HF5.out HG5.out hwg)
    have HPU := Lib.hid (blk_put5 HF5.out (.int .i64 (on : Int)) (.int .i64 0) (.int .i64 0) (.int .i64 0) (.int .u64 0))
    rw [← HEND.out] at HFI
    clear hu1 hu2 hu3 hu4 hkk him
    go_wp2
    obtain ⟨u0, u1, u2, u3, u4, -⟩ := HPU.out.c5
    exact bodyPost_ret (v := .agg #[.int .i64 (on : Int), .int .i64 0, .int .i64 0, .int .i64 0, .int .u64 0]) (by simp [results, Tryd.results51, go_sem, u0, u1, u2, u3, u4]) rfl HFI.out
  · have hu1 : (useT (on : Int)).1 = true := by unfold useT; rw [hkk]; rfl
    have hu2 : (useT (on : Int)).2.1 = false := by unfold useT; rw [hkk]; rfl
    have hu3 : (useT (on : Int)).2.2.1 = false := by unfold useT; rw [hkk]; rfl
    have hu4 : (useT (on : Int)).2.2.2 = true := him
    obtain ⟨x0, x1, x2, x3, x4, -, -, -, -, -, xz⟩ := HI5.out.c5
    go_wp2_with fail
    refine (HOP.out _).mono ?_
    rintro e w6 ⟨rfl, rfl⟩
    simp only [hu1, hu2, hu3, hu4]
    obtain ⟨v0, q0, b0, he0⟩ : ∃ v q b, upPQ l 2147483647 p1 true = (v, q, b) := ⟨_, _, _, rfl⟩
    have HC0 := Lib.hid (HNU.out W5 p1 true HR5.out HG5.out hp12)
    have hq0 : q0 ≤ 2000000 := by have := HUP.out p1 true hp12; rw [he0] at this; exact this
    rw [he0] at HC0
    have HE0 := Lib.hid he0
    clear he0
    go_wp2_with fail
    refine HC0.out.mono ?_
    rintro e z0 ⟨rfl, hk0, hg0⟩
    simp only at hk0 ⊢
    have HIa0 := Lib.hid (HI5.out.grown hg0 (by intro h; injection h with h; omega))
    have HFa0 := Lib.hid (HF5.out.grown hg0 (by intro h; injection h with h; omega))
    have HGa0 := Lib.hid (HG5.out.trans hg0)
    have HKa0 := Lib.hid hk0
    clear hk0 hg0 x0 x1 x2 x3 x4 xz
    obtain ⟨x0, x1, x2, x3, x4, xf0, xf1, xf2, xf3, xf4, xz⟩ := HIa0.out.c5
    go_upto_region 9 with (fail)
    obtain ⟨Y0, hY0⟩ : ∃ Y, Y = z0.setCell ⟨gx, 1, none⟩ (.int .i64 (v0 : Int)) := ⟨_, rfl⟩
    rw [← hY0]
    have HIb0 : Hid (Blk Y0 gx 58 #[.int .i64 (on : Int), .int .i64 (v0 : Int), .int .i64 0, .int .i64 0, .int .u64 0]) := Lib.hid (by rw [hY0]; exact HIa0.out.set_ 1 _)
    have HFb0 : Hid (Blk Y0 g2 58 #[.int .i64 0, .int .i64 0, .int .i64 0, .int .i64 0, .int .u64 0]) := Lib.hid (by rw [hY0]; exact HFa0.out.far (by simp; omega) _)
    have HKb0 : Hid (Blk Y0 gr 85 #[.slice (some ad) n c, .int .i64 (q0 : Int), .bool b0]) := Lib.hid (by rw [hY0]; exact HKa0.out.far (by simpa using hrx) _)
    have HGb0 : Hid (w.grownBy Y0 (some gr)) := Lib.hid (by rw [hY0]; exact grown_set' HGa0.out hwx _)
    clear hY0 HIa0 HFa0 HKa0 HGa0 x0 x1 x2 x3 x4 xf0 xf1 xf2 xf3 xf4 xz HR5 HF5 HI5 HG5 HC0
    obtain ⟨x0, x1, x2, x3, x4, -, -, -, -, -, xz⟩ := HIb0.out.c5
    obtain ⟨v1, q1, b1, he1⟩ : ∃ v q b, anyPQ l q0 b0 = (v, q, b) := ⟨_, _, _, rfl⟩
    have HC1 := Lib.hid (HWO.out Y0 q0 b0 HKb0.out HGb0.out hq0)
    rw [he1] at HC1
    have HE1 := Lib.hid he1
    clear he1
    go_wp2_with fail
    refine HC1.out.mono ?_
    rintro e z1 ⟨rfl, hk1, hg1⟩
    simp only at hk1 ⊢
    have HIa1 := Lib.hid (HIb0.out.grown hg1 (by intro h; injection h with h; omega))
    have HFa1 := Lib.hid (HFb0.out.grown hg1 (by intro h; injection h with h; omega))
    have HGa1 := Lib.hid (HGb0.out.trans hg1)
    have HKa1 := Lib.hid hk1
    clear hk1 hg1 x0 x1 x2 x3 x4 xz
    obtain ⟨x0, x1, x2, x3, x4, xf0, xf1, xf2, xf3, xf4, xz⟩ := HIa1.out.c5
    go_upto_region 15 with (fail)
    obtain ⟨Y1, hY1⟩ : ∃ Y, Y = z1.setCell ⟨gx, 4, none⟩ (.int .u64 (v1 : Int)) := ⟨_, rfl⟩
    rw [← hY1]
    have HIb1 : Hid (Blk Y1 gx 58 #[.int .i64 (on : Int), .int .i64 (v0 : Int), .int .i64 0, .int .i64 0, .int .u64 (v1 : Int)]) := Lib.hid (by rw [hY1]; exact HIa1.out.set_ 4 _)
    have HFb1 : Hid (Blk Y1 g2 58 #[.int .i64 0, .int .i64 0, .int .i64 0, .int .i64 0, .int .u64 0]) := Lib.hid (by rw [hY1]; exact HFa1.out.far (by simp; omega) _)
    have HKb1 : Hid (Blk Y1 gr 85 #[.slice (some ad) n c, .int .i64 (q1 : Int), .bool b1]) := Lib.hid (by rw [hY1]; exact HKa1.out.far (by simpa using hrx) _)
    have HGb1 : Hid (w.grownBy Y1 (some gr)) := Lib.hid (by rw [hY1]; exact grown_set' HGa1.out hwx _)
    clear hY1 HIa1 HFa1 HKa1 HGa1 x0 x1 x2 x3 x4 xf0 xf1 xf2 xf3 xf4 xz HKb0 HFb0 HIb0 HGb0 HC1
    obtain ⟨x0, x1, x2, x3, x4, -, -, -, -, -, xz⟩ := HIb1.out.c5
    have HEND : Hid (insPQ l p true = (⟨(on : Int), (v0 : Int), 0, 0, (v1 : Int)⟩, q1, b1)) := Lib.hid (by
      rw [HE.out]
      unfold insRQ
      simp only [hkk, him]
      have g0 : upPQ l M31 p1 true = (v0, q0, b0) := HE0.out
      have gi : anyPQ l q0 b0 = (v1, q1, b1) := HE1.out
      simp [opsPQ, immPQ, insO, g0, gi])
    clear x0 x1 x2 x3 x4 xz
    obtain ⟨x0, x1, x2, x3, x4, -, -, -, -, -, xz⟩ := HIb1.out.c5
    obtain ⟨d0, d1, d2, d3, d4, f0, f1, f2, f3, f4, dz⟩ := HFb1.out.c5
    have HFI := Lib.hid (rid_end (x := ⟨(on : Int), (v0 : Int), 0, 0, (v1 : Int)⟩) HKb1.out HFb1.out HGb1.out hwg)
    have HPU := Lib.hid (blk_put5 HFb1.out (.int .i64 (on : Int)) (.int .i64 (v0 : Int)) (.int .i64 0) (.int .i64 0) (.int .u64 (v1 : Int)))
    rw [← HEND.out] at HFI
    clear hu1 hu2 hu3 hu4 hkk him
    go_wp2
    obtain ⟨u0, u1, u2, u3, u4, -⟩ := HPU.out.c5
    exact bodyPost_ret (v := .agg #[.int .i64 (on : Int), .int .i64 (v0 : Int), .int .i64 0, .int .i64 0, .int .u64 (v1 : Int)]) (by simp [results, Tryd.results51, go_sem, u0, u1, u2, u3, u4]) rfl HFI.out
  · have hu1 : (useT (on : Int)).1 = true := by unfold useT; rw [hkk]; rfl
    have hu2 : (useT (on : Int)).2.1 = false := by unfold useT; rw [hkk]; rfl
    have hu3 : (useT (on : Int)).2.2.1 = false := by unfold useT; rw [hkk]; rfl
    have hu4 : (useT (on : Int)).2.2.2 = false := him
    obtain ⟨x0, x1, x2, x3, x4, -, -, -, -, -, xz⟩ := HI5.out.c5
    go_wp2_with fail
    refine (HOP.out _).mono ?_
    rintro e w6 ⟨rfl, rfl⟩
    simp only [hu1, hu2, hu3, hu4]
    obtain ⟨v0, q0, b0, he0⟩ : ∃ v q b, upPQ l 2147483647 p1 true = (v, q, b) := ⟨_, _, _, rfl⟩
    have HC0 := Lib.hid (HNU.out W5 p1 true HR5.out HG5.out hp12)
    have hq0 : q0 ≤ 2000000 := by have := HUP.out p1 true hp12; rw [he0] at this; exact this
    rw [he0] at HC0
    have HE0 := Lib.hid he0
    clear he0
    go_wp2_with fail
    refine HC0.out.mono ?_
    rintro e z0 ⟨rfl, hk0, hg0⟩
    simp only at hk0 ⊢
    have HIa0 := Lib.hid (HI5.out.grown hg0 (by intro h; injection h with h; omega))
    have HFa0 := Lib.hid (HF5.out.grown hg0 (by intro h; injection h with h; omega))
    have HGa0 := Lib.hid (HG5.out.trans hg0)
    have HKa0 := Lib.hid hk0
    clear hk0 hg0 x0 x1 x2 x3 x4 xz
    obtain ⟨x0, x1, x2, x3, x4, xf0, xf1, xf2, xf3, xf4, xz⟩ := HIa0.out.c5
    go_upto_region 9 with (fail)
    obtain ⟨Y0, hY0⟩ : ∃ Y, Y = z0.setCell ⟨gx, 1, none⟩ (.int .i64 (v0 : Int)) := ⟨_, rfl⟩
    rw [← hY0]
    have HIb0 : Hid (Blk Y0 gx 58 #[.int .i64 (on : Int), .int .i64 (v0 : Int), .int .i64 0, .int .i64 0, .int .u64 0]) := Lib.hid (by rw [hY0]; exact HIa0.out.set_ 1 _)
    have HFb0 : Hid (Blk Y0 g2 58 #[.int .i64 0, .int .i64 0, .int .i64 0, .int .i64 0, .int .u64 0]) := Lib.hid (by rw [hY0]; exact HFa0.out.far (by simp; omega) _)
    have HKb0 : Hid (Blk Y0 gr 85 #[.slice (some ad) n c, .int .i64 (q0 : Int), .bool b0]) := Lib.hid (by rw [hY0]; exact HKa0.out.far (by simpa using hrx) _)
    have HGb0 : Hid (w.grownBy Y0 (some gr)) := Lib.hid (by rw [hY0]; exact grown_set' HGa0.out hwx _)
    clear hY0 HIa0 HFa0 HKa0 HGa0 x0 x1 x2 x3 x4 xf0 xf1 xf2 xf3 xf4 xz HR5 HF5 HI5 HG5 HC0
    obtain ⟨x0, x1, x2, x3, x4, -, -, -, -, -, xz⟩ := HIb0.out.c5
    have HEND : Hid (insPQ l p true = (⟨(on : Int), (v0 : Int), 0, 0, 0⟩, q0, b0)) := Lib.hid (by
      rw [HE.out]
      unfold insRQ
      simp only [hkk, him]
      have g0 : upPQ l M31 p1 true = (v0, q0, b0) := HE0.out
      simp [opsPQ, immPQ, insO, g0])
    clear x0 x1 x2 x3 x4 xz
    obtain ⟨x0, x1, x2, x3, x4, -, -, -, -, -, xz⟩ := HIb0.out.c5
    obtain ⟨d0, d1, d2, d3, d4, f0, f1, f2, f3, f4, dz⟩ := HFb0.out.c5
    have HFI := Lib.hid (rid_end (x := ⟨(on : Int), (v0 : Int), 0, 0, 0⟩) HKb0.out HFb0.out HGb0.out hwg)
    have HPU := Lib.hid (blk_put5 HFb0.out (.int .i64 (on : Int)) (.int .i64 (v0 : Int)) (.int .i64 0) (.int .i64 0) (.int .u64 0))
    rw [← HEND.out] at HFI
    clear hu1 hu2 hu3 hu4 hkk him
    go_wp2
    obtain ⟨u0, u1, u2, u3, u4, -⟩ := HPU.out.c5
    exact bodyPost_ret (v := .agg #[.int .i64 (on : Int), .int .i64 (v0 : Int), .int .i64 0, .int .i64 0, .int .u64 0]) (by simp [results, Tryd.results51, go_sem, u0, u1, u2, u3, u4]) rfl HFI.out
  · have hu1 : (useT (on : Int)).1 = true := by unfold useT; rw [hkk]; rfl
    have hu2 : (useT (on : Int)).2.1 = true := by unfold useT; rw [hkk]; rfl
    have hu3 : (useT (on : Int)).2.2.1 = false := by unfold useT; rw [hkk]; rfl
    have hu4 : (useT (on : Int)).2.2.2 = false := him
    obtain ⟨x0, x1, x2, x3, x4, -, -, -, -, -, xz⟩ := HI5.out.c5
    go_wp2_with fail
    refine (HOP.out _).mono ?_
    rintro e w6 ⟨rfl, rfl⟩
    simp only [hu1, hu2, hu3, hu4]
    obtain ⟨v0, q0, b0, he0⟩ : ∃ v q b, upPQ l 2147483647 p1 true = (v, q, b) := ⟨_, _, _, rfl⟩
    have HC0 := Lib.hid (HNU.out W5 p1 true HR5.out HG5.out hp12)
    have hq0 : q0 ≤ 2000000 := by have := HUP.out p1 true hp12; rw [he0] at this; exact this
    rw [he0] at HC0
    have HE0 := Lib.hid he0
    clear he0
    go_wp2_with fail
    refine HC0.out.mono ?_
    rintro e z0 ⟨rfl, hk0, hg0⟩
    simp only at hk0 ⊢
    have HIa0 := Lib.hid (HI5.out.grown hg0 (by intro h; injection h with h; omega))
    have HFa0 := Lib.hid (HF5.out.grown hg0 (by intro h; injection h with h; omega))
    have HGa0 := Lib.hid (HG5.out.trans hg0)
    have HKa0 := Lib.hid hk0
    clear hk0 hg0 x0 x1 x2 x3 x4 xz
    obtain ⟨x0, x1, x2, x3, x4, xf0, xf1, xf2, xf3, xf4, xz⟩ := HIa0.out.c5
    go_upto_region 9 with (fail)
    obtain ⟨Y0, hY0⟩ : ∃ Y, Y = z0.setCell ⟨gx, 1, none⟩ (.int .i64 (v0 : Int)) := ⟨_, rfl⟩
    rw [← hY0]
    have HIb0 : Hid (Blk Y0 gx 58 #[.int .i64 (on : Int), .int .i64 (v0 : Int), .int .i64 0, .int .i64 0, .int .u64 0]) := Lib.hid (by rw [hY0]; exact HIa0.out.set_ 1 _)
    have HFb0 : Hid (Blk Y0 g2 58 #[.int .i64 0, .int .i64 0, .int .i64 0, .int .i64 0, .int .u64 0]) := Lib.hid (by rw [hY0]; exact HFa0.out.far (by simp; omega) _)
    have HKb0 : Hid (Blk Y0 gr 85 #[.slice (some ad) n c, .int .i64 (q0 : Int), .bool b0]) := Lib.hid (by rw [hY0]; exact HKa0.out.far (by simpa using hrx) _)
    have HGb0 : Hid (w.grownBy Y0 (some gr)) := Lib.hid (by rw [hY0]; exact grown_set' HGa0.out hwx _)
    clear hY0 HIa0 HFa0 HKa0 HGa0 x0 x1 x2 x3 x4 xf0 xf1 xf2 xf3 xf4 xz HR5 HF5 HI5 HG5 HC0
    obtain ⟨x0, x1, x2, x3, x4, -, -, -, -, -, xz⟩ := HIb0.out.c5
    obtain ⟨v1, q1, b1, he1⟩ : ∃ v q b, upPQ l 2147483647 q0 b0 = (v, q, b) := ⟨_, _, _, rfl⟩
    have HC1 := Lib.hid (HNU.out Y0 q0 b0 HKb0.out HGb0.out hq0)
    have hq1 : q1 ≤ 2000000 := by have := HUP.out q0 b0 hq0; rw [he1] at this; exact this
    rw [he1] at HC1
    have HE1 := Lib.hid he1
    clear he1
    go_wp2_with fail
    refine HC1.out.mono ?_
    rintro e z1 ⟨rfl, hk1, hg1⟩
    simp only at hk1 ⊢
    have HIa1 := Lib.hid (HIb0.out.grown hg1 (by intro h; injection h with h; omega))
    have HFa1 := Lib.hid (HFb0.out.grown hg1 (by intro h; injection h with h; omega))
    have HGa1 := Lib.hid (HGb0.out.trans hg1)
    have HKa1 := Lib.hid hk1
    clear hk1 hg1 x0 x1 x2 x3 x4 xz
    obtain ⟨x0, x1, x2, x3, x4, xf0, xf1, xf2, xf3, xf4, xz⟩ := HIa1.out.c5
    go_upto_region 11 with (fail)
    obtain ⟨Y1, hY1⟩ : ∃ Y, Y = z1.setCell ⟨gx, 2, none⟩ (.int .i64 (v1 : Int)) := ⟨_, rfl⟩
    rw [← hY1]
    have HIb1 : Hid (Blk Y1 gx 58 #[.int .i64 (on : Int), .int .i64 (v0 : Int), .int .i64 (v1 : Int), .int .i64 0, .int .u64 0]) := Lib.hid (by rw [hY1]; exact HIa1.out.set_ 2 _)
    have HFb1 : Hid (Blk Y1 g2 58 #[.int .i64 0, .int .i64 0, .int .i64 0, .int .i64 0, .int .u64 0]) := Lib.hid (by rw [hY1]; exact HFa1.out.far (by simp; omega) _)
    have HKb1 : Hid (Blk Y1 gr 85 #[.slice (some ad) n c, .int .i64 (q1 : Int), .bool b1]) := Lib.hid (by rw [hY1]; exact HKa1.out.far (by simpa using hrx) _)
    have HGb1 : Hid (w.grownBy Y1 (some gr)) := Lib.hid (by rw [hY1]; exact grown_set' HGa1.out hwx _)
    clear hY1 HIa1 HFa1 HKa1 HGa1 x0 x1 x2 x3 x4 xf0 xf1 xf2 xf3 xf4 xz HKb0 HFb0 HIb0 HGb0 HC1
    obtain ⟨x0, x1, x2, x3, x4, -, -, -, -, -, xz⟩ := HIb1.out.c5
    have HEND : Hid (insPQ l p true = (⟨(on : Int), (v0 : Int), (v1 : Int), 0, 0⟩, q1, b1)) := Lib.hid (by
      rw [HE.out]
      unfold insRQ
      simp only [hkk, him]
      have g0 : upPQ l M31 p1 true = (v0, q0, b0) := HE0.out
      have g1 : upPQ l M31 q0 b0 = (v1, q1, b1) := HE1.out
      simp [opsPQ, immPQ, insO, g0, g1])
    clear x0 x1 x2 x3 x4 xz
    obtain ⟨x0, x1, x2, x3, x4, -, -, -, -, -, xz⟩ := HIb1.out.c5
    obtain ⟨d0, d1, d2, d3, d4, f0, f1, f2, f3, f4, dz⟩ := HFb1.out.c5
    have HFI := Lib.hid (rid_end (x := ⟨(on : Int), (v0 : Int), (v1 : Int), 0, 0⟩) HKb1.out HFb1.out HGb1.out hwg)
    have HPU := Lib.hid (blk_put5 HFb1.out (.int .i64 (on : Int)) (.int .i64 (v0 : Int)) (.int .i64 (v1 : Int)) (.int .i64 0) (.int .u64 0))
    rw [← HEND.out] at HFI
    clear hu1 hu2 hu3 hu4 hkk him
    go_wp2
    obtain ⟨u0, u1, u2, u3, u4, -⟩ := HPU.out.c5
    exact bodyPost_ret (v := .agg #[.int .i64 (on : Int), .int .i64 (v0 : Int), .int .i64 (v1 : Int), .int .i64 0, .int .u64 0]) (by simp [results, Tryd.results51, go_sem, u0, u1, u2, u3, u4]) rfl HFI.out
  · have hu1 : (useT (on : Int)).1 = true := by unfold useT; rw [hkk]; rfl
    have hu2 : (useT (on : Int)).2.1 = true := by unfold useT; rw [hkk]; rfl
    have hu3 : (useT (on : Int)).2.2.1 = true := by unfold useT; rw [hkk]; rfl
    have hu4 : (useT (on : Int)).2.2.2 = false := him
    obtain ⟨x0, x1, x2, x3, x4, -, -, -, -, -, xz⟩ := HI5.out.c5
    go_wp2_with fail
    refine (HOP.out _).mono ?_
    rintro e w6 ⟨rfl, rfl⟩
    simp only [hu1, hu2, hu3, hu4]
    obtain ⟨v0, q0, b0, he0⟩ : ∃ v q b, upPQ l 2147483647 p1 true = (v, q, b) := ⟨_, _, _, rfl⟩
    have HC0 := Lib.hid (HNU.out W5 p1 true HR5.out HG5.out hp12)
    have hq0 : q0 ≤ 2000000 := by have := HUP.out p1 true hp12; rw [he0] at this; exact this
    rw [he0] at HC0
    have HE0 := Lib.hid he0
    clear he0
    go_wp2_with fail
    refine HC0.out.mono ?_
    rintro e z0 ⟨rfl, hk0, hg0⟩
    simp only at hk0 ⊢
    have HIa0 := Lib.hid (HI5.out.grown hg0 (by intro h; injection h with h; omega))
    have HFa0 := Lib.hid (HF5.out.grown hg0 (by intro h; injection h with h; omega))
    have HGa0 := Lib.hid (HG5.out.trans hg0)
    have HKa0 := Lib.hid hk0
    clear hk0 hg0 x0 x1 x2 x3 x4 xz
    obtain ⟨x0, x1, x2, x3, x4, xf0, xf1, xf2, xf3, xf4, xz⟩ := HIa0.out.c5
    go_upto_region 9 with (fail)
    obtain ⟨Y0, hY0⟩ : ∃ Y, Y = z0.setCell ⟨gx, 1, none⟩ (.int .i64 (v0 : Int)) := ⟨_, rfl⟩
    rw [← hY0]
    have HIb0 : Hid (Blk Y0 gx 58 #[.int .i64 (on : Int), .int .i64 (v0 : Int), .int .i64 0, .int .i64 0, .int .u64 0]) := Lib.hid (by rw [hY0]; exact HIa0.out.set_ 1 _)
    have HFb0 : Hid (Blk Y0 g2 58 #[.int .i64 0, .int .i64 0, .int .i64 0, .int .i64 0, .int .u64 0]) := Lib.hid (by rw [hY0]; exact HFa0.out.far (by simp; omega) _)
    have HKb0 : Hid (Blk Y0 gr 85 #[.slice (some ad) n c, .int .i64 (q0 : Int), .bool b0]) := Lib.hid (by rw [hY0]; exact HKa0.out.far (by simpa using hrx) _)
    have HGb0 : Hid (w.grownBy Y0 (some gr)) := Lib.hid (by rw [hY0]; exact grown_set' HGa0.out hwx _)
    clear hY0 HIa0 HFa0 HKa0 HGa0 x0 x1 x2 x3 x4 xf0 xf1 xf2 xf3 xf4 xz HR5 HF5 HI5 HG5 HC0
    obtain ⟨x0, x1, x2, x3, x4, -, -, -, -, -, xz⟩ := HIb0.out.c5
    obtain ⟨v1, q1, b1, he1⟩ : ∃ v q b, upPQ l 2147483647 q0 b0 = (v, q, b) := ⟨_, _, _, rfl⟩
    have HC1 := Lib.hid (HNU.out Y0 q0 b0 HKb0.out HGb0.out hq0)
    have hq1 : q1 ≤ 2000000 := by have := HUP.out q0 b0 hq0; rw [he1] at this; exact this
    rw [he1] at HC1
    have HE1 := Lib.hid he1
    clear he1
    go_wp2_with fail
    refine HC1.out.mono ?_
    rintro e z1 ⟨rfl, hk1, hg1⟩
    simp only at hk1 ⊢
    have HIa1 := Lib.hid (HIb0.out.grown hg1 (by intro h; injection h with h; omega))
    have HFa1 := Lib.hid (HFb0.out.grown hg1 (by intro h; injection h with h; omega))
    have HGa1 := Lib.hid (HGb0.out.trans hg1)
    have HKa1 := Lib.hid hk1
    clear hk1 hg1 x0 x1 x2 x3 x4 xz
    obtain ⟨x0, x1, x2, x3, x4, xf0, xf1, xf2, xf3, xf4, xz⟩ := HIa1.out.c5
    go_upto_region 11 with (fail)
    obtain ⟨Y1, hY1⟩ : ∃ Y, Y = z1.setCell ⟨gx, 2, none⟩ (.int .i64 (v1 : Int)) := ⟨_, rfl⟩
    rw [← hY1]
    have HIb1 : Hid (Blk Y1 gx 58 #[.int .i64 (on : Int), .int .i64 (v0 : Int), .int .i64 (v1 : Int), .int .i64 0, .int .u64 0]) := Lib.hid (by rw [hY1]; exact HIa1.out.set_ 2 _)
    have HFb1 : Hid (Blk Y1 g2 58 #[.int .i64 0, .int .i64 0, .int .i64 0, .int .i64 0, .int .u64 0]) := Lib.hid (by rw [hY1]; exact HFa1.out.far (by simp; omega) _)
    have HKb1 : Hid (Blk Y1 gr 85 #[.slice (some ad) n c, .int .i64 (q1 : Int), .bool b1]) := Lib.hid (by rw [hY1]; exact HKa1.out.far (by simpa using hrx) _)
    have HGb1 : Hid (w.grownBy Y1 (some gr)) := Lib.hid (by rw [hY1]; exact grown_set' HGa1.out hwx _)
    clear hY1 HIa1 HFa1 HKa1 HGa1 x0 x1 x2 x3 x4 xf0 xf1 xf2 xf3 xf4 xz HKb0 HFb0 HIb0 HGb0 HC1
    obtain ⟨x0, x1, x2, x3, x4, -, -, -, -, -, xz⟩ := HIb1.out.c5
    obtain ⟨v2, q2, b2, he2⟩ : ∃ v q b, upPQ l 2147483647 q1 b1 = (v, q, b) := ⟨_, _, _, rfl⟩
    have HC2 := Lib.hid (HNU.out Y1 q1 b1 HKb1.out HGb1.out hq1)
    have hq2 : q2 ≤ 2000000 := by have := HUP.out q1 b1 hq1; rw [he2] at this; exact this
    rw [he2] at HC2
    have HE2 := Lib.hid he2
    clear he2
    go_wp2_with fail
    refine HC2.out.mono ?_
    rintro e z2 ⟨rfl, hk2, hg2⟩
    simp only at hk2 ⊢
    have HIa2 := Lib.hid (HIb1.out.grown hg2 (by intro h; injection h with h; omega))
    have HFa2 := Lib.hid (HFb1.out.grown hg2 (by intro h; injection h with h; omega))
    have HGa2 := Lib.hid (HGb1.out.trans hg2)
    have HKa2 := Lib.hid hk2
    clear hk2 hg2 x0 x1 x2 x3 x4 xz
    obtain ⟨x0, x1, x2, x3, x4, xf0, xf1, xf2, xf3, xf4, xz⟩ := HIa2.out.c5
    go_upto_region 13 with (fail)
    obtain ⟨Y2, hY2⟩ : ∃ Y, Y = z2.setCell ⟨gx, 3, none⟩ (.int .i64 (v2 : Int)) := ⟨_, rfl⟩
    rw [← hY2]
    have HIb2 : Hid (Blk Y2 gx 58 #[.int .i64 (on : Int), .int .i64 (v0 : Int), .int .i64 (v1 : Int), .int .i64 (v2 : Int), .int .u64 0]) := Lib.hid (by rw [hY2]; exact HIa2.out.set_ 3 _)
    have HFb2 : Hid (Blk Y2 g2 58 #[.int .i64 0, .int .i64 0, .int .i64 0, .int .i64 0, .int .u64 0]) := Lib.hid (by rw [hY2]; exact HFa2.out.far (by simp; omega) _)
    have HKb2 : Hid (Blk Y2 gr 85 #[.slice (some ad) n c, .int .i64 (q2 : Int), .bool b2]) := Lib.hid (by rw [hY2]; exact HKa2.out.far (by simpa using hrx) _)
    have HGb2 : Hid (w.grownBy Y2 (some gr)) := Lib.hid (by rw [hY2]; exact grown_set' HGa2.out hwx _)
    clear hY2 HIa2 HFa2 HKa2 HGa2 x0 x1 x2 x3 x4 xf0 xf1 xf2 xf3 xf4 xz HKb1 HFb1 HIb1 HGb1 HC2
    obtain ⟨x0, x1, x2, x3, x4, -, -, -, -, -, xz⟩ := HIb2.out.c5
    have HEND : Hid (insPQ l p true = (⟨(on : Int), (v0 : Int), (v1 : Int), (v2 : Int), 0⟩, q2, b2)) := Lib.hid (by
      rw [HE.out]
      unfold insRQ
      simp only [hkk, him]
      have g0 : upPQ l M31 p1 true = (v0, q0, b0) := HE0.out
      have g1 : upPQ l M31 q0 b0 = (v1, q1, b1) := HE1.out
      have g2 : upPQ l M31 q1 b1 = (v2, q2, b2) := HE2.out
      simp [opsPQ, immPQ, insO, g0, g1, g2])
    clear x0 x1 x2 x3 x4 xz
    obtain ⟨x0, x1, x2, x3, x4, -, -, -, -, -, xz⟩ := HIb2.out.c5
    obtain ⟨d0, d1, d2, d3, d4, f0, f1, f2, f3, f4, dz⟩ := HFb2.out.c5
    have HFI := Lib.hid (rid_end (x := ⟨(on : Int), (v0 : Int), (v1 : Int), (v2 : Int), 0⟩) HKb2.out HFb2.out HGb2.out hwg)
    have HPU := Lib.hid (blk_put5 HFb2.out (.int .i64 (on : Int)) (.int .i64 (v0 : Int)) (.int .i64 (v1 : Int)) (.int .i64 (v2 : Int)) (.int .u64 0))
    rw [← HEND.out] at HFI
    clear hu1 hu2 hu3 hu4 hkk him
    go_wp2
    obtain ⟨u0, u1, u2, u3, u4, -⟩ := HPU.out.c5
    exact bodyPost_ret (v := .agg #[.int .i64 (on : Int), .int .i64 (v0 : Int), .int .i64 (v1 : Int), .int .i64 (v2 : Int), .int .u64 0]) (by simp [results, Tryd.results51, go_sem, u0, u1, u2, u3, u4]) rfl HFI.out
end Go.Proofs.YtinfeglhjmnlaaaDoor.pm