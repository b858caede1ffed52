/- MachStaysInside: the walk of the law. -/
import Derived.Test.YtmeoabpigibaoaaGKx
import Derived.Test.YtmeoabpigibaoaaKo
import Derived.Deep.RegionHeld3
import Derived.BigQuiet
import Derived.Deep.QuietTactic
import Derived.ShutString
import Derived.ChangeOld
namespace Go.Proofs.Ytmeoabpigibaoaa.pm
open Go.RowKit
set_option linter.unusedVariables false
set_option maxRecDepth 10000
theorem tgE_zero {al : Int} {t : List Fr} (h : tgE al t = 0) : (∀ f ∈ t, frE t.length al f = 0) ∧ (∀ f ∈ t, ∀ x ∈ f.code, roomB t f.size x = true) := by
  unfold tgE at h
  split at h
  · omega
  split at h
  · omega
  split at h
  · omega
  split at h
  · omega
  split at h
  · exact absurd h ‹_›
  split at h
  · rename_i h1 h2 h3 h4 h5 h6
    exact ⟨fun f hf => firstE_mem (by simpa using h5) _ (List.mem_map_of_mem hf), fun f hf x hx => List.all_eq_true.1 (List.all_eq_true.1 h6 f hf) x hx⟩
  · omega
set_option maxHeartbeats 8000000 in
theorem msi_law (A : Option Addr) (n c : Nat) (l : List Nat) (w : World) (hb : Bs w w.heap.size A n l) (hn : n ≤ maxLen) (hc : n ≤ c) :
    Calls Try.prog 3 #[.slice A n c] w fun e w' => e = .returned (.bool true) ∧ Below w.heap.size w w' := by
  have HB := Lib.hid hb
  clear hb
  go_enter Try.func3, Try.ntmps3
  go_wp2_with fail
  refine (awake10 _).mono ?_
  rintro e w1 ⟨rfl, b1⟩
  have HB1 := Lib.hid b1
  have hs1 := b1.size
  have HBS1 : Hid (Bs w1 w1.heap.size A n l) := Lib.hid ((HB.out.below b1).more hs1)
  clear b1
  go_wp2_with fail
  refine (newcodes_any A n c l 250 _ hn hc (by omega)).mono ?_
  rintro e w2 ⟨rfl, hw2⟩
  have HC2 : Hid (CodesAt w2 w1.heap.size w1.heap.size A (min n 250) c (l.take (min n 250)) 0) := Lib.hid (by
    rw [hw2]
    exact ⟨Blk.newAt rfl, ((HBS1.out.take (Nat.min_le_left _ _)).alloc (by omega) _), Nat.zero_le _, Nat.le_refl _, by omega⟩)
  have HB2 : Hid (Below w.heap.size w w2) := Lib.hid (by rw [hw2]; exact HB1.out.alloc (by omega) _)
  have hs2 : w2.heap.size = w1.heap.size + 1 := by rw [hw2]; simp
  generalize min n 250 = m at *
  generalize l.take m = l' at *
  clear hw2 HBS1
  go_wp2_with fail
  refine (target_d _ _ _ _ _ _ _ 4 10 _ HC2.out (by omega) (by omega) (by omega)).mono ?_
  rintro e w3 ⟨ax, x0, Ax, cx, p3, rfl, htx, hgx, hcx, c3, g3⟩
  have HC3 := Lib.hid c3
  have HGX := Lib.hid hgx
  have HTP := Lib.hid htx
  have HB3 : Hid (Below w.heap.size w w3) := Lib.hid (HB2.out.trans (below_of_grown g3 hs1 HB2.out.size))
  have hs3 : w2.heap.size ≤ w3.heap.size := g3.size
  clear c3 g3 hgx htx HC2
  go_wp2_with fail
  refine (oddtarget_d _ _ _ _ _ _ _ _ ax x0 Ax cx w2.heap.size w3.heap.size _ HC3.out HTP.out (by omega) HGX.out (by omega) (by omega) (by omega)).mono ?_
  rintro e w4 ⟨al, t, At, ct, p4, rfl, hts, htl, hgt, htc, c4, g4⟩
  have HTR := Lib.hid hts.tgr
  have ht4 : t.length ≤ 4 := by rw [htl]; exact HTP.out.2.2.1
  have HG4 := Lib.hid hgt
  have HB4 : Hid (Below w.heap.size w w4) := Lib.hid (HB3.out.trans (below_of_grown g4 hs1 HB3.out.size))
  have hs4 : w3.heap.size ≤ w4.heap.size := g4.size
  clear c4 g4 hts htl hgt HC3 HGX HTP HB3 HB2
  go_upto_region 5 with (fail)
  obtain ⟨W5, hW5⟩ : ∃ W5, W5 = w4.alloc (.cells #[.int .i64 al, .slice At t.length ct] 28) := ⟨_, rfl⟩
  rw [← hW5]
  have HT : Hid (Blk W5 w4.heap.size 28 #[.int .i64 al, .slice At t.length ct]) := Lib.hid (by rw [hW5]; exact Blk.new _ _ _)
  have hB5 : Below w4.heap.size w4 W5 := by rw [hW5]; exact (Below.refl _ _).alloc (Nat.le_refl _) _
  have HB5 : Hid (Below w.heap.size w W5) := Lib.hid (HB4.out.trans (hB5.mono HB4.out.size))
  have HG : Hid (Gx W5 0 W5.heap.size At t) := Lib.hid ((HG4.out.keep (Kp.of_below hB5 (Nat.le_refl _))).more (Nat.zero_le _) hB5.size)
  obtain ⟨g4, hg4⟩ : ∃ g, g = w4.heap.size := ⟨_, rfl⟩
  rw [← hg4] at HT ⊢
  have hs5 := HB5.out.size
  have htm : t.length ≤ maxLen := by unfold maxLen; omega
  clear hW5 hB5 hg4 HG4 HB4 hs4 hs3 hs2
  have HC1 : Hid (∀ W, Below W5.heap.size W5 W → Calls Try.prog 8 #[.agg #[.int .i64 al, .slice At t.length ct]] W fun e w' => e = .returned (.int .i64 (tgE al t)) ∧ Below W5.heap.size W5 w') := Lib.hid (fun W h => (mcheck_any At ct HTR.out W 0 W5.heap.size (HG.out.keep (Kp.of_below h (Nat.le_refl _))) h.size htm).mono fun e w' ⟨a, b⟩ => ⟨a, h.trans (b.mono h.size)⟩)
  have HC2 : Hid (∀ W, Below W5.heap.size W5 W → Calls Try.prog 9 #[.agg #[.int .i64 al, .slice At t.length ct]] W fun e w' => e = .returned (.int .i64 (tgE al t)) ∧ Below W5.heap.size W5 w') := Lib.hid (fun W h => (refcheck10_any At ct HTR.out W 0 W5.heap.size (HG.out.keep (Kp.of_below h (Nat.le_refl _))) h.size htm).mono fun e w' ⟨a, b⟩ => ⟨a, h.trans (b.mono h.size)⟩)
  obtain ⟨q0, q1, -, -, qz⟩ := HT.out.c2
  go_wp2_with fail
  refine (HC1.out _ (Below.refl _ _)).mono ?_
  rintro e w6 ⟨rfl, b6⟩
  have HB6 := Lib.hid b6
  have hs6 : W5.heap.size ≤ w6.heap.size := b6.size
  clear b6 q0 q1 qz
  obtain ⟨q0, q1, -, -, qz⟩ := (HT.out.after HB6.out).c2
  by_cases hE : tgE al t = 0
  case neg =>
    obtain ⟨E, hEE⟩ : ∃ E, E = tgE al t := ⟨_, rfl⟩
    rw [← hEE] at HC1 HC2 hE ⊢
    have hne : (E != 0) = true := by simpa using hE
    have HKS : Hid (∀ W, Below W5.heap.size W5 W → (W.cell? ⟨g4, 0, none⟩ = some (.int .i64 al) ∧ W.cell? ⟨g4, 1, none⟩ = some (.slice At t.length ct)) ∧ Below W5.heap.size W5 W) := Lib.hid (fun W h => by
      obtain ⟨a, b, -⟩ := (HT.out.after h).c2
      exact ⟨⟨a, b⟩, h⟩)
    have HD0 : Hid (Below W5.heap.size W5 w6.drew) := Lib.hid (HB6.out.drew)
    clear hEE hE q0 q1
    obtain ⟨⟨q0, q1⟩, -⟩ := HKS.out _ HD0.out
    go_upto_region 6 with (fail)
    go_region_held3 (fun W => (W.cell? ⟨g4, 0, none⟩ = some (.int .i64 al) ∧ W.cell? ⟨g4, 1, none⟩ = some (.slice At t.length ct)) ∧ Below W5.heap.size W5 W)
      (first | exact HKS.out _ HA1.out | exact HKS.out _ HA2.out | exact HKS.out _ HD0.out)
      (first
      | (go_at_call 8; (with_reducible refine (HC1.out _ HD0.out).mono ?_); rintro e v1 ⟨rfl, bv1⟩; have HA1 := Lib.hid bv1; clear bv1)
      | (go_at_call 8; (with_reducible refine (HC1.out _ HA2.out).mono ?_); rintro e v1 ⟨rfl, bv1⟩; have HA1 := Lib.hid bv1; clear bv1)
      | (go_at_call 9; (with_reducible refine (HC2.out _ HD0.out).mono ?_); rintro e v2 ⟨rfl, bv2⟩; have HA2 := Lib.hid bv2; clear bv2)
      | (go_at_call 9; (with_reducible refine (HC2.out _ HA1.out).mono ?_); rintro e v2 ⟨rfl, bv2⟩; have HA2 := Lib.hid bv2; clear bv2))
    all_goals go_wp2
    all_goals go_ret
    all_goals first
      | exact ⟨ret_bool (by simp), HB5.out.trans (HA2.out.mono hs5)⟩
      | exact ⟨ret_bool (by simp), HB5.out.trans (HA1.out.mono hs5)⟩
  case pos =>
  have HZ0 := Lib.hid (tgE_zero hE)
  rw [hE]
  have HTL := Lib.hid ht4
  have hti : (t.length : Int) ≤ 4 := by omega
  clear hE HC1 HC2
  go_wp2
  go_loopw [5] (fun v wr => ∃ k : Nat, k ≤ t.length ∧ v = .int .i64 k ∧ Hid (Below W5.heap.size W5 wr)) (fun v _ => t.length - (intOf v).toNat)
  case atStart => exact ⟨0, by omega, rfl, HB6⟩
  case round =>
    clear q0 q1 qz
    obtain ⟨k, hk, rfl, HBr⟩ := hrel
    have hk0 : (0 : Int) ≤ (k : Int) := by omega
    have hszr := HBr.out.size
    obtain ⟨q0, q1, -, -, qz⟩ := (HT.out.after HBr.out).c2
    by_cases hlt : k < t.length
    · have hki : (k : Int) < (t.length : Int) := by omega
      obtain ⟨ad, Ai, ci, rfl, hbl, c0, c1, c2, -, -, nx, hn1, hn2⟩ := (HG.out.keep (Kp.of_below HBr.out (Nat.le_refl _))).whole hlt
      have hfm : t.getD k Fr.z ∈ t := getD_mem' hlt
      have hfe := HZ0.out.1 _ hfm
      have hro := HZ0.out.2 _ hfm
      obtain ⟨f, hff⟩ : ∃ f, f = t.getD k Fr.z := ⟨_, rfl⟩
      rw [← hff] at c0 c1 c2 nx hn1 hn2 hfe hro
      clear hff hfm
      obtain ⟨prm, sz, code⟩ := f
      simp only at c0 c1 c2 hn1 hn2 hro
      obtain ⟨hsh, hcl, hin, -⟩ := frE_ok hfe
      obtain ⟨-, hp, hz, -⟩ := shB_ok hsh
      simp only at hcl hin hp hz
      obtain ⟨hp0, hp1⟩ := hp
      obtain ⟨hz0, hz1⟩ := hz
      have HIN : Hid (∀ x ∈ code, GX t.length prm sz code.length x) := Lib.hid (fun x hx => inE_gx (hin x hx))
      have HRO := Lib.hid hro
      have HN := Lib.hid nx
      have hci : (code.length : Int) ≤ 1024 := by omega
      clear hfe hsh hcl hin hro nx
      go_upto_region 11 with (fail)
      obtain ⟨W7, hW7⟩ : ∃ W7, W7 = wr.alloc (.cells #[.int .i64 prm, .int .i64 sz, .slice Ai code.length ci] 35) := ⟨_, rfl⟩
      rw [← hW7]
      have HKF : Hid (Blk W7 wr.heap.size 35 #[.int .i64 prm, .int .i64 sz, .slice Ai code.length ci]) := Lib.hid (by rw [hW7]; exact Blk.new _ _ _)
      have hB7 : Below wr.heap.size wr W7 := by rw [hW7]; exact (Below.refl _ _).alloc (Nat.le_refl _) _
      have HB7 : Hid (Below W5.heap.size W5 W7) := Lib.hid (HBr.out.trans (hB7.mono hszr))
      have HN7 := Lib.hid (HN.out.keep (Kp.of_below hB7 (by omega)))
      have hs7 := HB7.out.size
      obtain ⟨g6, hg6⟩ : ∃ g, g = wr.heap.size := ⟨_, rfl⟩
      rw [← hg6] at HKF ⊢
      clear hW7 hB7 hg6 HN c0 c1 c2 q0 q1 qz HBr hszr
      generalize wr = wo at *
      go_wp2
      go_loopw [7] (fun v wr => ∃ j : Nat, j ≤ code.length ∧ v = .int .i64 j ∧ Hid (Below W7.heap.size W7 wr)) (fun v _ => code.length - (intOf v).toNat)
      case atStart => exact ⟨0, by omega, rfl, Lib.hid (Below.refl _ _)⟩
      case round =>
        obtain ⟨j, hj, rfl, HBi⟩ := hrel
        have hj0 : (0 : Int) ≤ (j : Int) := by omega
        have hszi := HBi.out.size
        obtain ⟨f0, f1, f2, -, -, -, fz⟩ := (HKF.out.after HBi.out).c3
        by_cases hjl : j < code.length
        · have hji : (j : Int) < (code.length : Int) := by omega
          obtain ⟨a1, rfl, hb1, y0, y1, y2, y3, y4⟩ := (HN7.out.keep (Kp.of_below HBi.out (by omega))).whole hjl
          have hxm : code.getD j Ins.z ∈ code := getD_mem' hjl
          have hgx := HIN.out _ hxm
          have hrm := HRO.out _ hxm
          obtain ⟨x, hx⟩ : ∃ x, x = code.getD j Ins.z := ⟨_, rfl⟩
          rw [← hx] at y0 y1 y2 y3 y4 hgx hrm
          clear hx hxm
          obtain ⟨op, xa, xb, xc, im⟩ := x
          simp only at y0 y1 y2 y3 y4
          have hb2 : (a1.add (j * 5)).block < wr.heap.size := by rw [block_of_add]; omega
          have HGX := Lib.hid hgx
          have HRM := Lib.hid hrm
          obtain ⟨ra, rb, rr, hr⟩ : ∃ ra rb rr, rdP ⟨op, xa, xb, xc, im⟩ = (ra, rb, rr) := ⟨_, _, _, rfl⟩
          obtain ⟨va, vb, vr, hv⟩ : ∃ va vb vr, wrP ⟨op, xa, xb, xc, im⟩ = (va, vb, vr) := ⟨_, _, _, rfl⟩
          have HRV := Lib.hid hr
          have HWV := Lib.hid hv
          have HCR : Hid (∀ W, Calls Try.prog 10 #[.agg #[.int .i64 prm, .int .i64 sz, .slice (some a1) code.length ci], .agg #[.int .i64 op, .int .i64 xa, .int .i64 xb, .int .i64 xc, .int .u64 im]] W fun e w' => e = .returned (.tuple #[.agg #[.int .i64 ra, .int .i64 rb], .bool rr]) ∧ Below W.heap.size W w') := Lib.hid (fun W => by have h := mreads_any (.int .i64 prm) (.int .i64 sz) (.slice (some a1) code.length ci) ⟨op, xa, xb, xc, im⟩ W; rw [hr] at h; exact h)
          have HCW : Hid (∀ W, Calls Try.prog 11 #[.agg #[.int .i64 prm, .int .i64 sz, .slice (some a1) code.length ci], .agg #[.int .i64 op, .int .i64 xa, .int .i64 xb, .int .i64 xc, .int .u64 im]] W fun e w' => e = .returned (.tuple #[.agg #[.int .i64 va, .int .i64 vb], .bool vr]) ∧ Below W.heap.size W w') := Lib.hid (fun W => by have h := mwrites_any (.int .i64 prm) (.int .i64 sz) (.slice (some a1) code.length ci) ⟨op, xa, xb, xc, im⟩ W; rw [hv] at h; exact h)
          clear hr hv hgx hrm
          have HY : Hid (∀ W, Below W7.heap.size W7 W → W.cell? (a1.add (j * 5)) = some (.int .i64 op) ∧ W.cell? ⟨(a1.add (j * 5)).block, (a1.add (j * 5)).off + 1, none⟩ = some (.int .i64 xa) ∧ W.cell? ⟨(a1.add (j * 5)).block, (a1.add (j * 5)).off + 2, none⟩ = some (.int .i64 xb) ∧ W.cell? ⟨(a1.add (j * 5)).block, (a1.add (j * 5)).off + 3, none⟩ = some (.int .i64 xc) ∧ W.cell? ⟨(a1.add (j * 5)).block, (a1.add (j * 5)).off + 4, none⟩ = some (.int .u64 im)) := Lib.hid (fun W h => by
            have hlt7 : ∀ o, (⟨(a1.add (j * 5)).block, o, none⟩ : Addr).block < W7.heap.size := fun o => by show (a1.add (j * 5)).block < _; rw [block_of_add]; omega
            have hlt7' : (a1.add (j * 5)).block < W7.heap.size := hlt7 0
            exact ⟨(h.cell hlt7').trans ((HBi.out.cell hlt7').symm.trans y0), (h.cell (hlt7 _)).trans ((HBi.out.cell (hlt7 _)).symm.trans y1), (h.cell (hlt7 _)).trans ((HBi.out.cell (hlt7 _)).symm.trans y2), (h.cell (hlt7 _)).trans ((HBi.out.cell (hlt7 _)).symm.trans y3), (h.cell (hlt7 _)).trans ((HBi.out.cell (hlt7 _)).symm.trans y4)⟩)
          have HKL : Hid (∀ W, Below wr.heap.size wr W → (W.cell? ⟨g6, 0, none⟩ = some (.int .i64 prm) ∧ W.cell? ⟨g6, 1, none⟩ = some (.int .i64 sz) ∧ W.cell? ⟨g6, 2, none⟩ = some (.slice (some a1) code.length ci)) ∧ (W.cell? (a1.add (j * 5)) = some (.int .i64 op) ∧ W.cell? ⟨(a1.add (j * 5)).block, (a1.add (j * 5)).off + 1, none⟩ = some (.int .i64 xa) ∧ W.cell? ⟨(a1.add (j * 5)).block, (a1.add (j * 5)).off + 2, none⟩ = some (.int .i64 xb) ∧ W.cell? ⟨(a1.add (j * 5)).block, (a1.add (j * 5)).off + 3, none⟩ = some (.int .i64 xc) ∧ W.cell? ⟨(a1.add (j * 5)).block, (a1.add (j * 5)).off + 4, none⟩ = some (.int .u64 im))) := Lib.hid (fun W h => ⟨⟨(h.cell (cell_lt f0)).trans f0, (h.cell (cell_lt f1)).trans f1, (h.cell (cell_lt f2)).trans f2⟩, (h.cell (cell_lt y0)).trans y0, (h.cell (cell_lt y1)).trans y1, (h.cell (cell_lt y2)).trans y2, (h.cell (cell_lt y3)).trans y3, (h.cell (cell_lt y4)).trans y4⟩)
          have HD1 : Hid (Below wr.heap.size wr wr.drew) := Lib.hid ((Below.refl _ _).drew)
          go_upto_region 14 with (fail)
          clear f0 f1 f2 y0 y1 y2 y3 y4
          go_cut [8, 9] (fun sp sb wx => ∃ q, sp = .pointer (some ⟨q, 0, none⟩) ∧ sb = .bool rr ∧ wr.heap.size ≤ q ∧ Hid (Blk wx q 37 #[.int .i64 ra, .int .i64 rb]) ∧ Hid (Below wr.heap.size wr wx))
          case first =>
            have HA : Hid (∀ W o, Below wr.heap.size wr W → Below wr.heap.size wr (W.alloc o)) := Lib.hid (fun W o h => h.alloc h.size o)
            have HX : Hid (∀ (W : World) (g : Nat) (u v : Value), wr.heap.size ≤ g → Below wr.heap.size wr W → Below wr.heap.size wr ((W.setCell ⟨g, 0, none⟩ u).setCell ⟨g, 1, none⟩ v)) := Lib.hid (fun W g u v hg h => (h.setCell (by simpa using hg) u).setCell (by simpa using hg) v)
            go_region_held3 (fun W => (W.cell? ⟨g6, 0, none⟩ = some (.int .i64 prm) ∧ W.cell? ⟨g6, 1, none⟩ = some (.int .i64 sz) ∧ W.cell? ⟨g6, 2, none⟩ = some (.slice (some a1) code.length ci)) ∧ (W.cell? (a1.add (j * 5)) = some (.int .i64 op) ∧ W.cell? ⟨(a1.add (j * 5)).block, (a1.add (j * 5)).off + 1, none⟩ = some (.int .i64 xa) ∧ W.cell? ⟨(a1.add (j * 5)).block, (a1.add (j * 5)).off + 2, none⟩ = some (.int .i64 xb) ∧ W.cell? ⟨(a1.add (j * 5)).block, (a1.add (j * 5)).off + 3, none⟩ = some (.int .i64 xc) ∧ W.cell? ⟨(a1.add (j * 5)).block, (a1.add (j * 5)).off + 4, none⟩ = some (.int .u64 im)))
              (with_reducible first | assumption | exact HKL.out _ HD1.out | exact HKL.out _ (HA.out _ _ HD1.out) | exact HKL.out _ (Hid.out (by assumption)) | exact HKL.out _ (HA.out _ _ (Hid.out (by assumption))) | exact HKL.out _ (HA.out _ _ (Below.refl _ _)).drew | exact HKL.out _ (HX.out _ _ _ _ (Nat.le_refl _) (Hid.out (by assumption))) | exact HKL.out _ (HX.out _ _ _ _ (Hid.out HB2).size (HA.out _ _ (Hid.out HB2))))
              (first
                | (go_at_call 10; refine (HCR.out _).mono ?_; rintro e w2 ⟨rfl, b2⟩; have HB2 : Hid (Below wr.heap.size wr w2) := (by first | exact Lib.hid (HD1.out.trans (b2.mono HD1.out.size)) | exact Lib.hid ((HA.out _ _ HD1.out).trans (b2.mono (HA.out _ _ HD1.out).size))); (try (have HKB : Hid (Blk w2 wr.heap.size 37 #[.int .i64 0, .int .i64 0]) := Lib.hid ((Blk.new wr.drew _ _).after b2))); (try (obtain ⟨z0, z1, gz0, gz1, zz⟩ := HKB.out.c2)); clear b2))
            all_goals go_wp2_with fail
            all_goals go_meet
            all_goals first
              | exact ⟨_, rfl, rfl, HB2.out.size, Lib.hid ((Blk.new w2 _ _).drew), Lib.hid (HA.out _ _ HB2.out).drew⟩
              | exact ⟨_, rfl, rfl, HB2.out.size, Lib.hid (Blk.new w2 _ _), Lib.hid (HA.out _ _ HB2.out)⟩
              | exact ⟨_, rfl, rfl, Nat.le_refl _, Lib.hid ((HKB.out.set_ 0 _).set_ 1 _), Lib.hid (HX.out _ _ _ _ (Nat.le_refl _) HB2.out)⟩
          case rest =>
          obtain ⟨hq8, rfl, rfl, hhq8, HQ8, HBWa0⟩ := hcut
          obtain ⟨Wa, hWa⟩ : ∃ W, W = wc := ⟨_, rfl⟩
          subst hWa
          have HBa : Hid (Below W7.heap.size W7 Wa) := Lib.hid (HBi.out.trans (HBWa0.out.mono hszi))
          obtain ⟨f0, f1, f2, -, -, -, fz⟩ := (HKF.out.after HBa.out).c3
          obtain ⟨y0, y1, y2, y3, y4⟩ := HY.out _ HBa.out
          clear HKL HD1
          have HKL : Hid (∀ W, Below Wa.heap.size Wa W → (W.cell? ⟨g6, 0, none⟩ = some (.int .i64 prm) ∧ W.cell? ⟨g6, 1, none⟩ = some (.int .i64 sz) ∧ W.cell? ⟨g6, 2, none⟩ = some (.slice (some a1) code.length ci)) ∧ (W.cell? (a1.add (j * 5)) = some (.int .i64 op) ∧ W.cell? ⟨(a1.add (j * 5)).block, (a1.add (j * 5)).off + 1, none⟩ = some (.int .i64 xa) ∧ W.cell? ⟨(a1.add (j * 5)).block, (a1.add (j * 5)).off + 2, none⟩ = some (.int .i64 xb) ∧ W.cell? ⟨(a1.add (j * 5)).block, (a1.add (j * 5)).off + 3, none⟩ = some (.int .i64 xc) ∧ W.cell? ⟨(a1.add (j * 5)).block, (a1.add (j * 5)).off + 4, none⟩ = some (.int .u64 im))) := Lib.hid (fun W h => ⟨⟨(h.cell (cell_lt f0)).trans f0, (h.cell (cell_lt f1)).trans f1, (h.cell (cell_lt f2)).trans f2⟩, (h.cell (cell_lt y0)).trans y0, (h.cell (cell_lt y1)).trans y1, (h.cell (cell_lt y2)).trans y2, (h.cell (cell_lt y3)).trans y3, (h.cell (cell_lt y4)).trans y4⟩)
          have HD1 : Hid (Below Wa.heap.size Wa Wa.drew) := Lib.hid ((Below.refl _ _).drew)
          go_upto_region 15 with (fail)
          clear f0 f1 f2 y0 y1 y2 y3 y4
          go_cut [10, 11] (fun sp sb wx => ∃ q, sp = .pointer (some ⟨q, 0, none⟩) ∧ sb = .bool vr ∧ Wa.heap.size ≤ q ∧ Hid (Blk wx q 37 #[.int .i64 va, .int .i64 vb]) ∧ Hid (Below Wa.heap.size Wa wx))
          case first =>
            have HA : Hid (∀ W o, Below Wa.heap.size Wa W → Below Wa.heap.size Wa (W.alloc o)) := Lib.hid (fun W o h => h.alloc h.size o)
            have HX : Hid (∀ (W : World) (g : Nat) (u v : Value), Wa.heap.size ≤ g → Below Wa.heap.size Wa W → Below Wa.heap.size Wa ((W.setCell ⟨g, 0, none⟩ u).setCell ⟨g, 1, none⟩ v)) := Lib.hid (fun W g u v hg h => (h.setCell (by simpa using hg) u).setCell (by simpa using hg) v)
            go_region_held3 (fun W => (W.cell? ⟨g6, 0, none⟩ = some (.int .i64 prm) ∧ W.cell? ⟨g6, 1, none⟩ = some (.int .i64 sz) ∧ W.cell? ⟨g6, 2, none⟩ = some (.slice (some a1) code.length ci)) ∧ (W.cell? (a1.add (j * 5)) = some (.int .i64 op) ∧ W.cell? ⟨(a1.add (j * 5)).block, (a1.add (j * 5)).off + 1, none⟩ = some (.int .i64 xa) ∧ W.cell? ⟨(a1.add (j * 5)).block, (a1.add (j * 5)).off + 2, none⟩ = some (.int .i64 xb) ∧ W.cell? ⟨(a1.add (j * 5)).block, (a1.add (j * 5)).off + 3, none⟩ = some (.int .i64 xc) ∧ W.cell? ⟨(a1.add (j * 5)).block, (a1.add (j * 5)).off + 4, none⟩ = some (.int .u64 im)))
              (with_reducible first | assumption | exact HKL.out _ HD1.out | exact HKL.out _ (HA.out _ _ HD1.out) | exact HKL.out _ (Hid.out (by assumption)) | exact HKL.out _ (HA.out _ _ (Hid.out (by assumption))) | exact HKL.out _ (HA.out _ _ (Below.refl _ _)).drew | exact HKL.out _ (HX.out _ _ _ _ (Nat.le_refl _) (Hid.out (by assumption))) | exact HKL.out _ (HX.out _ _ _ _ (Hid.out HB2).size (HA.out _ _ (Hid.out HB2))))
              (first
                | (go_at_call 11; refine (HCW.out _).mono ?_; rintro e w2 ⟨rfl, b2⟩; have HB2 : Hid (Below Wa.heap.size Wa w2) := (by first | exact Lib.hid (HD1.out.trans (b2.mono HD1.out.size)) | exact Lib.hid ((HA.out _ _ HD1.out).trans (b2.mono (HA.out _ _ HD1.out).size))); (try (have HKB : Hid (Blk w2 Wa.heap.size 37 #[.int .i64 0, .int .i64 0]) := Lib.hid ((Blk.new Wa.drew _ _).after b2))); (try (obtain ⟨z0, z1, gz0, gz1, zz⟩ := HKB.out.c2)); clear b2))
            all_goals go_wp2_with fail
            all_goals go_meet
            all_goals first
              | exact ⟨_, rfl, rfl, HB2.out.size, Lib.hid ((Blk.new w2 _ _).drew), Lib.hid (HA.out _ _ HB2.out).drew⟩
              | exact ⟨_, rfl, rfl, HB2.out.size, Lib.hid (Blk.new w2 _ _), Lib.hid (HA.out _ _ HB2.out)⟩
              | exact ⟨_, rfl, rfl, Nat.le_refl _, Lib.hid ((HKB.out.set_ 0 _).set_ 1 _), Lib.hid (HX.out _ _ _ _ (Nat.le_refl _) HB2.out)⟩
          case rest =>
          obtain ⟨hq10, rfl, rfl, hhq10, HQ10, HBWb0⟩ := hcut
          obtain ⟨Wb, hWb⟩ : ∃ W, W = wc := ⟨_, rfl⟩
          subst hWb
          have HBw : Hid (Below W7.heap.size W7 Wb) := Lib.hid (HBa.out.trans (HBWb0.out.mono HBa.out.size))
          have HBB : Hid (Below Wa.heap.size Wa Wb) := HBWb0
          clear HKL HD1
          have hcond : (rr = true → 0 ≤ ra ∧ 0 ≤ rb ∧ rb ≤ 16 ∧ ra + rb ≤ sz + 16 * prm) ∧ (vr = true → 0 ≤ va ∧ 0 ≤ vb ∧ vb ≤ 16 ∧ va + vb ≤ sz) := by
            have h1 := HRV.out
            have h2 := HWV.out
            have g := HGX.out
            unfold rdP at h1
            unfold wrP at h2
            dsimp only at h1 h2
            constructor
            · intro ht
              split at h1
              · rename_i ho
                have a1 := g.rd ho
                have a2 := g.sc (by dsimp only; omega)
                dsimp only at a1 a2
                obtain ⟨e1, h3⟩ := Prod.mk.inj h1
                obtain ⟨e2, -⟩ := Prod.mk.inj h3
                rw [← e1, ← e2]
                exact ⟨a1.1, by omega, a2.2.2, a1.2⟩
              · obtain ⟨-, h1⟩ := Prod.mk.inj h1
                obtain ⟨-, h1⟩ := Prod.mk.inj h1
                rw [ht] at h1; cases h1
            · intro ht
              split at h2
              · rename_i ho
                have a1 := g.wr ho
                have a2 := g.sc (by dsimp only; omega)
                dsimp only at a1 a2
                obtain ⟨e1, h3⟩ := Prod.mk.inj h2
                obtain ⟨e2, -⟩ := Prod.mk.inj h3
                rw [← e1, ← e2]
                exact ⟨a1.1, by omega, a2.2.2, a1.2⟩
              · obtain ⟨-, h2⟩ := Prod.mk.inj h2
                obtain ⟨-, h2⟩ := Prod.mk.inj h2
                rw [ht] at h2; cases h2
          have hw1 : IntKind.i64.wrap (16 * prm) = 16 * prm := IntWalk.i64_in _ (by omega)
          have hw2 : IntKind.i64.wrap (sz + 16 * prm) = sz + 16 * prm := IntWalk.i64_in _ (by omega)
          clear HRV HWV
          obtain ⟨f0, f1, f2, -, -, -, fz⟩ := (HKF.out.after HBw.out).c3
          obtain ⟨i0, i1, -, -, iz⟩ := (HQ8.out.after HBB.out).c2
          obtain ⟨j0, j1, -, -, jz⟩ := HQ10.out.c2
          obtain ⟨y0, y1, y2, y3, y4⟩ := HY.out _ HBw.out
          go_upto_region 16 with (fail)
          go_cut [105] (fun s wx => s = .bool false ∧ Wb = wx)
          case first =>
            clear y0 y1 y2 y3 y4
            rcases rr with _ | _
            · rcases vr with _ | _
              · go_wp2
                go_meet
                exact ⟨rfl, rfl⟩
              · obtain ⟨v1, v2, v3, v4⟩ := hcond.2 rfl
                have hw3 : IntKind.i64.wrap (va + vb) = va + vb := IntWalk.i64_in _ (by omega)
                clear hcond
                go_wp2
                go_meet
                exact ⟨by congr 1; simp only [Bool.or_eq_false_iff, decide_eq_false_iff_not]; omega, rfl⟩
            · obtain ⟨r1, r2, r3, r4⟩ := hcond.1 rfl
              have hw4 : IntKind.i64.wrap (ra + rb) = ra + rb := IntWalk.i64_in _ (by omega)
              rcases vr with _ | _
              · clear hcond
                go_wp2
                go_meet
                exact ⟨by congr 1; simp only [Bool.or_eq_false_iff, decide_eq_false_iff_not]; omega, rfl⟩
              · obtain ⟨v1, v2, v3, v4⟩ := hcond.2 rfl
                have hw3 : IntKind.i64.wrap (va + vb) = va + vb := IntWalk.i64_in _ (by omega)
                clear hcond
                go_wp2
                go_meet
                exact ⟨by congr 1; simp only [Bool.or_eq_false_iff, decide_eq_false_iff_not]; omega, rfl⟩
          case rest =>
          obtain ⟨rfl, rfl⟩ := hcut
          clear i0 i1 iz j0 j1 jz hcond HQ8 HQ10
          go_upto_region 19 with (fail)
          obtain ⟨Wc, hWc⟩ : ∃ Wc, Wc = Wb.alloc (.cells #[.int .i64 op, .int .i64 xa, .int .i64 xb, .int .i64 xc, .int .u64 im] 42) := ⟨_, rfl⟩
          rw [← hWc]
          have HKX : Hid (Blk Wc Wb.heap.size 42 #[.int .i64 op, .int .i64 xa, .int .i64 xb, .int .i64 xc, .int .u64 im]) := Lib.hid (by rw [hWc]; exact Blk.new _ _ _)
          have HBc : Hid (Below W7.heap.size W7 Wc) := Lib.hid (by rw [hWc]; exact HBw.out.alloc HBw.out.size _)
          obtain ⟨g12, hg12⟩ : ∃ g, g = Wb.heap.size := ⟨_, rfl⟩
          rw [← hg12] at HKX ⊢
          clear hWc hg12 y0 y1 y2 y3 y4 f0 f1 f2 fz
          obtain ⟨f0, f1, f2, -, -, -, fz⟩ := (HKF.out.after HBc.out).c3
          obtain ⟨x0, x1, x2, x3, x4, -, -, -, -, -, xz⟩ := HKX.out.c5
          have HB5c : Hid (Below W5.heap.size W5 Wc) := Lib.hid (HB7.out.trans (HBc.out.mono HB7.out.size))
          obtain ⟨q0, q1, -, -, qz⟩ := (HT.out.after HB5c.out).c2
          by_cases h22 : op = 22
          · subst h22
            obtain ⟨ha0, ha1⟩ := HGX.out.ca rfl
            dsimp only at ha0 ha1
            obtain ⟨u, rfl⟩ := Int.eq_ofNat_of_zero_le ha0
            have hut : u < t.length := by omega
            obtain ⟨ad', As', cs', hadd, hb', d0, -⟩ := (HG.out.keep (Kp.of_below HB5c.out (Nat.le_refl _))).whole hut
            obtain rfl : ad = ad' := by injection hadd
            obtain ⟨pu, hpu⟩ : ∃ pu, pu = (t.getD u Fr.z).params := ⟨_, rfl⟩
            rw [← hpu] at d0
            have hpu' : 0 ≤ pu ∧ pu ≤ 8 := by rw [hpu]; exact (shB_ok (frE_ok (HZ0.out.1 _ (getD_mem' hut))).1).2.1
            have hrr : 16 * pu ≤ sz := by
              have h := HRM.out
              unfold roomB at h
              dsimp only at h
              rw [Int.toNat_natCast, ← hpu] at h
              simp at h
              omega
            obtain ⟨hu0, hu1⟩ := hpu'
            clear hpu hadd ha0
            go_quiet (fail)
            go_wp2
            go_roundw
            case rel => exact ⟨j + 1, by omega, by go_num, Lib.hid (below_drewN HBc.out _)⟩
            case measure => simp [intOf]; omega
          · have h22' : (op == 22) = false := by rw [beq_eq_false_iff_ne]; exact h22
            clear h22
            go_quiet (fail)
            go_wp2
            go_roundw
            case rel => exact ⟨j + 1, by omega, by go_num, Lib.hid (below_drewN HBc.out _)⟩
            case measure => simp [intOf]; omega
        · obtain rfl : j = code.length := by omega
          have HBE : Hid (Below W5.heap.size W5 wr) := Lib.hid (HB7.out.trans (HBi.out.mono HB7.out.size))
          go_wp2
          go_roundw
          case rel => exact ⟨k + 1, by omega, by go_num, HBE⟩
          case measure => simp [intOf]; omega
    · obtain rfl : k = t.length := by omega
      go_wp2
      go_ret
      exact ⟨rfl, HB5.out.trans (HBr.out.mono hs5)⟩
end Go.Proofs.Ytmeoabpigibaoaa.pm
namespace Go.Proofs.Ytmeoabpigibaoaa.msi
open Go.ChangeShapes Go.WideShapes Go.ChangeAt Go.RowKit Go.Joins
set_option linter.unusedVariables false

theorem own : ownKnob Try.prog.godebug = none := by kernel_rfl
theorem laidOut : laidOutB Try.prog = true := by kernel_rfl

set_option maxHeartbeats 1000000 in
set_option maxRecDepth 100000 in
theorem lifted (os : Os) (started : os.Started) (H : Type) (enc : TypeId × Value → H) :
    ReturnsInHanded {} Try.checked os 3 .any (Rows.machStaysInsideSpec.pre6 enc Try.prog Try.f3 Rows.machStaysInsideRow.domain false) (Rows.machStaysInsideSpec.post enc Try.prog Try.f3 false true false false) := by
  refine returnsInHanded_of_change (C := Try.checked) own started (by kernel_rfl) Try.func3
    (ChangeSpec.witness6 (enc := enc) (C := Try.checked) false ⟨#[], #[.slice none 0 0], []⟩ 8 (by kernel_rfl) (by kernel_rfl) (by kernel_rfl) (by kernel_rfl)) ?_
  intro W base args ds gs before hval0 hW hcnd _
  have hval : ∀ (j : Nat) t v, Try.f3.params[j]? = some t → args[j]? = some v → Value.okWide Try.prog W .any base t v := hval0
  have hW' := hW
  obtain ⟨p, q, hA0, hV, rfl, hfz, hnd⟩ := hW
  have hA : DataW.TrodAll enc Try.prog W 0 (fun _ => true) true Try.f3.params.toList args.toList ds p := hA0
  rw [Try.params3] at hA hval
  obtain ⟨v0, vs0, d0, ds0, p0, q0, hargs, rfl, rfl, h0, r0⟩ := trodAll_cons hA
  obtain ⟨rfl, rfl, rfl⟩ := trodAll_nil r0
  obtain rfl : args = #[v0] := by cases args; simp_all
  obtain ⟨rfl, rfl⟩ := trodVars_none hV
  have k0 := h0
  have lt0 : ∀ x ∈ p0, x.block < W.heap.size := by obtain ⟨m, hm⟩ := k0; exact DataW.trod_lt m _ _ _ hm
  obtain ⟨a0, len0, cap0, rfl⟩ := okWide_slice Try.underlying22 (hval 0 22 v0 rfl rfl)
  obtain ⟨l0, ⟨b0, m0⟩, cp0⟩ : ∃ l, (Bs W W.heap.size a0 len0 l ∧ len0 ≤ maxLen) ∧ len0 ≤ cap0 := by
    obtain ⟨fuel, hf⟩ := h0
    rcases open_ints Try.underlying22 Try.underlying5 (by kernel_rfl) hf with ⟨hcs, _⟩ | ⟨x, l, c, zs, hcs, _, hl, hm, hz, _, hcell, hwz⟩
    · simp [Value.cells] at hcs
      obtain ⟨rfl, rfl, rfl⟩ := hcs
      exact (Bs.of_row (.inl ⟨rfl, rfl, rfl, rfl⟩)).elim fun l h => ⟨l, h, by omega⟩
    · simp [Value.cells] at hcs
      obtain ⟨rfl, rfl, rfl⟩ := hcs
      exact (Bs.of_row (.inr ⟨_, rfl, hl, hm, by simpa using hz, hcell, hwz⟩)).elim fun l h => ⟨l, h, hl⟩
  clear hA0 hval0
  refine (pm.msi_law a0 len0 cap0 l0 W b0 m0 cp0).mono fun e W' ⟨he, bel⟩ => ?_
  subst he
  exact ⟨_, rfl, _, _, _, [], _, [], hW', trodAll_mk1 (shut_bool Try.underlying4 _), (trodAll_cons_mk (Below.trod laidOut (by kernel_rfl) (of_decide_eq_true (by kernel_rfl)) k0 bel lt0) trodAll_mk0), rfl, bel.frame _, fun h => by cases h⟩

theorem over : Rows.machStaysInsideRow.holds Try.pinned (OpenSpec.ofChange Rows.machStaysInsideSpec) :=
  OpenClaim.holds_of_wide 3 Try.f3 rfl rfl rfl rfl rfl rfl rfl ⟨rfl, rfl, rfl, rfl, rfl⟩ rfl rfl rfl rfl rfl (by kernel_rfl) Try.func3 (by kernel_rfl)
    (of_decide_eq_true (by kernel_rfl)) (by unfold Func.isWrapper; first | (rw [if_pos (by decide +kernel)]; kernel_rfl) | (rw [if_neg (by decide +kernel)]; exact ⟨rfl, rfl⟩))
    (fun os started H enc _ => lifted os started H enc)

theorem proved : Rows.MachStaysInsideSaid := over
#print axioms proved
end Go.Proofs.Ytmeoabpigibaoaa.msi
