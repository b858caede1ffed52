/- Contracts of the reference: ref26.Frame. -/
import Derived.Test.YtinfeglhjmnlaaaDoorGKu
import Derived.Test.YtinfeglhjmnlaaaDoorGPd
import Derived.Deep.RegionHeld3
import Derived.Deep.CutBlock
import Derived.Test.YtinfeglhjmnlaaaDoorGKc
namespace Go.Proofs.YtinfeglhjmnlaaaDoor.pm
open Go.RowKit
set_option linter.unusedVariables false
set_option maxRecDepth 10000

theorem icells_one (x : Ins) : ∀ u ∈ icells x, u.oneCell' = true := by
  intro u hu
  simp only [icells, List.mem_cons, List.mem_nil_iff, or_false] at hu
  rcases hu with rfl | rfl | rfl | rfl | rfl <;> rfl
theorem Blk.put3 {w : World} {g : Nat} {t : TypeId} {b0 b1 b2 : Value} (h : Blk w g t #[b0, b1, b2]) (a0 a1 a2 : Value) :
    Blk (((w.setCell ⟨g, 0, none⟩ a0).setCell ⟨g, 1, none⟩ a1).setCell ⟨g, 2, none⟩ a2) g t #[a0, a1, a2] := by
  have := ((h.set_ 0 a0).set_ 1 a1).set_ 2 a2
  simpa using this
theorem below_put3 {w0 w : World} {B g : Nat} (h : Below B w0 w) (hg : B ≤ g) (a0 a1 a2 : Value) :
    Below B w0 (((w.setCell ⟨g, 0, none⟩ a0).setCell ⟨g, 1, none⟩ a1).setCell ⟨g, 2, none⟩ a2) :=
  ((h.setCell (p := ⟨g, 0, none⟩) hg _).setCell (p := ⟨g, 1, none⟩) hg _).setCell (p := ⟨g, 2, none⟩) hg _
theorem kp_put3 {w0 w : World} {lo hi g : Nat} (h : Kp lo hi w0 w) (hg : g < lo ∨ hi ≤ g) (a0 a1 a2 : Value) :
    Kp lo hi w0 (((w.setCell ⟨g, 0, none⟩ a0).setCell ⟨g, 1, none⟩ a1).setCell ⟨g, 2, none⟩ a2) :=
  ((h.set (p := ⟨g, 0, none⟩) hg _).set (p := ⟨g, 1, none⟩) hg _).set (p := ⟨g, 2, none⟩) hg _
theorem Kp.drew {w0 w : World} {lo hi : Nat} (h : Kp lo hi w0 w) : Kp lo hi w0 w.drew := h
/-- what ref26.Frame answers -/
def FrmD (f : Fr) (w : World) (e : Ending) (w' : World) : Prop := ∃ Ac cc, e = .returned (.agg #[.int .i64 f.params, .int .i64 f.size, .slice Ac f.code.length cc]) ∧ (Nx w' w.heap.size w'.heap.size Ac f.code ∧ TyA w' Ac f.code.length 58) ∧ f.code.length ≤ cc ∧ f.code.length ≤ maxLen ∧ Below w.heap.size w w'
set_option maxHeartbeats 4000000 in
theorem frame26_any (A Ao : Option Addr) (p : List Fn) (cp k m co : Nat) (y : Lay) (hk : k < p.length) (hp : PrOk m p) (hl : y.off.length = (p.getD k Fn.z).slots.length) (hz0 : 0 ≤ y.size) (hz1 : y.size ≤ 671) (w : World) (lo hi lo' hi' : Nat) (hf : Fx w lo hi A p) (hy : Ix w lo' hi' Ao y.off) (hh : hi ≤ w.heap.size) (hh' : hi' ≤ w.heap.size) (hm : p.length ≤ maxLen) :
    Calls Tryd.prog 79 #[.agg #[.slice A p.length cp], .int .i64 (k : Int), .agg #[.int .i64 y.args, .int .i64 y.size, .slice Ao y.off.length co]] w (FrmD ⟨(p.getD k Fn.z).params, y.size, (p.getD k Fn.z).code.map (lowI (p.getD k Fn.z).slots y)⟩ w) := by
  obtain ⟨i0, hi0, hz0', hz1', hz2'⟩ := info_parts info_ins
  obtain ⟨W1, hW1⟩ : ∃ W1, W1 = ((w.alloc (.cells #[.slice A p.length cp] 44)).alloc (.cells #[.int .i64 y.args, .int .i64 y.size, .slice Ao y.off.length co] 117)).alloc (.cells #[.int .i64 0, .int .i64 0, .slice none 0 0] 61) := ⟨_, rfl⟩
  have hB1 : Below w.heap.size w W1 := by rw [hW1]; exact Below.al (Below.al (Below.al (Below.refl _ _) _) _) _
  have HP : Hid (Blk W1 w.heap.size 44 #[.slice A p.length cp]) := Lib.hid (by rw [hW1]; exact ((Blk.new _ _ _).alloc _).alloc _)
  have HY : Hid (Blk W1 (w.heap.size + 1) 117 #[.int .i64 y.args, .int .i64 y.size, .slice Ao y.off.length co]) := Lib.hid (by rw [hW1]; exact (Blk.newAt (by simp)).alloc _)
  have HR : Hid (Blk W1 (w.heap.size + 1 + 1) 61 #[.int .i64 0, .int .i64 0, .slice none 0 0]) := Lib.hid (by rw [hW1]; exact Blk.newAt (by simp))
  have hf1 := hf.keep (Kp.of_below hB1 hh)
  obtain ⟨ad, As, cs, Ai, ci, rfl, hb1, p0, p1, p2, p1', p2', sx, nx, ⟨sm, -⟩, nm, -⟩ := hf1.whole hk
  have hok := hp.2.2.2 _ (getD_mem' (z := Fn.z) hk)
  obtain ⟨f, hfe⟩ : ∃ f, f = p.getD k Fn.z := ⟨_, rfl⟩
  rw [← hfe] at p0 p1 p2 p1' p2' sx nx nm sm hok hl ⊢
  have HV := Lib.hid hok.2.2.2.2.2.2.1
  have hLC := hok.2.2.2.2.2.1
  have hLS := hok.2.2.1
  have hPR := hok.2.1
  have HSX := Lib.hid sx
  have HNX := Lib.hid nx
  have HIX := Lib.hid (hy.keep (Kp.of_below hB1 hh'))
  have hhi : hi ≤ W1.heap.size := Nat.le_trans hh hB1.size
  have hhi' : hi' ≤ W1.heap.size := Nat.le_trans hh' hB1.size
  have HB1 := Lib.hid hB1
  have HW1 := Lib.hid hW1
  have HL := Lib.hid hl
  have hpi : (p.length : Int) ≤ 9223372036854775807 := by unfold maxLen at hm; omega
  have hk0 : (0 : Int) ≤ (k : Int) := by omega
  have hk1 : (k : Int) < (p.length : Int) := by omega
  have hni : (f.code.length : Int) ≤ 9223372036854775807 := by omega
  clear hW1 hB1 hf hf1 sx nx hfe hok hy hl
  obtain ⟨x0, -, xz⟩ := blk_one HP.out
  go_enter Tryd.func79, Tryd.ntmps79
  go_upto_region 1 with (fail)
  rw [← HW1.out]
  clear HW1
  go_upto_region 2 with (fail)
  clear p0 p1 p2 p1' p2' x0 xz
  obtain ⟨W2, hW2⟩ : ∃ W2, W2 = W1.alloc (.cells #[.int .i64 f.params, .slice As f.slots.length cs, .slice Ai f.code.length ci] 97) := ⟨_, rfl⟩
  rw [← hW2]
  have hB2 : Below W1.heap.size W1 W2 := by rw [hW2]; exact Below.al (Below.refl _ _) _
  have HF2 : Hid (Blk W2 W1.heap.size 97 #[.int .i64 f.params, .slice As f.slots.length cs, .slice Ai f.code.length ci]) := Lib.hid (by rw [hW2]; exact Blk.new _ _ _)
  have HY2 : Hid (Blk W2 (w.heap.size + 1) 117 #[.int .i64 y.args, .int .i64 y.size, .slice Ao y.off.length co]) := Lib.hid (HY.out.after hB2)
  have HR2 : Hid (Blk W2 (w.heap.size + 1 + 1) 61 #[.int .i64 0, .int .i64 0, .slice none 0 0]) := Lib.hid (HR.out.after hB2)
  have HSX2 : Hid (Sx W2 lo hi As f.slots) := Lib.hid (HSX.out.keep (Kp.of_below hB2 hhi))
  have HNX2 : Hid (Nx W2 lo hi Ai f.code) := Lib.hid (HNX.out.keep (Kp.of_below hB2 hhi))
  have HIX2 : Hid (Ix W2 lo' hi' Ao y.off) := Lib.hid (HIX.out.keep (Kp.of_below hB2 hhi'))
  have HB2 : Hid (Below w.heap.size w W2) := Lib.hid (HB1.out.trans (hB2.mono HB1.out.size))
  have hgR : w.heap.size + 1 + 1 < W1.heap.size := HR.out.lt
  have hgF : W1.heap.size < W2.heap.size := HF2.out.lt
  clear hW2 hB2 HP HY HR HSX HNX HIX HB1
  generalize W1.heap.size = gF at *
  obtain ⟨f0, f1, f2, -, -, -, fz⟩ := HF2.out.c3
  obtain ⟨ya, ys, yo⟩ := y
  simp only at hz0 hz1 HIX2 HY2 HL ⊢
  go_wp2
  clear f0 f1 f2 fz
  go_loopw [8, 9] (fun cv v wr => ∃ (j : Nat), j ≤ f.code.length ∧ v = .int .i64 j ∧ wr.ownsRow W2.heap.size 58 5 cv j (inV ((f.code.take j).map (lowI f.slots ⟨ya, ys, yo⟩))) ∧ Hid (Kp 0 W2.heap.size W2 wr) ∧ Hid (Below w.heap.size w wr) ∧ W2.heap.size ≤ wr.heap.size) (fun _ v _ => f.code.length - (intOf v).toNat)
  case atStart => exact ⟨0, by omega, rfl, World.ownsRow_nil _ _ _ _, Lib.hid (Kp.refl _ _ _), HB2, Nat.le_refl _⟩
  case round =>
    obtain ⟨j, hj, rfl, own, HK, HB, hzr⟩ := hrel
    have hj0 : (0 : Int) ≤ (j : Int) := by omega
    have HKF : Hid (Blk wr gF 97 #[.int .i64 f.params, .slice As f.slots.length cs, .slice Ai f.code.length ci]) := Lib.hid (Blk.kp HF2.out HK.out (Nat.zero_le _) hgF)
    have HKY : Hid (Blk wr (w.heap.size + 1) 117 #[.int .i64 ya, .int .i64 ys, .slice Ao yo.length co]) := Lib.hid (Blk.kp HY2.out HK.out (Nat.zero_le _) (by omega))
    obtain ⟨f0, f1, f2, -, -, -, fz⟩ := HKF.out.c3
    by_cases hlt : j < f.code.length
    · have hji : (j : Int) < (f.code.length : Int) := by omega
      obtain ⟨y0, y1, y2, -, -, -, yz⟩ := HKY.out.c3
      obtain ⟨a1, rfl, hb2, c0, c1, c2, c3, c4⟩ := (HNX2.out.keep (Kp.less HK.out (Nat.zero_le _) (by omega))).whole hlt
      have hvx := HV.out _ (getD_mem' (z := Ins.z) hlt)
      have HT : Hid (f.code.take (j + 1) = f.code.take j ++ [f.code.getD j Ins.z]) := Lib.hid (take_snoc_at _ _ hlt)
      obtain ⟨x, hx⟩ : ∃ x, x = f.code.getD j Ins.z := ⟨_, rfl⟩
      rw [← hx] at c0 c1 c2 c3 c4 hvx HT
      obtain ⟨L, hLx⟩ : ∃ L, L = lowI f.slots ⟨ya, ys, yo⟩ x := ⟨_, rfl⟩
      have HLX : Hid (inV ((f.code.take (j + 1)).map (lowI f.slots ⟨ya, ys, yo⟩)) = inV ((f.code.take j).map (lowI f.slots ⟨ya, ys, yo⟩)) ++ icells L) := Lib.hid (by rw [HT.out, List.map_append, inV_app, hLx]; simp [inV])
      have hKd : Kp 0 W2.heap.size W2 wr.drew := HK.out
      have HLO := Lib.hid (low_any (prm := f.params) (y := ⟨ya, ys, yo⟩) (cs := cs) (ci := ci) (co := co) (Ai := some a1) (nc := f.code.length) _ x hvx (by omega) hz0 hz1 HL.out (by omega) wr.drew (HSX2.out.keep (Kp.less hKd (Nat.zero_le _) (by omega))) (HIX2.out.keep (Kp.less hKd (Nat.zero_le _) (by omega))) (by show hi ≤ wr.heap.size; omega) (by show hi' ≤ wr.heap.size; omega))
      obtain ⟨op, xa, xb, xc, im⟩ := x
      rw [← hLx] at HLO
      simp only at c0 c1 c2 c3 c4 HLO
      have HS : Hid (∀ W, Kp 0 W2.heap.size wr W → (W.cell? ⟨gF, 0, none⟩ = some (.int .i64 f.params) ∧ W.cell? ⟨gF, 1, none⟩ = some (.slice As f.slots.length cs) ∧ W.cell? ⟨gF, 2, none⟩ = some (.slice (some a1) f.code.length ci)) ∧ (W.cell? ⟨w.heap.size + 1, 0, none⟩ = some (.int .i64 ya) ∧ W.cell? ⟨w.heap.size + 1, 1, none⟩ = some (.int .i64 ys) ∧ W.cell? ⟨w.heap.size + 1, 2, none⟩ = some (.slice Ao yo.length co)) ∧
          W.cell? (a1.add (j * 5)) = some (.int .i64 op) ∧ W.cell? ⟨(a1.add (j * 5)).block, (a1.add (j * 5)).off + 1, none⟩ = some (.int .i64 xa) ∧ W.cell? ⟨(a1.add (j * 5)).block, (a1.add (j * 5)).off + 2, none⟩ = some (.int .i64 xb) ∧ W.cell? ⟨(a1.add (j * 5)).block, (a1.add (j * 5)).off + 3, none⟩ = some (.int .i64 xc) ∧ W.cell? ⟨(a1.add (j * 5)).block, (a1.add (j * 5)).off + 4, none⟩ = some (.int .u64 im)) := Lib.hid (fun W hW => by
        have hbl : (a1.add (j * 5)).block < W2.heap.size := by rw [block_of_add]; omega
        have z := Nat.zero_le
        exact ⟨⟨hW.cell (z _) hgF f0, hW.cell (z _) hgF f1, hW.cell (z _) hgF f2⟩, ⟨hW.cell (z _) (show w.heap.size + 1 < _ by omega) y0, hW.cell (z _) (show w.heap.size + 1 < _ by omega) y1, hW.cell (z _) (show w.heap.size + 1 < _ by omega) y2⟩, hW.cell (z _) hbl c0, hW.cell (z _) hbl c1, hW.cell (z _) hbl c2, hW.cell (z _) hbl c3, hW.cell (z _) hbl c4⟩)
      have K0 : Hid (Kp 0 W2.heap.size wr wr.drew) := Lib.hid (Kp.refl _ _ _)
      have OWN := Lib.hid own
      clear hvx HT hx hLx hKd own
      go_wp2_with fail
      go_region_held3 (fun W => (W.cell? ⟨gF, 0, none⟩ = some (.int .i64 f.params) ∧ W.cell? ⟨gF, 1, none⟩ = some (.slice As f.slots.length cs) ∧ W.cell? ⟨gF, 2, none⟩ = some (.slice (some a1) f.code.length ci)) ∧ (W.cell? ⟨w.heap.size + 1, 0, none⟩ = some (.int .i64 ya) ∧ W.cell? ⟨w.heap.size + 1, 1, none⟩ = some (.int .i64 ys) ∧ W.cell? ⟨w.heap.size + 1, 2, none⟩ = some (.slice Ao yo.length co)) ∧
          W.cell? (a1.add (j * 5)) = some (.int .i64 op) ∧ W.cell? ⟨(a1.add (j * 5)).block, (a1.add (j * 5)).off + 1, none⟩ = some (.int .i64 xa) ∧ W.cell? ⟨(a1.add (j * 5)).block, (a1.add (j * 5)).off + 2, none⟩ = some (.int .i64 xb) ∧ W.cell? ⟨(a1.add (j * 5)).block, (a1.add (j * 5)).off + 3, none⟩ = some (.int .i64 xc) ∧ W.cell? ⟨(a1.add (j * 5)).block, (a1.add (j * 5)).off + 4, none⟩ = some (.int .u64 im))
        (first | exact HS.out _ K0.out | exact HS.out _ K1.out | exact HS.out _ (Kp.alloc K1.out hz5 _) | exact HS.out _ K2.out)
        (first
          | (go_at_call 113
             refine HLO.out.mono ?_
             rintro e w5 ⟨rfl, bel5⟩
             have K1 : Hid (Kp 0 W2.heap.size wr w5) := Lib.hid (K0.out.trans (Kp.of_below bel5 (show W2.heap.size ≤ wr.heap.size by omega)))
             have B1 : Hid (Below w.heap.size w w5) := Lib.hid ((Below.drew HB.out).trans (bel5.mono HB.out.size))
             have O1 := Lib.hid (own_keep (w := wr.drew) OWN.out bel5 (Nat.le_refl _))
             have hz5 : W2.heap.size ≤ w5.heap.size := Nat.le_trans hzr bel5.size
             clear bel5
             unfold insV)
          | (refine step_append_any _ rfl (.tmp 22) (.tmp 31) _ rfl W2.heap.size 58 i0 _ 5 40 Tryd.underlying59 hi0 hz0' hz1' hz2' rfl (by omega) _ j _ rfl (O1.out.alloc _) (w5.heap.size + 1) (some ⟨w5.heap.size, 0, none⟩) 1 1 (icells L) rfl (reads_new (size := 5) (n := 1) rfl) (icells_one L) (by unfold maxLen; omega) (by omega) (by simp; omega) ?_
             intro v2 w7 own2 hg2 hat2
             have K2 : Hid (Kp 0 W2.heap.size wr w7) := Lib.hid ((Kp.alloc K1.out hz5 _).trans (Kp.of_own (O1.out.alloc _) hg2 (Nat.le_refl _) (by simp; omega)))
             have B2 : Hid (Below w.heap.size w w7) := Lib.hid ((Below.al B1.out _).grown hg2 (by have := B1.out.size; simp; omega) (fun k hk => by have := (O1.out.lt k hk).1; have := HB2.out.size; omega))
             have hz7 := hg2.size))
      clear f0 f1 f2 fz y0 y1 y2 yz c0 c1 c2 c3 c4 HS HLO
      go_wp2
      go_roundw
      case rel => exact ⟨j + 1, by omega, by go_num, by rw [HLX.out]; exact own2, Lib.hid (HK.out.trans K2.out), B2, by simp at hz7; omega⟩
      case measure => simp [intOf]; omega
    · obtain rfl : j = f.code.length := by omega
      obtain ⟨y0, y1, y2, -, -, -, yz⟩ := HKY.out.c3
      have HKR : Hid (Blk wr (w.heap.size + 1 + 1) 61 #[.int .i64 0, .int .i64 0, .slice none 0 0]) := Lib.hid (Blk.kp HR2.out HK.out (Nat.zero_le _) (by omega))
      obtain ⟨r0, r1, r2, rf0, rf1, rf2, rz⟩ := HKR.out.c3
      rw [List.take_length] at own
      obtain ⟨Ac, cc, rfl, -⟩ := own_form own
      have hcc := own_cap own
      have HRX := Lib.hid (Rx.of_own own)
      have HTY := Lib.hid (TyA.of_own own)
      have hle : w.heap.size ≤ w.heap.size + 1 + 1 := by omega
      have HR5 := Lib.hid (Blk.put3 HKR.out (.int .i64 f.params) (.int .i64 ys) (.slice Ac f.code.length cc))
      have HB5 := Lib.hid (below_put3 HB.out hle (.int .i64 f.params) (.int .i64 ys) (.slice Ac f.code.length cc))
      have HK5 : Hid (Kp W2.heap.size wr.heap.size wr (((wr.setCell ⟨w.heap.size + 1 + 1, 0, none⟩ (.int .i64 f.params)).setCell ⟨w.heap.size + 1 + 1, 1, none⟩ (.int .i64 ys)).setCell ⟨w.heap.size + 1 + 1, 2, none⟩ (.slice Ac f.code.length cc))) := Lib.hid (kp_put3 (Kp.refl _ _ _) (.inl (by omega)) _ _ _)
      clear own
      go_wp2
      clear f0 f1 f2 fz y0 y1 y2 yz r0 r1 r2 rf0 rf1 rf2 rz
      have hz9 : (((wr.setCell ⟨w.heap.size + 1 + 1, 0, none⟩ (.int .i64 f.params)).setCell ⟨w.heap.size + 1 + 1, 1, none⟩ (.int .i64 ys)).setCell ⟨w.heap.size + 1 + 1, 2, none⟩ (.slice Ac f.code.length cc)).heap.size = wr.heap.size := by simp
      generalize ((wr.setCell ⟨w.heap.size + 1 + 1, 0, none⟩ (.int .i64 f.params)).setCell ⟨w.heap.size + 1 + 1, 1, none⟩ (.int .i64 ys)).setCell ⟨w.heap.size + 1 + 1, 2, none⟩ (.slice Ac f.code.length cc) = Wz at *
      obtain ⟨r0, r1, r2, -, -, -, rz⟩ := HR5.out.c3
      exact bodyPost_ret (v := .agg #[.int .i64 f.params, .int .i64 ys, .slice Ac f.code.length cc]) (by simp [results, Tryd.results79, go_sem, r0, r1, r2]) rfl ⟨Ac, cc, by simp, by
        have h1 := Rx.keep HRX.out HK5.out
        have h2 := TyA.keep HTY.out HK5.out (Rx.inside HRX.out)
        unfold Nx
        simp only [List.length_map]
        exact ⟨Rx.more h1 (by omega) (by omega), h2⟩, by rw [List.length_map]; exact hcc.2, by rw [List.length_map]; exact hcc.1, HB5.out⟩
end Go.Proofs.YtinfeglhjmnlaaaDoor.pm
namespace Go.Proofs.YtinfeglhjmnlaaaDoor.pm
open Go.RowKit
set_option linter.unusedVariables false
set_option maxRecDepth 10000

/-- what the cells of a row of layouts say -/
def Yx (w : World) (lo hi : Nat) (vs : List Value) (ys : List Lay) : Prop :=
  ∀ i, i < ys.length → ∃ Ai ci, vs[i * 3]? = some (.int .i64 (ys.getD i Lay.z).args) ∧ vs[i * 3 + 1]? = some (.int .i64 (ys.getD i Lay.z).size) ∧ vs[i * 3 + 2]? = some (.slice Ai (ys.getD i Lay.z).off.length ci) ∧
    (Ix w lo hi Ai (ys.getD i Lay.z).off ∧ TyA w Ai (ys.getD i Lay.z).off.length 3) ∧ (ys.getD i Lay.z).off.length ≤ maxLen ∧ (ys.getD i Lay.z).off.length ≤ ci
/-- a slice of layouts -/
def Lx (w : World) (lo hi : Nat) (A : Option Addr) (ys : List Lay) : Prop := ∃ vs, Rx w lo hi 3 A ys.length vs ∧ Yx w lo hi vs ys
section
variable {lo hi lo' hi' : Nat} {w w' : World} {A : Option Addr} {k : Nat} {vs : List Value} {ys : List Lay}
theorem Yx.keep (h : Yx w lo hi vs ys) (hk : Kp lo hi w w') : Yx w' lo hi vs ys := fun i hi => by
  obtain ⟨Ai, ci, h1, h2, h3, ⟨h4, h4'⟩, h5⟩ := h i hi
  exact ⟨Ai, ci, h1, h2, h3, ⟨h4.keep hk, h4'.keep hk h4.inside⟩, h5⟩
theorem Yx.keepT {t : TypeId} (h : Yx w lo hi vs ys) (hk : Kt t lo hi w w') (hne : 3 ≠ t) : Yx w' lo hi vs ys := fun i hi => by
  obtain ⟨Ai, ci, h1, h2, h3, ⟨h4, h4'⟩, h5⟩ := h i hi
  exact ⟨Ai, ci, h1, h2, h3, ⟨h4.keepT h4' hk hne, TyA.keepT h4 h4' hk hne⟩, h5⟩
theorem Yx.more (h : Yx w lo hi vs ys) (hl : lo' ≤ lo) (hh : hi ≤ hi') : Yx w lo' hi' vs ys := fun i hi => by
  obtain ⟨Ai, ci, h1, h2, h3, ⟨h4, h4'⟩, h5⟩ := h i hi
  exact ⟨Ai, ci, h1, h2, h3, ⟨h4.more hl hh, h4'⟩, h5⟩
theorem Lx.keep (h : Lx w lo hi A ys) (hk : Kp lo hi w w') : Lx w' lo hi A ys := by
  obtain ⟨vs, h1, h2⟩ := h
  exact ⟨vs, h1.keep hk, h2.keep hk⟩
theorem Yx.snoc (h : Yx w lo hi vs ys) (hl : vs.length = ys.length * 3) {y : Lay} {Ai : Option Addr} {ci : Nat} (h2 : Ix w lo hi Ai y.off ∧ TyA w Ai y.off.length 3) (h4 : y.off.length ≤ maxLen ∧ y.off.length ≤ ci) :
    Yx w lo hi (vs ++ [.int .i64 y.args, .int .i64 y.size, .slice Ai y.off.length ci]) (ys ++ [y]) := fun i hi => by
  rw [List.length_append] at hi
  rcases Nat.lt_or_ge i ys.length with hlt | hge
  · obtain ⟨Ai', ci', q1, q2, q3, q4⟩ := h i hlt
    have e : (ys ++ [y]).getD i Lay.z = ys.getD i Lay.z := by rw [List.getD_eq_getElem?_getD, List.getD_eq_getElem?_getD, List.getElem?_append_left hlt]
    rw [e]
    exact ⟨Ai', ci', by rw [List.getElem?_append_left (by omega)]; exact q1, by rw [List.getElem?_append_left (by omega)]; exact q2, by rw [List.getElem?_append_left (by omega)]; exact q3, q4⟩
  · obtain rfl : i = ys.length := by simp at hi; omega
    have e : (ys ++ [y]).getD ys.length Lay.z = y := by simp
    rw [e]
    refine ⟨Ai, ci, ?_, ?_, ?_, h2, h4⟩
    · rw [List.getElem?_append_right (by omega), show ys.length * 3 - vs.length = 0 by omega]; rfl
    · rw [List.getElem?_append_right (by omega), show ys.length * 3 + 1 - vs.length = 1 by omega]; rfl
    · rw [List.getElem?_append_right (by omega), show ys.length * 3 + 2 - vs.length = 2 by omega]; rfl
/-- the cells of the k-th layout -/
theorem Lx.whole (h : Lx w lo hi A ys) (hk : k < ys.length) : ∃ ad Ai ci, A = some ad ∧ ad.block < hi ∧ w.cell? (ad.add (k * 3)) = some (.int .i64 (ys.getD k Lay.z).args) ∧ w.cell? ⟨(ad.add (k * 3)).block, (ad.add (k * 3)).off + 1, none⟩ = some (.int .i64 (ys.getD k Lay.z).size) ∧ w.cell? ⟨(ad.add (k * 3)).block, (ad.add (k * 3)).off + 2, none⟩ = some (.slice Ai (ys.getD k Lay.z).off.length ci) ∧
    Ix w lo hi Ai (ys.getD k Lay.z).off ∧ (ys.getD k Lay.z).off.length ≤ maxLen ∧ (ys.getD k Lay.z).off.length ≤ ci := by
  obtain ⟨vs, hr, hv⟩ := h
  obtain ⟨ad, e, hb, hc⟩ := hr.1.2 (by omega)
  obtain ⟨Ai, ci, h1, h2, h3, ⟨h4, -⟩, h5⟩ := hv k hk
  have c1 : w.cell? ((ad.add (k * 3)).add 1) = some (.int .i64 (ys.getD k Lay.z).size) := by rw [add_of_add]; exact hc _ _ h2
  have c2 : w.cell? ((ad.add (k * 3)).add 2) = some (.slice Ai (ys.getD k Lay.z).off.length ci) := by rw [add_of_add]; exact hc _ _ h3
  refine ⟨ad, Ai, ci, e, hb, hc _ _ h1, ?_, ?_, h4, h5⟩
  · rw [← add_pos _ 1 (by omega)]; exact c1
  · rw [← add_pos _ 2 (by omega)]; exact c2
end
theorem info_lay : (Tryd.prog.info? 117).map (fun i => (i.zero, i.size, i.bytes)) = some (some (.agg #[.int .i64 0, .int .i64 0, .slice none 0 0]), 3, 40) := by kernel_rfl
theorem three_one (a b : Int) (A : Option Addr) (n c : Nat) : ∀ u ∈ [Value.int .i64 a, .int .i64 b, .slice A n c], u.oneCell' = true := by
  intro u hu
  simp only [List.mem_cons, List.mem_nil_iff, or_false] at hu
  rcases hu with rfl | rfl | rfl <;> rfl
/-- what Baselines answers -/
def BlsD (ys : List Lay) (w : World) (e : Ending) (w' : World) : Prop := ∃ A c, e = .returned (.tuple #[.slice A ys.length c, .int .i64 0]) ∧ Lx w' w.heap.size w'.heap.size A ys ∧ ys.length ≤ c ∧ ys.length ≤ maxLen ∧ Below w.heap.size w w'
set_option maxHeartbeats 4000000 in
theorem baselines_any (A : Option Addr) (p : List Fn) (cp m : Nat) (al : Int) (ha : AlOk al) (hp : PrOk m p) (w : World) (lo hi : Nat) (hf : Fx w lo hi A p) (hh : hi ≤ w.heap.size) (hm : p.length ≤ 1000) :
    Calls Tryd.prog 42 #[.agg #[.slice A p.length cp], .int .i64 al] w (BlsD (p.map (layF p al)) w) := by
  obtain ⟨i0, hi0, hz0, hz1, hz2⟩ := info_parts info_lay
  obtain ⟨W1, hW1⟩ : ∃ W1, W1 = w.alloc (.cells #[.slice A p.length cp] 44) := ⟨_, rfl⟩
  have hB1 : Below w.heap.size w W1 := by rw [hW1]; exact Below.al (Below.refl _ _) _
  have HP : Hid (Blk W1 w.heap.size 44 #[.slice A p.length cp]) := Lib.hid (by rw [hW1]; exact Blk.new _ _ _)
  have HF : Hid (Fx W1 lo hi A p) := Lib.hid (hf.keep (Kp.of_below hB1 hh))
  have hhi : hi ≤ W1.heap.size := Nat.le_trans hh hB1.size
  have hgP : w.heap.size < W1.heap.size := HP.out.lt
  have HB1 := Lib.hid hB1
  have HW1 := Lib.hid hW1
  have hpi : (p.length : Int) ≤ 9223372036854775807 := by omega
  clear hW1 hB1 hf
  obtain ⟨x0, -, xz⟩ := blk_one HP.out
  go_enter Tryd.func42, Tryd.ntmps42
  go_upto_region 1 with (fail)
  rw [← HW1.out]
  clear HW1
  go_wp2
  clear x0 xz
  go_loopw [6, 7] (fun ov v wr => ∃ (j : Nat) (vs : List Value), j ≤ p.length ∧ v = .int .i64 j ∧ wr.ownsRow W1.heap.size 117 3 ov j vs ∧ Hid (Yx wr W1.heap.size wr.heap.size vs ((p.take j).map (layF p al))) ∧ Hid (Kp 0 W1.heap.size W1 wr) ∧ Hid (Below w.heap.size w wr) ∧ W1.heap.size ≤ wr.heap.size) (fun _ v _ => p.length - (intOf v).toNat)
  case atStart => exact ⟨0, [], by omega, rfl, World.ownsRow_nil _ _ _ _, Lib.hid (fun i hi => absurd hi (by simp)), Lib.hid (Kp.refl _ _ _), HB1, Nat.le_refl _⟩
  case round =>
    obtain ⟨j, vs, hj, rfl, own, HY, HK, HB, hzr⟩ := hrel
    have hj0 : (0 : Int) ≤ (j : Int) := by omega
    obtain ⟨x0, -, xz⟩ := blk_one (Blk.kp HP.out HK.out (Nat.zero_le _) hgP)
    have hvl := own.1
    have HVL : Hid (vs.length = ((p.take j).map (layF p al)).length * 3) := Lib.hid (by rw [hvl, List.length_map, List.length_take]; congr 1; omega)
    clear hvl
    by_cases hlt : j < p.length
    · have hji : (j : Int) < (p.length : Int) := by omega
      have HBL := Lib.hid (baseline_any A p cp j m al ha hlt hp wr lo hi (HF.out.keep (Kp.less HK.out (Nat.zero_le _) hhi)) (by omega) (by unfold maxLen; omega))
      have HT : Hid ((p.take (j + 1)).map (layF p al) = (p.take j).map (layF p al) ++ [layF p al (p.getD j Fn.z)]) := Lib.hid (by rw [take_snoc_at p Fn.z hlt, List.map_append]; rfl)
      obtain ⟨y, hy⟩ : ∃ y, y = layF p al (p.getD j Fn.z) := ⟨_, rfl⟩
      rw [← hy] at HBL HT
      clear hy
      have OWN := Lib.hid own
      clear own
      go_wp2_with fail
      refine HBL.out.mono ?_
      rintro e w5 ⟨Ao, co, rfl, ⟨hix, hty⟩, hco, hom, bel⟩
      have HI5 := Lib.hid (And.intro hix hty)
      have HK5 : Hid (Kp 0 wr.heap.size wr w5) := Lib.hid (Kp.of_below bel (Nat.le_refl _))
      have HB5 : Hid (Below w.heap.size w w5) := Lib.hid (HB.out.trans (bel.mono HB.out.size))
      have O5 := Lib.hid (own_keep OWN.out bel (Nat.le_refl _))
      have hz5 := bel.size
      clear hix hty bel x0 xz HBL
      go_upto_region 8 with (fail)
      obtain ⟨ya, ys, yo⟩ := y
      simp only at hco hom HI5
      have own6 := (O5.out.alloc (.cells #[.int .i64 ya, .int .i64 ys, .slice Ao yo.length co] 117))
      go_wp2_with (at_builtin
                   refine wpList_append_any _ rfl (.tmp 27) (.tmp 29) _ rfl W1.heap.size 117 i0 _ 3 40 Tryd.underlying71 hi0 hz0 hz1 hz2 rfl (by omega) _ j vs rfl (own6.alloc _) (w5.heap.size + 1 + 1) (some ⟨w5.heap.size + 1, 0, none⟩) 1 1 [.int .i64 ya, .int .i64 ys, .slice Ao yo.length co] rfl (by have := reads_new (w := w5.alloc (.cells #[.int .i64 ya, .int .i64 ys, .slice Ao yo.length co] 117)) (size := 3) (n := 1) (t := 117) (cs := [.int .i64 ya, .int .i64 ys, .slice Ao yo.length co]) rfl; simpa using this) (three_one _ _ _ _ _) (by unfold maxLen; omega) (by omega) (by simp; omega) ?_
                   intro v2 w7 own2 hg2 hat2)
      have K5A : Kp 0 w5.heap.size w5 ((w5.alloc (.cells #[.int .i64 ya, .int .i64 ys, .slice Ao yo.length co] 117)).alloc (.cells #[.int .i64 ya, .int .i64 ys, .slice Ao yo.length co] 117)) := Kp.alloc (Kp.alloc (Kp.refl _ _ _) (Nat.le_refl _) _) (by simp) _
      have KT : Kt 117 W1.heap.size w5.heap.size w5 w7 := (Kt.of_kp (Kp.less K5A (Nat.zero_le _) (Nat.le_refl _))).trans (Kt.of_own (own6.alloc _) hg2 (by simp; omega))
      have hz7 := hg2.size
      simp at hz7
      have HY7 : Hid (Yx w7 W1.heap.size w7.heap.size (vs ++ [.int .i64 ya, .int .i64 ys, .slice Ao yo.length co]) ((p.take (j + 1)).map (layF p al))) := Lib.hid (by
        rw [HT.out]
        refine Yx.snoc ?_ HVL.out (y := ⟨ya, ys, yo⟩) ?_ ⟨hom, hco⟩
        · exact Yx.more (Yx.keepT (Yx.more (Yx.keep HY.out (Kp.less HK5.out (Nat.zero_le _) (Nat.le_refl _))) (Nat.le_refl _) hz5) KT (by decide)) (Nat.le_refl _) (by omega)
        · have KT' : Kt 117 wr.heap.size w5.heap.size w5 w7 := Kt.less KT hzr (Nat.le_refl _)
          exact ⟨Ix.more (Rx.keepT HI5.out.1 HI5.out.2 KT' (by decide)) hzr (by omega), TyA.keepT HI5.out.1 HI5.out.2 KT' (by decide)⟩)
      have HK7 : Hid (Kp 0 W1.heap.size W1 w7) := Lib.hid (((HK.out.trans (Kp.less HK5.out (Nat.le_refl _) hzr)).trans (Kp.less K5A (Nat.le_refl _) (by omega))).trans (Kp.of_own (own6.alloc _) hg2 (Nat.le_refl _) (by simp; omega)))
      have HB7 : Hid (Below w.heap.size w w7) := Lib.hid ((Below.al (Below.al HB5.out _) _).grown hg2 (by have := HB5.out.size; simp; omega) (fun k hk => by have := (own6.lt k hk).1; omega))
      clear own6 hg2 hat2 K5A KT O5 HI5
      go_roundw
      case rel => exact ⟨j + 1, _, by omega, by go_num, own2, HY7, HK7, HB7, by omega⟩
      case measure => simp [intOf]; omega
    · obtain rfl : j = p.length := by omega
      rw [List.take_length] at HY HVL
      obtain ⟨Al, cl, rfl, -⟩ := own_form own
      have hcc := own_cap own
      have HRX := Lib.hid (Rx.of_own own)
      clear own
      go_wp2
      go_ret2
      exact ⟨Al, cl, by rw [List.length_map]; rfl, ⟨vs, by rw [List.length_map]; exact Rx.more HRX.out (by omega) (Nat.le_refl _), Yx.more HY.out (by omega) (Nat.le_refl _)⟩, by rw [List.length_map]; exact hcc.2, by rw [List.length_map]; exact hcc.1, HB.out⟩
end Go.Proofs.YtinfeglhjmnlaaaDoor.pm
namespace Go.Proofs.YtinfeglhjmnlaaaDoor.pm
open Go.RowKit
set_option linter.unusedVariables false
set_option maxRecDepth 10000

theorem right03_any (o s : Int) (w : World) : Calls Tryd.prog 136 #[.agg #[.int .i64 o, .int .i64 s]] w fun e w' => e = .returned (.bool (rgtB o s)) ∧ Below w.heap.size w w' := by
  have HI : Hid (rgtB o s = (bndB o && bndB s && decide (o + s ≤ 2147483647))) := Lib.hid rfl
  rcases ho : bndB o with _ | _
  · have HO := Lib.hid ho
    clear ho
    go_enter Tryd.func136, Tryd.ntmps136
    go_wp2_with fail
    refine (refbnd_any _ _).mono ?_
    rintro e w1 ⟨rfl, rfl⟩
    rw [HO.out]
    go_wp2
    go_ret
    exact ⟨ret_bool (by rw [HI.out, HO.out]; rfl), (Below.refl _ _).alloc (Nat.le_refl _) _⟩
  · rcases hs : bndB s with _ | _
    · have HO := Lib.hid ho
      have HS := Lib.hid hs
      clear ho hs
      go_enter Tryd.func136, Tryd.ntmps136
      go_wp2_with fail
      refine (refbnd_any _ _).mono ?_
      rintro e w1 ⟨rfl, rfl⟩
      rw [HO.out]
      go_wp2_with fail
      refine (refbnd_any _ _).mono ?_
      rintro e w1 ⟨rfl, rfl⟩
      rw [HS.out]
      go_wp2
      go_ret
      exact ⟨ret_bool (by rw [HI.out, HO.out, HS.out]; rfl), (Below.refl _ _).alloc (Nat.le_refl _) _⟩
    · have ho1 := inB_t.1 ho
      have hs1 := inB_t.1 hs
      obtain ⟨n1, n2⟩ := ho1
      obtain ⟨n3, n4⟩ := hs1
      have HO := Lib.hid ho
      have HS := Lib.hid hs
      clear ho hs
      go_enter Tryd.func136, Tryd.ntmps136
      go_wp2_with fail
      refine (refbnd_any _ _).mono ?_
      rintro e w1 ⟨rfl, rfl⟩
      rw [HO.out]
      go_wp2_with fail
      refine (refbnd_any _ _).mono ?_
      rintro e w1 ⟨rfl, rfl⟩
      rw [HS.out]
      go_wp2
      go_ret
      exact ⟨ret_bool (by rw [HI.out, HO.out, HS.out]; rfl), (Below.refl _ _).alloc (Nat.le_refl _) _⟩
theorem inside03_any (o s size : Int) (w : World) : Calls Tryd.prog 112 #[.agg #[.int .i64 o, .int .i64 s], .int .i64 size] w fun e w' => e = .returned (.bool (insB o s size)) ∧ Below w.heap.size w w' := by
  have HI : Hid (insB o s size = (rgtB o s && decide (o + s ≤ size))) := Lib.hid rfl
  rcases hr : rgtB o s with _ | _
  · have HO := Lib.hid hr
    clear hr
    go_enter Tryd.func112, Tryd.ntmps112
    go_wp2_with fail
    refine (right03_any _ _ _).mono ?_
    rintro e w1 ⟨rfl, bel⟩
    have HB := Lib.hid (((Below.refl w.heap.size w).alloc (Nat.le_refl _) _).trans (bel.mono (by simp)))
    clear bel
    rw [HO.out]
    go_wp2
    go_ret
    exact ⟨ret_bool (by rw [HI.out, HO.out]; rfl), HB.out⟩
  · obtain ⟨n1, n2, n3, n4⟩ := rgtB_t hr
    have HO := Lib.hid hr
    clear hr
    go_enter Tryd.func112, Tryd.ntmps112
    go_wp2_with fail
    refine (right03_any _ _ _).mono ?_
    rintro e w1 ⟨rfl, bel⟩
    have HB := Lib.hid (((Below.refl w.heap.size w).alloc (Nat.le_refl _) _).trans (bel.mono (by simp)))
    have hk := Lib.hid ((Blk.new w 152 #[.int .i64 o, .int .i64 s]).after bel)
    clear bel
    obtain ⟨c0, c1, -, -, cz⟩ := hk.out.c2
    rw [HO.out]
    go_wp2
    go_ret
    exact ⟨ret_bool (by rw [HI.out, HO.out]; rfl), HB.out⟩

set_option maxHeartbeats 8000000 in
theorem shape_any (A Ao : Option Addr) (p : List Fn) (cp k m co : Nat) (al : Int) (ha : AlOk al) (hk : k < p.length) (hp : PrOk m p) (w : World) (lo hi lo' hi' : Nat) (hf : Fx w lo hi A p) (hy : Ix w lo' hi' Ao (layF p al (p.getD k Fn.z)).off) (hh : hi ≤ w.heap.size) (hh' : hi' ≤ w.heap.size) (hm : p.length ≤ maxLen) :
    Calls Tryd.prog 78 #[.agg #[.slice A p.length cp], .int .i64 (k : Int), .int .i64 al, .agg #[.int .i64 (layF p al (p.getD k Fn.z)).args, .int .i64 (layF p al (p.getD k Fn.z)).size, .slice Ao (layF p al (p.getD k Fn.z)).off.length co]] w fun e w' => e = .returned (.int .i64 0) ∧ Below w.heap.size w w' := by
  have hok := hp.2.2.2 _ (getD_mem' (z := Fn.z) hk)
  obtain ⟨n0, n1, n2, n3, n4, n5, n6⟩ := lay_nums hp hok ha
  have hoff := fun q hq => offs_at (p.getD k Fn.z).slots (argsI p (p.getD k Fn.z)) q hok.2.2.2.1 hq
  have hyl : (layF p al (p.getD k Fn.z)).off.length = (p.getD k Fn.z).slots.length := offs_len _ _
  have hya : (layF p al (p.getD k Fn.z)).args = argsI p (p.getD k Fn.z) := rfl
  have hyo : (layF p al (p.getD k Fn.z)).off = offs (argsI p (p.getD k Fn.z)) (p.getD k Fn.z).slots := rfl
  have hal : 1 ≤ al ∧ al ≤ 64 := by rcases ha with h | h | h <;> rw [h] <;> decide
  rw [← hyo] at hoff
  obtain ⟨y, hye⟩ : ∃ y, y = layF p al (p.getD k Fn.z) := ⟨_, rfl⟩
  obtain ⟨W1, hW1⟩ : ∃ W1, W1 = (w.alloc (.cells #[.slice A p.length cp] 44)).alloc (.cells #[.int .i64 y.args, .int .i64 y.size, .slice Ao y.off.length co] 117) := ⟨_, rfl⟩
  have hB1 : Below w.heap.size w W1 := by rw [hW1]; exact Below.al (Below.al (Below.refl _ _) _) _
  have HP : Hid (Blk W1 w.heap.size 44 #[.slice A p.length cp]) := Lib.hid (by rw [hW1]; exact (Blk.new _ _ _).alloc _)
  have HY : Hid (Blk W1 (w.heap.size + 1) 117 #[.int .i64 y.args, .int .i64 y.size, .slice Ao y.off.length co]) := Lib.hid (by rw [hW1]; exact Blk.newAt (by simp))
  have hf1 := hf.keep (Kp.of_below hB1 hh)
  have hhi : hi ≤ W1.heap.size := Nat.le_trans hh hB1.size
  have hhi' : hi' ≤ W1.heap.size := Nat.le_trans hh' hB1.size
  have HF1 := Lib.hid hf1
  have HIX := Lib.hid (hy.keep (Kp.of_below hB1 hh'))
  have HBL := Lib.hid (baseline_any A p cp k m al ha hk hp W1 lo hi hf1 hhi hm)
  obtain ⟨ad, As, cs, Ai, ci, rfl, hb1, p0, p1, p2, p1', p2', sx, nx, ⟨sm, -⟩, nm, -⟩ := hf1.whole hk
  obtain ⟨f, hfe⟩ : ∃ f, f = p.getD k Fn.z := ⟨_, rfl⟩
  have HAR := Lib.hid (fun W h => args_any (some ad) p cp k m hk hp W lo hi h)
  rw [← hfe] at p0 p1 p2 p1' p2' sx nx nm sm hok n0 n1 n2 n3 n4 n5 n6 hoff hyl hya hyo hye HAR
  rw [← hfe, ← hye] at HIX HBL ⊢
  rw [← hye] at n4 n5 n6 hoff hyl hya hyo
  have HSX := Lib.hid sx
  have hsl := hok.2.2.2.1
  have hsl6 := hok.2.2.1
  have HSL := Lib.hid hsl
  have HOF := Lib.hid hoff
  have HB1 := Lib.hid hB1
  have HW1 := Lib.hid hW1
  have HYL := Lib.hid hyl
  obtain ⟨ag, hag⟩ : ∃ ag, ag = argsI p f := ⟨_, rfl⟩
  rw [← hag] at HAR hya n0 n1 n2 n3 HOF
  have HYA := Lib.hid hya
  have hpi : (p.length : Int) ≤ 9223372036854775807 := by unfold maxLen at hm; omega
  have hk0 : (0 : Int) ≤ (k : Int) := by omega
  have hk1 : (k : Int) < (p.length : Int) := by omega
  have hes : endS ag f.slots ≤ y.size := by rw [hag]; exact n4
  have hyle : ag ≤ y.size := by omega
  clear hW1 hB1 hf hf1 sx nx hfe hok hy hye hoff hsl hag p0 p2 p2'
  obtain ⟨ya, ys, yo⟩ := y
  simp only at HIX HBL HY HYL HYA HW1 HOF hes hyle n5 n6 ⊢
  obtain ⟨l, hl⟩ : ∃ l, l = yo.length := ⟨_, rfl⟩
  have HLL : Hid (l = yo.length) := Lib.hid hl
  have HLS : Hid (l = f.slots.length) := Lib.hid (hl.trans HYL.out)
  rw [← hl] at HY HW1 ⊢
  have hya2 := HYA.out.symm
  subst hya2
  clear hl hya hyl hyo
  have hli : (l : Int) ≤ 9223372036854775807 := by have := HLS.out; omega
  have hl6 : l ≤ 6 := by have := HLS.out; omega
  obtain ⟨x0, -, xz⟩ := blk_one HP.out
  go_enter Tryd.func78, Tryd.ntmps78
  go_upto_region 1 with (fail)
  rw [← HW1.out]
  clear HW1
  go_wp2_with fail
  refine HBL.out.mono ?_
  rintro e w2 ⟨Ab, cb, rfl, -, -, -, bel⟩
  simp only
  have HB2 : Hid (Below w.heap.size w w2) := Lib.hid (HB1.out.trans (bel.mono HB1.out.size))
  have HK2 : Hid (Kp 0 W1.heap.size W1 w2) := Lib.hid (Kp.of_below bel (Nat.le_refl _))
  have hz2 := bel.size
  have hgY : w.heap.size + 1 < W1.heap.size := HY.out.lt
  have q1 := (bel.cell (cell_lt p1)).trans p1
  have q1' := (bel.cell (cell_lt p1')).trans p1'
  clear bel x0 xz HBL p1 p1'
  go_upto_region 2 with (fail)
  obtain ⟨W3, hW3⟩ : ∃ W3, W3 = w2.alloc (.cells #[.int .i64 ag, .int .i64 ys, .slice Ab yo.length cb] 117) := ⟨_, rfl⟩
  rw [← hW3]
  have hb3 : Below w2.heap.size w2 W3 := by rw [hW3]; exact Below.al (Below.refl _ _) _
  have HB3 : Hid (Below w.heap.size w W3) := Lib.hid (HB2.out.trans (hb3.mono HB2.out.size))
  have HK3 : Hid (Kp 0 W1.heap.size W1 W3) := Lib.hid (HK2.out.trans (Kp.of_below hb3 hz2))
  have HKB : Hid (Blk W3 w2.heap.size 117 #[.int .i64 ag, .int .i64 ys, .slice Ab yo.length cb]) := Lib.hid (by rw [hW3]; exact Blk.new _ _ _)
  have hzb := HKB.out.lt
  have HP3 : Hid (Blk W3 w.heap.size 44 #[.slice (some ad) p.length cp]) := Lib.hid (Blk.kp HP.out HK3.out (Nat.zero_le _) (by omega))
  have HY3 : Hid (Blk W3 (w.heap.size + 1) 117 #[.int .i64 ag, .int .i64 ys, .slice Ao l co]) := Lib.hid (Blk.kp HY.out HK3.out (Nat.zero_le _) hgY)
  have HF3 : Hid (Fx W3 lo hi (some ad) p) := Lib.hid (HF1.out.keep (Kp.less HK3.out (Nat.zero_le _) hhi))
  have HSX3 : Hid (Sx W3 lo hi As f.slots) := Lib.hid (HSX.out.keep (Kp.less HK3.out (Nat.zero_le _) hhi))
  have HIX3 : Hid (Ix W3 lo' hi' Ao yo) := Lib.hid (HIX.out.keep (Kp.less HK3.out (Nat.zero_le _) hhi'))
  have hh3 : hi ≤ W3.heap.size := by omega
  have hh3' : hi' ≤ W3.heap.size := by omega
  have r1 := (hb3.cell (cell_lt q1)).trans q1
  have r1' := (hb3.cell (cell_lt q1')).trans q1'
  clear hW3 hb3 HP HY HF1 HSX HIX HB1 HB2 HK2 HK3 q1 q1' hzb
  generalize w2.heap.size = gB at *
  obtain ⟨x0, -, xz⟩ := blk_one HP3.out
  obtain ⟨y0, y1, y2, -, -, -, yz⟩ := HY3.out.c3
  go_upto_region 5 with (fail)
  clear r1 r1'
  have hd3 : Below W3.heap.size W3 W3.drew := (Below.refl _ _).drew
  have HAC := Lib.hid (HAR.out W3.drew (HF3.out.keep (Kp.of_below hd3 hh3)) hh3 hm)
  have HS5 : Hid (∀ W, Below W3.heap.size W3 W → W.cell? ⟨w.heap.size, 0, none⟩ = some (.slice (some ad) p.length cp) ∧ W.cell? ⟨w.heap.size + 1, 0, none⟩ = some (.int .i64 ag) ∧ W.cell? ⟨w.heap.size + 1, 2, none⟩ = some (.slice Ao l co)) := Lib.hid (fun W hW => ⟨(hW.cell xz).trans x0, (hW.cell yz).trans y0, (hW.cell yz).trans y2⟩)
  have BEL0 := Lib.hid hd3
  have hlsi : (f.slots.length : Int) = (l : Int) := by have := HLS.out; omega
  clear hd3
  go_region_held3 (fun W => W.cell? ⟨w.heap.size, 0, none⟩ = some (.slice (some ad) p.length cp) ∧ W.cell? ⟨w.heap.size + 1, 0, none⟩ = some (.int .i64 ag) ∧ W.cell? ⟨w.heap.size + 1, 2, none⟩ = some (.slice Ao l co))
    (first | exact HS5.out _ BEL0.out | exact HS5.out _ BEL1.out)
    ((go_at_call 110
      refine HAC.out.mono ?_
      rintro e w5 ⟨rfl, bel5⟩
      have BEL1 : Hid (Below W3.heap.size W3 w5) := Lib.hid (BEL0.out.trans bel5)
      clear bel5))
  have HB5 : Hid (Below W3.heap.size W3 w5) := BEL1
  clear BEL0 BEL1 HS5 HAC hlsi x0 xz y0 y1 y2 yz
  go_wp2
  have hsi : (f.slots.length : Int) ≤ 9223372036854775807 := by have := HLS.out; omega
  go_loopw [12] (fun v wr => ∃ (j : Nat), j ≤ f.slots.length ∧ v = .int .i64 j ∧ Hid (Below W3.heap.size W3 wr)) (fun v _ => f.slots.length - (intOf v).toNat)
  case atStart => exact ⟨0, by omega, rfl, HB5⟩
  case round =>
    obtain ⟨j, hj, rfl, HB⟩ := hrel
    have hj0 : (0 : Int) ≤ (j : Int) := by omega
    have hszr := HB.out.size
    obtain ⟨y0, y1, y2, -, -, -, yz⟩ := (HY3.out.after HB.out).c3
    by_cases hlt : j < f.slots.length
    · have hji : (j : Int) < (f.slots.length : Int) := by omega
      have hjl : (j : Int) < (l : Int) := by have := HLS.out; omega
      obtain ⟨a1, rfl, hbl, c0, c1⟩ := (HSX3.out.keep (Kp.of_below HB.out hh3)).at_ hlt
      have c1w := c1
      rw [add_pos _ 1 (by omega)] at c1w
      obtain ⟨ao, rfl, hbo, o0, o0'⟩ := (HIX3.out.keep (Kp.of_below HB.out hh3')).at_ (show j < yo.length by have := HLL.out; have := HLS.out; omega)
      have hso := slot_nums (HSL.out _ (getD_mem' (z := (0, 0)) hlt))
      obtain ⟨g0, g1, g2⟩ := HOF.out j hlt
      obtain ⟨s, hs⟩ : ∃ s, s = f.slots.getD j (0, 0) := ⟨_, rfl⟩
      obtain ⟨o, ho⟩ : ∃ o, o = yo.getD j 0 := ⟨_, rfl⟩
      rw [← hs] at c0 c1 c1w hso g1 g2
      rw [← ho] at o0 o0' g0 g1 g2
      obtain ⟨sz, sa⟩ := s
      simp only at c0 c1 c1w hso g1 g2
      obtain ⟨s1, s2, s3, s4⟩ := hso
      have hc1 : decide (o < ag) = false := by rw [decide_eq_false_iff_not]; omega
      have hm : o.tmod sa = 0 := by rw [Int.tmod_eq_emod_of_nonneg (by omega)]; exact g2
      have hsab : (sa == 0) = false := by rw [beq_eq_false_iff_ne]; omega
      have hsan : ¬ sa = 0 := by omega
      have HIN : Hid (∀ W, Calls Tryd.prog 112 #[.agg #[.int .i64 o, .int .i64 sz], .int .i64 ys] W fun e w' => e = .returned (.bool true) ∧ Below W.heap.size W w') := Lib.hid (fun W => (insB_ok (o := o) (s := sz) (size := ys) (by omega) (by omega) (by omega) (by omega)) ▸ inside03_any o sz ys W)
      have hbl2 : (a1.add (j * 2)).block < wr.heap.size := by rw [block_of_add]; omega
      have hbo2 : (ao.add j).block < wr.heap.size := by rw [block_of_add]; omega
      have hbo3 : (ao.add (j * 1)).block < wr.heap.size := by rw [block_of_add]; omega
      have HS : Hid (∀ W, Below wr.heap.size wr W → (W.cell? ⟨w.heap.size + 1, 0, none⟩ = some (.int .i64 ag) ∧ W.cell? ⟨w.heap.size + 1, 1, none⟩ = some (.int .i64 ys) ∧ W.cell? ⟨w.heap.size + 1, 2, none⟩ = some (.slice (some ao) l co)) ∧ (W.cell? (ao.add (j * 1)) = some (.int .i64 o) ∧ W.cell? (ao.add j) = some (.int .i64 o)) ∧ W.cell? (a1.add (j * 2)) = some (.int .i64 sz) ∧ W.cell? ((a1.add (j * 2)).add 1) = some (.int .i64 sa) ∧ W.cell? ⟨(a1.add (j * 2)).block, (a1.add (j * 2)).off + 1, none⟩ = some (.int .i64 sa)) := Lib.hid (fun W hW => ⟨⟨(hW.cell yz).trans y0, (hW.cell yz).trans y1, (hW.cell yz).trans y2⟩, ⟨(hW.cell hbo3).trans o0, (hW.cell hbo2).trans o0'⟩, (hW.cell hbl2).trans c0, (hW.cell (p := (a1.add (j * 2)).add 1) (by rw [block_of_add]; exact hbl2)).trans c1, (hW.cell (p := ⟨(a1.add (j * 2)).block, (a1.add (j * 2)).off + 1, none⟩) hbl2).trans c1w⟩)
      have BEL0 : Hid (Below wr.heap.size wr wr.drew) := Lib.hid (Below.refl _ _).drew
      have hwr : IntKind.i64.wrap (sz) = sz := by unfold IntKind.wrap; simp [IntKind.bits, IntKind.signed]; omega
      clear hs ho g2 hwr hbl2 hbo2 hbo3
      go_wp2_with fail
      go_region_held3 (fun W => (W.cell? ⟨w.heap.size + 1, 0, none⟩ = some (.int .i64 ag) ∧ W.cell? ⟨w.heap.size + 1, 1, none⟩ = some (.int .i64 ys) ∧ W.cell? ⟨w.heap.size + 1, 2, none⟩ = some (.slice (some ao) l co)) ∧ (W.cell? (ao.add (j * 1)) = some (.int .i64 o) ∧ W.cell? (ao.add j) = some (.int .i64 o)) ∧ W.cell? (a1.add (j * 2)) = some (.int .i64 sz) ∧ W.cell? ((a1.add (j * 2)).add 1) = some (.int .i64 sa) ∧ W.cell? ⟨(a1.add (j * 2)).block, (a1.add (j * 2)).off + 1, none⟩ = some (.int .i64 sa))
        (first | exact HS.out _ BEL0.out | exact HS.out _ BEL1.out)
        ((go_at_call 112
          refine (HIN.out _).mono ?_
          rintro e w5 ⟨rfl, bel5⟩
          have BEL1 : Hid (Below wr.heap.size wr w5) := Lib.hid (BEL0.out.trans bel5)
          clear bel5))
      have HBn : Hid (Below W3.heap.size W3 w5) := Lib.hid (HB.out.trans (BEL1.out.mono hszr))
      clear HS HIN BEL0 BEL1 y0 y1 y2 yz c0 c1 c1w o0 o0'
      go_wp2
      go_roundw
      case rel => exact ⟨j + 1, by omega, by go_num, HBn⟩
      case measure => simp [intOf]; omega
    · obtain rfl : j = f.slots.length := by omega
      obtain ⟨b0, b1, b2, -, -, -, bz⟩ := (HKB.out.after HB.out).c3
      have hm : ys.tmod al = 0 := by rw [Int.tmod_eq_emod_of_nonneg (by omega)]; exact n6
      have hab : (al == 0) = false := by rw [beq_eq_false_iff_ne]; omega
      have han : ¬ al = 0 := by omega
      have hc1 : decide (ys < ag) = false := by rw [decide_eq_false_iff_not]; omega
      have HFI : Hid (Below w.heap.size w wr) := Lib.hid (HB3.out.trans (HB.out.mono HB3.out.size))
      clear HB
      go_wp2
      go_ret
      exact ⟨rfl, HFI.out⟩
end Go.Proofs.YtinfeglhjmnlaaaDoor.pm
