/- Contracts of the reference: ref26.Frame. -/
import Derived.Test.YtmeoabpigibaoaaKtc
import Derived.Test.YtmeoabpigibaoaaPd2
import Derived.Deep.RegionHeld3
import Derived.Deep.CutBlock
namespace Go.Proofs.Ytmeoabpigibaoaa.pm
open Go.RowKit
set_option linter.unusedVariables false
set_option maxRecDepth 10000

theorem icells_one (x : Ins) : ∀ u ∈ icells x, u.oneCell' = true := by
  intro u hu
  simp only [icells, List.mem_cons, List.mem_nil_iff, or_false] at hu
  rcases hu with rfl | rfl | rfl | rfl | rfl <;> rfl
theorem Blk.put3 {w : World} {g : Nat} {t : TypeId} {b0 b1 b2 : Value} (h : Blk w g t #[b0, b1, b2]) (a0 a1 a2 : Value) :
    Blk (((w.setCell ⟨g, 0, none⟩ a0).setCell ⟨g, 1, none⟩ a1).setCell ⟨g, 2, none⟩ a2) g t #[a0, a1, a2] := by
  have := ((h.set_ 0 a0).set_ 1 a1).set_ 2 a2
  simpa using this
theorem below_put3 {w0 w : World} {B g : Nat} (h : Below B w0 w) (hg : B ≤ g) (a0 a1 a2 : Value) :
    Below B w0 (((w.setCell ⟨g, 0, none⟩ a0).setCell ⟨g, 1, none⟩ a1).setCell ⟨g, 2, none⟩ a2) :=
  ((h.setCell (p := ⟨g, 0, none⟩) hg _).setCell (p := ⟨g, 1, none⟩) hg _).setCell (p := ⟨g, 2, none⟩) hg _
theorem kp_put3 {w0 w : World} {lo hi g : Nat} (h : Kp lo hi w0 w) (hg : g < lo ∨ hi ≤ g) (a0 a1 a2 : Value) :
    Kp lo hi w0 (((w.setCell ⟨g, 0, none⟩ a0).setCell ⟨g, 1, none⟩ a1).setCell ⟨g, 2, none⟩ a2) :=
  ((h.set (p := ⟨g, 0, none⟩) hg _).set (p := ⟨g, 1, none⟩) hg _).set (p := ⟨g, 2, none⟩) hg _
theorem Kp.drew {w0 w : World} {lo hi : Nat} (h : Kp lo hi w0 w) : Kp lo hi w0 w.drew := h
/-- what ref26.Frame answers -/
def FrmD (f : Fr) (w : World) (e : Ending) (w' : World) : Prop := ∃ Ac cc, e = .returned (.agg #[.int .i64 f.params, .int .i64 f.size, .slice Ac f.code.length cc]) ∧ (Nx w' w.heap.size w'.heap.size Ac f.code ∧ TyA w' Ac f.code.length 42) ∧ f.code.length ≤ cc ∧ f.code.length ≤ maxLen ∧ Below w.heap.size w w'
set_option maxHeartbeats 4000000 in
theorem frame26_any (A Ao : Option Addr) (p : List Fn) (cp k m co : Nat) (y : Lay) (hk : k < p.length) (hp : PrOk m p) (hl : y.off.length = (p.getD k Fn.z).slots.length) (hz0 : 0 ≤ y.size) (hz1 : y.size ≤ 671) (w : World) (lo hi lo' hi' : Nat) (hf : Fx w lo hi A p) (hy : Ix w lo' hi' Ao y.off) (hh : hi ≤ w.heap.size) (hh' : hi' ≤ w.heap.size) (hm : p.length ≤ maxLen) :
    Calls Try.prog 31 #[.agg #[.slice A p.length cp], .int .i64 (k : Int), .agg #[.int .i64 y.args, .int .i64 y.size, .slice Ao y.off.length co]] w (FrmD ⟨(p.getD k Fn.z).params, y.size, (p.getD k Fn.z).code.map (lowI (p.getD k Fn.z).slots y)⟩ w) := by
  obtain ⟨i0, hi0, hz0', hz1', hz2'⟩ := info_parts info_ins
  obtain ⟨W1, hW1⟩ : ∃ W1, W1 = ((w.alloc (.cells #[.slice A p.length cp] 51)).alloc (.cells #[.int .i64 y.args, .int .i64 y.size, .slice Ao y.off.length co] 74)).alloc (.cells #[.int .i64 0, .int .i64 0, .slice none 0 0] 35) := ⟨_, rfl⟩
  have hB1 : Below w.heap.size w W1 := by rw [hW1]; exact Below.al (Below.al (Below.al (Below.refl _ _) _) _) _
  have HP : Hid (Blk W1 w.heap.size 51 #[.slice A p.length cp]) := Lib.hid (by rw [hW1]; exact ((Blk.new _ _ _).alloc _).alloc _)
  have HY : Hid (Blk W1 (w.heap.size + 1) 74 #[.int .i64 y.args, .int .i64 y.size, .slice Ao y.off.length co]) := Lib.hid (by rw [hW1]; exact (Blk.newAt (by simp)).alloc _)
  have HR : Hid (Blk W1 (w.heap.size + 1 + 1) 35 #[.int .i64 0, .int .i64 0, .slice none 0 0]) := Lib.hid (by rw [hW1]; exact Blk.newAt (by simp))
  have hf1 := hf.keep (Kp.of_below hB1 hh)
  obtain ⟨ad, As, cs, Ai, ci, rfl, hb1, p0, p1, p2, p1', p2', sx, nx, ⟨sm, -⟩, nm, -⟩ := hf1.whole hk
  have hok := hp.2.2.2 _ (getD_mem' (z := Fn.z) hk)
  obtain ⟨f, hfe⟩ : ∃ f, f = p.getD k Fn.z := ⟨_, rfl⟩
  rw [← hfe] at p0 p1 p2 p1' p2' sx nx nm sm hok hl ⊢
  have HV := Lib.hid hok.2.2.2.2.2.2.1
  have hLC := hok.2.2.2.2.2.1
  have hLS := hok.2.2.1
  have hPR := hok.2.1
  have HSX := Lib.hid sx
  have HNX := Lib.hid nx
  have HIX := Lib.hid (hy.keep (Kp.of_below hB1 hh'))
  have hhi : hi ≤ W1.heap.size := Nat.le_trans hh hB1.size
  have hhi' : hi' ≤ W1.heap.size := Nat.le_trans hh' hB1.size
  have HB1 := Lib.hid hB1
  have HW1 := Lib.hid hW1
  have HL := Lib.hid hl
  have hpi : (p.length : Int) ≤ 9223372036854775807 := by unfold maxLen at hm; omega
  have hk0 : (0 : Int) ≤ (k : Int) := by omega
  have hk1 : (k : Int) < (p.length : Int) := by omega
  have hni : (f.code.length : Int) ≤ 9223372036854775807 := by omega
  clear hW1 hB1 hf hf1 sx nx hfe hok hy hl
  obtain ⟨x0, -, xz⟩ := blk_one HP.out
  go_enter Try.func31, Try.ntmps31
  go_upto_region 1 with (fail)
  rw [← HW1.out]
  clear HW1
  go_upto_region 2 with (fail)
  clear p0 p1 p2 p1' p2' x0 xz
  obtain ⟨W2, hW2⟩ : ∃ W2, W2 = W1.alloc (.cells #[.int .i64 f.params, .slice As f.slots.length cs, .slice Ai f.code.length ci] 70) := ⟨_, rfl⟩
  rw [← hW2]
  have hB2 : Below W1.heap.size W1 W2 := by rw [hW2]; exact Below.al (Below.refl _ _) _
  have HF2 : Hid (Blk W2 W1.heap.size 70 #[.int .i64 f.params, .slice As f.slots.length cs, .slice Ai f.code.length ci]) := Lib.hid (by rw [hW2]; exact Blk.new _ _ _)
  have HY2 : Hid (Blk W2 (w.heap.size + 1) 74 #[.int .i64 y.args, .int .i64 y.size, .slice Ao y.off.length co]) := Lib.hid (HY.out.after hB2)
  have HR2 : Hid (Blk W2 (w.heap.size + 1 + 1) 35 #[.int .i64 0, .int .i64 0, .slice none 0 0]) := Lib.hid (HR.out.after hB2)
  have HSX2 : Hid (Sx W2 lo hi As f.slots) := Lib.hid (HSX.out.keep (Kp.of_below hB2 hhi))
  have HNX2 : Hid (Nx W2 lo hi Ai f.code) := Lib.hid (HNX.out.keep (Kp.of_below hB2 hhi))
  have HIX2 : Hid (Ix W2 lo' hi' Ao y.off) := Lib.hid (HIX.out.keep (Kp.of_below hB2 hhi'))
  have HB2 : Hid (Below w.heap.size w W2) := Lib.hid (HB1.out.trans (hB2.mono HB1.out.size))
  have hgR : w.heap.size + 1 + 1 < W1.heap.size := HR.out.lt
  have hgF : W1.heap.size < W2.heap.size := HF2.out.lt
  clear hW2 hB2 HP HY HR HSX HNX HIX HB1
  generalize W1.heap.size = gF at *
  obtain ⟨f0, f1, f2, -, -, -, fz⟩ := HF2.out.c3
  obtain ⟨ya, ys, yo⟩ := y
  simp only at hz0 hz1 HIX2 HY2 HL ⊢
  go_wp2
  clear f0 f1 f2 fz
  go_loopw [8, 9] (fun cv v wr => ∃ (j : Nat), j ≤ f.code.length ∧ v = .int .i64 j ∧ wr.ownsRow W2.heap.size 42 5 cv j (inV ((f.code.take j).map (lowI f.slots ⟨ya, ys, yo⟩))) ∧ Hid (Kp 0 W2.heap.size W2 wr) ∧ Hid (Below w.heap.size w wr) ∧ W2.heap.size ≤ wr.heap.size) (fun _ v _ => f.code.length - (intOf v).toNat)
  case atStart => exact ⟨0, by omega, rfl, World.ownsRow_nil _ _ _ _, Lib.hid (Kp.refl _ _ _), HB2, Nat.le_refl _⟩
  case round =>
    obtain ⟨j, hj, rfl, own, HK, HB, hzr⟩ := hrel
    have hj0 : (0 : Int) ≤ (j : Int) := by omega
    have HKF : Hid (Blk wr gF 70 #[.int .i64 f.params, .slice As f.slots.length cs, .slice Ai f.code.length ci]) := Lib.hid (Blk.kp HF2.out HK.out (Nat.zero_le _) hgF)
    have HKY : Hid (Blk wr (w.heap.size + 1) 74 #[.int .i64 ya, .int .i64 ys, .slice Ao yo.length co]) := Lib.hid (Blk.kp HY2.out HK.out (Nat.zero_le _) (by omega))
    obtain ⟨f0, f1, f2, -, -, -, fz⟩ := HKF.out.c3
    by_cases hlt : j < f.code.length
    · have hji : (j : Int) < (f.code.length : Int) := by omega
      obtain ⟨y0, y1, y2, -, -, -, yz⟩ := HKY.out.c3
      obtain ⟨a1, rfl, hb2, c0, c1, c2, c3, c4⟩ := (HNX2.out.keep (Kp.less HK.out (Nat.zero_le _) (by omega))).whole hlt
      have hvx := HV.out _ (getD_mem' (z := Ins.z) hlt)
      have HT : Hid (f.code.take (j + 1) = f.code.take j ++ [f.code.getD j Ins.z]) := Lib.hid (take_snoc_at _ _ hlt)
      obtain ⟨x, hx⟩ : ∃ x, x = f.code.getD j Ins.z := ⟨_, rfl⟩
      rw [← hx] at c0 c1 c2 c3 c4 hvx HT
      obtain ⟨L, hLx⟩ : ∃ L, L = lowI f.slots ⟨ya, ys, yo⟩ x := ⟨_, rfl⟩
      have HLX : Hid (inV ((f.code.take (j + 1)).map (lowI f.slots ⟨ya, ys, yo⟩)) = inV ((f.code.take j).map (lowI f.slots ⟨ya, ys, yo⟩)) ++ icells L) := Lib.hid (by rw [HT.out, List.map_append, inV_app, hLx]; simp [inV])
      have hKd : Kp 0 W2.heap.size W2 wr.drew := HK.out
      have HLO := Lib.hid (low_any (prm := f.params) (y := ⟨ya, ys, yo⟩) (cs := cs) (ci := ci) (co := co) (Ai := some a1) (nc := f.code.length) _ x hvx (by omega) hz0 hz1 HL.out (by omega) wr.drew (HSX2.out.keep (Kp.less hKd (Nat.zero_le _) (by omega))) (HIX2.out.keep (Kp.less hKd (Nat.zero_le _) (by omega))) (by show hi ≤ wr.heap.size; omega) (by show hi' ≤ wr.heap.size; omega))
      obtain ⟨op, xa, xb, xc, im⟩ := x
      rw [← hLx] at HLO
      simp only at c0 c1 c2 c3 c4 HLO
      have HS : Hid (∀ W, Kp 0 W2.heap.size wr W → (W.cell? ⟨gF, 0, none⟩ = some (.int .i64 f.params) ∧ W.cell? ⟨gF, 1, none⟩ = some (.slice As f.slots.length cs) ∧ W.cell? ⟨gF, 2, none⟩ = some (.slice (some a1) f.code.length ci)) ∧ (W.cell? ⟨w.heap.size + 1, 0, none⟩ = some (.int .i64 ya) ∧ W.cell? ⟨w.heap.size + 1, 1, none⟩ = some (.int .i64 ys) ∧ W.cell? ⟨w.heap.size + 1, 2, none⟩ = some (.slice Ao yo.length co)) ∧
          W.cell? (a1.add (j * 5)) = some (.int .i64 op) ∧ W.cell? ⟨(a1.add (j * 5)).block, (a1.add (j * 5)).off + 1, none⟩ = some (.int .i64 xa) ∧ W.cell? ⟨(a1.add (j * 5)).block, (a1.add (j * 5)).off + 2, none⟩ = some (.int .i64 xb) ∧ W.cell? ⟨(a1.add (j * 5)).block, (a1.add (j * 5)).off + 3, none⟩ = some (.int .i64 xc) ∧ W.cell? ⟨(a1.add (j * 5)).block, (a1.add (j * 5)).off + 4, none⟩ = some (.int .u64 im)) := Lib.hid (fun W hW => by
        have hbl : (a1.add (j * 5)).block < W2.heap.size := by rw [block_of_add]; omega
        have z := Nat.zero_le
        exact ⟨⟨hW.cell (z _) hgF f0, hW.cell (z _) hgF f1, hW.cell (z _) hgF f2⟩, ⟨hW.cell (z _) (show w.heap.size + 1 < _ by omega) y0, hW.cell (z _) (show w.heap.size + 1 < _ by omega) y1, hW.cell (z _) (show w.heap.size + 1 < _ by omega) y2⟩, hW.cell (z _) hbl c0, hW.cell (z _) hbl c1, hW.cell (z _) hbl c2, hW.cell (z _) hbl c3, hW.cell (z _) hbl c4⟩)
      have K0 : Hid (Kp 0 W2.heap.size wr wr.drew) := Lib.hid (Kp.refl _ _ _)
      have OWN := Lib.hid own
      clear hvx HT hx hLx hKd own
      go_wp2_with fail
      go_region_held3 (fun W => (W.cell? ⟨gF, 0, none⟩ = some (.int .i64 f.params) ∧ W.cell? ⟨gF, 1, none⟩ = some (.slice As f.slots.length cs) ∧ W.cell? ⟨gF, 2, none⟩ = some (.slice (some a1) f.code.length ci)) ∧ (W.cell? ⟨w.heap.size + 1, 0, none⟩ = some (.int .i64 ya) ∧ W.cell? ⟨w.heap.size + 1, 1, none⟩ = some (.int .i64 ys) ∧ W.cell? ⟨w.heap.size + 1, 2, none⟩ = some (.slice Ao yo.length co)) ∧
          W.cell? (a1.add (j * 5)) = some (.int .i64 op) ∧ W.cell? ⟨(a1.add (j * 5)).block, (a1.add (j * 5)).off + 1, none⟩ = some (.int .i64 xa) ∧ W.cell? ⟨(a1.add (j * 5)).block, (a1.add (j * 5)).off + 2, none⟩ = some (.int .i64 xb) ∧ W.cell? ⟨(a1.add (j * 5)).block, (a1.add (j * 5)).off + 3, none⟩ = some (.int .i64 xc) ∧ W.cell? ⟨(a1.add (j * 5)).block, (a1.add (j * 5)).off + 4, none⟩ = some (.int .u64 im))
        (first | exact HS.out _ K0.out | exact HS.out _ K1.out | exact HS.out _ (Kp.alloc K1.out hz5 _) | exact HS.out _ K2.out)
        (first
          | (go_at_call 47
             refine HLO.out.mono ?_
             rintro e w5 ⟨rfl, bel5⟩
             have K1 : Hid (Kp 0 W2.heap.size wr w5) := Lib.hid (K0.out.trans (Kp.of_below bel5 (show W2.heap.size ≤ wr.heap.size by omega)))
             have B1 : Hid (Below w.heap.size w w5) := Lib.hid ((Below.drew HB.out).trans (bel5.mono HB.out.size))
             have O1 := Lib.hid (own_keep (w := wr.drew) OWN.out bel5 (Nat.le_refl _))
             have hz5 : W2.heap.size ≤ w5.heap.size := Nat.le_trans hzr bel5.size
             clear bel5
             unfold insV)
          | (refine step_append_any _ rfl (.tmp 22) (.tmp 31) _ rfl W2.heap.size 42 i0 _ 5 40 Try.underlying33 hi0 hz0' hz1' hz2' rfl (by omega) _ j _ rfl (O1.out.alloc _) (w5.heap.size + 1) (some ⟨w5.heap.size, 0, none⟩) 1 1 (icells L) rfl (reads_new (size := 5) (n := 1) rfl) (icells_one L) (by unfold maxLen; omega) (by omega) (by simp; omega) ?_
             intro v2 w7 own2 hg2 hat2
             have K2 : Hid (Kp 0 W2.heap.size wr w7) := Lib.hid ((Kp.alloc K1.out hz5 _).trans (Kp.of_own (O1.out.alloc _) hg2 (Nat.le_refl _) (by simp; omega)))
             have B2 : Hid (Below w.heap.size w w7) := Lib.hid ((Below.al B1.out _).grown hg2 (by have := B1.out.size; simp; omega) (fun k hk => by have := (O1.out.lt k hk).1; have := HB2.out.size; omega))
             have hz7 := hg2.size))
      clear f0 f1 f2 fz y0 y1 y2 yz c0 c1 c2 c3 c4 HS HLO
      go_wp2
      go_roundw
      case rel => exact ⟨j + 1, by omega, by go_num, by rw [HLX.out]; exact own2, Lib.hid (HK.out.trans K2.out), B2, by simp at hz7; omega⟩
      case measure => simp [intOf]; omega
    · obtain rfl : j = f.code.length := by omega
      obtain ⟨y0, y1, y2, -, -, -, yz⟩ := HKY.out.c3
      have HKR : Hid (Blk wr (w.heap.size + 1 + 1) 35 #[.int .i64 0, .int .i64 0, .slice none 0 0]) := Lib.hid (Blk.kp HR2.out HK.out (Nat.zero_le _) (by omega))
      obtain ⟨r0, r1, r2, rf0, rf1, rf2, rz⟩ := HKR.out.c3
      rw [List.take_length] at own
      obtain ⟨Ac, cc, rfl, -⟩ := own_form own
      have hcc := own_cap own
      have HRX := Lib.hid (Rx.of_own own)
      have HTY := Lib.hid (TyA.of_own own)
      have hle : w.heap.size ≤ w.heap.size + 1 + 1 := by omega
      have HR5 := Lib.hid (Blk.put3 HKR.out (.int .i64 f.params) (.int .i64 ys) (.slice Ac f.code.length cc))
      have HB5 := Lib.hid (below_put3 HB.out hle (.int .i64 f.params) (.int .i64 ys) (.slice Ac f.code.length cc))
      have HK5 : Hid (Kp W2.heap.size wr.heap.size wr (((wr.setCell ⟨w.heap.size + 1 + 1, 0, none⟩ (.int .i64 f.params)).setCell ⟨w.heap.size + 1 + 1, 1, none⟩ (.int .i64 ys)).setCell ⟨w.heap.size + 1 + 1, 2, none⟩ (.slice Ac f.code.length cc))) := Lib.hid (kp_put3 (Kp.refl _ _ _) (.inl (by omega)) _ _ _)
      clear own
      go_wp2
      clear f0 f1 f2 fz y0 y1 y2 yz r0 r1 r2 rf0 rf1 rf2 rz
      have hz9 : (((wr.setCell ⟨w.heap.size + 1 + 1, 0, none⟩ (.int .i64 f.params)).setCell ⟨w.heap.size + 1 + 1, 1, none⟩ (.int .i64 ys)).setCell ⟨w.heap.size + 1 + 1, 2, none⟩ (.slice Ac f.code.length cc)).heap.size = wr.heap.size := by simp
      generalize ((wr.setCell ⟨w.heap.size + 1 + 1, 0, none⟩ (.int .i64 f.params)).setCell ⟨w.heap.size + 1 + 1, 1, none⟩ (.int .i64 ys)).setCell ⟨w.heap.size + 1 + 1, 2, none⟩ (.slice Ac f.code.length cc) = Wz at *
      obtain ⟨r0, r1, r2, -, -, -, rz⟩ := HR5.out.c3
      exact bodyPost_ret (v := .agg #[.int .i64 f.params, .int .i64 ys, .slice Ac f.code.length cc]) (by simp [results, Try.results31, go_sem, r0, r1, r2]) rfl ⟨Ac, cc, by simp, by
        have h1 := Rx.keep HRX.out HK5.out
        have h2 := TyA.keep HTY.out HK5.out (Rx.inside HRX.out)
        unfold Nx
        simp only [List.length_map]
        exact ⟨Rx.more h1 (by omega) (by omega), h2⟩, by rw [List.length_map]; exact hcc.2, by rw [List.length_map]; exact hcc.1, HB5.out⟩
end Go.Proofs.Ytmeoabpigibaoaa.pm
