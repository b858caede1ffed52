/- Contracts of the reference: ref26.Frame. -/
import Derived.Test.YtcnndoefgjbmiaaGreatKtc
import Derived.Test.YtcnndoefgjbmiaaGreatGPe
set_option linter.unusedVariables false
set_option maxRecDepth 10000
set_option maxHeartbeats 8000000
namespace Go.Proofs.YtcnndoefgjbmiaaGreat.pm
open Go.RowKit
theorem icells_one (x : Ins) : ∀ u ∈ icells x, u.oneCell' = true := by
 intro u hu
 simp only [icells, List.mem_cons, List.mem_nil_iff, or_false] at hu
 rcases hu with rfl | rfl | rfl | rfl | rfl <;> rfl
theorem Blk.put3 {w : World} {g : Nat} {t : TypeId} {b0 b1 b2 : Value} (h : Blk w g t #[b0, b1, b2]) (a0 a1 a2 : Value) :
 Blk (((w.setCell ⟨g, 0, none⟩ a0).setCell ⟨g, 1, none⟩ a1).setCell ⟨g, 2, none⟩ a2) g t #[a0, a1, a2] := by
 have := ((h.set_ 0 a0).set_ 1 a1).set_ 2 a2
 simpa using this
theorem below_put3 {w0 w : World} {B g : Nat} (h : Below B w0 w) (hg : B ≤ g) (a0 a1 a2 : Value) :
 Below B w0 (((w.setCell ⟨g, 0, none⟩ a0).setCell ⟨g, 1, none⟩ a1).setCell ⟨g, 2, none⟩ a2) :=
 ((h.setCell (p := ⟨g, 0, none⟩) hg _).setCell (p := ⟨g, 1, none⟩) hg _).setCell (p := ⟨g, 2, none⟩) hg _
theorem kp_put3 {w0 w : World} {lo hi g : Nat} (h : Kp lo hi w0 w) (hg : g < lo ∨ hi ≤ g) (a0 a1 a2 : Value) :
 Kp lo hi w0 (((w.setCell ⟨g, 0, none⟩ a0).setCell ⟨g, 1, none⟩ a1).setCell ⟨g, 2, none⟩ a2) :=
 ((h.set (p := ⟨g, 0, none⟩) hg _).set (p := ⟨g, 1, none⟩) hg _).set (p := ⟨g, 2, none⟩) hg _
def FrmD (f : Fr) (w : World) (e : Ending) (w' : World) : Prop := ∃ Ac cc, e = .returned (.agg #[.int .i64 f.params, .int .i64 f.size, .slice Ac f.code.length cc]) ∧ (Nx w' w.heap.size w'.heap.size Ac f.code ∧ TyA w' Ac f.code.length 50) ∧ f.code.length ≤ cc ∧ f.code.length ≤ maxLen ∧ Below w.heap.size w w'
theorem frame26_any (A Ao : Option Addr) (p : List Fn) (cp k m co : Nat) (y : Lay) (hk : k < p.length) (hp : PrOk m p) (hl : y.off.length = (p.getD k Fn.z).slots.length) (hz0 : 0 ≤ y.size) (hz1 : y.size ≤ 671) (w : World) (lo hi lo' hi' : Nat) (hf : Fx w lo hi A p) (hy : Ix w lo' hi' Ao y.off) (hh : hi ≤ w.heap.size) (hh' : hi' ≤ w.heap.size) (hm : p.length ≤ maxLen) :
 Calls Tryz.prog 40 #[.agg #[.slice A p.length cp], .int .i64 (k : Int), .agg #[.int .i64 y.args, .int .i64 y.size, .slice Ao y.off.length co]] w (FrmD ⟨(p.getD k Fn.z).params, y.size, (p.getD k Fn.z).code.map (lowI (p.getD k Fn.z).slots y)⟩ w) := by
 obtain ⟨i0, hi0, hz0', hz1', hz2'⟩ := info_parts info_ins
 obtain ⟨W1, hW1⟩ : ∃ W1, W1 = ((w.alloc (.cells #[.slice A p.length cp] 78)).alloc (.cells #[.int .i64 y.args, .int .i64 y.size, .slice Ao y.off.length co] 101)).alloc (.cells #[.int .i64 0, .int .i64 0, .slice none 0 0] 53) := ⟨_, rfl⟩
 have hB1 : Below w.heap.size w W1 := by rw [hW1]; exact Below.al (Below.al (Below.al bR _) _) _
 have HP : Hid (Blk W1 w.heap.size 78 #[.slice A p.length cp]) := hQ (by rw [hW1]; exact ((Blk.new _ _ _).alloc _).alloc _)
 have HY : Hid (Blk W1 (w.heap.size + 1) 101 #[.int .i64 y.args, .int .i64 y.size, .slice Ao y.off.length co]) := hQ (by rw [hW1]; exact (Blk.newAt (by simp)).alloc _)
 have HR : Hid (Blk W1 (w.heap.size + 1 + 1) 53 #[.int .i64 0, .int .i64 0, .slice none 0 0]) := hQ (by rw [hW1]; exact Blk.newAt (by simp))
 have hf1 := hf.keep (Kp.of_below hB1 hh)
 obtain ⟨ad, As, cs, Ai, ci, rfl, hb1, p0, p1, p2, p1', p2', sx, nx, ⟨sm, -⟩, nm, -⟩ := hf1.whole hk
 have hok := hp.2.2.2 _ (getD_mem' (z := Fn.z) hk)
 obtain ⟨f, hfe⟩ : ∃ f, f = p.getD k Fn.z := ⟨_, rfl⟩
 rw [← hfe] at p0 p1 p2 p1' p2' sx nx nm sm hok hl ⊢
 have HV := hQ hok.2.2.2.2.2.2.1
 have hLC := hok.2.2.2.2.2.1
 have hLS := hok.2.2.1
 have hPR := hok.2.1
 have HSX := hQ sx
 have HNX := hQ nx
 have HIX := hQ (hy.keep (Kp.of_below hB1 hh'))
 have hhi : hi ≤ W1.heap.size := Nat.le_trans hh hB1.size
 have hhi' : hi' ≤ W1.heap.size := Nat.le_trans hh' hB1.size
 have HB1 := hQ hB1
 have HW1 := hQ hW1
 have HL := hQ hl
 have hpi : (p.length : Int) ≤ 9223372036854775807 := by unfold maxLen at hm; omega
 have hk0 : (0 : Int) ≤ (k : Int) := by omega
 have hk1 : (k : Int) < (p.length : Int) := by omega
 have hni : (f.code.length : Int) ≤ 9223372036854775807 := by omega
 clear hW1 hB1 hf hf1 sx nx hfe hok hy hl
 obtain ⟨x0, -, xz⟩ := blk_one HP.out
 go_enter Tryz.func40, Tryz.ntmps40
 go_upto_region 1 with (fail)
 rw [← HW1.out]
 clear HW1
 go_upto_region 2 with (fail)
 clear p0 p1 p2 p1' p2' x0 xz
 obtain ⟨W2, hW2⟩ : ∃ W2, W2 = W1.alloc (.cells #[.int .i64 f.params, .slice As f.slots.length cs, .slice Ai f.code.length ci] 97) := ⟨_, rfl⟩
 rw [← hW2]
 have hB2 : Below W1.heap.size W1 W2 := by rw [hW2]; exact Below.al bR _
 have HF2 : Hid (Blk W2 W1.heap.size 97 #[.int .i64 f.params, .slice As f.slots.length cs, .slice Ai f.code.length ci]) := hQ (by rw [hW2]; exact Blk.new _ _ _)
 have HY2 : Hid (Blk W2 (w.heap.size + 1) 101 #[.int .i64 y.args, .int .i64 y.size, .slice Ao y.off.length co]) := hQ (HY.out.after hB2)
 have HR2 : Hid (Blk W2 (w.heap.size + 1 + 1) 53 #[.int .i64 0, .int .i64 0, .slice none 0 0]) := hQ (HR.out.after hB2)
 have HSX2 : Hid (Sx W2 lo hi As f.slots) := hQ (HSX.out.keep (Kp.of_below hB2 hhi))
 have HNX2 : Hid (Nx W2 lo hi Ai f.code) := hQ (HNX.out.keep (Kp.of_below hB2 hhi))
 have HIX2 : Hid (Ix W2 lo' hi' Ao y.off) := hQ (HIX.out.keep (Kp.of_below hB2 hhi'))
 have HB2 : Hid (Below w.heap.size w W2) := hQ (HB1.out.trans (hB2.mono HB1.out.size))
 have hgR : w.heap.size + 1 + 1 < W1.heap.size := HR.out.lt
 have hgF : W1.heap.size < W2.heap.size := HF2.out.lt
 clear hW2 hB2 HP HY HR HSX HNX HIX HB1
 generalize W1.heap.size = gF at *
 obtain ⟨f0, f1, f2, -, -, -, fz⟩ := HF2.out.c3
 obtain ⟨ya, ys, yo⟩ := y
 simp only at hz0 hz1 HIX2 HY2 HL ⊢
 go_wp2
 clear f0 f1 f2 fz
 go_loopw [8, 9] (fun cv v wr => ∃ (j : Nat), j ≤ f.code.length ∧ v = .int .i64 j ∧ wr.ownsRow W2.heap.size 50 5 cv j (inV ((f.code.take j).map (lowI f.slots ⟨ya, ys, yo⟩))) ∧ Hid (Kp 0 W2.heap.size W2 wr) ∧ Hid (Below w.heap.size w wr) ∧ W2.heap.size ≤ wr.heap.size) (fun _ v _ => f.code.length - (intOf v).toNat)
 case atStart => exact ⟨0, by omega, rfl, World.ownsRow_nil _ _ _ _, hQ (Kp.refl _ _ _), HB2, Nat.le_refl _⟩
 case round =>
  obtain ⟨j, hj, rfl, own, HK, HB, hzr⟩ := hrel
  have hj0 : (0 : Int) ≤ (j : Int) := by omega
  have HKF : Hid (Blk wr gF 97 #[.int .i64 f.params, .slice As f.slots.length cs, .slice Ai f.code.length ci]) := hQ (Blk.kp HF2.out HK.out (Nat.zero_le _) hgF)
  have HKY : Hid (Blk wr (w.heap.size + 1) 101 #[.int .i64 ya, .int .i64 ys, .slice Ao yo.length co]) := hQ (Blk.kp HY2.out HK.out (Nat.zero_le _) (by omega))
  obtain ⟨f0, f1, f2, -, -, -, fz⟩ := HKF.out.c3
  by_cases hlt : j < f.code.length
  · have hji : (j : Int) < (f.code.length : Int) := by omega
    obtain ⟨y0, y1, y2, -, -, -, yz⟩ := HKY.out.c3
    obtain ⟨a1, rfl, hb2, c0, c1, c2, c3, c4⟩ := (HNX2.out.keep (Kp.less HK.out (Nat.zero_le _) (by omega))).whole hlt
    have hvx := HV.out _ (getD_mem' (z := Ins.z) hlt)
    have HT : Hid (f.code.take (j + 1) = f.code.take j ++ [f.code.getD j Ins.z]) := hQ (take_snoc_at _ _ hlt)
    obtain ⟨x, hx⟩ : ∃ x, x = f.code.getD j Ins.z := ⟨_, rfl⟩
    rw [← hx] at c0 c1 c2 c3 c4 hvx HT
    obtain ⟨L, hLx⟩ : ∃ L, L = lowI f.slots ⟨ya, ys, yo⟩ x := ⟨_, rfl⟩
    have HLX : Hid (inV ((f.code.take (j + 1)).map (lowI f.slots ⟨ya, ys, yo⟩)) = inV ((f.code.take j).map (lowI f.slots ⟨ya, ys, yo⟩)) ++ icells L) := hQ (by rw [HT.out, List.map_append, inV_app, hLx]; simp [inV])
    have hKd : Kp 0 W2.heap.size W2 wr.drew := HK.out
    have HLO := hQ (low_any (prm := f.params) (y := ⟨ya, ys, yo⟩) (cs := cs) (ci := ci) (co := co) (Ai := some a1) (nc := f.code.length) _ x hvx (by omega) hz0 hz1 HL.out (by omega) wr.drew (HSX2.out.keep (Kp.less hKd (Nat.zero_le _) (by omega))) (HIX2.out.keep (Kp.less hKd (Nat.zero_le _) (by omega))) (by show hi ≤ wr.heap.size; omega) (by show hi' ≤ wr.heap.size; omega))
    obtain ⟨op, xa, xb, xc, im⟩ := x
    rw [← hLx] at HLO
    simp only at c0 c1 c2 c3 c4 HLO
    have HS : Hid (∀ W, Kp 0 W2.heap.size wr W → (W.cell? ⟨gF, 0, none⟩ = some (.int .i64 f.params) ∧ W.cell? ⟨gF, 1, none⟩ = some (.slice As f.slots.length cs) ∧ W.cell? ⟨gF, 2, none⟩ = some (.slice (some a1) f.code.length ci)) ∧ (W.cell? ⟨w.heap.size + 1, 0, none⟩ = some (.int .i64 ya) ∧ W.cell? ⟨w.heap.size + 1, 1, none⟩ = some (.int .i64 ys) ∧ W.cell? ⟨w.heap.size + 1, 2, none⟩ = some (.slice Ao yo.length co)) ∧
     W.cell? (a1.add (j * 5)) = some (.int .i64 op) ∧ W.cell? ⟨(a1.add (j * 5)).block, (a1.add (j * 5)).off + 1, none⟩ = some (.int .i64 xa) ∧ W.cell? ⟨(a1.add (j * 5)).block, (a1.add (j * 5)).off + 2, none⟩ = some (.int .i64 xb) ∧ W.cell? ⟨(a1.add (j * 5)).block, (a1.add (j * 5)).off + 3, none⟩ = some (.int .i64 xc) ∧ W.cell? ⟨(a1.add (j * 5)).block, (a1.add (j * 5)).off + 4, none⟩ = some (.int .u64 im)) := hQ (fun W hW => by
     have hbl : (a1.add (j * 5)).block < W2.heap.size := by rw [block_of_add]; omega
     have z := Nat.zero_le
     exact ⟨⟨hW.cell (z _) hgF f0, hW.cell (z _) hgF f1, hW.cell (z _) hgF f2⟩, ⟨hW.cell (z _) (show w.heap.size + 1 < _ by omega) y0, hW.cell (z _) (show w.heap.size + 1 < _ by omega) y1, hW.cell (z _) (show w.heap.size + 1 < _ by omega) y2⟩, hW.cell (z _) hbl c0, hW.cell (z _) hbl c1, hW.cell (z _) hbl c2, hW.cell (z _) hbl c3, hW.cell (z _) hbl c4⟩)
    have K0 : Hid (Kp 0 W2.heap.size wr wr.drew) := hQ (Kp.refl _ _ _)
    have OWN := hQ own
    clear hvx HT hx hLx hKd own
    go_wp2_with fail
    go_region_held3 (fun W => (W.cell? ⟨gF, 0, none⟩ = some (.int .i64 f.params) ∧ W.cell? ⟨gF, 1, none⟩ = some (.slice As f.slots.length cs) ∧ W.cell? ⟨gF, 2, none⟩ = some (.slice (some a1) f.code.length ci)) ∧ (W.cell? ⟨w.heap.size + 1, 0, none⟩ = some (.int .i64 ya) ∧ W.cell? ⟨w.heap.size + 1, 1, none⟩ = some (.int .i64 ys) ∧ W.cell? ⟨w.heap.size + 1, 2, none⟩ = some (.slice Ao yo.length co)) ∧
     W.cell? (a1.add (j * 5)) = some (.int .i64 op) ∧ W.cell? ⟨(a1.add (j * 5)).block, (a1.add (j * 5)).off + 1, none⟩ = some (.int .i64 xa) ∧ W.cell? ⟨(a1.add (j * 5)).block, (a1.add (j * 5)).off + 2, none⟩ = some (.int .i64 xb) ∧ W.cell? ⟨(a1.add (j * 5)).block, (a1.add (j * 5)).off + 3, none⟩ = some (.int .i64 xc) ∧ W.cell? ⟨(a1.add (j * 5)).block, (a1.add (j * 5)).off + 4, none⟩ = some (.int .u64 im))
     (first | exact HS.out _ K0.out | exact HS.out _ K1.out | exact HS.out _ (Kp.alloc K1.out hz5 _) | exact HS.out _ K2.out)
     (first
      | (go_at_call 63
         refine HLO.out.mono ?_
         rintro e w5 ⟨rfl, bel5⟩
         have K1 : Hid (Kp 0 W2.heap.size wr w5) := hQ (K0.out.trans (Kp.of_below bel5 (show W2.heap.size ≤ wr.heap.size by omega)))
         have B1 : Hid (Below w.heap.size w w5) := hQ ((Below.drew HB.out).trans (bel5.mono HB.out.size))
         have O1 := hQ (own_keep (w := wr.drew) OWN.out bel5 nL)
         have hz5 : W2.heap.size ≤ w5.heap.size := Nat.le_trans hzr bel5.size
         clear bel5
         unfold insV)
      | (refine step_append_any _ rfl (.tmp 22) (.tmp 31) _ rfl W2.heap.size 50 i0 _ 5 40 Tryz.underlying51 hi0 hz0' hz1' hz2' rfl (by omega) _ j _ rfl (O1.out.alloc _) (w5.heap.size + 1) (some ⟨w5.heap.size, 0, none⟩) 1 1 (icells L) rfl (reads_new (size := 5) (n := 1) rfl) (icells_one L) (by unfold maxLen; omega) (by omega) (by simp; omega) ?_
         intro v2 w7 own2 hg2 hat2
         have K2 : Hid (Kp 0 W2.heap.size wr w7) := hQ ((Kp.alloc K1.out hz5 _).trans (Kp.of_own (O1.out.alloc _) hg2 nL (by simp; omega)))
         have B2 : Hid (Below w.heap.size w w7) := hQ ((Below.al B1.out _).grown hg2 (by have := B1.out.size; simp; omega) (fun k hk => by have := (O1.out.lt k hk).1; have := HB2.out.size; omega))
         have hz7 := hg2.size))
    clear f0 f1 f2 fz y0 y1 y2 yz c0 c1 c2 c3 c4 HS HLO
    go_wp2
    go_roundw
    case rel => exact ⟨j + 1, by omega, by go_num, by rw [HLX.out]; exact own2, hQ (HK.out.trans K2.out), B2, by simp at hz7; omega⟩
    case measure => simp [intOf]; omega
  · obtain rfl : j = f.code.length := by omega
    obtain ⟨y0, y1, y2, -, -, -, yz⟩ := HKY.out.c3
    have HKR : Hid (Blk wr (w.heap.size + 1 + 1) 53 #[.int .i64 0, .int .i64 0, .slice none 0 0]) := hQ (Blk.kp HR2.out HK.out (Nat.zero_le _) (by omega))
    obtain ⟨r0, r1, r2, rf0, rf1, rf2, rz⟩ := HKR.out.c3
    rw [List.take_length] at own
    obtain ⟨Ac, cc, rfl, -⟩ := own_form own
    have hcc := own_cap own
    have HRX := hQ (Rx.of_own own)
    have HTY := hQ (TyA.of_own own)
    have hle : w.heap.size ≤ w.heap.size + 1 + 1 := by omega
    have HR5 := hQ (Blk.put3 HKR.out (.int .i64 f.params) (.int .i64 ys) (.slice Ac f.code.length cc))
    have HB5 := hQ (below_put3 HB.out hle (.int .i64 f.params) (.int .i64 ys) (.slice Ac f.code.length cc))
    have HK5 : Hid (Kp W2.heap.size wr.heap.size wr (((wr.setCell ⟨w.heap.size + 1 + 1, 0, none⟩ (.int .i64 f.params)).setCell ⟨w.heap.size + 1 + 1, 1, none⟩ (.int .i64 ys)).setCell ⟨w.heap.size + 1 + 1, 2, none⟩ (.slice Ac f.code.length cc))) := hQ (kp_put3 (Kp.refl _ _ _) (.inl (by omega)) _ _ _)
    clear own
    go_wp2
    clear f0 f1 f2 fz y0 y1 y2 yz r0 r1 r2 rf0 rf1 rf2 rz
    have hz9 : (((wr.setCell ⟨w.heap.size + 1 + 1, 0, none⟩ (.int .i64 f.params)).setCell ⟨w.heap.size + 1 + 1, 1, none⟩ (.int .i64 ys)).setCell ⟨w.heap.size + 1 + 1, 2, none⟩ (.slice Ac f.code.length cc)).heap.size = wr.heap.size := by simp
    generalize ((wr.setCell ⟨w.heap.size + 1 + 1, 0, none⟩ (.int .i64 f.params)).setCell ⟨w.heap.size + 1 + 1, 1, none⟩ (.int .i64 ys)).setCell ⟨w.heap.size + 1 + 1, 2, none⟩ (.slice Ac f.code.length cc) = Wz at *
    obtain ⟨r0, r1, r2, -, -, -, rz⟩ := HR5.out.c3
    exact bodyPost_ret (v := .agg #[.int .i64 f.params, .int .i64 ys, .slice Ac f.code.length cc]) (by simp [results, Tryz.results40, go_sem, r0, r1, r2]) rfl ⟨Ac, cc, by simp, by
     have h1 := Rx.keep HRX.out HK5.out
     have h2 := TyA.keep HTY.out HK5.out (Rx.inside HRX.out)
     unfold Nx
     simp only [List.length_map]
     exact ⟨Rx.more h1 (by omega) (by omega), h2⟩, by rw [List.length_map]; exact hcc.2, by rw [List.length_map]; exact hcc.1, HB5.out⟩
def Yx (w : World) (lo hi : Nat) (vs : List Value) (ys : List Lay) : Prop :=
 ∀ i, i < ys.length → ∃ Ai ci, vs[i * 3]? = some (.int .i64 (ys.getD i Lay.z).args) ∧ vs[i * 3 + 1]? = some (.int .i64 (ys.getD i Lay.z).size) ∧ vs[i * 3 + 2]? = some (.slice Ai (ys.getD i Lay.z).off.length ci) ∧
  (Ix w lo hi Ai (ys.getD i Lay.z).off ∧ TyA w Ai (ys.getD i Lay.z).off.length 3) ∧ (ys.getD i Lay.z).off.length ≤ maxLen ∧ (ys.getD i Lay.z).off.length ≤ ci
def Lx (w : World) (lo hi : Nat) (A : Option Addr) (ys : List Lay) : Prop := ∃ vs, Rx w lo hi 3 A ys.length vs ∧ Yx w lo hi vs ys
section
variable {lo hi lo' hi' : Nat} {w w' : World} {A : Option Addr} {k : Nat} {vs : List Value} {ys : List Lay}
theorem Yx.keep (h : Yx w lo hi vs ys) (hk : Kp lo hi w w') : Yx w' lo hi vs ys := fun i hi => by
 obtain ⟨Ai, ci, h1, h2, h3, ⟨h4, h4'⟩, h5⟩ := h i hi
 exact ⟨Ai, ci, h1, h2, h3, ⟨h4.keep hk, h4'.keep hk h4.inside⟩, h5⟩
theorem Yx.keepT {t : TypeId} (h : Yx w lo hi vs ys) (hk : Kt t lo hi w w') (hne : 3 ≠ t) : Yx w' lo hi vs ys := fun i hi => by
 obtain ⟨Ai, ci, h1, h2, h3, ⟨h4, h4'⟩, h5⟩ := h i hi
 exact ⟨Ai, ci, h1, h2, h3, ⟨h4.keepT h4' hk hne, TyA.keepT h4 h4' hk hne⟩, h5⟩
theorem Yx.more (h : Yx w lo hi vs ys) (hl : lo' ≤ lo) (hh : hi ≤ hi') : Yx w lo' hi' vs ys := fun i hi => by
 obtain ⟨Ai, ci, h1, h2, h3, ⟨h4, h4'⟩, h5⟩ := h i hi
 exact ⟨Ai, ci, h1, h2, h3, ⟨h4.more hl hh, h4'⟩, h5⟩
theorem Lx.keep (h : Lx w lo hi A ys) (hk : Kp lo hi w w') : Lx w' lo hi A ys := by
 obtain ⟨vs, h1, h2⟩ := h
 exact ⟨vs, h1.keep hk, h2.keep hk⟩
theorem Yx.snoc (h : Yx w lo hi vs ys) (hl : vs.length = ys.length * 3) {y : Lay} {Ai : Option Addr} {ci : Nat} (h2 : Ix w lo hi Ai y.off ∧ TyA w Ai y.off.length 3) (h4 : y.off.length ≤ maxLen ∧ y.off.length ≤ ci) :
 Yx w lo hi (vs ++ [.int .i64 y.args, .int .i64 y.size, .slice Ai y.off.length ci]) (ys ++ [y]) := fun i hi => by
 rw [List.length_append] at hi
 rcases Nat.lt_or_ge i ys.length with hlt | hge
 · obtain ⟨Ai', ci', q1, q2, q3, q4⟩ := h i hlt
   have e : (ys ++ [y]).getD i Lay.z = ys.getD i Lay.z := by rw [List.getD_eq_getElem?_getD, List.getD_eq_getElem?_getD, List.getElem?_append_left hlt]
   rw [e]
   exact ⟨Ai', ci', by rw [List.getElem?_append_left (by omega)]; exact q1, by rw [List.getElem?_append_left (by omega)]; exact q2, by rw [List.getElem?_append_left (by omega)]; exact q3, q4⟩
 · obtain rfl : i = ys.length := by simp at hi; omega
   have e : (ys ++ [y]).getD ys.length Lay.z = y := by simp
   rw [e]
   refine ⟨Ai, ci, ?_, ?_, ?_, h2, h4⟩
   · rw [List.getElem?_append_right (by omega), show ys.length * 3 - vs.length = 0 by omega]; rfl
   · rw [List.getElem?_append_right (by omega), show ys.length * 3 + 1 - vs.length = 1 by omega]; rfl
   · rw [List.getElem?_append_right (by omega), show ys.length * 3 + 2 - vs.length = 2 by omega]; rfl
theorem Lx.whole (h : Lx w lo hi A ys) (hk : k < ys.length) : ∃ ad Ai ci, A = some ad ∧ ad.block < hi ∧ w.cell? (ad.add (k * 3)) = some (.int .i64 (ys.getD k Lay.z).args) ∧ w.cell? ⟨(ad.add (k * 3)).block, (ad.add (k * 3)).off + 1, none⟩ = some (.int .i64 (ys.getD k Lay.z).size) ∧ w.cell? ⟨(ad.add (k * 3)).block, (ad.add (k * 3)).off + 2, none⟩ = some (.slice Ai (ys.getD k Lay.z).off.length ci) ∧
 Ix w lo hi Ai (ys.getD k Lay.z).off ∧ (ys.getD k Lay.z).off.length ≤ maxLen ∧ (ys.getD k Lay.z).off.length ≤ ci := by
 obtain ⟨vs, hr, hv⟩ := h
 obtain ⟨ad, e, hb, hc⟩ := hr.1.2 (by omega)
 obtain ⟨Ai, ci, h1, h2, h3, ⟨h4, -⟩, h5⟩ := hv k hk
 have c1 : w.cell? ((ad.add (k * 3)).add 1) = some (.int .i64 (ys.getD k Lay.z).size) := by rw [add_of_add]; exact hc _ _ h2
 have c2 : w.cell? ((ad.add (k * 3)).add 2) = some (.slice Ai (ys.getD k Lay.z).off.length ci) := by rw [add_of_add]; exact hc _ _ h3
 refine ⟨ad, Ai, ci, e, hb, hc _ _ h1, ?_, ?_, h4, h5⟩
 · rw [← add_pos _ 1 (by omega)]; exact c1
 · rw [← add_pos _ 2 (by omega)]; exact c2
end
theorem info_lay : (Tryz.prog.info? 101).map (fun i => (i.zero, i.size, i.bytes)) = some (some (.agg #[.int .i64 0, .int .i64 0, .slice none 0 0]), 3, 40) := by kernel_rfl
theorem three_one (a b : Int) (A : Option Addr) (n c : Nat) : ∀ u ∈ [Value.int .i64 a, .int .i64 b, .slice A n c], u.oneCell' = true := by
 intro u hu
 simp only [List.mem_cons, List.mem_nil_iff, or_false] at hu
 rcases hu with rfl | rfl | rfl <;> rfl
def BlsD (ys : List Lay) (w : World) (e : Ending) (w' : World) : Prop := ∃ A c, e = .returned (.tuple #[.slice A ys.length c, .int .i64 0]) ∧ Lx w' w.heap.size w'.heap.size A ys ∧ ys.length ≤ c ∧ ys.length ≤ maxLen ∧ Below w.heap.size w w'
theorem baselines_any (A : Option Addr) (p : List Fn) (cp m : Nat) (al : Int) (ha : AlOk al) (hp : PrOk m p) (w : World) (lo hi : Nat) (hf : Fx w lo hi A p) (hh : hi ≤ w.heap.size) (hm : p.length ≤ 1000) :
 Calls Tryz.prog 24 #[.agg #[.slice A p.length cp], .int .i64 al] w (BlsD (p.map (layF p al)) w) := by
 obtain ⟨i0, hi0, hz0, hz1, hz2⟩ := info_parts info_lay
 obtain ⟨W1, hW1⟩ : ∃ W1, W1 = w.alloc (.cells #[.slice A p.length cp] 78) := ⟨_, rfl⟩
 have hB1 : Below w.heap.size w W1 := by rw [hW1]; exact Below.al bR _
 have HP : Hid (Blk W1 w.heap.size 78 #[.slice A p.length cp]) := hQ (by rw [hW1]; exact Blk.new _ _ _)
 have HF : Hid (Fx W1 lo hi A p) := hQ (hf.keep (Kp.of_below hB1 hh))
 have hhi : hi ≤ W1.heap.size := Nat.le_trans hh hB1.size
 have hgP : w.heap.size < W1.heap.size := HP.out.lt
 have HB1 := hQ hB1
 have HW1 := hQ hW1
 have hpi : (p.length : Int) ≤ 9223372036854775807 := by omega
 clear hW1 hB1 hf
 obtain ⟨x0, -, xz⟩ := blk_one HP.out
 go_enter Tryz.func24, Tryz.ntmps24
 go_upto_region 1 with (fail)
 rw [← HW1.out]
 clear HW1
 go_wp2
 clear x0 xz
 go_loopw [6, 7] (fun ov v wr => ∃ (j : Nat) (vs : List Value), j ≤ p.length ∧ v = .int .i64 j ∧ wr.ownsRow W1.heap.size 101 3 ov j vs ∧ Hid (Yx wr W1.heap.size wr.heap.size vs ((p.take j).map (layF p al))) ∧ Hid (Kp 0 W1.heap.size W1 wr) ∧ Hid (Below w.heap.size w wr) ∧ W1.heap.size ≤ wr.heap.size) (fun _ v _ => p.length - (intOf v).toNat)
 case atStart => exact ⟨0, [], by omega, rfl, World.ownsRow_nil _ _ _ _, hQ (fun i hi => absurd hi (by simp)), hQ (Kp.refl _ _ _), HB1, Nat.le_refl _⟩
 case round =>
  obtain ⟨j, vs, hj, rfl, own, HY, HK, HB, hzr⟩ := hrel
  have hj0 : (0 : Int) ≤ (j : Int) := by omega
  obtain ⟨x0, -, xz⟩ := blk_one (Blk.kp HP.out HK.out (Nat.zero_le _) hgP)
  have hvl := own.1
  have HVL : Hid (vs.length = ((p.take j).map (layF p al)).length * 3) := hQ (by rw [hvl, List.length_map, List.length_take]; congr 1; omega)
  clear hvl
  by_cases hlt : j < p.length
  · have hji : (j : Int) < (p.length : Int) := by omega
    have HBL := hQ (baseline_any A p cp j m al ha hlt hp wr lo hi (HF.out.keep (Kp.less HK.out (Nat.zero_le _) hhi)) (by omega) (by unfold maxLen; omega))
    have HT : Hid ((p.take (j + 1)).map (layF p al) = (p.take j).map (layF p al) ++ [layF p al (p.getD j Fn.z)]) := hQ (by rw [take_snoc_at p Fn.z hlt, List.map_append]; rfl)
    obtain ⟨y, hy⟩ : ∃ y, y = layF p al (p.getD j Fn.z) := ⟨_, rfl⟩
    rw [← hy] at HBL HT
    clear hy
    have OWN := hQ own
    clear own
    go_wp2_with fail
    refine HBL.out.mono ?_
    rintro e w5 ⟨Ao, co, rfl, ⟨hix, hty⟩, hco, hom, bel⟩
    have HI5 := hQ (And.intro hix hty)
    have HK5 : Hid (Kp 0 wr.heap.size wr w5) := hQ (Kp.of_below bel nL)
    have HB5 : Hid (Below w.heap.size w w5) := hQ (HB.out.trans (bel.mono HB.out.size))
    have O5 := hQ (own_keep OWN.out bel nL)
    have hz5 := bel.size
    clear hix hty bel x0 xz HBL
    go_upto_region 8 with (fail)
    obtain ⟨ya, ys, yo⟩ := y
    simp only at hco hom HI5
    have own6 := (O5.out.alloc (.cells #[.int .i64 ya, .int .i64 ys, .slice Ao yo.length co] 101))
    go_wp2_with (at_builtin
                 refine wpList_append_any _ rfl (.tmp 27) (.tmp 29) _ rfl W1.heap.size 101 i0 _ 3 40 Tryz.underlying81 hi0 hz0 hz1 hz2 rfl (by omega) _ j vs rfl (own6.alloc _) (w5.heap.size + 1 + 1) (some ⟨w5.heap.size + 1, 0, none⟩) 1 1 [.int .i64 ya, .int .i64 ys, .slice Ao yo.length co] rfl (by have := reads_new (w := w5.alloc (.cells #[.int .i64 ya, .int .i64 ys, .slice Ao yo.length co] 101)) (size := 3) (n := 1) (t := 101) (cs := [.int .i64 ya, .int .i64 ys, .slice Ao yo.length co]) rfl; simpa using this) (three_one _ _ _ _ _) (by unfold maxLen; omega) (by omega) (by simp; omega) ?_
                 intro v2 w7 own2 hg2 hat2)
    have K5A : Kp 0 w5.heap.size w5 ((w5.alloc (.cells #[.int .i64 ya, .int .i64 ys, .slice Ao yo.length co] 101)).alloc (.cells #[.int .i64 ya, .int .i64 ys, .slice Ao yo.length co] 101)) := Kp.alloc (Kp.alloc (Kp.refl _ _ _) nL _) (by simp) _
    have KT : Kt 101 W1.heap.size w5.heap.size w5 w7 := (Kt.of_kp (Kp.less K5A (Nat.zero_le _) nL)).trans (Kt.of_own (own6.alloc _) hg2 (by simp; omega))
    have hz7 := hg2.size
    simp at hz7
    have HY7 : Hid (Yx w7 W1.heap.size w7.heap.size (vs ++ [.int .i64 ya, .int .i64 ys, .slice Ao yo.length co]) ((p.take (j + 1)).map (layF p al))) := hQ (by
     rw [HT.out]
     refine Yx.snoc ?_ HVL.out (y := ⟨ya, ys, yo⟩) ?_ ⟨hom, hco⟩
     · exact Yx.more (Yx.keepT (Yx.more (Yx.keep HY.out (Kp.less HK5.out (Nat.zero_le _) nL)) nL hz5) KT (by decide)) nL (by omega)
     · have KT' : Kt 101 wr.heap.size w5.heap.size w5 w7 := Kt.less KT hzr nL
       exact ⟨Ix.more (Rx.keepT HI5.out.1 HI5.out.2 KT' (by decide)) hzr (by omega), TyA.keepT HI5.out.1 HI5.out.2 KT' (by decide)⟩)
    have HK7 : Hid (Kp 0 W1.heap.size W1 w7) := hQ (((HK.out.trans (Kp.less HK5.out nL hzr)).trans (Kp.less K5A nL (by omega))).trans (Kp.of_own (own6.alloc _) hg2 nL (by simp; omega)))
    have HB7 : Hid (Below w.heap.size w w7) := hQ ((Below.al (Below.al HB5.out _) _).grown hg2 (by have := HB5.out.size; simp; omega) (fun k hk => by have := (own6.lt k hk).1; omega))
    clear own6 hg2 hat2 K5A KT O5 HI5
    go_roundw
    case rel => exact ⟨j + 1, _, by omega, by go_num, own2, HY7, HK7, HB7, by omega⟩
    case measure => simp [intOf]; omega
  · obtain rfl : j = p.length := by omega
    rw [List.take_length] at HY HVL
    obtain ⟨Al, cl, rfl, -⟩ := own_form own
    have hcc := own_cap own
    have HRX := hQ (Rx.of_own own)
    clear own
    go_wp2
    go_ret2
    exact ⟨Al, cl, by rw [List.length_map]; rfl, ⟨vs, by rw [List.length_map]; exact Rx.more HRX.out (by omega) nL, Yx.more HY.out (by omega) nL⟩, by rw [List.length_map]; exact hcc.2, by rw [List.length_map]; exact hcc.1, HB.out⟩
theorem right03_any (o s : Int) (w : World) : Calls Tryz.prog 90 #[.agg #[.int .i64 o, .int .i64 s]] w fun e w' => e = .returned (.bool (rgtB o s)) ∧ Below w.heap.size w w' := by
 have HI : Hid (rgtB o s = (bndB o && bndB s && decide (o + s ≤ 2147483647))) := hQ rfl
 rcases ho : bndB o with _ | _
 · have HO := hQ ho
   clear ho
   go_enter Tryz.func90, Tryz.ntmps90
   go_wp2_with fail
   refine (refbnd_any _ _).mono ?_
   rintro e w1 ⟨rfl, rfl⟩
   rw [HO.out]
   go_wp2
   go_ret
   exact ⟨ret_bool (by rw [HI.out, HO.out]; rfl), bR.alloc nL _⟩
 · rcases hs : bndB s with _ | _
   · have HO := hQ ho
     have HS := hQ hs
     clear ho hs
     go_enter Tryz.func90, Tryz.ntmps90
     go_wp2_with fail
     refine (refbnd_any _ _).mono ?_
     rintro e w1 ⟨rfl, rfl⟩
     rw [HO.out]
     go_wp2_with fail
     refine (refbnd_any _ _).mono ?_
     rintro e w1 ⟨rfl, rfl⟩
     rw [HS.out]
     go_wp2
     go_ret
     exact ⟨ret_bool (by rw [HI.out, HO.out, HS.out]; rfl), bR.alloc nL _⟩
   · have ho1 := inB_t.1 ho
     have hs1 := inB_t.1 hs
     obtain ⟨n1, n2⟩ := ho1
     obtain ⟨n3, n4⟩ := hs1
     have HO := hQ ho
     have HS := hQ hs
     clear ho hs
     go_enter Tryz.func90, Tryz.ntmps90
     go_wp2_with fail
     refine (refbnd_any _ _).mono ?_
     rintro e w1 ⟨rfl, rfl⟩
     rw [HO.out]
     go_wp2_with fail
     refine (refbnd_any _ _).mono ?_
     rintro e w1 ⟨rfl, rfl⟩
     rw [HS.out]
     go_wp2
     go_ret
     exact ⟨ret_bool (by rw [HI.out, HO.out, HS.out]; rfl), bR.alloc nL _⟩
theorem inside03_any (o s size : Int) (w : World) : Calls Tryz.prog 62 #[.agg #[.int .i64 o, .int .i64 s], .int .i64 size] w fun e w' => e = .returned (.bool (insB o s size)) ∧ Below w.heap.size w w' := by
 have HI : Hid (insB o s size = (rgtB o s && decide (o + s ≤ size))) := hQ rfl
 rcases hr : rgtB o s with _ | _
 · have HO := hQ hr
   clear hr
   go_enter Tryz.func62, Tryz.ntmps62
   go_wp2_with fail
   refine (right03_any _ _ _).mono ?_
   rintro e w1 ⟨rfl, bel⟩
   have HB := hQ (((Below.refl w.heap.size w).alloc nL _).trans (bel.mono (by simp)))
   clear bel
   rw [HO.out]
   go_wp2
   go_ret
   exact ⟨ret_bool (by rw [HI.out, HO.out]; rfl), HB.out⟩
 · obtain ⟨n1, n2, n3, n4⟩ := rgtB_t hr
   have HO := hQ hr
   clear hr
   go_enter Tryz.func62, Tryz.ntmps62
   go_wp2_with fail
   refine (right03_any _ _ _).mono ?_
   rintro e w1 ⟨rfl, bel⟩
   have HB := hQ (((Below.refl w.heap.size w).alloc nL _).trans (bel.mono (by simp)))
   have hk := hQ ((Blk.new w 139 #[.int .i64 o, .int .i64 s]).after bel)
   clear bel
   obtain ⟨c0, c1, -, -, cz⟩ := hk.out.c2
   rw [HO.out]
   go_wp2
   go_ret
   exact ⟨ret_bool (by rw [HI.out, HO.out]; rfl), HB.out⟩
theorem shape_any (A Ao : Option Addr) (p : List Fn) (cp k m co : Nat) (al : Int) (ha : AlOk al) (hk : k < p.length) (hp : PrOk m p) (w : World) (lo hi lo' hi' : Nat) (hf : Fx w lo hi A p) (hy : Ix w lo' hi' Ao (layF p al (p.getD k Fn.z)).off) (hh : hi ≤ w.heap.size) (hh' : hi' ≤ w.heap.size) (hm : p.length ≤ maxLen) :
 Calls Tryz.prog 39 #[.agg #[.slice A p.length cp], .int .i64 (k : Int), .int .i64 al, .agg #[.int .i64 (layF p al (p.getD k Fn.z)).args, .int .i64 (layF p al (p.getD k Fn.z)).size, .slice Ao (layF p al (p.getD k Fn.z)).off.length co]] w fun e w' => e = .returned (.int .i64 0) ∧ Below w.heap.size w w' := by
 have hok := hp.2.2.2 _ (getD_mem' (z := Fn.z) hk)
 obtain ⟨n0, n1, n2, n3, n4, n5, n6⟩ := lay_nums hp hok ha
 have hoff := fun q hq => offs_at (p.getD k Fn.z).slots (argsI p (p.getD k Fn.z)) q hok.2.2.2.1 hq
 have hyl : (layF p al (p.getD k Fn.z)).off.length = (p.getD k Fn.z).slots.length := offs_len _ _
 have hya : (layF p al (p.getD k Fn.z)).args = argsI p (p.getD k Fn.z) := rfl
 have hyo : (layF p al (p.getD k Fn.z)).off = offs (argsI p (p.getD k Fn.z)) (p.getD k Fn.z).slots := rfl
 have hal : 1 ≤ al ∧ al ≤ 64 := by rcases ha with h | h | h <;> rw [h] <;> decide
 rw [← hyo] at hoff
 obtain ⟨y, hye⟩ : ∃ y, y = layF p al (p.getD k Fn.z) := ⟨_, rfl⟩
 obtain ⟨W1, hW1⟩ : ∃ W1, W1 = (w.alloc (.cells #[.slice A p.length cp] 78)).alloc (.cells #[.int .i64 y.args, .int .i64 y.size, .slice Ao y.off.length co] 101) := ⟨_, rfl⟩
 have hB1 : Below w.heap.size w W1 := by rw [hW1]; exact Below.al (Below.al bR _) _
 have HP : Hid (Blk W1 w.heap.size 78 #[.slice A p.length cp]) := hQ (by rw [hW1]; exact (Blk.new _ _ _).alloc _)
 have HY : Hid (Blk W1 (w.heap.size + 1) 101 #[.int .i64 y.args, .int .i64 y.size, .slice Ao y.off.length co]) := hQ (by rw [hW1]; exact Blk.newAt (by simp))
 have hf1 := hf.keep (Kp.of_below hB1 hh)
 have hhi : hi ≤ W1.heap.size := Nat.le_trans hh hB1.size
 have hhi' : hi' ≤ W1.heap.size := Nat.le_trans hh' hB1.size
 have HF1 := hQ hf1
 have HIX := hQ (hy.keep (Kp.of_below hB1 hh'))
 have HBL := hQ (baseline_any A p cp k m al ha hk hp W1 lo hi hf1 hhi hm)
 obtain ⟨ad, As, cs, Ai, ci, rfl, hb1, p0, p1, p2, p1', p2', sx, nx, ⟨sm, -⟩, nm, -⟩ := hf1.whole hk
 obtain ⟨f, hfe⟩ : ∃ f, f = p.getD k Fn.z := ⟨_, rfl⟩
 have HAR := hQ (fun W h => args_any (some ad) p cp k m hk hp W lo hi h)
 rw [← hfe] at p0 p1 p2 p1' p2' sx nx nm sm hok n0 n1 n2 n3 n4 n5 n6 hoff hyl hya hyo hye HAR
 rw [← hfe, ← hye] at HIX HBL ⊢
 rw [← hye] at n4 n5 n6 hoff hyl hya hyo
 have HSX := hQ sx
 have hsl := hok.2.2.2.1
 have hsl6 := hok.2.2.1
 have HSL := hQ hsl
 have HOF := hQ hoff
 have HB1 := hQ hB1
 have HW1 := hQ hW1
 have HYL := hQ hyl
 obtain ⟨ag, hag⟩ : ∃ ag, ag = argsI p f := ⟨_, rfl⟩
 rw [← hag] at HAR hya n0 n1 n2 n3 HOF
 have HYA := hQ hya
 have hpi : (p.length : Int) ≤ 9223372036854775807 := by unfold maxLen at hm; omega
 have hk0 : (0 : Int) ≤ (k : Int) := by omega
 have hk1 : (k : Int) < (p.length : Int) := by omega
 have hes : endS ag f.slots ≤ y.size := by rw [hag]; exact n4
 have hyle : ag ≤ y.size := by omega
 clear hW1 hB1 hf hf1 sx nx hfe hok hy hye hoff hsl hag p0 p2 p2'
 obtain ⟨ya, ys, yo⟩ := y
 simp only at HIX HBL HY HYL HYA HW1 HOF hes hyle n5 n6 ⊢
 obtain ⟨l, hl⟩ : ∃ l, l = yo.length := ⟨_, rfl⟩
 have HLL : Hid (l = yo.length) := hQ hl
 have HLS : Hid (l = f.slots.length) := hQ (hl.trans HYL.out)
 rw [← hl] at HY HW1 ⊢
 have hya2 := HYA.out.symm
 subst hya2
 clear hl hya hyl hyo
 have hli : (l : Int) ≤ 9223372036854775807 := by have := HLS.out; omega
 have hl6 : l ≤ 6 := by have := HLS.out; omega
 obtain ⟨x0, -, xz⟩ := blk_one HP.out
 go_enter Tryz.func39, Tryz.ntmps39
 go_upto_region 1 with (fail)
 rw [← HW1.out]
 clear HW1
 go_wp2_with fail
 refine HBL.out.mono ?_
 rintro e w2 ⟨Ab, cb, rfl, -, -, -, bel⟩
 simp only
 have HB2 : Hid (Below w.heap.size w w2) := hQ (HB1.out.trans (bel.mono HB1.out.size))
 have HK2 : Hid (Kp 0 W1.heap.size W1 w2) := hQ (Kp.of_below bel nL)
 have hz2 := bel.size
 have hgY : w.heap.size + 1 < W1.heap.size := HY.out.lt
 have q1 := (bel.cell (cell_lt p1)).trans p1
 have q1' := (bel.cell (cell_lt p1')).trans p1'
 clear bel x0 xz HBL p1 p1'
 go_upto_region 2 with (fail)
 obtain ⟨W3, hW3⟩ : ∃ W3, W3 = w2.alloc (.cells #[.int .i64 ag, .int .i64 ys, .slice Ab yo.length cb] 101) := ⟨_, rfl⟩
 rw [← hW3]
 have hb3 : Below w2.heap.size w2 W3 := by rw [hW3]; exact Below.al bR _
 have HB3 : Hid (Below w.heap.size w W3) := hQ (HB2.out.trans (hb3.mono HB2.out.size))
 have HK3 : Hid (Kp 0 W1.heap.size W1 W3) := hQ (HK2.out.trans (Kp.of_below hb3 hz2))
 have HKB : Hid (Blk W3 w2.heap.size 101 #[.int .i64 ag, .int .i64 ys, .slice Ab yo.length cb]) := hQ (by rw [hW3]; exact Blk.new _ _ _)
 have hzb := HKB.out.lt
 have HP3 : Hid (Blk W3 w.heap.size 78 #[.slice (some ad) p.length cp]) := hQ (Blk.kp HP.out HK3.out (Nat.zero_le _) (by omega))
 have HY3 : Hid (Blk W3 (w.heap.size + 1) 101 #[.int .i64 ag, .int .i64 ys, .slice Ao l co]) := hQ (Blk.kp HY.out HK3.out (Nat.zero_le _) hgY)
 have HF3 : Hid (Fx W3 lo hi (some ad) p) := hQ (HF1.out.keep (Kp.less HK3.out (Nat.zero_le _) hhi))
 have HSX3 : Hid (Sx W3 lo hi As f.slots) := hQ (HSX.out.keep (Kp.less HK3.out (Nat.zero_le _) hhi))
 have HIX3 : Hid (Ix W3 lo' hi' Ao yo) := hQ (HIX.out.keep (Kp.less HK3.out (Nat.zero_le _) hhi'))
 have hh3 : hi ≤ W3.heap.size := by omega
 have hh3' : hi' ≤ W3.heap.size := by omega
 have r1 := (hb3.cell (cell_lt q1)).trans q1
 have r1' := (hb3.cell (cell_lt q1')).trans q1'
 clear hW3 hb3 HP HY HF1 HSX HIX HB1 HB2 HK2 HK3 q1 q1' hzb
 generalize w2.heap.size = gB at *
 obtain ⟨x0, -, xz⟩ := blk_one HP3.out
 obtain ⟨y0, y1, y2, -, -, -, yz⟩ := HY3.out.c3
 go_upto_region 5 with (fail)
 clear r1 r1'
 have hd3 : Below W3.heap.size W3 W3.drew := bR.drew
 have HAC := hQ (HAR.out W3.drew (HF3.out.keep (Kp.of_below hd3 hh3)) hh3 hm)
 have HS5 : Hid (∀ W, Below W3.heap.size W3 W → W.cell? ⟨w.heap.size, 0, none⟩ = some (.slice (some ad) p.length cp) ∧ W.cell? ⟨w.heap.size + 1, 0, none⟩ = some (.int .i64 ag) ∧ W.cell? ⟨w.heap.size + 1, 2, none⟩ = some (.slice Ao l co)) := hQ (fun W hW => ⟨(hW.cell xz).trans x0, (hW.cell yz).trans y0, (hW.cell yz).trans y2⟩)
 have BEL0 := hQ hd3
 have hlsi : (f.slots.length : Int) = (l : Int) := by have := HLS.out; omega
 clear hd3
 go_region_held3 (fun W => W.cell? ⟨w.heap.size, 0, none⟩ = some (.slice (some ad) p.length cp) ∧ W.cell? ⟨w.heap.size + 1, 0, none⟩ = some (.int .i64 ag) ∧ W.cell? ⟨w.heap.size + 1, 2, none⟩ = some (.slice Ao l co))
  (first | exact HS5.out _ BEL0.out | exact HS5.out _ BEL1.out)
  ((go_at_call 60
    refine HAC.out.mono ?_
    rintro e w5 ⟨rfl, bel5⟩
    have BEL1 : Hid (Below W3.heap.size W3 w5) := hQ (BEL0.out.trans bel5)
    clear bel5))
 have HB5 : Hid (Below W3.heap.size W3 w5) := BEL1
 clear BEL0 BEL1 HS5 HAC hlsi x0 xz y0 y1 y2 yz
 go_wp2
 have hsi : (f.slots.length : Int) ≤ 9223372036854775807 := by have := HLS.out; omega
 go_loopw [12] (fun v wr => ∃ (j : Nat), j ≤ f.slots.length ∧ v = .int .i64 j ∧ Hid (Below W3.heap.size W3 wr)) (fun v _ => f.slots.length - (intOf v).toNat)
 case atStart => exact ⟨0, by omega, rfl, HB5⟩
 case round =>
  obtain ⟨j, hj, rfl, HB⟩ := hrel
  have hj0 : (0 : Int) ≤ (j : Int) := by omega
  have hszr := HB.out.size
  obtain ⟨y0, y1, y2, -, -, -, yz⟩ := (HY3.out.after HB.out).c3
  by_cases hlt : j < f.slots.length
  · have hji : (j : Int) < (f.slots.length : Int) := by omega
    have hjl : (j : Int) < (l : Int) := by have := HLS.out; omega
    obtain ⟨a1, rfl, hbl, c0, c1⟩ := (HSX3.out.keep (Kp.of_below HB.out hh3)).at_ hlt
    have c1w := c1
    rw [add_pos _ 1 (by omega)] at c1w
    obtain ⟨ao, rfl, hbo, o0, o0'⟩ := (HIX3.out.keep (Kp.of_below HB.out hh3')).at_ (show j < yo.length by have := HLL.out; have := HLS.out; omega)
    have hso := slot_nums (HSL.out _ (getD_mem' (z := (0, 0)) hlt))
    obtain ⟨g0, g1, g2⟩ := HOF.out j hlt
    obtain ⟨s, hs⟩ : ∃ s, s = f.slots.getD j (0, 0) := ⟨_, rfl⟩
    obtain ⟨o, ho⟩ : ∃ o, o = yo.getD j 0 := ⟨_, rfl⟩
    rw [← hs] at c0 c1 c1w hso g1 g2
    rw [← ho] at o0 o0' g0 g1 g2
    obtain ⟨sz, sa⟩ := s
    simp only at c0 c1 c1w hso g1 g2
    obtain ⟨s1, s2, s3, s4⟩ := hso
    have hc1 : decide (o < ag) = false := by rw [decide_eq_false_iff_not]; omega
    have hm : o.tmod sa = 0 := by rw [Int.tmod_eq_emod_of_nonneg (by omega)]; exact g2
    have hsab : (sa == 0) = false := by rw [beq_eq_false_iff_ne]; omega
    have hsan : ¬ sa = 0 := by omega
    have HIN : Hid (∀ W, Calls Tryz.prog 62 #[.agg #[.int .i64 o, .int .i64 sz], .int .i64 ys] W fun e w' => e = .returned (.bool true) ∧ Below W.heap.size W w') := hQ (fun W => (insB_ok (o := o) (s := sz) (size := ys) (by omega) (by omega) (by omega) (by omega)) ▸ inside03_any o sz ys W)
    have hbl2 : (a1.add (j * 2)).block < wr.heap.size := by rw [block_of_add]; omega
    have hbo2 : (ao.add j).block < wr.heap.size := by rw [block_of_add]; omega
    have hbo3 : (ao.add (j * 1)).block < wr.heap.size := by rw [block_of_add]; omega
    have HS : Hid (∀ W, Below wr.heap.size wr W → (W.cell? ⟨w.heap.size + 1, 0, none⟩ = some (.int .i64 ag) ∧ W.cell? ⟨w.heap.size + 1, 1, none⟩ = some (.int .i64 ys) ∧ W.cell? ⟨w.heap.size + 1, 2, none⟩ = some (.slice (some ao) l co)) ∧ (W.cell? (ao.add (j * 1)) = some (.int .i64 o) ∧ W.cell? (ao.add j) = some (.int .i64 o)) ∧ W.cell? (a1.add (j * 2)) = some (.int .i64 sz) ∧ W.cell? ((a1.add (j * 2)).add 1) = some (.int .i64 sa) ∧ W.cell? ⟨(a1.add (j * 2)).block, (a1.add (j * 2)).off + 1, none⟩ = some (.int .i64 sa)) := hQ (fun W hW => ⟨⟨(hW.cell yz).trans y0, (hW.cell yz).trans y1, (hW.cell yz).trans y2⟩, ⟨(hW.cell hbo3).trans o0, (hW.cell hbo2).trans o0'⟩, (hW.cell hbl2).trans c0, (hW.cell (p := (a1.add (j * 2)).add 1) (by rw [block_of_add]; exact hbl2)).trans c1, (hW.cell (p := ⟨(a1.add (j * 2)).block, (a1.add (j * 2)).off + 1, none⟩) hbl2).trans c1w⟩)
    have BEL0 : Hid (Below wr.heap.size wr wr.drew) := hQ bR.drew
    have hwr : IntKind.i64.wrap (sz) = sz := by unfold IntKind.wrap; simp [IntKind.bits, IntKind.signed]; omega
    clear hs ho g2 hwr hbl2 hbo2 hbo3
    go_wp2_with fail
    go_region_held3 (fun W => (W.cell? ⟨w.heap.size + 1, 0, none⟩ = some (.int .i64 ag) ∧ W.cell? ⟨w.heap.size + 1, 1, none⟩ = some (.int .i64 ys) ∧ W.cell? ⟨w.heap.size + 1, 2, none⟩ = some (.slice (some ao) l co)) ∧ (W.cell? (ao.add (j * 1)) = some (.int .i64 o) ∧ W.cell? (ao.add j) = some (.int .i64 o)) ∧ W.cell? (a1.add (j * 2)) = some (.int .i64 sz) ∧ W.cell? ((a1.add (j * 2)).add 1) = some (.int .i64 sa) ∧ W.cell? ⟨(a1.add (j * 2)).block, (a1.add (j * 2)).off + 1, none⟩ = some (.int .i64 sa))
     (first | exact HS.out _ BEL0.out | exact HS.out _ BEL1.out)
     ((go_at_call 62
       refine (HIN.out _).mono ?_
       rintro e w5 ⟨rfl, bel5⟩
       have BEL1 : Hid (Below wr.heap.size wr w5) := hQ (BEL0.out.trans bel5)
       clear bel5))
    have HBn : Hid (Below W3.heap.size W3 w5) := hQ (HB.out.trans (BEL1.out.mono hszr))
    clear HS HIN BEL0 BEL1 y0 y1 y2 yz c0 c1 c1w o0 o0'
    go_wp2
    go_roundw
    case rel => exact ⟨j + 1, by omega, by go_num, HBn⟩
    case measure => simp [intOf]; omega
  · obtain rfl : j = f.slots.length := by omega
    obtain ⟨b0, b1, b2, -, -, -, bz⟩ := (HKB.out.after HB.out).c3
    have hm : ys.tmod al = 0 := by rw [Int.tmod_eq_emod_of_nonneg (by omega)]; exact n6
    have hab : (al == 0) = false := by rw [beq_eq_false_iff_ne]; omega
    have han : ¬ al = 0 := by omega
    have hc1 : decide (ys < ag) = false := by rw [decide_eq_false_iff_not]; omega
    have HFI : Hid (Below w.heap.size w wr) := hQ (HB3.out.trans (HB.out.mono HB3.out.size))
    clear HB
    go_wp2
    go_ret
    exact ⟨rfl, HFI.out⟩
def Tx (w : World) (vs : List Value) (n : Nat) : Prop := ∀ i, i < n → ∀ Ai m c, vs[i * 3 + 2]? = some (.slice Ai m c) → TyA w Ai m 50
section
variable {lo hi lo' hi' n : Nat} {w w' : World} {A : Option Addr} {vs : List Value} {t : List Fr}
theorem Wx.keepT {ty : TypeId} (h : Wx w lo hi vs t) (ht : Tx w vs t.length) (hk : Kt ty lo hi w w') (hne : 50 ≠ ty) : Wx w' lo hi vs t ∧ Tx w' vs t.length := by
 refine ⟨fun i hi => ?_, fun i hi Ai m c hv => ?_⟩
 · obtain ⟨Ai, ci, h1, h2, h3, h5, h6⟩ := h i hi
   exact ⟨Ai, ci, h1, h2, h3, Rx.keepT h5 (ht i hi _ _ _ h3) hk hne, h6⟩
 · obtain ⟨Ai', ci, h1, h2, h3, h5, h6⟩ := h i hi
   have hT := ht i hi _ _ _ h3
   rw [h3] at hv
   injection hv with hv
   injection hv with e1 e2 e3
   subst e1 e2 e3
   exact TyA.keepT h5 hT hk hne
theorem Wx.keepK (h : Wx w lo hi vs t) (ht : Tx w vs t.length) (hk : Kp lo hi w w') : Wx w' lo hi vs t ∧ Tx w' vs t.length := by
 refine ⟨h.keep hk, fun i hi Ai m c hv => ?_⟩
 obtain ⟨Ai', ci, h1, h2, h3, h5, h6⟩ := h i hi
 have hT := ht i hi _ _ _ h3
 rw [h3] at hv
 injection hv with hv
 injection hv with e1 e2 e3
 subst e1 e2 e3
 exact TyA.keep hT hk (Rx.inside h5)
theorem Tx.snoc (h : Tx w vs n) (hl : vs.length = n * 3) {a b : Value} {Ai : Option Addr} {m ci : Nat} (h2 : TyA w Ai m 50) : Tx w (vs ++ [a, b, .slice Ai m ci]) (n + 1) := fun i hi Ai' m' c' hv => by
 rcases Nat.lt_or_ge i n with hlt | hge
 · rw [List.getElem?_append_left (by omega)] at hv
   exact h i hlt _ _ _ hv
 · obtain rfl : i = n := by omega
   rw [List.getElem?_append_right (by omega), show i * 3 + 2 - vs.length = 2 by omega] at hv
   have e : Value.slice Ai m ci = Value.slice Ai' m' c' := by simpa using hv
   injection e with e1 e2 e3
   subst e1 e2 e3
   exact h2
end
theorem info_frm : (Tryz.prog.info? 53).map (fun i => (i.zero, i.size, i.bytes)) = some (some (.agg #[.int .i64 0, .int .i64 0, .slice none 0 0]), 3, 40) := by kernel_rfl
def GT (w : World) (lo hi : Nat) (A : Option Addr) (t : List Fr) : Prop := ∃ vs, Rx w lo hi 3 A t.length vs ∧ Wx w lo hi vs t ∧ Tx w vs t.length
theorem GT.gx {w : World} {lo hi : Nat} {A : Option Addr} {t : List Fr} (h : GT w lo hi A t) : Gx w lo hi A t := by
 obtain ⟨vs, h1, h2, -⟩ := h
 exact ⟨vs, h1, h2⟩
theorem GT.keep {w w' : World} {lo hi : Nat} {A : Option Addr} {t : List Fr} (h : GT w lo hi A t) (hk : Kp lo hi w w') : GT w' lo hi A t := by
 obtain ⟨vs, h1, h2, h3⟩ := h
 exact ⟨vs, h1.keep hk, h2.keepK h3 hk⟩
theorem Blk.put2 {w : World} {g : Nat} {t : TypeId} {b0 b1 : Value} (h : Blk w g t #[b0, b1]) (a0 a1 : Value) :
 Blk ((w.setCell ⟨g, 0, none⟩ a0).setCell ⟨g, 1, none⟩ a1) g t #[a0, a1] := by
 have := (h.set_ 0 a0).set_ 1 a1
 simpa using this
def TgtD (al : Int) (t : List Fr) (w : World) (e : Ending) (w' : World) : Prop := ∃ A c, e = .returned (.tuple #[.agg #[.int .i64 al, .slice A t.length c], .int .i64 0]) ∧ GT w' w.heap.size w'.heap.size A t ∧ t.length ≤ c ∧ t.length ≤ maxLen ∧ Below w.heap.size w w'
theorem target26_any (A Al : Option Addr) (p : List Fn) (cp cl m : Nat) (al : Int) (ha : AlOk al) (hp : PrOk m p) (w : World) (lo hi lo' hi' : Nat) (hf : Fx w lo hi A p) (hy : Lx w lo' hi' Al (p.map (layF p al))) (hh : hi ≤ w.heap.size) (hh' : hi' ≤ w.heap.size) (hm : p.length ≤ 1000) :
 Calls Tryz.prog 25 #[.agg #[.slice A p.length cp], .int .i64 al, .slice Al p.length cl] w (TgtD al (p.map (lowF p al)) w) := by
 obtain ⟨i0, hi0, hz0', hz1', hz2'⟩ := info_parts info_frm
 obtain ⟨W1, hW1⟩ : ∃ W1, W1 = (w.alloc (.cells #[.slice A p.length cp] 78)).alloc (.cells #[.int .i64 0, .slice none 0 0] 26) := ⟨_, rfl⟩
 have hB1 : Below w.heap.size w W1 := by rw [hW1]; exact Below.al (Below.al bR _) _
 have HP : Hid (Blk W1 w.heap.size 78 #[.slice A p.length cp]) := hQ (by rw [hW1]; exact (Blk.new _ _ _).alloc _)
 have HR : Hid (Blk W1 (w.heap.size + 1) 26 #[.int .i64 0, .slice none 0 0]) := hQ (by rw [hW1]; exact Blk.newAt (by simp))
 have HF : Hid (Fx W1 lo hi A p) := hQ (hf.keep (Kp.of_below hB1 hh))
 have HL : Hid (Lx W1 lo' hi' Al (p.map (layF p al))) := hQ (hy.keep (Kp.of_below hB1 hh'))
 have hhi : hi ≤ W1.heap.size := Nat.le_trans hh hB1.size
 have hhi' : hi' ≤ W1.heap.size := Nat.le_trans hh' hB1.size
 have hgR : w.heap.size + 1 < W1.heap.size := HR.out.lt
 have HB1 := hQ hB1
 have HW1 := hQ hW1
 have hpi : (p.length : Int) ≤ 9223372036854775807 := by omega
 clear hW1 hB1 hf hy
 obtain ⟨x0, -, xz⟩ := blk_one HP.out
 go_enter Tryz.func25, Tryz.ntmps25
 go_upto_region 1 with (fail)
 rw [← HW1.out]
 clear HW1
 go_wp2
 clear x0 xz
 go_loopw [8, 9] (fun ov v wr => ∃ (j : Nat) (vs : List Value), j ≤ p.length ∧ v = .int .i64 j ∧ wr.ownsRow W1.heap.size 53 3 ov j vs ∧ Hid (Wx wr W1.heap.size wr.heap.size vs ((p.take j).map (lowF p al)) ∧ Tx wr vs j) ∧ Hid (Kp 0 W1.heap.size W1 wr) ∧ Hid (Below w.heap.size w wr) ∧ W1.heap.size ≤ wr.heap.size) (fun _ v _ => p.length - (intOf v).toNat)
 case atStart => exact ⟨0, [], by omega, rfl, World.ownsRow_nil _ _ _ _, hQ ⟨fun i hi => absurd hi (by simp), fun i hi => absurd hi (by simp)⟩, hQ (Kp.refl _ _ _), HB1, Nat.le_refl _⟩
 case round =>
  obtain ⟨j, vs, hj, rfl, own, HW, HK, HB, hzr⟩ := hrel
  have hj0 : (0 : Int) ≤ (j : Int) := by omega
  obtain ⟨x0, -, xz⟩ := blk_one (Blk.kp HP.out HK.out (Nat.zero_le _) (by omega))
  have hvl := own.1
  have HVL : Hid (vs.length = ((p.take j).map (lowF p al)).length * 3) := hQ (by rw [hvl, List.length_map, List.length_take]; congr 1; omega)
  clear hvl
  by_cases hlt : j < p.length
  · have hji : (j : Int) < (p.length : Int) := by omega
    have hjm : j < (p.map (layF p al)).length := by rw [List.length_map]; exact hlt
    obtain ⟨a1, Ao, co, rfl, hbl, c0, c1, c2, hix, hom, hoc⟩ := (HL.out.keep (Kp.less HK.out (Nat.zero_le _) hhi')).whole hjm
    have hgd : (p.map (layF p al)).getD j Lay.z = layF p al (p.getD j Fn.z) := by
     rw [List.getD_eq_getElem?_getD, List.getElem?_map, List.getElem?_eq_getElem hlt, List.getD_eq_getElem?_getD, List.getElem?_eq_getElem hlt]
     rfl
    rw [hgd] at c0 c1 c2 hix hom hoc
    have hok := hp.2.2.2 _ (getD_mem' (z := Fn.z) hlt)
    obtain ⟨n0, n1, n2, n3, n4, n5, n6⟩ := lay_nums hp hok ha
    have hyl : (layF p al (p.getD j Fn.z)).off.length = (p.getD j Fn.z).slots.length := offs_len _ _
    have hFr := HF.out.keep (Kp.less HK.out (Nat.zero_le _) hhi)
    have hd : Kp 0 wr.heap.size wr wr.drew := Kp.refl _ _ _
    have HSH := hQ (shape_any A Ao p cp j m co al ha hlt hp wr.drew lo hi lo' hi' (hFr.keep (Kp.less hd (Nat.zero_le _) (by omega))) (hix.keep (Kp.less hd (Nat.zero_le _) (by omega))) (show hi ≤ wr.heap.size by omega) (show hi' ≤ wr.heap.size by omega) (by unfold maxLen; omega))
    have HFR := hQ (fun W (hK : Kp 0 wr.heap.size wr W) (hs : wr.heap.size ≤ W.heap.size) => frame26_any A Ao p cp j m co (layF p al (p.getD j Fn.z)) hlt hp hyl (by omega) n5 W lo hi lo' hi' (hFr.keep (Kp.less hK (Nat.zero_le _) (by omega))) (hix.keep (Kp.less hK (Nat.zero_le _) (by omega))) (by omega) (by omega) (by unfold maxLen; omega))
    have HT : Hid ((p.take (j + 1)).map (lowF p al) = (p.take j).map (lowF p al) ++ [lowF p al (p.getD j Fn.z)]) := hQ (by rw [take_snoc_at p Fn.z hlt, List.map_append]; rfl)
    obtain ⟨y, hy⟩ : ∃ y, y = layF p al (p.getD j Fn.z) := ⟨_, rfl⟩
    obtain ⟨fr, hfr⟩ : ∃ fr, fr = lowF p al (p.getD j Fn.z) := ⟨_, rfl⟩
    have hfe : (⟨(p.getD j Fn.z).params, (layF p al (p.getD j Fn.z)).size, (p.getD j Fn.z).code.map (lowI (p.getD j Fn.z).slots (layF p al (p.getD j Fn.z)))⟩ : Fr) = lowF p al (p.getD j Fn.z) := rfl
    rw [hfe, ← hfr] at HFR
    rw [← hfr] at HT
    rw [← hy] at c0 c1 c2 HSH HFR
    obtain ⟨l, hl⟩ : ∃ l, l = y.off.length := ⟨_, rfl⟩
    obtain ⟨ya, ys, yo⟩ := y
    simp only at c0 c1 c2 HSH HFR hl
    rw [← hl] at c2 HSH HFR
    have OWN := hQ own
    have hbl2 : (a1.add (j * 3)).block < wr.heap.size := by rw [block_of_add]; omega
    have HS : Hid (∀ W, Kp 0 wr.heap.size wr W → W.cell? ⟨w.heap.size, 0, none⟩ = some (.slice A p.length cp) ∧ W.cell? (a1.add (j * 3)) = some (.int .i64 ya) ∧ W.cell? ⟨(a1.add (j * 3)).block, (a1.add (j * 3)).off + 1, none⟩ = some (.int .i64 ys) ∧ W.cell? ⟨(a1.add (j * 3)).block, (a1.add (j * 3)).off + 2, none⟩ = some (.slice Ao l co)) := hQ (fun W hW => ⟨hW.cell (Nat.zero_le _) xz x0, hW.cell (Nat.zero_le _) hbl2 c0, hW.cell (Nat.zero_le _) hbl2 c1, hW.cell (Nat.zero_le _) hbl2 c2⟩)
    have K0 : Hid (Kp 0 wr.heap.size wr wr.drew) := hQ (Kp.refl _ _ _)
    clear own hix hom hoc hgd hok n0 n1 n2 n3 n4 n5 n6 hyl hFr hd hy hfr hfe hl
    go_wp2_with fail
    go_region_held3 (fun W => W.cell? ⟨w.heap.size, 0, none⟩ = some (.slice A p.length cp) ∧ W.cell? (a1.add (j * 3)) = some (.int .i64 ya) ∧ W.cell? ⟨(a1.add (j * 3)).block, (a1.add (j * 3)).off + 1, none⟩ = some (.int .i64 ys) ∧ W.cell? ⟨(a1.add (j * 3)).block, (a1.add (j * 3)).off + 2, none⟩ = some (.slice Ao l co))
     (first | exact HS.out _ K0.out | exact HS.out _ K1.out)
     ((go_at_call 39
       refine HSH.out.mono ?_
       rintro e w5 ⟨rfl, bel5⟩
       have K1 : Hid (Kp 0 wr.heap.size wr w5) := hQ (Kp.of_below (w := wr.drew) bel5 nL)
       have B1 : Hid (Below wr.heap.size wr w5) := hQ (((Below.refl wr.heap.size wr).drew).trans bel5)
       clear bel5))
    clear x0 xz c0 c1 c2
    obtain ⟨e0, e1, e2, e3⟩ := HS.out _ K1.out
    have hz5 := B1.out.size
    have HFR5 := hQ (HFR.out w5.drew K1.out hz5)
    have K5 : Hid (Kp 0 w5.heap.size w5 w5.drew) := hQ (Kp.refl _ _ _)
    have O5 := hQ (own_keep OWN.out B1.out nL)
    have HW5 : Hid (Wx w5 W1.heap.size w5.heap.size vs ((p.take j).map (lowF p al)) ∧ Tx w5 vs j) := hQ (by
     have hlen : ((p.take j).map (lowF p al)).length = j := by rw [List.length_map, List.length_take]; omega
     have h1 := Wx.keepK HW.out.1 (by rw [hlen]; exact HW.out.2) (Kp.less K1.out (Nat.zero_le _) nL)
     rw [hlen] at h1
     exact ⟨h1.1.more nL hz5, h1.2⟩)
    have HK5 : Hid (Kp 0 W1.heap.size W1 w5) := hQ (HK.out.trans (Kp.less K1.out nL hzr))
    have HB5 : Hid (Below w.heap.size w w5) := hQ (HB.out.trans (B1.out.mono HB.out.size))
    clear HSH HFR HS OWN HW HK HB K0 K1 B1
    have HS5 : Hid (∀ W, Kp 0 W1.heap.size w5 W → W.cell? ⟨w.heap.size, 0, none⟩ = some (.slice A p.length cp) ∧ W.cell? (a1.add (j * 3)) = some (.int .i64 ya) ∧ W.cell? ⟨(a1.add (j * 3)).block, (a1.add (j * 3)).off + 1, none⟩ = some (.int .i64 ys) ∧ W.cell? ⟨(a1.add (j * 3)).block, (a1.add (j * 3)).off + 2, none⟩ = some (.slice Ao l co)) := hQ (fun W hW => by
     have hb3 : (a1.add (j * 3)).block < W1.heap.size := by rw [block_of_add]; omega
     exact ⟨hW.cell (Nat.zero_le _) (show w.heap.size < _ by omega) e0, hW.cell (Nat.zero_le _) hb3 e1, hW.cell (Nat.zero_le _) hb3 e2, hW.cell (Nat.zero_le _) hb3 e3⟩)
    have hz15 : W1.heap.size ≤ w5.heap.size := by omega
    clear e0 e1 e2 e3
    go_wp2_with fail
    obtain ⟨fp, fs, fc⟩ := fr
    go_region_held3 (fun W => W.cell? ⟨w.heap.size, 0, none⟩ = some (.slice A p.length cp) ∧ W.cell? (a1.add (j * 3)) = some (.int .i64 ya) ∧ W.cell? ⟨(a1.add (j * 3)).block, (a1.add (j * 3)).off + 1, none⟩ = some (.int .i64 ys) ∧ W.cell? ⟨(a1.add (j * 3)).block, (a1.add (j * 3)).off + 2, none⟩ = some (.slice Ao l co))
     (first | exact HS5.out _ (Kp.less K5.out nL hz15) | exact HS5.out _ (Kp.less K6.out nL hz15) | exact HS5.out _ (Kp.less (Kp.alloc K6.out hz6 _) nL hz15) | exact HS5.out _ K7W.out)
     (first
      | (go_at_call 40
         refine HFR5.out.mono ?_
         rintro e w6 ⟨Ac, cc, rfl, ⟨hnx, hty⟩, hcc, hcm, bel6⟩
         simp only at hnx hty hcc hcm
         have N6 := hQ (And.intro hnx hty)
         have hz6 : w5.heap.size ≤ w6.heap.size := bel6.size
         have K6 : Hid (Kp 0 w5.heap.size w5 w6) := hQ (Kp.of_below (w := w5.drew) bel6 nL)
         have B6 : Hid (Below w5.heap.size w5 w6) := hQ (((Below.refl w5.heap.size w5).drew).trans bel6)
         have O6 := hQ (own_keep O5.out B6.out nL)
         clear hnx hty bel6)
      | (refine step_append_any _ rfl (.tmp 33) (.tmp 41) _ rfl W1.heap.size 53 i0 _ 3 40 Tryz.underlying24 hi0 hz0' hz1' hz2' rfl (by omega) _ j vs rfl (O6.out.alloc _) (w6.heap.size + 1) (some ⟨w6.heap.size, 0, none⟩) 1 1 [.int .i64 fp, .int .i64 fs, .slice Ac fc.length cc] rfl (reads_new (size := 3) (n := 1) rfl) (three_one _ _ _ _ _) (by unfold maxLen; omega) (by omega) (by simp; omega) ?_
         intro v2 w7 own2 hg2 hat2
         have K6A : Hid (Kp 0 w6.heap.size w6 (w6.alloc (.cells #[.int .i64 fp, .int .i64 fs, .slice Ac fc.length cc] 53))) := hQ (Kp.alloc (Kp.refl _ _ _) nL _)
         have KT : Hid (Kt 53 W1.heap.size w6.heap.size w6 w7) := hQ ((Kt.of_kp (Kp.less K6A.out (Nat.zero_le _) nL)).trans (Kt.of_own (O6.out.alloc _) hg2 (by simp)))
         have K7W : Hid (Kp 0 W1.heap.size w5 w7) := hQ (((Kp.less K6.out nL (by omega)).trans (Kp.less K6A.out nL (by omega))).trans (Kp.of_own (O6.out.alloc _) hg2 nL (by simp; omega)))
         have B7 : Hid (Below w.heap.size w w7) := hQ ((Below.al (HB5.out.trans (B6.out.mono HB5.out.size)) _).grown hg2 (by have := HB5.out.size; have := B6.out.size; simp; omega) (fun k hk => by have := (O6.out.lt k hk).1; omega))
         have hz7 := hg2.size))
    have hlen : ((p.take j).map (lowF p al)).length = j := by rw [List.length_map, List.length_take]; omega
    have hz7' : w6.heap.size ≤ w7.heap.size := by simp at hz7; omega
    have HW7 : Hid (Wx w7 W1.heap.size w7.heap.size (vs ++ [.int .i64 fp, .int .i64 fs, .slice Ac fc.length cc]) ((p.take (j + 1)).map (lowF p al)) ∧ Tx w7 (vs ++ [.int .i64 fp, .int .i64 fs, .slice Ac fc.length cc]) (j + 1)) := hQ (by
     have h1 := Wx.keepK HW5.out.1 (by rw [hlen]; exact HW5.out.2) (Kp.less K6.out (Nat.zero_le _) nL)
     have h2 := Wx.keepT (h1.1.more nL hz6) h1.2 KT.out (by decide)
     rw [hlen] at h2
     have KT' : Kt 53 w5.heap.size w6.heap.size w6 w7 := Kt.less KT.out hz15 nL
     have hn7 : Nx w7 W1.heap.size w7.heap.size Ac fc := Nx.more (Rx.keepT (ty := 50) N6.out.1 N6.out.2 KT' (by decide)) hz15 hz7'
     have ht7 := TyA.keepT N6.out.1 N6.out.2 KT' (show 50 ≠ 53 by decide)
     rw [HT.out]
     refine ⟨Wx.snoc (h2.1.more nL hz7') HVL.out (f := ⟨fp, fs, fc⟩) hn7 ⟨hcm, hcc⟩, Tx.snoc h2.2 (by rw [HVL.out, hlen]) ht7⟩)
    clear O6 hg2 hat2 N6 HFR5 HS5 K6A KT
    go_wp2
    go_roundw
    case rel => exact ⟨j + 1, _, by omega, by go_num, own2, HW7, hQ (HK5.out.trans K7W.out), B7, by omega⟩
    case measure => simp [intOf]; omega
  · obtain rfl : j = p.length := by omega
    rw [List.take_length] at HW HVL
    obtain ⟨At, ct, rfl, -⟩ := own_form own
    have hcc := own_cap own
    have HRX := hQ (Rx.of_own own)
    have HKR : Hid (Blk wr (w.heap.size + 1) 26 #[.int .i64 0, .slice none 0 0]) := hQ (Blk.kp HR.out HK.out (Nat.zero_le _) hgR)
    obtain ⟨r0, r1, rf0, rf1, rz⟩ := HKR.out.c2
    have HR5 := hQ (Blk.put2 HKR.out (.int .i64 al) (.slice At p.length ct))
    have hle : w.heap.size ≤ w.heap.size + 1 := by omega
    have HB5 : Hid (Below w.heap.size w ((wr.setCell ⟨w.heap.size + 1, 0, none⟩ (.int .i64 al)).setCell ⟨w.heap.size + 1, 1, none⟩ (.slice At p.length ct))) := hQ ((HB.out.setCell (p := ⟨w.heap.size + 1, 0, none⟩) hle _).setCell (p := ⟨w.heap.size + 1, 1, none⟩) hle _)
    have HK5 : Hid (Kp W1.heap.size wr.heap.size wr ((wr.setCell ⟨w.heap.size + 1, 0, none⟩ (.int .i64 al)).setCell ⟨w.heap.size + 1, 1, none⟩ (.slice At p.length ct))) := hQ (((Kp.refl _ _ _).set (p := ⟨w.heap.size + 1, 0, none⟩) (.inl hgR) _).set (p := ⟨w.heap.size + 1, 1, none⟩) (.inl hgR) _)
    have hz9 : ((wr.setCell ⟨w.heap.size + 1, 0, none⟩ (.int .i64 al)).setCell ⟨w.heap.size + 1, 1, none⟩ (.slice At p.length ct)).heap.size = wr.heap.size := by simp
    clear own
    go_wp2
    clear r0 r1 rf0 rf1 rz x0 xz
    generalize (wr.setCell ⟨w.heap.size + 1, 0, none⟩ (.int .i64 al)).setCell ⟨w.heap.size + 1, 1, none⟩ (.slice At p.length ct) = Wz at *
    obtain ⟨r0, r1, -, -, rz⟩ := HR5.out.c2
    have hlm : (p.map (lowF p al)).length = p.length := List.length_map ..
    exact bodyPost_ret (v := .tuple #[.agg #[.int .i64 al, .slice At p.length ct], .int .i64 0]) (by simp [results, Tryz.results25, go_sem, r0, r1]) rfl ⟨At, ct, by rw [hlm], by
     have h1 := Wx.keepK HW.out.1 (by rw [hlm]; exact HW.out.2) HK5.out
     refine ⟨vs, ?_, ?_, h1.2⟩
     · rw [hlm]; exact Rx.more (Rx.keep HRX.out HK5.out) (by omega) (by omega)
     · exact h1.1.more (by omega) (by omega), by rw [hlm]; exact hcc.2, by rw [hlm]; exact hcc.1, HB5.out⟩
theorem slots_right {sl : List (Int × Int)} (h : ∀ s ∈ sl, SlotOk s) (hl : sl.length ≤ 6) : slotsE sl = 0 := by
 unfold slotsE
 rw [if_neg (by omega), if_pos]
 refine List.all_eq_true.2 (fun s hs => ?_)
 obtain ⟨a, b⟩ := slot_pow (h s hs)
 rw [a, b]
 rfl
theorem mxO_al (g : Nat → Int) : ∀ n, (∀ j, j < n → g j ≤ 16 ∨ g j = 32 ∨ g j = 64) → AlOk (mxO g n)
 | 0, _ => .inl rfl
 | n + 1, h => by
  have ih := mxO_al g n (fun j hj => h j (by omega))
  have := h n (by omega)
  unfold AlOk at ih ⊢
  unfold mxO
  split <;> omega
theorem alP_ok {m : Nat} {p : List Fn} (hp : PrOk m p) : AlOk (alP p) := by
 refine mxO_al _ _ (fun j hj => ?_)
 have hok := hp.2.2.2 _ (getD_mem' (z := Fn.z) hj)
 have h1 : AlOk (alS (p.getD j Fn.z).slots) := by
  unfold alS
  rw [if_pos (slots_right hok.2.2.2.1 hok.2.2.1)]
  refine mxO_al _ _ (fun i hi => ?_)
  have h2 := hok.2.2.2.1 _ (getD_mem' (z := (0, 0)) hi)
  unfold SlotOk at h2
  omega
 unfold AlOk at h1
 omega
def TInv (al : Int) (ps : List Int) (t : List Fr) : Prop := t.map Fr.params = ps ∧ ∀ f ∈ t, FrP al ps f
def CurOk (ps : List Int) (prm sz : Int) (len : Nat) (c : List Ins) : Prop := c.length = len ∧ (∀ x ∈ c, TiOk ps.length prm sz len x ∧ (x.op = 22 → 16 * ps.getD x.a.toNat 0 ≤ sz)) ∧ (c.getD (len - 1) Ins.z).op ∈ [(23 : Int), 24]
theorem CurOk.of {al : Int} {ps : List Int} {f : Fr} (h : FrP al ps f) : CurOk ps f.params f.size f.code.length f.code := ⟨rfl, h.2.2.2.2.2.2.2.1, h.2.2.2.2.2.2.2.2⟩
theorem CurOk.set {ps : List Int} {prm sz : Int} {len k : Nat} {c : List Ins} (h : CurOk ps prm sz len c) (hk : k < len) (ho : (c.getD k Ins.z).op = 16) {u : Int} (h0 : 0 ≤ u) (h1 : u + (c.getD k Ins.z).c ≤ sz) (h2 : sz ≤ 671) : CurOk ps prm sz len (c.set k (setA u (c.getD k Ins.z))) := by
 obtain ⟨a1, a2, a3⟩ := h
 have hkc : k < c.length := by omega
 refine ⟨by rw [List.length_set]; exact a1, fun x hx => ?_, ?_⟩
 · rcases List.mem_or_eq_of_mem_set hx with h | rfl
   · exact a2 x h
   · have hm := getD_mem' (z := Ins.z) hkc
     obtain ⟨b1, b2⟩ := a2 _ hm
     exact ⟨store_ok b1 ho h0 h1 h2, fun e => by have : (c.getD k Ins.z).op = 22 := e; omega⟩
 · rw [List.getD_eq_getElem?_getD, List.getElem?_set]
   split
   · rename_i e
     subst e
     rw [ho] at a3
     simp at a3
   · rw [← List.getD_eq_getElem?_getD]; exact a3
theorem TInv.set {al : Int} {ps : List Int} {t : List Fr} {j : Nat} (h : TInv al ps t) (hj : j < t.length) {c : List Ins} (hc : CurOk ps (t.getD j Fr.z).params (t.getD j Fr.z).size (t.getD j Fr.z).code.length c) : TInv al ps (t.set j ⟨(t.getD j Fr.z).params, (t.getD j Fr.z).size, c⟩) := by
 have hm := getD_mem' (z := Fr.z) hj
 obtain ⟨f0, f1, f2, f3, f4, f5, f6, f7, f8⟩ := h.2 _ hm
 refine ⟨?_, fun f hf => ?_⟩
 · rw [List.map_set, ← h.1]
   apply List.ext_getElem?
   intro i
   rw [List.getElem?_set]
   split
   · rename_i e
     subst e
     simp only [List.length_map, hj, if_true, List.getElem?_map]
     rw [List.getElem?_eq_getElem hj, List.getD_eq_getElem?_getD, List.getElem?_eq_getElem hj]
     rfl
   · rfl
 · rcases List.mem_or_eq_of_mem_set hf with h' | rfl
   · exact h.2 f h'
   · obtain ⟨c1, c2, c3⟩ := hc
     refine ⟨f0, f1, f2, f3, f4, by show 1 ≤ c.length; omega, by show c.length ≤ 200; omega, ?_, ?_⟩
     · show ∀ x ∈ c, TiOk ps.length _ _ c.length x ∧ _
       rw [c1]; exact c2
     · show (c.getD (c.length - 1) Ins.z).op ∈ _
       rw [c1]; exact c3
theorem tinv_start {m : Nat} {p : List Fn} {al : Int} (hm : m ≤ 80) (hp : PrOk m p) (ha : AlOk al) : TInv al (p.map Fn.params) (p.map (lowF p al)) := by
 refine ⟨?_, fun f hf => ?_⟩
 · rw [List.map_map]; rfl
 · obtain ⟨g, hg, rfl⟩ := List.mem_map.1 hf
   exact lowF_ok hm hp (hp.2.2.2 g hg) ha
theorem tgp_of {m : Nat} {p : List Fn} {al : Int} {t : List Fr} (hp : PrOk m p) (ha : AlOk al) (h : TInv al (p.map Fn.params) t) : TgP m al t := by
 have hl : t.length = p.length := by have := congrArg List.length h.1; simpa using this
 refine ⟨ha, by rw [hl]; exact hp.1, by rw [hl]; exact hp.2.1, ?_, fun f hf => by rw [h.1]; exact h.2 f hf⟩
 have h1 := congrArg (fun l : List Int => l.getD 0 0) h.1
 have h0 : 0 < t.length := by rw [hl]; exact hp.1
 have h0' : 0 < p.length := hp.1
 simp only [List.getD_eq_getElem?_getD, List.getElem?_map, List.getElem?_eq_getElem h0, List.getElem?_eq_getElem h0', Option.map_some, Option.getD_some] at h1
 have h2 := hp.2.2.1
 rw [List.getD_eq_getElem?_getD, List.getElem?_eq_getElem h0', Option.getD_some] at h2
 rw [List.getD_eq_getElem?_getD, List.getElem?_eq_getElem h0, Option.getD_some, h1, h2]
theorem Wx.set {w : World} {lo hi : Nat} {vs : List Value} {t : List Fr} {j : Nat} (h : Wx w lo hi vs t) (ht : Tx w vs t.length) (hl : vs.length = t.length * 3) (hj : j < t.length) {c : List Ins} {Ac : Option Addr} {cc : Nat} (hn : Nx w lo hi Ac c) (hT : TyA w Ac c.length 50) (hm : c.length ≤ maxLen) (hcc : c.length ≤ cc) :
 Wx w lo hi (vs.set (j * 3 + 2) (.slice Ac c.length cc)) (t.set j ⟨(t.getD j Fr.z).params, (t.getD j Fr.z).size, c⟩) ∧ Tx w (vs.set (j * 3 + 2) (.slice Ac c.length cc)) t.length := by
 refine ⟨fun i hi => ?_, fun i hi Ai m c' hv => ?_⟩
 · rw [List.length_set] at hi
   by_cases hij : i = j
   · subst hij
     obtain ⟨Ai, ci, h1, h2, h3, h5, h6⟩ := h i hi
     have e : (t.set i ⟨(t.getD i Fr.z).params, (t.getD i Fr.z).size, c⟩).getD i Fr.z = ⟨(t.getD i Fr.z).params, (t.getD i Fr.z).size, c⟩ := by
      rw [List.getD_eq_getElem?_getD (l := t.set _ _), List.getElem?_set_self hi]; rfl
     rw [e]
     refine ⟨Ac, cc, ?_, ?_, ?_, hn, hm, hcc⟩
     · rw [List.getElem?_set_ne (by omega)]; exact h1
     · rw [List.getElem?_set_ne (by omega)]; exact h2
     · rw [List.getElem?_set_self (by omega)]
   · obtain ⟨Ai, ci, h1, h2, h3, h5, h6⟩ := h i hi
     have e : (t.set j ⟨(t.getD j Fr.z).params, (t.getD j Fr.z).size, c⟩).getD i Fr.z = t.getD i Fr.z := by
      rw [List.getD_eq_getElem?_getD, List.getElem?_set_ne (fun e => hij e.symm), ← List.getD_eq_getElem?_getD]
     rw [e]
     refine ⟨Ai, ci, ?_, ?_, ?_, h5, h6⟩
     · rw [List.getElem?_set_ne (by omega)]; exact h1
     · rw [List.getElem?_set_ne (by omega)]; exact h2
     · rw [List.getElem?_set_ne (by omega)]; exact h3
 · by_cases hij : i = j
   · subst hij
     rw [List.getElem?_set_self (by omega)] at hv
     injection hv with hv
     injection hv with e1 e2 e3
     subst e1 e2 e3
     exact hT
   · rw [List.getElem?_set_ne (by omega)] at hv
     exact ht i hi _ _ _ hv
end Go.Proofs.YtcnndoefgjbmiaaGreat.pm
