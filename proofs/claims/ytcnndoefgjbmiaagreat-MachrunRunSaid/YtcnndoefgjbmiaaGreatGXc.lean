/- The reference's machine of chapter 12: memory, words, Load. Printed by mkxc.py. -/
import Derived.Test.YtcnndoefgjbmiaaGreatGXa
import Derived.Test.YtcnndoefgjbmiaaGreatGMv
set_option linter.unusedVariables false
set_option maxRecDepth 10000
set_option maxHeartbeats 8000000
namespace Go.Proofs.YtcnndoefgjbmiaaGreat.pm
open Go.RowKit
structure TF (m : Mx) : Prop where
 regs : m.regs.length = 8
 acts : m.acts.length ≤ 1000000
 sp : m.sp ≤ m.tp
 tp : m.tp ≤ m.mem.length
 mem : m.mem.length ≤ 1048576
 dp : m.deep ≤ 1048576
 len : m.use.length = m.mem.length
 m256 : ∀ v ∈ m.mem, v < 256
 rgw : ∀ r, W64x (rg m r)
theorem usedV_all (lu : List Bool) (k n : Nat) : usedV lu k n = ((lu.drop k).take n).all id := by
 unfold usedV
 generalize (lu.drop k).take n = l
 induction l with
 | nil => rfl
 | cons x r ih => cases x <;> simp_all
theorem load_rd (m : Mx) {b c : Nat} (h : okV m.mem.length m.sp b c = true) : loadV m.mem.length m.sp m.mem m.use b c = match m.rd b c with | some l => ((loV l, hiV l), true, 0) | none => ((0, 0), false, 0) := by
 unfold loadV Mx.rd
 rw [if_pos h, usedV_all]
 simp only [Int.toNat_natCast]
 split <;> rfl
theorem store_wr (m : Mx) {a c : Nat} (v : Nat × Nat) (h : okV m.mem.length m.sp a c = true) : storeV m.mem.length m.sp m.mem m.use v.1 v.2 a c = (0, (m.wr a (bytesV v.1 v.2 c)).mem, (m.wr a (bytesV v.1 v.2 c)).use, m.sp) := by
 unfold storeV Mx.wr
 rw [if_pos h]
 simp only [Int.toNat_natCast, bytesV_len]
theorem move_rd (m : Mx) {a b c : Nat} (h : okV m.mem.length m.sp a c = true) (h' : okV m.mem.length m.sp b c = true) (hl : m.sp + b + c ≤ m.mem.length) : moveV m.mem.length m.sp m.mem m.use a b c = match m.rd b c with | some l => (0, true, (m.wr a l).mem, (m.wr a l).use, m.sp) | none => (0, false, m.mem, m.use, m.sp) := by
 unfold moveV Mx.rd
 rw [h, h', if_pos (show (true && true) = true from rfl), usedV_all]
 simp only [Int.toNat_natCast]
 have hlen : ((m.mem.drop (m.sp + b)).take c).length = c := by rw [List.length_take, List.length_drop]; omega
 split
 · unfold Mx.wr
   simp only [hlen]
 · rfl
theorem okV_of {m : Mx} {b c : Nat} (hs : sizeB (c : Int) = true) (h : m.sp + b + c ≤ m.mem.length) : okV m.mem.length m.sp b c = true := (okV_iff _ _ _ _).2 ⟨hs, by omega, by omega⟩
def MemT (mb : Nat) (al : Int) (pv iv : Value) (m : Mx) (w : World) (e : Ending) (w' : World) : Prop := e = .returned (.bool true) ∧ w.grownBy w' (some mb) ∧ ∃ L, TAt w' mb al pv iv L m
section
variable {mb cp : Nat} {al : Int} {iv : Value} {L : Lq} {m : Mx} {p : List Fr} {ad : Addr}
theorem cell_set2 {w : World} {q b i j : Nat} {u x : Value} (h : q ≠ b) {k : Nat} : ((w.setCell ⟨b, i, none⟩ u).setCell ⟨b, j, none⟩ x).cell? ⟨q, k, none⟩ = w.cell? ⟨q, k, none⟩ := by
 rw [World.cell?_setCell_other _ _ _ _ (fun e => h (by have := congrArg Addr.block e; exact this.symm)), World.cell?_setCell_other _ _ _ _ (fun e => h (by have := congrArg Addr.block e; exact this.symm))]
theorem tmem_ld (W1 : World) (a b c : Nat) (imm : Int) (h : TAt W1 mb al (.slice (some ad) p.length cp) iv L m) (hf : TF m) (ha : a < 8) (hc : c ≤ 16) (hs : sizeB (c : Int) = true) (hr : m.sp + b + c ≤ m.mem.length) :
 Calls Tryz.prog 55 #[.pointer (some ⟨mb, 0, none⟩), .agg #[.int .i64 15, .int .i64 (a : Int), .int .i64 (b : Int), .int .i64 (c : Int), .int .u64 imm]] W1 (MemT mb al (.slice (some ad) p.length cp) iv (m.load a (m.rd b c)) W1) := by
 obtain ⟨m1, m18, m19, m20, m21, -, -, -, -, -, -, -, hlt⟩ := tcells h.blk
 obtain ⟨n, hn⟩ : ∃ n, n = m.mem.length := ⟨_, rfl⟩
 have hl := hf.len
 have hsp := Nat.le_trans hf.sp hf.tp
 rw [← hn] at hl m19 hsp
 rw [hl] at m20
 obtain ⟨sp, hspe⟩ : ∃ q, q = m.sp := ⟨_, rfl⟩
 rw [← hspe] at m21 hsp
 have hn6 : n ≤ 1048576 := by rw [hn]; exact hf.mem
 obtain ⟨v, ok, hv, hres⟩ : ∃ v ok, loadV n sp m.mem m.use b c = (v, ok, 0) ∧ m.load a (m.rd b c) = if ok = true then { m with regs := m.regs.set a v } else m.stop 3 := by
  rw [hn, hspe, load_rd m (okV_of hs hr)]
  rcases m.rd b c with _ | l
  · exact ⟨_, _, rfl, rfl⟩
  · exact ⟨_, _, rfl, rfl⟩
 have HLO := hQ (fun (W : World) (hB : Below W1.heap.size W1 W) => refload_any L.Ab L.Ub n L.cb L.cu sp m.mem m.use b c (by omega) (by omega) (by omega) (by omega) W (by rw [hn]; exact (h.after hB).bs hf.m256) (by rw [← hl]; exact (h.after hB).sl) hn6 hsp (by rw [hn]; exact h.rows.caps.2.2.1) (by rw [← hl]; exact h.rows.caps.2.2.2))
 unfold LoadR at HLO
 rw [hv] at HLO
 rw [hres]
 clear hv hres hs hr
 obtain ⟨W2, hW2⟩ : ∃ W, W = W1.alloc (.cells #[.int .i64 15, .int .i64 (a : Int), .int .i64 (b : Int), .int .i64 (c : Int), .int .u64 imm] 50) := ⟨_, rfl⟩
 obtain ⟨g3, hg3⟩ : ∃ g, g = W1.heap.size := ⟨_, rfl⟩
 have hb2 : Below W1.heap.size W1 W2 := by rw [hW2]; exact bR.alloc nL _
 have HK3 : Hid (Blk W2 g3 50 #[.int .i64 15, .int .i64 (a : Int), .int .i64 (b : Int), .int .i64 (c : Int), .int .u64 imm]) := hQ (by rw [hW2, hg3]; exact Blk.new _ _ _)
 have HW2 := hQ hW2
 have HG3 := hQ hg3
 have HB2 := hQ hb2
 have HM := hQ h
 have HF := hQ hf
 have HN := hQ hn
 have HL := hQ hl
 have HSP := hQ hspe
 have hs2 : W1.heap.size ≤ W2.heap.size := hb2.size
 have hg3m : mb < g3 := by omega
 obtain ⟨x0, x1, x2, x3, x4, -, -, -, -, -, xz⟩ := HK3.out.c5
 clear h hf hn hl hspe hW2 hg3 hb2 m1 m18
 go_enter Tryz.func55, Tryz.ntmps55
 go_upto_region 1 with (fail)
 rw [← HW2.out, ← HG3.out]
 go_upto_region 6 with (fail)
 obtain ⟨W3, hW3⟩ : ∃ W, W = W2.alloc (.cells #[.int .u64 0, .int .u64 0] 38) := ⟨_, rfl⟩
 obtain ⟨g7, hg7⟩ : ∃ g, g = W2.heap.size := ⟨_, rfl⟩
 rw [← hW3, ← hg7]
 have hb3 : Below W2.heap.size W2 W3 := by rw [hW3]; exact bR.alloc nL _
 have HK7 : Hid (Blk W3 g7 38 #[.int .u64 0, .int .u64 0]) := hQ (by rw [hW3, hg7]; exact Blk.new _ _ _)
 have HK3b := hQ (HK3.out.after hb3)
 have HB3 : Hid (Below W1.heap.size W1 W3) := hQ (HB2.out.trans (hb3.mono HB2.out.size))
 have hg37 : g3 < g7 := by rw [hg7]; exact xz
 have hg71 : W1.heap.size ≤ g7 := by omega
 have HM3 := hQ (HM.out.after HB3.out)
 have hlt3 := HM3.out.blk.lt
 obtain ⟨k0, k1, k2, k3, -, -, -, -, -, -, kz⟩ := HK3b.out.c5
 have HKL : Hid (∀ W, Below W3.heap.size W3 W → W.cell? ⟨mb, 19, none⟩ = some (.slice L.Ab n L.cb) ∧ W.cell? ⟨mb, 20, none⟩ = some (.slice L.Ub n L.cu) ∧ W.cell? ⟨mb, 21, none⟩ = some (.int .i64 (sp : Int)) ∧ W.cell? ⟨g3, 2, none⟩ = some (.int .i64 (b : Int)) ∧ W.cell? ⟨g3, 3, none⟩ = some (.int .i64 (c : Int))) := hQ (fun W hW => ⟨((HB3.out.trans (hW.mono HB3.out.size)).cell (p := ⟨mb, 19, none⟩) hlt).trans m19, ((HB3.out.trans (hW.mono HB3.out.size)).cell (p := ⟨mb, 20, none⟩) hlt).trans m20, ((HB3.out.trans (hW.mono HB3.out.size)).cell (p := ⟨mb, 21, none⟩) hlt).trans m21, (hW.cell (p := ⟨g3, 2, none⟩) kz).trans k2, (hW.cell (p := ⟨g3, 3, none⟩) kz).trans k3⟩)
 clear x0 x1 x2 x3 x4 xz hW3 hg7 hb3 m19 m20 m21 k0 k1 k2 k3 kz HW2 HG3
 have HD1 : Hid (Below W3.heap.size W3 W3.drew) := hQ (bR.drew)
 have HKS : Hid (∀ (W : World) (u x : Value), Below W3.heap.size W3 W → ((W.setCell ⟨g7, 0, none⟩ u).setCell ⟨g7, 1, none⟩ x).cell? ⟨mb, 19, none⟩ = some (.slice L.Ab n L.cb) ∧ ((W.setCell ⟨g7, 0, none⟩ u).setCell ⟨g7, 1, none⟩ x).cell? ⟨mb, 20, none⟩ = some (.slice L.Ub n L.cu) ∧ ((W.setCell ⟨g7, 0, none⟩ u).setCell ⟨g7, 1, none⟩ x).cell? ⟨mb, 21, none⟩ = some (.int .i64 (sp : Int)) ∧ ((W.setCell ⟨g7, 0, none⟩ u).setCell ⟨g7, 1, none⟩ x).cell? ⟨g3, 2, none⟩ = some (.int .i64 (b : Int)) ∧ ((W.setCell ⟨g7, 0, none⟩ u).setCell ⟨g7, 1, none⟩ x).cell? ⟨g3, 3, none⟩ = some (.int .i64 (c : Int))) := hQ (fun W u x hW => by
  obtain ⟨c1, c2, c3, c4, c5⟩ := HKL.out W hW
  exact ⟨(cell_set2 (by omega)).trans c1, (cell_set2 (by omega)).trans c2, (cell_set2 (by omega)).trans c3, (cell_set2 (by omega)).trans c4, (cell_set2 (by omega)).trans c5⟩)
 go_cut [5, 6] (fun s5 s6 wx => s5 = .bool ok ∧ s6 = .int .i64 0 ∧ Hid (Blk wx g7 38 #[.int .u64 v.1, .int .u64 v.2]) ∧ Hid (Blk wx g3 50 #[.int .i64 15, .int .i64 (a : Int), .int .i64 (b : Int), .int .i64 (c : Int), .int .u64 imm]) ∧ Hid (Below W1.heap.size W1 wx))
 case first =>
  go_region_held3 (fun W => W.cell? ⟨mb, 19, none⟩ = some (.slice L.Ab n L.cb) ∧ W.cell? ⟨mb, 20, none⟩ = some (.slice L.Ub n L.cu) ∧ W.cell? ⟨mb, 21, none⟩ = some (.int .i64 (sp : Int)) ∧ W.cell? ⟨g3, 2, none⟩ = some (.int .i64 (b : Int)) ∧ W.cell? ⟨g3, 3, none⟩ = some (.int .i64 (c : Int)))
   (with_reducible first | assumption | exact HKL.out _ HD1.out | exact HKL.out _ (Hid.out (by assumption)) | exact HKS.out _ _ _ (Hid.out (by assumption)))
   (first | (go_at_call 80; refine (HLO.out _ (HB3.out.trans (HD1.out.mono HB3.out.size))).mono ?_; rintro e w4 ⟨rfl, b4⟩; have HB4 : Hid (Below W3.heap.size W3 w4) := hQ (HD1.out.trans b4); obtain ⟨y0, y1, g0, g1, yz⟩ := (HK7.out.after HB4.out).c2; clear b4))
  all_goals go_wp2_with fail
  all_goals go_meet
  all_goals exact ⟨rfl, rfl, hQ (((HK7.out.after HB4.out).set_ 0 _).set_ 1 _), hQ (((HK3b.out.after HB4.out).far (p := ⟨g7, 0, none⟩) (by show g3 ≠ g7; omega) _).far (p := ⟨g7, 1, none⟩) (by show g3 ≠ g7; omega) _), hQ (((HB3.out.trans (HB4.out.mono HB3.out.size)).setCell hg71 _).setCell hg71 _)⟩
 case rest =>
  obtain ⟨rfl, rfl, HK, HK3c, HBc⟩ := hcut
  generalize wc = W4 at *
  have HM4 := hQ (HM.out.after HBc.out)
  clear HKL HKS HD1 HLO HK7 HK3b HB3 HM3 hlt3 HB2 HK3
  cases ok with
  | true =>
   go_upto_region 8 with (fail)
   obtain ⟨k0, k1, k2, -, -, -, -, -, -, -, kz⟩ := HK3c.out.c5
   obtain ⟨j0, j1, -, -, jz⟩ := HK.out.c2
   obtain ⟨r0, r1⟩ := treg_cell HM4.out.blk ha
   have f0 := HM4.out.blk.frozen (2 + a * 2)
   have f1 := HM4.out.blk.frozen (2 + a * 2 + 1)
   have hlt6 := HM4.out.blk.lt
   have ha0 : (0 : Int) ≤ (a : Int) := by omega
   have hai : (a : Int) < 8 := by omega
   go_still_tail 7, (by kernel_rfl)
   change wpList _ _ _ _ _ W4.drew
   go_wp2
   go_ret
   have hg := grownBy_trans (grown_mb W4 mb (2 + a * 2) (.int .u64 (v.1 : Int))) (grown_mb _ mb (2 + a * 2 + 1) (.int .u64 (v.2 : Int)))
   exact ⟨rfl, grownBy_trans (grownBy_of_below HBc.out _) (grownBy_trans hg (grownBy_of_below (bR.drew) _)), L, (HM4.out.move hg (treg_set HM4.out.blk HF.out.regs ha v) rfl rfl rfl rfl).after (bR.drew)⟩
  | false =>
   have HE := hQ (tend_any W4 3 HM4.out)
   go_wp2_with fail
   refine HE.out.mono ?_
   rintro e w5 ⟨rfl, hm5, hg5⟩
   have HM5 := hQ hm5
   have HG5 := hQ (grownBy_trans (grownBy_of_below HBc.out (some mb)) hg5)
   clear hm5 hg5
   go_wp2
   go_ret
   exact ⟨rfl, HG5.out, L, HM5.out⟩
end
section
variable {mb cp : Nat} {al : Int} {iv : Value} {L : Lq} {m : Mx} {p : List Fr} {ad : Addr}
theorem tmem_st (W1 : World) (a b c : Nat) (imm : Int) (h : TAt W1 mb al (.slice (some ad) p.length cp) iv L m) (hf : TF m) (hb : b < 8) (hc : c ≤ 16) (hs : sizeB (c : Int) = true) (hr : m.sp + a + c ≤ m.mem.length) :
 Calls Tryz.prog 55 #[.pointer (some ⟨mb, 0, none⟩), .agg #[.int .i64 16, .int .i64 (a : Int), .int .i64 (b : Int), .int .i64 (c : Int), .int .u64 imm]] W1 (MemT mb al (.slice (some ad) p.length cp) iv (m.wr a (bytesV (rg m b).1 (rg m b).2 c)) W1) := by
 obtain ⟨m1, m18, m19, m20, m21, -, -, -, -, -, -, -, hlt⟩ := tcells h.blk
 obtain ⟨n, hn⟩ : ∃ n, n = m.mem.length := ⟨_, rfl⟩
 have hl := hf.len
 have hsp := Nat.le_trans hf.sp hf.tp
 rw [← hn] at hl m19 hsp
 rw [hl] at m20
 obtain ⟨sp, hspe⟩ : ∃ q, q = m.sp := ⟨_, rfl⟩
 rw [← hspe] at m21 hsp
 have hn6 : n ≤ 1048576 := by rw [hn]; exact hf.mem
 have hr6 := hr
 obtain ⟨v, hve⟩ : ∃ v, v = rg m b := ⟨_, rfl⟩
 have hw := hf.rgw b
 rw [← hve] at hw
 obtain ⟨mq, hm1⟩ : ∃ mq, mq = m.wr a (bytesV v.1 v.2 c) := ⟨_, rfl⟩
 have HCL := hQ (fun (W : World) (hB : Below W1.heap.size W1 W) => refstore_any L.Ab L.Ub n L.cb L.cu sp m.mem m.use a c (by omega) (by omega) (by omega) (by omega) v.1 v.2 hw.1 hw.2 W (by rw [hn]; exact (h.after hB).bs hf.m256) (by rw [← hl]; exact (h.after hB).sl) hn6 hsp (by rw [hn]; exact h.rows.caps.2.2.1) (by rw [← hl]; exact h.rows.caps.2.2.2))
 rw [hn, hspe, store_wr m v (okV_of hs hr), ← hn, ← hspe, ← hm1] at HCL
 unfold StkR at HCL
 rw [← hve, ← hm1]
 have HM1 := hQ hm1
 have HVE := hQ hve
 clear hm1 hve hw hs hr
 obtain ⟨W2, hW2⟩ : ∃ W, W = W1.alloc (.cells #[.int .i64 16, .int .i64 (a : Int), .int .i64 (b : Int), .int .i64 (c : Int), .int .u64 imm] 50) := ⟨_, rfl⟩
 obtain ⟨g3, hg3⟩ : ∃ g, g = W1.heap.size := ⟨_, rfl⟩
 have hb2 : Below W1.heap.size W1 W2 := by rw [hW2]; exact bR.alloc nL _
 have HK3 : Hid (Blk W2 g3 50 #[.int .i64 16, .int .i64 (a : Int), .int .i64 (b : Int), .int .i64 (c : Int), .int .u64 imm]) := hQ (by rw [hW2, hg3]; exact Blk.new _ _ _)
 have HW2 := hQ hW2
 have HG3 := hQ hg3
 have HB2 := hQ hb2
 have HM := hQ h
 have HF := hQ hf
 have HN := hQ hn
 have HL := hQ hl
 have HSP := hQ hspe
 have hs2 : W1.heap.size ≤ W2.heap.size := hb2.size
 have hg3m : mb < g3 := by omega
 obtain ⟨x0, x1, x2, x3, x4, -, -, -, -, -, xz⟩ := HK3.out.c5
 clear h hf hn hl hspe hW2 hg3 hb2 m1 m18
 go_enter Tryz.func55, Tryz.ntmps55
 go_upto_region 1 with (fail)
 rw [← HW2.out, ← HG3.out]
 have HM2 := hQ (HM.out.after HB2.out)
 have hlt2 := HM2.out.blk.lt
 have m19' := (HB2.out.cell (p := ⟨mb, 19, none⟩) hlt).trans m19
 have m20' := (HB2.out.cell (p := ⟨mb, 20, none⟩) hlt).trans m20
 have m21' := (HB2.out.cell (p := ⟨mb, 21, none⟩) hlt).trans m21
 have hz2 := hs2
 obtain ⟨r0, r1⟩ := treg_cell HM2.out.blk hb
 rw [← HVE.out] at r0 r1
 have hb0 : (0 : Int) ≤ (b : Int) := by omega
 have hbi : (b : Int) < 8 := by omega
 clear m19 m20 m21 HW2 HG3
 go_upto_region 10 with (fail)
 refine wp_region_rv (fun j => match j with
  | 0 | 1 | 2 | 9 | 12 | 20 => some (.pointer (some ⟨mb, 0, none⟩))
  | 3 | 21 => some (.pointer (some ⟨mb, 19, none⟩))
  | 4 => some (.agg #[.slice L.Ab n L.cb, .slice L.Ub n L.cu, .int .i64 (sp : Int)])
  | 5 => some (.pointer (some ⟨g3, 1, none⟩))
  | 6 => some (.int .i64 (a : Int))
  | 7 => some (.pointer (some ⟨g3, 3, none⟩))
  | 8 => some (.int .i64 (c : Int))
  | 10 => some (.pointer (some ⟨g3, 2, none⟩))
  | 11 => some (.int .i64 (b : Int))
  | 13 => some (.pointer (some ⟨mb, 2, none⟩))
  | 14 => some (.pointer (some ⟨mb, 2 + b * 2, none⟩))
  | 15 => some (.agg #[.int .u64 (v.1 : Int), .int .u64 (v.2 : Int)])
  | 19 | 23 => some (.int .i64 0)
  | _ => none) [16, 17, 18, 22] (fun X j u w => match j with
  | 16 => ∃ A' c' U' d', u 16 = .tuple #[.agg #[.slice A' n c', .slice U' n d', .int .i64 (sp : Int)], .int .i64 0] ∧ StT mb n mq.mem mq.use A' c' U' d' w
  | 17 => u 17 = u 16
  | 18 => ∃ x0, u 16 = .tuple #[u 18, x0]
  | 22 => ∃ A' c' U' d', Blk w mb 94 (tcs al (.slice (some ad) p.length cp) iv (.slice L.As m.acts.length L.ca) (.slice A' n c') (.slice U' n d') (.slice L.At m.trace.length L.ct) m) ∧ StT mb n mq.mem mq.use A' c' U' d' w
  | _ => True)
  (fun X w' => (¬ X 22 → Below W2.heap.size W2 w') ∧ W2.grownBy w' (some mb)) (fun w w' => Below w.heap.size w w') [22] [0, 0, 2, 6, 14, 0, 32, 0, 128, 0, 0, 1024, 512, 4608, 15872, 32256, 65534, 131070, 262142, 262142, 524287, 1572863, 3670015, 8388607]
  [[], [], [(1, 41)], [(2, 42)], [(3, 43)], [], [(5, 45)], [], [(7, 47)], [], [], [(10, 50)], [(9, 49)], [(12, 52)], [(11, 51), (13, 53)], [(14, 54)], [(4, 44), (6, 46), (8, 48), (15, 55)], [(16, 56)], [(17, 39)], [(17, 39)], [(0, 40)], [(20, 59)], [(18, 57), (21, 60)], [(19, 58)]]
  [(0, 40), (1, 41), (2, 42), (3, 43), (4, 44), (5, 45), (6, 46), (7, 47), (8, 48), (9, 49), (10, 50), (11, 51), (12, 52), (13, 53), (14, 54), (15, 55), (16, 56), (17, 39), (18, 57), (19, 58), (20, 59), (21, 60), (23, 6)] (by kernel_rfl) (by kernel_rfl) ?hsG ?hsS ?h0 ?hs ?he
 case hsG =>
  intro i X w w' hsp hR hG
  exact ⟨fun h => (hG.1 (fun q => h (.inr q))).trans (hR.mono (hG.1 (fun q => h (.inr q))).size), grownBy_trans hG.2 (grownBy_of_below hR _)⟩
 case hsS =>
  refine And.intro ?_ (And.intro ?_ (And.intro ?_ (And.intro ?_ (trivial))))
  · exact fun i X u u' w w' hsp hij hni hXj hR hu h => (by obtain ⟨A', c', U', d', e, h1⟩ := h; exact ⟨A', c', U', d', (hu 16 (.inl rfl)).trans e, h1.grow (grownBy_of_below hR _)⟩)
  · exact fun i X u u' w w' hsp hij hni hXj hR hu h => (by have h1 := h; (try dsimp only at h1); simp only [← hu 16 (.inr rfl), ← hu 17 (.inl rfl)] at h1; exact h1)
  · exact fun i X u u' w w' hsp hij hni hXj hR hu h => (by obtain ⟨x0, e⟩ := h; exact ⟨x0, by rw [hu 16 (.inr rfl), hu 18 (.inl rfl)]; exact e⟩)
  · exact fun i X u u' w w' hsp hij hni hXj hR hu h => (by obtain ⟨A', c', U', d', h1, h2⟩ := h; exact ⟨A', c', U', d', h1.after hR, h2.grow (grownBy_of_below hR _)⟩)
 case h0 => exact ⟨fun _ => bR.drew, grownBy_of_below ((Below.refl W2.heap.size W2).drew) _⟩
 case hs =>
  refine rvc ?_ (rvc ?_ (rvc ?_ (rvc ?_ (rvc ?_ (rvc ?_ (rvc ?_ (rvc ?_ (rvc ?_ (rvc ?_ (rvc ?_ (rvc ?_ (rvc ?_ (rvc ?_ (rvc ?_ (rvc ?_ (rvc ?a16 (rvc ?a17 (rvc ?a18 (rvc ?a19 (rvc ?_ (rvc ?_ (rvs ?a22 (rvc ?_ (rvn))))))))))))))))))))))))
  case a16 =>
   intro u w X hi hA hF hG hT K hK
   simp only [lay, sel, Act.put, sA, sZ, sS] at hK ⊢
   have HBw : Below W2.heap.size W2 w := hG.1 (hF 22 rfl)
   have HBx : Below W1.heap.size W1 w := HB2.out.trans (HBw.mono hz2)
   clear hi hA hF hG hT
   go_simp
   refine (HCL.out w HBx).mono ?_
   rintro e w' ⟨A', c', U', d', rfl, hb', hs', k1, k2, b', f1, f2⟩
   exact hK _ _ b' <| fun _ => ⟨A', c', U', d', updV_self _ _ _, StT.of (R := (0, mq.mem, mq.use, sp)) HM.out HN.out HL.out HBx hb' hs' k1 k2 f1 f2⟩
  case a17 =>
   intro u w X hi hA hF hG hT K hK
   have t16 : ∃ A' c' U' d', u 16 = .tuple #[.agg #[.slice A' n c', .slice U' n d', .int .i64 (sp : Int)], .int .i64 0] ∧ StT mb n mq.mem mq.use A' c' U' d' w := hT 16 (hA 16 rfl) rfl
   simp only [lay, sel, Act.put, sA, sZ, sS] at hK ⊢
   obtain ⟨A', c', U', d', e16, hst⟩ := t16
   simp only [e16] at hK ⊢
   clear hi hA hF hG hT
   go_simp
   refine hK _ _ bR <| fun _ => ?_
   simp [updV, e16]
  case a18 =>
   intro u w X hi hA hF hG hT K hK
   have t16 : ∃ A' c' U' d', u 16 = .tuple #[.agg #[.slice A' n c', .slice U' n d', .int .i64 (sp : Int)], .int .i64 0] ∧ StT mb n mq.mem mq.use A' c' U' d' w := hT 16 (hA 16 rfl) rfl
   have t17 : u 17 = u 16 := hT 17 (hA 17 rfl) rfl
   simp only [lay, sel, Act.put, sA, sZ, sS, t17] at hK ⊢
   obtain ⟨A', c', U', d', e16, hst⟩ := t16
   simp only [e16] at hK ⊢
   clear hi hA hF hG hT
   go_simp
   refine hK _ _ bR <| fun _ => ⟨.int .i64 0, ?_⟩
   simp [updV, e16]
  case a19 =>
   intro u w X hi hA hF hG hT K hK
   have t16 : ∃ A' c' U' d', u 16 = .tuple #[.agg #[.slice A' n c', .slice U' n d', .int .i64 (sp : Int)], .int .i64 0] ∧ StT mb n mq.mem mq.use A' c' U' d' w := hT 16 (hA 16 rfl) rfl
   have t17 : u 17 = u 16 := hT 17 (hA 17 rfl) rfl
   simp only [lay, sel, Act.put, sA, sZ, sS, t17] at hK ⊢
   obtain ⟨A', c', U', d', e16, hst⟩ := t16
   simp only [e16] at hK ⊢
   clear hi hA hF hG hT
   go_simp
   exact hK _ _ bR (updV_self _ _ _)
  case a22 =>
   intro u w X hi hA hF hG hT K hK
   have t16 : ∃ A' c' U' d', u 16 = .tuple #[.agg #[.slice A' n c', .slice U' n d', .int .i64 (sp : Int)], .int .i64 0] ∧ StT mb n mq.mem mq.use A' c' U' d' w := hT 16 (hA 16 rfl) rfl
   have t18 : ∃ x0, u 16 = .tuple #[u 18, x0] := hT 18 (hA 18 rfl) rfl
   simp only [lay, sel, Act.put, sA, sZ, sS] at hK ⊢
   obtain ⟨A', c', U', d', e16, hst⟩ := t16
   obtain ⟨x0, e18'⟩ := t18
   rw [e16] at e18'
   have e18 : u 18 = .agg #[.slice A' n c', .slice U' n d', .int .i64 (sp : Int)] := by injection e18' with e; injection e with e; injection e with e _; exact e.symm
   have HBw : Below W2.heap.size W2 w := hG.1 hi
   have hbm := (HM2.out.after HBw).blk
   rw [HL.out, ← HN.out] at hbm
   have m19w := (HBw.cell (p := ⟨mb, 19, none⟩) hlt2).trans m19'
   have m20w := (HBw.cell (p := ⟨mb, 20, none⟩) hlt2).trans m20'
   have m21w := (HBw.cell (p := ⟨mb, 21, none⟩) hlt2).trans m21'
   have f19 := hbm.frozen 19
   have f20 := hbm.frozen 20
   have f21 := hbm.frozen 21
   have hltw := hbm.lt
   have hgr := grownBy_trans (grown_mb w mb 19 (.slice A' n c')) (grownBy_trans (grown_mb _ mb 20 (.slice U' n d')) (grown_mb _ mb 21 (.int .i64 (sp : Int))))
   simp only [e18] at hK ⊢
   go_simp
   refine hK undef _ ⟨fun h => absurd (by simp) h, grownBy_trans hG.2 hgr⟩ (And.intro ?_ (And.intro ?_ (And.intro ?_ (And.intro ?_ (trivial))))) (noV rfl)
   · exact fun hj => (by obtain ⟨A', c', U', d', e, h1⟩ := hT 16 (hj.resolve_left (by decide)) rfl; exact ⟨A', c', U', d', (updV_ne _ _ (by decide)).trans e, h1.grow hgr⟩)
   · exact fun hj => ((updV_ne _ _ (by decide)).trans ((hT 17 (hj.resolve_left (by decide)) rfl).trans (updV_ne _ _ (by decide)).symm))
   · exact fun hj => (by obtain ⟨x0, e⟩ := hT 18 (hj.resolve_left (by decide)) rfl; exact ⟨x0, by simpa [updV] using e⟩)
   · exact fun hj => ⟨A', c', U', d', (by have h3 := ((hbm.set_ 19 (.slice A' n c')).set_ 20 (.slice U' n d')).set_ 21 (.int .i64 (sp : Int)); have e := HSP.out; subst e; exact h3), hst.grow hgr⟩
  all_goals
   intro u w X hi hA hF hG hT K hK
   simp only [lay, sel, Act.put, sA, sZ, sS] at hK ⊢
   try
    have HBw : Below W2.heap.size W2 w := hG.1 (hF 22 rfl)
    have m19w := (HBw.cell (p := ⟨mb, 19, none⟩) hlt2).trans m19'
    have m20w := (HBw.cell (p := ⟨mb, 20, none⟩) hlt2).trans m20'
    have m21w := (HBw.cell (p := ⟨mb, 21, none⟩) hlt2).trans m21'
    have x1w := (HBw.cell (p := ⟨g3, 1, none⟩) xz).trans x1
    have x2w := (HBw.cell (p := ⟨g3, 2, none⟩) xz).trans x2
    have x3w := (HBw.cell (p := ⟨g3, 3, none⟩) xz).trans x3
    have r0w := (HBw.cell (p := ⟨mb, 2 + b * 2, none⟩) hlt2).trans r0
    have r1w := (HBw.cell (p := ⟨mb, 2 + b * 2 + 1, none⟩) hlt2).trans r1
   clear hi hA hF hG hT
   go_simp
   exact hK _ _ bR (updV_self _ _ _)
 intro u w X hX hG hT
 obtain ⟨t16, t17, t18, t22, -⟩ := hT
 try dsimp only at t16 t17 t18 t22
 simp only [lay, sel, Act.put, sA, sZ, sS]
 obtain ⟨A', c', U', d', hbw, hst⟩ := t22
 have hgw := grownBy_trans (grownBy_of_below HB2.out (some mb)) hG.2
 have hr2 := HM2.out.rows.grow hG.2
 clear hX t16 t18
 go_wp2
 go_ret
 have hml : mq.mem.length = n := by rw [HM1.out]; unfold Mx.wr; rw [length_splice _ _ _ (by rw [bytesV_len]; exact hr6)]; exact HN.out.symm
 have hul : mq.use.length = n := by rw [HM1.out]; unfold Mx.wr; rw [length_splice _ _ _ (by rw [List.length_replicate, bytesV_len, HF.out.len]; exact hr6)]; exact HL.out
 refine ⟨rfl, hgw, ⟨L.As, L.ca, L.At, L.ct, A', c', U', d'⟩, ?_, ?_⟩
 · show Blk w mb 94 (tcs al (.slice (some ad) p.length cp) iv (.slice L.As mq.acts.length L.ca) (.slice A' mq.mem.length c') (.slice U' mq.use.length d') (.slice L.At mq.trace.length L.ct) mq)
   rw [hml, hul, HM1.out]
   exact hbw
 · exact ⟨by rw [HM1.out]; exact hr2.acts, by rw [HM1.out]; exact hr2.tr, by rw [hml]; exact hst.1, by rw [hul]; exact hst.2.1, ⟨by rw [HM1.out]; exact hr2.caps.1, by rw [HM1.out]; exact hr2.caps.2.1, by rw [hml]; exact hst.2.2.1, by rw [hul]; exact hst.2.2.2⟩⟩
end
section
variable {mb cp : Nat} {al : Int} {iv : Value} {L : Lq} {m : Mx} {p : List Fr} {ad : Addr}
theorem tmem_no (W1 : World) (oo a b c imm : Int) (h : TAt W1 mb al (.slice (some ad) p.length cp) iv L m) (b15 : (oo == 15) = false) (b16 : (oo == 16) = false) (b17 : (oo == 17) = false) :
 Calls Tryz.prog 55 #[.pointer (some ⟨mb, 0, none⟩), .agg #[.int .i64 oo, .int .i64 a, .int .i64 b, .int .i64 c, .int .u64 imm]] W1 (fun e w' => e = .returned (.bool false) ∧ Below W1.heap.size W1 w') := by
 obtain ⟨W2, hW2⟩ : ∃ W, W = W1.alloc (.cells #[.int .i64 oo, .int .i64 a, .int .i64 b, .int .i64 c, .int .u64 imm] 50) := ⟨_, rfl⟩
 have HB2 : Hid (Below W1.heap.size W1 W2) := hQ (by rw [hW2]; exact bR.alloc nL _)
 have HK3 : Hid (Blk W2 W1.heap.size 50 #[.int .i64 oo, .int .i64 a, .int .i64 b, .int .i64 c, .int .u64 imm]) := hQ (by rw [hW2]; exact Blk.new _ _ _)
 have HW2 := hQ hW2
 obtain ⟨x0, x1, x2, x3, x4, -, -, -, -, -, xz⟩ := HK3.out.c5
 clear hW2 h
 go_enter Tryz.func55, Tryz.ntmps55
 go_upto_region 1 with (fail)
 rw [← HW2.out]
 go_wp2
 go_ret
 exact ⟨rfl, HB2.out⟩
theorem tmem_mv (W1 : World) (a b c : Nat) (imm : Int) (h : TAt W1 mb al (.slice (some ad) p.length cp) iv L m) (hf : TF m) (hc : c ≤ 16) (hs : sizeB (c : Int) = true) (hr : m.sp + a + c ≤ m.mem.length) (hr' : m.sp + b + c ≤ m.mem.length) :
 Calls Tryz.prog 55 #[.pointer (some ⟨mb, 0, none⟩), .agg #[.int .i64 17, .int .i64 (a : Int), .int .i64 (b : Int), .int .i64 (c : Int), .int .u64 imm]] W1 (MemT mb al (.slice (some ad) p.length cp) iv (m.moveIn a (m.rd b c)) W1) := by
 obtain ⟨m1, m18, m19, m20, m21, -, -, -, -, -, -, -, hlt⟩ := tcells h.blk
 obtain ⟨n, hn⟩ : ∃ n, n = m.mem.length := ⟨_, rfl⟩
 have hl := hf.len
 have hsp := Nat.le_trans hf.sp hf.tp
 rw [← hn] at hl m19 hsp
 rw [hl] at m20
 obtain ⟨sp, hspe⟩ : ∃ q, q = m.sp := ⟨_, rfl⟩
 rw [← hspe] at m21 hsp
 have hn6 : n ≤ 1048576 := by rw [hn]; exact hf.mem
 obtain ⟨ok, mq, hmv, hres, hm1⟩ : ∃ ok mq, moveV m.mem.length m.sp m.mem m.use a b c = (0, ok, mq.mem, mq.use, m.sp) ∧ m.moveIn a (m.rd b c) = (if ok = true then mq else mq.stop 3) ∧ (mq = m ∨ ∃ l : List Nat, l.length = c ∧ mq = m.wr a l) := by
  rw [move_rd m (okV_of hs hr) (okV_of hs hr') hr']
  rcases hrd : m.rd b c with _ | l
  · exact ⟨false, m, rfl, rfl, .inl rfl⟩
  · refine ⟨true, m.wr a l, rfl, rfl, .inr ⟨l, ?_, rfl⟩⟩
    unfold Mx.rd at hrd
    split at hrd
    · injection hrd with hrd
      rw [← hrd, List.length_take, List.length_drop]
      omega
    · cases hrd
 have hm5 : mq.acts = m.acts ∧ mq.trace = m.trace ∧ mq.mem.length = n ∧ mq.use.length = n ∧ ∀ pv iv sv bv uv tv, tcs al pv iv sv bv uv tv mq = tcs al pv iv sv bv uv tv m := by
  rcases hm1 with rfl | ⟨l, hll, rfl⟩
  · exact ⟨rfl, rfl, hn.symm, hl, fun _ _ _ _ _ _ => rfl⟩
  · exact ⟨rfl, rfl, (length_splice _ _ _ (by rw [hll]; exact hr)).trans hn.symm, (length_splice _ _ _ (by rw [List.length_replicate, hll, hf.len]; exact hr)).trans hl, fun _ _ _ _ _ _ => rfl⟩
 have HM5 := hQ hm5
 have HCL := hQ (fun (W : World) (hB : Below W1.heap.size W1 W) => refmove_any L.Ab L.Ub n L.cb L.cu sp m.mem m.use a b c (by omega) (by omega) (by omega) (by omega) (by omega) (by omega) W (by rw [hn]; exact (h.after hB).bs hf.m256) (by rw [← hl]; exact (h.after hB).sl) hn6 hsp (by rw [hn]; exact h.rows.caps.2.2.1) (by rw [← hl]; exact h.rows.caps.2.2.2))
 rw [hn, hspe, hmv, ← hn, ← hspe] at HCL
 unfold MoveR at HCL
 rw [hres]
 clear hmv hres hm1 hm5 hs hr hr'
 obtain ⟨W2, hW2⟩ : ∃ W, W = W1.alloc (.cells #[.int .i64 17, .int .i64 (a : Int), .int .i64 (b : Int), .int .i64 (c : Int), .int .u64 imm] 50) := ⟨_, rfl⟩
 obtain ⟨g3, hg3⟩ : ∃ g, g = W1.heap.size := ⟨_, rfl⟩
 have hb2 : Below W1.heap.size W1 W2 := by rw [hW2]; exact bR.alloc nL _
 have HK3 : Hid (Blk W2 g3 50 #[.int .i64 17, .int .i64 (a : Int), .int .i64 (b : Int), .int .i64 (c : Int), .int .u64 imm]) := hQ (by rw [hW2, hg3]; exact Blk.new _ _ _)
 have HW2 := hQ hW2
 have HG3 := hQ hg3
 have HB2 := hQ hb2
 have HM := hQ h
 have HF := hQ hf
 have HN := hQ hn
 have HL := hQ hl
 have HSP := hQ hspe
 have hs2 : W1.heap.size ≤ W2.heap.size := hb2.size
 have hg3m : mb < g3 := by omega
 obtain ⟨x0, x1, x2, x3, x4, -, -, -, -, -, xz⟩ := HK3.out.c5
 clear h hf hn hl hspe hW2 hg3 hb2 m1 m18
 go_enter Tryz.func55, Tryz.ntmps55
 go_upto_region 1 with (fail)
 rw [← HW2.out, ← HG3.out]
 have HM2 := hQ (HM.out.after HB2.out)
 have hlt2 := HM2.out.blk.lt
 have m19' := (HB2.out.cell (p := ⟨mb, 19, none⟩) hlt).trans m19
 have m20' := (HB2.out.cell (p := ⟨mb, 20, none⟩) hlt).trans m20
 have m21' := (HB2.out.cell (p := ⟨mb, 21, none⟩) hlt).trans m21
 have hz2 := hs2
 clear m19 m20 m21 HW2 HG3
 go_upto_region 12 with (fail)
 refine wp_region_rv (fun j => match j with
  | 0 | 1 | 2 | 16 => some (.pointer (some ⟨mb, 0, none⟩))
  | 3 | 17 => some (.pointer (some ⟨mb, 19, none⟩))
  | 4 => some (.agg #[.slice L.Ab n L.cb, .slice L.Ub n L.cu, .int .i64 (sp : Int)])
  | 5 => some (.pointer (some ⟨g3, 1, none⟩))
  | 6 => some (.int .i64 (a : Int))
  | 7 => some (.pointer (some ⟨g3, 2, none⟩))
  | 8 => some (.int .i64 (b : Int))
  | 9 => some (.pointer (some ⟨g3, 3, none⟩))
  | 10 => some (.int .i64 (c : Int))
  | 14 | 19 => some (.bool ok)
  | 15 | 20 => some (.int .i64 0)
  | _ => none) [11, 12, 13, 18] (fun X j u w => match j with
  | 11 => ∃ A' c' U' d', u 11 = .tuple #[.agg #[.slice A' n c', .slice U' n d', .int .i64 (sp : Int)], .bool ok, .int .i64 0] ∧ StT mb n mq.mem mq.use A' c' U' d' w
  | 12 => u 12 = u 11
  | 13 => ∃ x0 x1, u 11 = .tuple #[u 13, x0, x1]
  | 18 => ∃ A' c' U' d', Blk w mb 94 (tcs al (.slice (some ad) p.length cp) iv (.slice L.As m.acts.length L.ca) (.slice A' n c') (.slice U' n d') (.slice L.At m.trace.length L.ct) m) ∧ StT mb n mq.mem mq.use A' c' U' d' w
  | _ => True)
  (fun X w' => (¬ X 18 → Below W2.heap.size W2 w') ∧ W2.grownBy w' (some mb)) (fun w w' => Below w.heap.size w w') [18] [0, 0, 2, 6, 14, 0, 32, 0, 128, 0, 512, 2046, 4094, 8190, 8190, 8190, 16383, 81919, 212991, 491519, 1048575]
  [[], [], [(1, 65)], [(2, 66)], [(3, 67)], [], [(5, 69)], [], [(7, 71)], [], [(9, 73)], [(4, 68), (6, 70), (8, 72), (10, 74)], [(11, 75)], [(12, 63)], [(12, 63)], [(12, 63)], [(0, 64)], [(16, 79)], [(13, 76), (17, 80)], [(14, 77)], [(15, 78)]]
  [(0, 64), (1, 65), (2, 66), (3, 67), (4, 68), (5, 69), (6, 70), (7, 71), (8, 72), (9, 73), (10, 74), (11, 75), (12, 63), (13, 76), (14, 77), (15, 78), (16, 79), (17, 80), (19, 5), (20, 6)] (by kernel_rfl) (by kernel_rfl) ?hsG ?hsS ?h0 ?hs ?he
 case hsG =>
  intro i X w w' hsp hR hG
  exact ⟨fun h => (hG.1 (fun q => h (.inr q))).trans (hR.mono (hG.1 (fun q => h (.inr q))).size), grownBy_trans hG.2 (grownBy_of_below hR _)⟩
 case hsS =>
  refine And.intro ?_ (And.intro ?_ (And.intro ?_ (And.intro ?_ (trivial))))
  · exact fun i X u u' w w' hsp hij hni hXj hR hu h => (by obtain ⟨A', c', U', d', e, h1⟩ := h; exact ⟨A', c', U', d', (hu 11 (.inl rfl)).trans e, h1.grow (grownBy_of_below hR _)⟩)
  · exact fun i X u u' w w' hsp hij hni hXj hR hu h => (by have h1 := h; (try dsimp only at h1); simp only [← hu 11 (.inr rfl), ← hu 12 (.inl rfl)] at h1; exact h1)
  · exact fun i X u u' w w' hsp hij hni hXj hR hu h => (by obtain ⟨x0, x1, e⟩ := h; exact ⟨x0, x1, by rw [hu 11 (.inr rfl), hu 13 (.inl rfl)]; exact e⟩)
  · exact fun i X u u' w w' hsp hij hni hXj hR hu h => (by obtain ⟨A', c', U', d', h1, h2⟩ := h; exact ⟨A', c', U', d', h1.after hR, h2.grow (grownBy_of_below hR _)⟩)
 case h0 => exact ⟨fun _ => bR.drew, grownBy_of_below ((Below.refl W2.heap.size W2).drew) _⟩
 case hs =>
  refine rvc ?_ (rvc ?_ (rvc ?_ (rvc ?_ (rvc ?_ (rvc ?_ (rvc ?_ (rvc ?_ (rvc ?_ (rvc ?_ (rvc ?_ (rvc ?a11 (rvc ?a12 (rvc ?a13 (rvc ?a14 (rvc ?a15 (rvc ?_ (rvc ?_ (rvs ?a18 (rvc ?_ (rvc ?_ (rvn)))))))))))))))))))))
  case a11 =>
   intro u w X hi hA hF hG hT K hK
   simp only [lay, sel, Act.put, sA, sZ, sS] at hK ⊢
   have HBw : Below W2.heap.size W2 w := hG.1 (hF 18 rfl)
   have HBx : Below W1.heap.size W1 w := HB2.out.trans (HBw.mono hz2)
   clear hi hA hF hG hT
   go_simp
   refine (HCL.out w HBx).mono ?_
   rintro e w' ⟨A', c', U', d', rfl, hb', hs', k1, k2, b', f1, f2⟩
   exact hK _ _ b' <| fun _ => ⟨A', c', U', d', updV_self _ _ _, StT.of (R := (0, mq.mem, mq.use, sp)) HM.out HN.out HL.out HBx hb' hs' k1 k2 f1 f2⟩
  case a12 =>
   intro u w X hi hA hF hG hT K hK
   have t11 : ∃ A' c' U' d', u 11 = .tuple #[.agg #[.slice A' n c', .slice U' n d', .int .i64 (sp : Int)], .bool ok, .int .i64 0] ∧ StT mb n mq.mem mq.use A' c' U' d' w := hT 11 (hA 11 rfl) rfl
   simp only [lay, sel, Act.put, sA, sZ, sS] at hK ⊢
   obtain ⟨A', c', U', d', e11, hst⟩ := t11
   simp only [e11] at hK ⊢
   clear hi hA hF hG hT
   go_simp
   refine hK _ _ bR <| fun _ => ?_
   simp [updV, e11]
  case a13 =>
   intro u w X hi hA hF hG hT K hK
   have t11 : ∃ A' c' U' d', u 11 = .tuple #[.agg #[.slice A' n c', .slice U' n d', .int .i64 (sp : Int)], .bool ok, .int .i64 0] ∧ StT mb n mq.mem mq.use A' c' U' d' w := hT 11 (hA 11 rfl) rfl
   have t12 : u 12 = u 11 := hT 12 (hA 12 rfl) rfl
   simp only [lay, sel, Act.put, sA, sZ, sS, t12] at hK ⊢
   obtain ⟨A', c', U', d', e11, hst⟩ := t11
   simp only [e11] at hK ⊢
   clear hi hA hF hG hT
   go_simp
   refine hK _ _ bR <| fun _ => ⟨.bool ok, .int .i64 0, ?_⟩
   simp [updV, e11]
  case a14 =>
   intro u w X hi hA hF hG hT K hK
   have t11 : ∃ A' c' U' d', u 11 = .tuple #[.agg #[.slice A' n c', .slice U' n d', .int .i64 (sp : Int)], .bool ok, .int .i64 0] ∧ StT mb n mq.mem mq.use A' c' U' d' w := hT 11 (hA 11 rfl) rfl
   have t12 : u 12 = u 11 := hT 12 (hA 12 rfl) rfl
   simp only [lay, sel, Act.put, sA, sZ, sS, t12] at hK ⊢
   obtain ⟨A', c', U', d', e11, hst⟩ := t11
   simp only [e11] at hK ⊢
   clear hi hA hF hG hT
   go_simp
   exact hK _ _ bR (updV_self _ _ _)
  case a15 =>
   intro u w X hi hA hF hG hT K hK
   have t11 : ∃ A' c' U' d', u 11 = .tuple #[.agg #[.slice A' n c', .slice U' n d', .int .i64 (sp : Int)], .bool ok, .int .i64 0] ∧ StT mb n mq.mem mq.use A' c' U' d' w := hT 11 (hA 11 rfl) rfl
   have t12 : u 12 = u 11 := hT 12 (hA 12 rfl) rfl
   simp only [lay, sel, Act.put, sA, sZ, sS, t12] at hK ⊢
   obtain ⟨A', c', U', d', e11, hst⟩ := t11
   simp only [e11] at hK ⊢
   clear hi hA hF hG hT
   go_simp
   exact hK _ _ bR (updV_self _ _ _)
  case a18 =>
   intro u w X hi hA hF hG hT K hK
   have t11 : ∃ A' c' U' d', u 11 = .tuple #[.agg #[.slice A' n c', .slice U' n d', .int .i64 (sp : Int)], .bool ok, .int .i64 0] ∧ StT mb n mq.mem mq.use A' c' U' d' w := hT 11 (hA 11 rfl) rfl
   have t13 : ∃ x0 x1, u 11 = .tuple #[u 13, x0, x1] := hT 13 (hA 13 rfl) rfl
   simp only [lay, sel, Act.put, sA, sZ, sS] at hK ⊢
   obtain ⟨A', c', U', d', e11, hst⟩ := t11
   obtain ⟨x0, x1, e13'⟩ := t13
   rw [e11] at e13'
   have e13 : u 13 = .agg #[.slice A' n c', .slice U' n d', .int .i64 (sp : Int)] := by injection e13' with e; injection e with e; injection e with e _; exact e.symm
   have HBw : Below W2.heap.size W2 w := hG.1 hi
   have hbm := (HM2.out.after HBw).blk
   rw [HL.out, ← HN.out] at hbm
   have m19w := (HBw.cell (p := ⟨mb, 19, none⟩) hlt2).trans m19'
   have m20w := (HBw.cell (p := ⟨mb, 20, none⟩) hlt2).trans m20'
   have m21w := (HBw.cell (p := ⟨mb, 21, none⟩) hlt2).trans m21'
   have f19 := hbm.frozen 19
   have f20 := hbm.frozen 20
   have f21 := hbm.frozen 21
   have hltw := hbm.lt
   have hgr := grownBy_trans (grown_mb w mb 19 (.slice A' n c')) (grownBy_trans (grown_mb _ mb 20 (.slice U' n d')) (grown_mb _ mb 21 (.int .i64 (sp : Int))))
   simp only [e13] at hK ⊢
   go_simp
   refine hK undef _ ⟨fun h => absurd (by simp) h, grownBy_trans hG.2 hgr⟩ (And.intro ?_ (And.intro ?_ (And.intro ?_ (And.intro ?_ (trivial))))) (noV rfl)
   · exact fun hj => (by obtain ⟨A', c', U', d', e, h1⟩ := hT 11 (hj.resolve_left (by decide)) rfl; exact ⟨A', c', U', d', (updV_ne _ _ (by decide)).trans e, h1.grow hgr⟩)
   · exact fun hj => ((updV_ne _ _ (by decide)).trans ((hT 12 (hj.resolve_left (by decide)) rfl).trans (updV_ne _ _ (by decide)).symm))
   · exact fun hj => (by obtain ⟨x0, x1, e⟩ := hT 13 (hj.resolve_left (by decide)) rfl; exact ⟨x0, x1, by simpa [updV] using e⟩)
   · exact fun hj => ⟨A', c', U', d', (by have h3 := ((hbm.set_ 19 (.slice A' n c')).set_ 20 (.slice U' n d')).set_ 21 (.int .i64 (sp : Int)); have e := HSP.out; subst e; exact h3), hst.grow hgr⟩
  all_goals
   intro u w X hi hA hF hG hT K hK
   simp only [lay, sel, Act.put, sA, sZ, sS] at hK ⊢
   try
    have HBw : Below W2.heap.size W2 w := hG.1 (hF 18 rfl)
    have m19w := (HBw.cell (p := ⟨mb, 19, none⟩) hlt2).trans m19'
    have m20w := (HBw.cell (p := ⟨mb, 20, none⟩) hlt2).trans m20'
    have m21w := (HBw.cell (p := ⟨mb, 21, none⟩) hlt2).trans m21'
    have x1w := (HBw.cell (p := ⟨g3, 1, none⟩) xz).trans x1
    have x2w := (HBw.cell (p := ⟨g3, 2, none⟩) xz).trans x2
    have x3w := (HBw.cell (p := ⟨g3, 3, none⟩) xz).trans x3
   clear hi hA hF hG hT
   go_simp
   exact hK _ _ bR (updV_self _ _ _)
 intro u w X hX hG hT
 obtain ⟨t11, t12, t13, t18, -⟩ := hT
 try dsimp only at t11 t12 t13 t18
 simp only [lay, sel, Act.put, sA, sZ, sS]
 obtain ⟨A', c', U', d', hbw, hst⟩ := t18
 have hr2 := HM2.out.rows.grow hG.2
 have hmw : TAt w mb al (.slice (some ad) p.length cp) iv ⟨L.As, L.ca, L.At, L.ct, A', c', U', d'⟩ mq := by
  obtain ⟨e1, e2, e3, e4, e5⟩ := HM5.out
  refine ⟨?_, ?_⟩
  · show Blk w mb 94 (tcs al (.slice (some ad) p.length cp) iv (.slice L.As mq.acts.length L.ca) (.slice A' mq.mem.length c') (.slice U' mq.use.length d') (.slice L.At mq.trace.length L.ct) mq)
    rw [e1, e2, e3, e4, e5]
    exact hbw
  · exact ⟨by rw [e1]; exact hr2.acts, by rw [e2]; exact hr2.tr, by rw [e3]; exact hst.1, by rw [e4]; exact hst.2.1, ⟨by rw [e1]; exact hr2.caps.1, by rw [e2]; exact hr2.caps.2.1, by rw [e3]; exact hst.2.2.1, by rw [e4]; exact hst.2.2.2⟩⟩
 have HMW := hQ hmw
 have HGW := hQ (grownBy_trans (grownBy_of_below HB2.out (some mb)) hG.2)
 clear hX t11 t13 hbw hst hr2 hmw hG
 cases ok with
 | true =>
  go_wp2
  go_ret
  exact ⟨rfl, HGW.out, _, HMW.out⟩
 | false =>
  have HE := hQ (tend_any w 3 HMW.out)
  go_wp2_with fail
  refine HE.out.mono ?_
  rintro e w5 ⟨rfl, hm5, hg5⟩
  have HM6 := hQ hm5
  have HG5 := hQ (grownBy_trans HGW.out hg5)
  clear hm5 hg5
  go_wp2
  go_ret
  exact ⟨rfl, HG5.out, _, HM6.out⟩
end
section
variable {mb cp : Nat} {al : Int} {iv : Value} {L : Lq} {m : Mx} {p : List Fr} {ad : Addr}
theorem Reads.take_ {w : World} {B size n k : Nat} {A : Option Addr} {xs : List Value} (h : Reads w B size A n xs) (hk : k ≤ n) : Reads w B size A k (xs.take (k * size)) := by
 have hle : k * size ≤ n * size := Nat.mul_le_mul_right size hk
 refine ⟨by rw [List.length_take, h.1]; omega, fun h0 => ?_⟩
 obtain ⟨ad, e, hb, hc⟩ := h.2 (by omega)
 exact ⟨ad, e, hb, fun j u hu => hc j u (by
  rw [List.getElem?_take] at hu
  split at hu
  · exact hu
  · cases hu)⟩
theorem TAt.act_at {w : World} {pv : Value} (h : TAt w mb al pv iv L m) {i : Nat} (hi : i < m.acts.length) : ∃ ad, L.As = some ad ∧ mb < ad.block ∧ ad.block < w.heap.size ∧ w.cell? (ad.add (i * 2)) = some (.int .i64 (m.acts.getD i Ac.z).f) ∧
 w.cell? ⟨(ad.add (i * 2)).block, (ad.add (i * 2)).off + 1, none⟩ = some (.int .i64 (m.acts.getD i Ac.z).pc) := by
 obtain ⟨ad, e, hb, hc⟩ := h.rows.acts.1.2 (by omega)
 have g0 : ∀ j, j < 2 → (m.acts.flatMap acR)[i * 2 + j]? = (acR (m.acts.getD i Ac.z))[j]? := fun j hj => flat_get acR_len Ac.z m.acts i j (by omega) hj
 refine ⟨ad, e, h.rows.acts.2 ad e (by omega), hb, hc (i * 2) _ (by simpa [acR] using g0 0 (by omega)), ?_⟩
 rw [← add_pos _ 1 (by omega), add_of_add]
 exact hc (i * 2 + 1) _ (by simpa [acR] using g0 1 (by omega))
theorem tleave_any (W1 : World) (f z t : Nat) (ht : m.acts.length = t + 1) (hff : (m.acts.getD t Ac.z).f = f) (hf : f < p.length) (hp : p.length ≤ maxLen) (hz : (z : Int) = (p.getD f Fr.z).size) (hr : m.sp + z ≤ m.mem.length) (h : TAt W1 mb al (.slice (some ad) p.length cp) iv L m) (htf : TF m) (hg : Gx W1 0 mb (some ad) p) :
 Calls Tryz.prog 54 #[.pointer (some ⟨mb, 0, none⟩)] W1 (TD mb al (.slice (some ad) p.length cp) iv (m.leave z) W1) := by
 obtain ⟨i0, hi0, hz0, hz2, hz3⟩ := info_parts info_tact
 have ht6 : t ≤ 1000000 := by have := htf.acts; omega
 obtain ⟨adA, hAs, hA1, hA2, y0, -⟩ := h.act_at (i := t) (by omega)
 rw [hff] at y0
 obtain ⟨ad', Ai, ci, e0, hbl, -, z1, -, -⟩ := hg.whole hf
 obtain rfl : ad = ad' := by injection e0
 rw [← hz] at z1
 obtain ⟨m1, m18, m19, m20, m21, -, -, -, -, -, -, -, hlt⟩ := tcells h.blk
 obtain ⟨n, hn⟩ : ∃ n, n = m.mem.length := ⟨_, rfl⟩
 have hl := htf.len
 have hn6 : n ≤ 1048576 := by rw [hn]; exact htf.mem
 rw [← hn] at hl m19 hr
 rw [hl] at m20
 rw [ht, hAs] at m18
 obtain ⟨sp, hspe⟩ : ∃ q, q = m.sp := ⟨_, rfl⟩
 rw [← hspe] at m21 hr
 have hpo : popV n sp (z : Int) = (0, sp + z) := by unfold popV; rw [if_pos ⟨by omega, by omega⟩]; rfl
 have HPO := hQ (fun W : World => hpo ▸ refpop_any L.Ab L.Ub n L.cb n L.cu sp (z : Int) (by omega) (by omega) hn6 (by omega) W)
 have hA3 : (adA.add (t * 2)).block < W1.heap.size := by rw [block_of_add]; exact hA2
 have hF3 : (ad.add (f * 3)).block < W1.heap.size := by rw [block_of_add]; omega
 have hbk := h.blk
 rw [hAs] at hbk
 have HAS := hQ hAs
 have HN := hQ hn
 have HL := hQ hl
 have HSP := hQ hspe
 have HT := hQ ht
 have ht0 : (0 : Int) ≤ (t : Int) := by omega
 have hti : (t : Int) ≤ 1000000 := by omega
 have htl : (t : Int) < (t : Int) + 1 := by omega
 have hfi : (f : Int) < (p.length : Int) := by omega
 have hf0 : (0 : Int) ≤ (f : Int) := by omega
 obtain ⟨As, ca, At, ct, Ab, cb, Ub, cu⟩ := L
 dsimp only at hAs m18 m19 m20 HPO
 subst hAs
 have HM := hQ h
 clear h hg e0 hz hn hl hspe hpo ht hff htf hbk
 go_enter Tryz.func54, Tryz.ntmps54
 go_upto_region 1 with (fail)
 refine wp_region_rv (fun j => match j with
  | 0 | 1 | 2 | 5 | 6 | 7 | 10 | 11 | 25 => some (.pointer (some ⟨mb, 0, none⟩))
  | 3 | 26 => some (.pointer (some ⟨mb, 19, none⟩))
  | 4 => some (.agg #[.slice Ab n cb, .slice Ub n cu, .int .i64 (sp : Int)])
  | 8 => some (.pointer (some ⟨mb, 1, none⟩))
  | 9 => some (.slice (some ad) p.length cp)
  | 12 => some (.pointer (some ⟨mb, 18, none⟩))
  | 13 => some (.slice (some adA) (t + 1) ca)
  | 14 => some (.int .i64 (t : Int))
  | 15 | 16 => some (.pointer (some (adA.add (t * 2))))
  | 17 => some (.int .i64 (f : Int))
  | 18 => some (.pointer (some (ad.add (f * 3))))
  | 19 => some (.pointer (some ⟨(ad.add (f * 3)).block, (ad.add (f * 3)).off + 1, none⟩))
  | 20 => some (.int .i64 (z : Int))
  | 21 | 22 => some (.tuple #[.agg #[.slice Ab n cb, .slice Ub n cu, .int .i64 ((sp + z : Nat) : Int)], .int .i64 0])
  | 23 => some (.agg #[.slice Ab n cb, .slice Ub n cu, .int .i64 ((sp + z : Nat) : Int)])
  | 24 => some (.int .i64 0)
  | _ => none) [27] (fun X j u w => match j with
  | 27 => Blk w mb 94 (tcs al (.slice (some ad) p.length cp) iv (.slice (some adA) m.acts.length ca) (.slice Ab m.mem.length cb) (.slice Ub m.use.length cu) (.slice At m.trace.length ct) { m with sp := sp + z })
  | _ => True)
  (fun X w' => (¬ X 27 → Below W1.heap.size W1 w') ∧ W1.grownBy w' (some mb)) (fun w w' => Below w.heap.size w w') [27] [0, 0, 2, 6, 14, 0, 32, 96, 224, 480, 0, 1024, 3072, 7168, 0, 31744, 64512, 130048, 262112, 524256, 1048544, 2097150, 4194302, 8388606, 8388606, 16777215, 50331647, 117440511]
  [[], [], [(1, 11)], [(2, 12)], [(3, 13)], [], [(5, 15)], [(6, 16)], [(7, 17)], [(8, 18)], [], [(10, 20)], [(11, 21)], [(12, 22)], [], [(13, 23), (14, 24)], [(15, 25)], [(16, 26)], [(9, 19), (17, 27)], [(18, 28)], [(19, 29)], [(4, 14), (20, 30)], [(21, 31)], [(22, 9)], [(22, 9)], [(0, 10)], [(25, 34)], [(23, 32), (26, 35)]]
  [(0, 10), (1, 11), (2, 12), (3, 13), (4, 14), (5, 15), (6, 16), (7, 17), (8, 18), (9, 19), (10, 20), (11, 21), (12, 22), (13, 23), (14, 24), (15, 25), (16, 26), (17, 27), (18, 28), (19, 29), (20, 30), (21, 31), (22, 9), (23, 32), (24, 33), (25, 34), (26, 35)] (by kernel_rfl) (by kernel_rfl) ?hsG ?hsS ?h0 ?hs ?he
 case hsG =>
  intro i X w w' hsp hR hG
  exact ⟨fun h => (hG.1 (fun q => h (.inr q))).trans (hR.mono (hG.1 (fun q => h (.inr q))).size), grownBy_trans hG.2 (grownBy_of_below hR _)⟩
 case hsS =>
  refine And.intro ?_ (trivial)
  · exact fun i X u u' w w' hsp hij hni hXj hR hu h => (h.after hR)
 case h0 => exact ⟨fun _ => bR.drew, grownBy_of_below ((Below.refl W1.heap.size W1).drew) _⟩
 case hs =>
  refine rvc ?_ (rvc ?_ (rvc ?_ (rvc ?_ (rvc ?_ (rvc ?_ (rvc ?_ (rvc ?_ (rvc ?_ (rvc ?_ (rvc ?_ (rvc ?_ (rvc ?_ (rvc ?_ (rvc ?_ (rvc ?_ (rvc ?_ (rvc ?_ (rvc ?_ (rvc ?_ (rvc ?_ (rvc ?a21 (rvc ?_ (rvc ?_ (rvc ?_ (rvc ?_ (rvc ?_ (rvs ?a27 (rvn))))))))))))))))))))))))))))
  case a21 =>
   intro u w X hi hA hF hG hT K hK
   simp only [lay, sel, Act.put, sA, sZ, sS] at hK ⊢
   have HBw : Below W1.heap.size W1 w := hG.1 (hF 27 rfl)
   clear hi hA hF hG hT
   go_simp
   refine (HPO.out w).mono ?_
   rintro e w' ⟨rfl, b'⟩
   exact hK _ _ b' (updV_self _ _ _)
  case a27 =>
   intro u w X hi hA hF hG hT K hK
   simp only [lay, sel, Act.put, sA, sZ, sS] at hK ⊢
   have HBw : Below W1.heap.size W1 w := hG.1 hi
   have hbm := (HM.out.after HBw).blk
   have m19w := (HBw.cell (p := ⟨mb, 19, none⟩) hlt).trans m19
   have m20w := (HBw.cell (p := ⟨mb, 20, none⟩) hlt).trans m20
   have m21w := (HBw.cell (p := ⟨mb, 21, none⟩) hlt).trans m21
   have f19 := hbm.frozen 19
   have f20 := hbm.frozen 20
   have f21 := hbm.frozen 21
   have hltw := hbm.lt
   have hgr := grownBy_trans (grown_mb w mb 19 (.slice Ab n cb)) (grownBy_trans (grown_mb _ mb 20 (.slice Ub n cu)) (grown_mb _ mb 21 (.int .i64 ((sp + z : Nat) : Int))))
   go_simp
   refine hK undef _ ⟨fun h => absurd (by simp) h, grownBy_trans hG.2 hgr⟩ (And.intro ?_ (trivial)) (noV rfl)
   · exact fun hj => (by have h3 := ((hbm.set_ 19 (.slice Ab n cb)).set_ 20 (.slice Ub n cu)).set_ 21 (.int .i64 ((sp + z : Nat) : Int)); have e1 : m.mem.length = n := HN.out.symm; have e2 : m.use.length = n := HL.out; rw [e1, e2] at h3 ⊢; exact h3)
  all_goals
   intro u w X hi hA hF hG hT K hK
   simp only [lay, sel, Act.put, sA, sZ, sS] at hK ⊢
   try
    have HBw : Below W1.heap.size W1 w := hG.1 (hF 27 rfl)
    have m19w := (HBw.cell (p := ⟨mb, 19, none⟩) hlt).trans m19
    have m20w := (HBw.cell (p := ⟨mb, 20, none⟩) hlt).trans m20
    have m21w := (HBw.cell (p := ⟨mb, 21, none⟩) hlt).trans m21
    have m1w := (HBw.cell (p := ⟨mb, 1, none⟩) hlt).trans m1
    have m18w := (HBw.cell (p := ⟨mb, 18, none⟩) hlt).trans m18
    have y0w := (HBw.cell (p := adA.add (t * 2)) hA3).trans y0
    have z1w := (HBw.cell (p := ⟨(ad.add (f * 3)).block, (ad.add (f * 3)).off + 1, none⟩) hF3).trans z1
   clear hi hA hF hG hT
   go_simp
   exact hK _ _ bR (updV_self _ _ _)
 intro u w X hX hG hT
 obtain ⟨t27, -⟩ := hT
 try dsimp only at t27
 simp only [lay, sel, Act.put, sA, sZ, sS]
 obtain ⟨m2, hm2⟩ : ∃ m2, m2 = ({ m with sp := sp + z } : Mx) := ⟨_, rfl⟩
 have hmw : TAt w mb al (.slice (some ad) p.length cp) iv ⟨some adA, ca, At, ct, Ab, cb, Ub, cu⟩ m2 := by rw [hm2]; exact HM.out.move hG.2 t27 rfl rfl rfl rfl
 have HMW := hQ hmw
 have HGW := hQ hG.2
 have HM2 := hQ hm2
 have ht2 : m2.acts.length = t + 1 := by rw [hm2]; exact HT.out
 have HT2 := hQ ht2
 have HRT : Hid (Reads w w.heap.size 2 (some adA) t ((m2.acts.flatMap acR).take (t * 2))) := hQ (Reads.take_ hmw.rows.acts.1 (by omega))
 have hcap : t + 1 ≤ ca := by have := hmw.rows.caps.1; rw [ht2] at this; exact this
 have HO8 : Hid (∀ u ∈ (m2.acts.flatMap acR).take (t * 2), u.oneCell' = true) := hQ (fun u hu => acR_one _ u (List.mem_of_mem_take hu))
 clear hX hG t27 hm2 y0 z1 m1 m18 m19 m20 m21 hA3 hF3
 obtain ⟨-, m18, -, -, -, -, -, -, -, -, -, -, hltw⟩ := tcells hmw.blk
 rw [ht2] at m18
 dsimp only at m18
 have hcapi : (t : Int) ≤ (ca : Int) := by omega
 have htl2 : (t : Int) ≤ (t : Int) + 1 := by omega
 clear hmw ht2
 go_upto_region 3 with (at_builtin; refine wpList_append_any _ rfl (.const (.slice none 0 0)) (.tmp 42) _ rfl w.heap.size 126 i0 _ 2 16 Tryz.underlying92 hi0 hz0 hz2 hz3 rfl (by omega) (.slice none 0 0) 0 [] rfl (World.ownsRow_nil _ _ _ _) _ (some adA) t ca ((m2.acts.flatMap acR).take (t * 2)) rfl HRT.out HO8.out (by unfold maxLen; omega) (by omega) nL ?_; intro o1 w9 own9' hg9' hat9'; have own9 : w9.ownsRow w.heap.size 126 2 o1 t ((m2.acts.flatMap acR).take (t * 2)) := (by simpa using own9'); obtain ⟨A9, c9, rfl, -⟩ := own_form own9; have b9 : Below w.heap.size w w9 := below_append bR (World.ownsRow_nil w w.heap.size 126 2) hg9' nL (by simp); obtain ⟨-, m18w, -, -, -, -, -, -, -, -, -, mf, hlt9⟩ := tcells (HMW.out.after b9).blk; dsimp only at m18w; rw [HT2.out] at m18w)
 obtain ⟨W9, hW9⟩ : ∃ W, W = w9.setCell ⟨mb, 18, none⟩ (.slice A9 t c9) := ⟨_, rfl⟩
 rw [← hW9]
 obtain ⟨m3, hm3⟩ : ∃ m3, m3 = ({ m2 with acts := m2.acts.take t } : Mx) := ⟨_, rfl⟩
 have hg9 : w.grownBy W9 (some mb) := by rw [hW9]; exact grownBy_trans (grownBy_of_below b9 _) (grown_mb _ _ _ _)
 have hm9 : TAt W9 mb al (.slice (some ad) p.length cp) iv ⟨A9, c9, At, ct, Ab, cb, Ub, cu⟩ m3 := by
  have hl9 : (m2.acts.take t).length = t := by rw [List.length_take, HT2.out]; omega
  have hr9 := HMW.out.rows.grow hg9
  rw [hm3]
  refine ⟨?_, ⟨?_, hr9.tr, hr9.by_, hr9.us_, ⟨?_, hr9.caps.2⟩⟩⟩
  · show Blk W9 mb 94 (tcs al (.slice (some ad) p.length cp) iv (.slice A9 (m2.acts.take t).length c9) _ _ _ _)
    rw [hl9, hW9]
    exact (HMW.out.after b9).blk.set_ 18 _
  · show Rx W9 (mb + 1) W9.heap.size 2 A9 (m2.acts.take t).length ((m2.acts.take t).flatMap acR)
    rw [hl9, ← flat_take acR_len, hW9]
    have h5 := ((Rx.of_own own9).more (lo' := mb + 1) hltw nL).growM (grown_mb w9 mb 18 (.slice A9 t c9))
    exact h5
  · show (m2.acts.take t).length ≤ c9
    rw [hl9]
    exact (own_cap own9).2
 have HM9 := hQ hm9
 have HG9 := hQ (grownBy_trans HGW.out hg9)
 have HM3 := hQ hm3
 clear hW9 hg9 hm9 own9' hg9' hat9' own9 b9 m18w mf hlt9 m18 HMW HRT HO8 hm3
 rcases Nat.eq_zero_or_pos t with h0 | h0
 · have h0i : (t : Int) = 0 := by omega
   have HE := hQ (tend_any W9 0 HM9.out)
   go_wp2_with fail
   refine HE.out.mono ?_
   rintro e w5 ⟨rfl, hm5, hg5⟩
   have r0 : w5.cell? ⟨mb, 2, none⟩ = some (.int .u64 ((rg (m3.stop 0) 0).1 : Int)) := hm5.blk.cell 2
   have r1 : w5.cell? ⟨mb, 3, none⟩ = some (.int .u64 ((rg (m3.stop 0) 0).2 : Int)) := hm5.blk.cell 3
   have c28 : w5.cell? ⟨mb, 28, none⟩ = some (.int .u64 ((m3.stop 0).res.1 : Int)) := hm5.blk.cell 28
   have c29 : w5.cell? ⟨mb, 29, none⟩ = some (.int .u64 ((m3.stop 0).res.2 : Int)) := hm5.blk.cell 29
   have f28 := hm5.blk.frozen 28
   have f29 := hm5.blk.frozen 29
   have hlt5 := hm5.blk.lt
   have HM5 := hQ hm5
   have HG5 := hQ (grownBy_trans HG9.out hg5)
   clear hm5 hg5
   go_wp2
   go_end0
   have hgr := grownBy_trans (grown_mb w5 mb 28 (.int .u64 ((rg (m3.stop 0) 0).1 : Int))) (grown_mb _ mb 29 (.int .u64 ((rg (m3.stop 0) 0).2 : Int)))
   have hfin := HM5.out.move hgr (m' := { m3.stop 0 with res := rg (m3.stop 0) 0 }) ((HM5.out.blk.set_ 28 _).set_ 29 _) rfl rfl rfl rfl
   have he : m.leave z = { m3.stop 0 with res := rg (m3.stop 0) 0 } := by
    unfold Mx.leave
    rw [if_pos (by rw [HT.out]; omega), HM3.out, HM2.out, HSP.out, h0]
    rfl
   exact ⟨rfl, grownBy_trans HG5.out hgr, _, by rw [he]; exact hfin⟩
 · have h0i : ¬ (t : Int) = 0 := by omega
   go_wp2
   go_end0
   have he : m.leave z = m3 := by
    unfold Mx.leave
    rw [if_neg (by rw [HT.out]; omega), HM3.out, HM2.out, HSP.out, HT.out]
    rfl
   exact ⟨rfl, HG9.out, _, by rw [he]; exact HM9.out⟩
end
end Go.Proofs.YtcnndoefgjbmiaaGreat.pm
