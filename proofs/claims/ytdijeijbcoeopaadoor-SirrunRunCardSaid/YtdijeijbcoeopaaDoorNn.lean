/- The draw Cyclic: a call added to a program. -/
import Derived.Test.YtdijeijbcoeopaaDoorGNj
set_option linter.unusedVariables false
set_option maxRecDepth 10000
set_option maxHeartbeats 8000000
namespace Go.Proofs.YtdijeijbcoeopaaDoor.pm
open Go.RowKit
attribute [local go_sem ↓] Go.wp_at_zero Go.wp_at_succ
def cycF (f : Fn) (j : Nat) : Fn := ⟨f.params, f.slots, ⟨22, j, 0, 0, 0⟩ :: f.code.map shI⟩
def cyc (p : List Fn) (i j : Nat) : List Fn := p.set i (cycF (p.getD i Fn.z) j)
def CycD (B cb lo hi : Nat) (A : Option Addr) (n c : Nat) (l : List Nat) (p : List Fn) (w : World) (e : Ending) (w' : World) : Prop :=
 ∃ (i j : Nat) (Aq : Option Addr) (cq p' : Nat), (i < p.length ∧ j < p.length) ∧ e = .returned (.agg #[.slice Aq p.length cq]) ∧ p.length ≤ cq ∧ (∀ W, Kp lo hi w' W → Kp w.heap.size w'.heap.size w' W → w'.heap.size ≤ W.heap.size → Fx W lo W.heap.size Aq (cyc p i j)) ∧ CodesAt w' B cb A n c l p' ∧ w.grownBy w' (some cb)
def SmallI (x : Ins) : Prop := -1000000 ≤ x.a ∧ x.a ≤ 1000000 ∧ -1000000 ≤ x.b ∧ x.b ≤ 1000000
theorem cyclic_d (B cb : Nat) (A : Option Addr) (n c : Nat) (l : List Nat) (p0 : Nat) (Ap : Option Addr) (p : List Fn) (cp lo hi : Nat) (w : World) (h : CodesAt w B cb A n c l p0) (hf : Fx w lo hi Ap p) (hh : hi ≤ w.heap.size) (hlo : cb < lo) (hlw : lo ≤ w.heap.size) (hp1 : 1 ≤ p.length) (hp2 : p.length ≤ 100) (hpc : ∀ i, i < p.length → (p.getD i Fn.z).code.length ≤ 500 ∧ ∀ x ∈ (p.getD i Fn.z).code, SmallI x) :
 Calls Tryd.prog 17 #[.pointer (some ⟨cb, 0, none⟩), .agg #[.slice Ap p.length cp]] w (CycD B cb lo hi A n c l p w) := by
 obtain ⟨i0, hi0, hz0, hz1, hz2⟩ := info_parts info_ins
 have hlt := h.1.lt
 have hB := h.2.2.2.1
 obtain ⟨W1, hW1⟩ : ∃ W1, W1 = (w.alloc (.cells #[.slice Ap p.length cp] 26)).alloc (.cells #[.slice none 0 0] 26) := ⟨_, rfl⟩
 have HK3 : Hid (Blk W1 w.heap.size 26 #[.slice Ap p.length cp]) := hQ (by rw [hW1]; exact (Blk.new _ _ _).alloc _)
 have HK4 : Hid (Blk W1 (w.heap.size + 1) 26 #[.slice none 0 0]) := hQ (by rw [hW1]; exact Blk.newAt (by simp))
 have hB1 : Below w.heap.size w W1 := by rw [hW1]; exact (bR.alloc nL _).alloc (by simp) _
 have HC1 : Hid (CodesAt W1 B cb A n c l p0) := hQ ((h.alloc _).alloc _ |> fun h => by rw [hW1]; exact h)
 have HG1 : Hid (w.grownBy W1 (some cb)) := hQ (grownBy_of_below hB1 _)
 have HF0 := hQ hf
 have HW1 := hQ hW1
 have HPC := hQ hpc
 have hz1' : w.heap.size + 1 < W1.heap.size := HK4.out.lt
 have hpi : (p.length : Int) ≤ 100 := by omega
 clear h hf hW1 hB1 hpc
 obtain ⟨q0, -, qz⟩ := Blk.one HK3.out
 go_enter Tryd.func17, Tryd.ntmps17
 go_upto_region 1 with (fail)
 rw [← HW1.out]
 go_wp2_with fail
 refine (next_d _ _ _ _ _ _ _ (p.length : Int) _ HC1.out (by omega) (by omega)).mono ?_
 rintro e w2 ⟨i, p1, hi', rfl, c2, g2⟩
 have hil : i < p.length := by omega
 have HC2 := hQ c2
 have HG2 := hQ (grownBy_trans HG1.out g2)
 have HK32 := hQ (HK3.out.grown g2 (some_ne (by omega)))
 have HK42 := hQ (HK4.out.grown g2 (some_ne (by omega)))
 have hs2 : w.heap.size + 1 < w2.heap.size := HK42.out.lt
 clear c2 g2 q0 qz hi'
 obtain ⟨q0, -, qz⟩ := Blk.one HK32.out
 obtain ⟨ad, As, cs, Ai, ci, rfl, hbl, y0, y1, y2, -, -, hsl, hnl, ⟨m1, m2⟩, ⟨m3, m4⟩⟩ := (HF0.out.keep (Kp.of_grown HG2.out hh (.inl hlo))).whole hil
 obtain ⟨f, hfe⟩ : ∃ f, f = p.getD i Fn.z := ⟨_, rfl⟩
 rw [← hfe] at y0 y1 y2 hsl hnl m1 m2 m3 m4
 have HFE := hQ hfe
 have HSL := hQ hsl
 have HNL := hQ hnl
 have hfc := (HPC.out i hil).1
 have HFS : Hid (∀ x ∈ f.code, SmallI x) := hQ (by rw [hfe]; exact (HPC.out i hil).2)
 rw [← hfe] at hfc
 have hii : (i : Int) < (p.length : Int) := by omega
 have hii0 : (0 : Int) ≤ (i : Int) := by omega
 clear hfe hsl hnl
 go_upto_region 3 with (fail)
 obtain ⟨W4, hW4⟩ : ∃ W4, W4 = w2.alloc (.cells #[.int .i64 f.params, .slice As f.slots.length cs, .slice Ai f.code.length ci] 54) := ⟨_, rfl⟩
 rw [← hW4]
 have HK6 : Hid (Blk W4 w2.heap.size 54 #[.int .i64 f.params, .slice As f.slots.length cs, .slice Ai f.code.length ci]) := hQ (by rw [hW4]; exact Blk.new _ _ _)
 have hB4 : Below w2.heap.size w2 W4 := by rw [hW4]; exact bR.alloc nL _
 have HG4 : Hid (w.grownBy W4 (some cb)) := hQ (grownBy_trans HG2.out (grownBy_of_below hB4 _))
 have HC4 : Hid (CodesAt W4 B cb A n c l p1) := hQ (HC2.out.after hB4)
 have HK34 := hQ (HK32.out.after hB4)
 have HK44 := hQ (HK42.out.after hB4)
 have HNL4 := hQ (HNL.out.keep (Kp.of_below hB4 (by omega)))
 have HSL4 := hQ (HSL.out.keep (Kp.of_below hB4 (by omega)))
 obtain ⟨g6, hg6⟩ : ∃ g6, g6 = w2.heap.size := ⟨_, rfl⟩
 rw [← hg6] at HK6 ⊢
 have hg6a : cb < g6 := by omega
 have hg6b : w.heap.size + 1 < g6 := by omega
 have hg6l : g6 < W4.heap.size := HK6.out.lt
 clear hW4 hB4 hg6 y0 y1 y2 q0 qz HK32 HK42 HC2
 have HSH : Hid (∀ W, W4.grownBy W (some cb) → Calls Tryd.prog 27 #[.slice Ai f.code.length ci] W fun e w' => ∃ A7 c7, e = .returned (.slice A7 f.code.length c7) ∧ w'.ownsRow W4.heap.size 50 5 (.slice A7 f.code.length c7) f.code.length (inV (f.code.map shI)) ∧ Below W.heap.size W w') := hQ (fun W hW => (shifted_any W Ai ci f.code ((HNL4.out.keep (Kp.of_grown hW (by omega) (.inl hlo))).more (Nat.zero_le _) (by have := hW.size; omega)) (by omega) m4 (fun x hx => HFS.out x hx)).mono fun e w' ⟨r, he, ho, hb⟩ => by
  obtain ⟨A7, c7, rfl, -⟩ := own_form ho
  exact ⟨A7, c7, he, own_base ho hW.size, hb⟩)
 go_cut [] (fun wx => ∃ (j : Nat) (A9 : Option Addr) (c9 p9 : Nat), j < p.length ∧ Hid (Blk wx g6 54 #[.int .i64 f.params, .slice As f.slots.length cs, .slice A9 (1 + f.code.length) c9]) ∧ Hid (Rx wx W4.heap.size wx.heap.size 5 A9 (1 + f.code.length) (inV (cycF f j).code)) ∧ 1 + f.code.length ≤ c9 ∧ Hid (Sx wx lo hi As f.slots) ∧ Hid (CodesAt wx B cb A n c l p9) ∧ Hid (w.grownBy wx (some cb)) ∧ Hid (Blk wx w.heap.size 26 #[.slice (some ad) p.length cp]) ∧ Hid (Blk wx (w.heap.size + 1) 26 #[.slice none 0 0]))
 case first =>
  obtain ⟨q0, -, qz⟩ := Blk.one HK34.out
  obtain ⟨-, -, x2, -, -, xf, xz⟩ := HK6.out.c3
  go_region_law (first
   | (go_simp; refine (next_d B cb A n c l p1 (p.length : Int) W4.drew (CodesAt.dr HC4.out) (by omega) (by omega)).mono ?_; rintro e wN ⟨j, pN, hj', rfl, cN, gN⟩; have hjl : j < p.length := (by omega); have HCN : Hid (CodesAt wN B cb A n c l pN) := hQ cN; have HGN : Hid (W4.grownBy wN (some cb)) := hQ (grownBy_trans (grownBy_drewN' W4 1 _) gN); have hswN : W4.heap.size ≤ wN.heap.size := HGN.out.size; have x2wN : wN.cell? ⟨g6, 2, none⟩ = some (.slice Ai f.code.length ci) := (HK6.out.grown HGN.out (some_ne (by omega))).c3.2.2.1; have xfwN : wN.frozen? ⟨g6, 2, none⟩ = false := (HK6.out.grown HGN.out (some_ne (by omega))).frozen 2; have xlwN : g6 < wN.heap.size := (HK6.out.grown HGN.out (some_ne (by omega))).lt; have q0wN : wN.cell? ⟨w.heap.size, 0, none⟩ = some (.slice (some ad) p.length cp) := (Blk.one (HK34.out.grown HGN.out (some_ne (by omega)))).1; have qlwN : w.heap.size < wN.heap.size := (HK34.out.grown HGN.out (some_ne (by omega))).lt; clear cN gN hj')
   | (go_simp; refine (next_d B cb A n c l p1 (p.length : Int) wS HCS.out (by omega) (by omega)).mono ?_; rintro e wN ⟨j, pN, hj', rfl, cN, gN⟩; have hjl : j < p.length := (by omega); have HCN : Hid (CodesAt wN B cb A n c l pN) := hQ cN; have HGN : Hid (W4.grownBy wN (some cb)) := hQ (grownBy_trans HGS.out gN); have HOS := hQ (own_draw HOS.out gN (by omega)); have hswN : W4.heap.size ≤ wN.heap.size := HGN.out.size; have x2wN : wN.cell? ⟨g6, 2, none⟩ = some (.slice Ai f.code.length ci) := (HK6.out.grown HGN.out (some_ne (by omega))).c3.2.2.1; have xfwN : wN.frozen? ⟨g6, 2, none⟩ = false := (HK6.out.grown HGN.out (some_ne (by omega))).frozen 2; have xlwN : g6 < wN.heap.size := (HK6.out.grown HGN.out (some_ne (by omega))).lt; have q0wN : wN.cell? ⟨w.heap.size, 0, none⟩ = some (.slice (some ad) p.length cp) := (Blk.one (HK34.out.grown HGN.out (some_ne (by omega)))).1; have qlwN : w.heap.size < wN.heap.size := (HK34.out.grown HGN.out (some_ne (by omega))).lt; clear cN gN hj')
   | (go_simp; refine (HSH.out _ (grownBy_drewN' W4 1 _)).mono ?_; rintro e wS ⟨A7, c7, rfl, oS, bS⟩; have HOS := hQ oS; have hc7 := (own_cap oS).2; have HGS : Hid (W4.grownBy wS (some cb)) := hQ (grownBy_trans (grownBy_drewN' W4 1 _) (grownBy_of_below bS _)); have HCS : Hid (CodesAt wS B cb A n c l p1) := hQ ((CodesAt.dr HC4.out).after bS); have hswS : W4.heap.size ≤ wS.heap.size := HGS.out.size; have x2wS : wS.cell? ⟨g6, 2, none⟩ = some (.slice Ai f.code.length ci) := (HK6.out.grown HGS.out (some_ne (by omega))).c3.2.2.1; have xfwS : wS.frozen? ⟨g6, 2, none⟩ = false := (HK6.out.grown HGS.out (some_ne (by omega))).frozen 2; have xlwS : g6 < wS.heap.size := (HK6.out.grown HGS.out (some_ne (by omega))).lt; have q0wS : wS.cell? ⟨w.heap.size, 0, none⟩ = some (.slice (some ad) p.length cp) := (Blk.one (HK34.out.grown HGS.out (some_ne (by omega)))).1; have qlwS : w.heap.size < wS.heap.size := (HK34.out.grown HGS.out (some_ne (by omega))).lt; clear oS bS)
   | (go_simp; refine (HSH.out _ (HGN.out)).mono ?_; rintro e wS ⟨A7, c7, rfl, oS, bS⟩; have HOS := hQ oS; have hc7 := (own_cap oS).2; have HGS : Hid (W4.grownBy wS (some cb)) := hQ (grownBy_trans (HGN.out) (grownBy_of_below bS _)); have HCN : Hid (CodesAt wS B cb A n c l pN) := hQ (HCN.out.after bS); have hswS : W4.heap.size ≤ wS.heap.size := HGS.out.size; have x2wS : wS.cell? ⟨g6, 2, none⟩ = some (.slice Ai f.code.length ci) := (HK6.out.grown HGS.out (some_ne (by omega))).c3.2.2.1; have xfwS : wS.frozen? ⟨g6, 2, none⟩ = false := (HK6.out.grown HGS.out (some_ne (by omega))).frozen 2; have xlwS : g6 < wS.heap.size := (HK6.out.grown HGS.out (some_ne (by omega))).lt; have q0wS : wS.cell? ⟨w.heap.size, 0, none⟩ = some (.slice (some ad) p.length cp) := (Blk.one (HK34.out.grown HGS.out (some_ne (by omega)))).1; have qlwS : w.heap.size < wS.heap.size := (HK34.out.grown HGS.out (some_ne (by omega))).lt; clear oS bS)
   | (go_simp; refine (HSH.out _ (grownBy_al HGN.out _)).mono ?_; rintro e wS ⟨A7, c7, rfl, oS, bS⟩; have HOS := hQ oS; have hc7 := (own_cap oS).2; have HGS : Hid (W4.grownBy wS (some cb)) := hQ (grownBy_trans (grownBy_al HGN.out _) (grownBy_of_below bS _)); have HCN : Hid (CodesAt wS B cb A n c l pN) := hQ ((HCN.out.alloc _).after bS); have HOL : Hid (wS.ownsRow W4.heap.size 50 5 (.slice (some ⟨wN.heap.size, 0, none⟩) 1 1) 1 [.int .i64 22, .int .i64 j, .int .i64 0, .int .i64 0, .int .u64 0]) := hQ (own_keep (World.ownsRow_lit (base := W4.heap.size) (e := 50) (size := 5) wN #[.int .i64 22, .int .i64 j, .int .i64 0, .int .i64 0, .int .u64 0] 1 hswN (by unfold maxLen; omega) rfl) bS nL); have hswS : W4.heap.size ≤ wS.heap.size := HGS.out.size; have x2wS : wS.cell? ⟨g6, 2, none⟩ = some (.slice Ai f.code.length ci) := (HK6.out.grown HGS.out (some_ne (by omega))).c3.2.2.1; have xfwS : wS.frozen? ⟨g6, 2, none⟩ = false := (HK6.out.grown HGS.out (some_ne (by omega))).frozen 2; have xlwS : g6 < wS.heap.size := (HK6.out.grown HGS.out (some_ne (by omega))).lt; have q0wS : wS.cell? ⟨w.heap.size, 0, none⟩ = some (.slice (some ad) p.length cp) := (Blk.one (HK34.out.grown HGS.out (some_ne (by omega)))).1; have qlwS : w.heap.size < wS.heap.size := (HK34.out.grown HGS.out (some_ne (by omega))).lt; clear oS bS)
   | (refine step_append_any _ rfl (.tmp 23) (.tmp 26) 51 rfl W4.heap.size 50 i0 _ 5 40 Tryd.underlying51 hi0 hz0 hz1 hz2 rfl (by omega) (.slice (some ⟨wS.heap.size, 0, none⟩) 1 1) 1 [.int .i64 22, .int .i64 j, .int .i64 0, .int .i64 0, .int .u64 0] (by first | (simp [Act.eval]; done) | (simp [Act.eval, Act.put]; done)) (World.ownsRow_lit (base := W4.heap.size) (e := 50) (size := 5) wS #[.int .i64 22, .int .i64 j, .int .i64 0, .int .i64 0, .int .u64 0] 1 hswS (by unfold maxLen; omega) rfl) _ A7 f.code.length c7 (inV (f.code.map shI)) (by first | (simp [Act.eval]; done) | (simp [Act.eval, Act.put]; done)) (Reads.of_own (HOS.out.alloc _)) (inV_one _) (by unfold maxLen; omega) (by omega) (Nat.le_trans hswS (by simp)) ?_; intro v9 w9 own9 g9 at9; clear at9; have HO9 := hQ own9; have HG9 : Hid (W4.grownBy w9 (some cb)) := hQ (grownBy_step (grownBy_al HGS.out _) g9 (fun k e => .inl ((World.ownsRow_lit (base := W4.heap.size) (e := 50) (size := 5) wS #[.int .i64 22, .int .i64 j, .int .i64 0, .int .i64 0, .int .u64 0] 1 hswS (by unfold maxLen; omega) rfl).lt k e).1)); have HC9 : Hid (CodesAt w9 B cb A n c l pN) := hQ ((HCN.out.alloc _).grown' g9 (own_ne_codes (World.ownsRow_lit (base := W4.heap.size) (e := 50) (size := 5) wS #[.int .i64 22, .int .i64 j, .int .i64 0, .int .i64 0, .int .u64 0] 1 hswS (by unfold maxLen; omega) rfl) (by omega)) (fun k e => by have := ((World.ownsRow_lit (base := W4.heap.size) (e := 50) (size := 5) wS #[.int .i64 22, .int .i64 j, .int .i64 0, .int .i64 0, .int .u64 0] 1 hswS (by unfold maxLen; omega) rfl).lt k e).1; omega)); obtain ⟨A9, c9, rfl, -⟩ := own_form own9; have hsw9 : W4.heap.size ≤ w9.heap.size := HG9.out.size; have x2w9 : w9.cell? ⟨g6, 2, none⟩ = some (.slice Ai f.code.length ci) := (HK6.out.grown HG9.out (some_ne (by omega))).c3.2.2.1; have xfw9 : w9.frozen? ⟨g6, 2, none⟩ = false := (HK6.out.grown HG9.out (some_ne (by omega))).frozen 2; have xlw9 : g6 < w9.heap.size := (HK6.out.grown HG9.out (some_ne (by omega))).lt; have q0w9 : w9.cell? ⟨w.heap.size, 0, none⟩ = some (.slice (some ad) p.length cp) := (Blk.one (HK34.out.grown HG9.out (some_ne (by omega)))).1; have qlw9 : w.heap.size < w9.heap.size := (HK34.out.grown HG9.out (some_ne (by omega))).lt; clear own9 g9)
   | (refine step_append_any _ rfl (.tmp 23) (.tmp 26) 51 rfl W4.heap.size 50 i0 _ 5 40 Tryd.underlying51 hi0 hz0 hz1 hz2 rfl (by omega) (.slice (some ⟨wN.heap.size, 0, none⟩) 1 1) 1 [.int .i64 22, .int .i64 j, .int .i64 0, .int .i64 0, .int .u64 0] (by first | (simp [Act.eval]; done) | (simp [Act.eval, Act.put]; done)) (HOL.out) _ A7 f.code.length c7 (inV (f.code.map shI)) (by first | (simp [Act.eval]; done) | (simp [Act.eval, Act.put]; done)) (Reads.of_own HOS.out) (inV_one _) (by unfold maxLen; omega) (by omega) hswS ?_; intro v9 w9 own9 g9 at9; clear at9; have HO9 := hQ own9; have HG9 : Hid (W4.grownBy w9 (some cb)) := hQ (grownBy_step (HGS.out) g9 (fun k e => .inl ((HOL.out).lt k e).1)); have HC9 : Hid (CodesAt w9 B cb A n c l pN) := hQ ((HCN.out).grown' g9 (own_ne_codes (HOL.out) (by omega)) (fun k e => by have := ((HOL.out).lt k e).1; omega)); obtain ⟨A9, c9, rfl, -⟩ := own_form own9; have hsw9 : W4.heap.size ≤ w9.heap.size := HG9.out.size; have x2w9 : w9.cell? ⟨g6, 2, none⟩ = some (.slice Ai f.code.length ci) := (HK6.out.grown HG9.out (some_ne (by omega))).c3.2.2.1; have xfw9 : w9.frozen? ⟨g6, 2, none⟩ = false := (HK6.out.grown HG9.out (some_ne (by omega))).frozen 2; have xlw9 : g6 < w9.heap.size := (HK6.out.grown HG9.out (some_ne (by omega))).lt; have q0w9 : w9.cell? ⟨w.heap.size, 0, none⟩ = some (.slice (some ad) p.length cp) := (Blk.one (HK34.out.grown HG9.out (some_ne (by omega)))).1; have qlw9 : w.heap.size < w9.heap.size := (HK34.out.grown HG9.out (some_ne (by omega))).lt; clear own9 g9)
   | (refine step_append_any _ rfl (.tmp 23) (.tmp 26) 51 rfl W4.heap.size 50 i0 _ 5 40 Tryd.underlying51 hi0 hz0 hz1 hz2 rfl (by omega) (.slice (some ⟨wN.heap.size, 0, none⟩) 1 1) 1 [.int .i64 22, .int .i64 j, .int .i64 0, .int .i64 0, .int .u64 0] (by first | (simp [Act.eval]; done) | (simp [Act.eval, Act.put]; done)) (World.ownsRow_lit (base := W4.heap.size) (e := 50) (size := 5) wN #[.int .i64 22, .int .i64 j, .int .i64 0, .int .i64 0, .int .u64 0] 1 hswN (by unfold maxLen; omega) rfl) _ A7 f.code.length c7 (inV (f.code.map shI)) (by first | (simp [Act.eval]; done) | (simp [Act.eval, Act.put]; done)) (Reads.of_own (HOS.out.alloc _)) (inV_one _) (by unfold maxLen; omega) (by omega) (Nat.le_trans hswN (by simp)) ?_; intro v9 w9 own9 g9 at9; clear at9; have HO9 := hQ own9; have HG9 : Hid (W4.grownBy w9 (some cb)) := hQ (grownBy_step (grownBy_al HGN.out _) g9 (fun k e => .inl ((World.ownsRow_lit (base := W4.heap.size) (e := 50) (size := 5) wN #[.int .i64 22, .int .i64 j, .int .i64 0, .int .i64 0, .int .u64 0] 1 hswN (by unfold maxLen; omega) rfl).lt k e).1)); have HC9 : Hid (CodesAt w9 B cb A n c l pN) := hQ ((HCN.out.alloc _).grown' g9 (own_ne_codes (World.ownsRow_lit (base := W4.heap.size) (e := 50) (size := 5) wN #[.int .i64 22, .int .i64 j, .int .i64 0, .int .i64 0, .int .u64 0] 1 hswN (by unfold maxLen; omega) rfl) (by omega)) (fun k e => by have := ((World.ownsRow_lit (base := W4.heap.size) (e := 50) (size := 5) wN #[.int .i64 22, .int .i64 j, .int .i64 0, .int .i64 0, .int .u64 0] 1 hswN (by unfold maxLen; omega) rfl).lt k e).1; omega)); obtain ⟨A9, c9, rfl, -⟩ := own_form own9; have hsw9 : W4.heap.size ≤ w9.heap.size := HG9.out.size; have x2w9 : w9.cell? ⟨g6, 2, none⟩ = some (.slice Ai f.code.length ci) := (HK6.out.grown HG9.out (some_ne (by omega))).c3.2.2.1; have xfw9 : w9.frozen? ⟨g6, 2, none⟩ = false := (HK6.out.grown HG9.out (some_ne (by omega))).frozen 2; have xlw9 : g6 < w9.heap.size := (HK6.out.grown HG9.out (some_ne (by omega))).lt; have q0w9 : w9.cell? ⟨w.heap.size, 0, none⟩ = some (.slice (some ad) p.length cp) := (Blk.one (HK34.out.grown HG9.out (some_ne (by omega)))).1; have qlw9 : w.heap.size < w9.heap.size := (HK34.out.grown HG9.out (some_ne (by omega))).lt; clear own9 g9))
  all_goals go_wp2_with fail
  all_goals go_meet
  all_goals
   have e9 : inV (cycF f j).code = [.int .i64 22, .int .i64 j, .int .i64 0, .int .i64 0, .int .u64 0] ++ inV (f.code.map shI) := by unfold inV cycF; rw [List.flatMap_cons]; rfl
   have HX9 := own_miss HO9.out ⟨g6, 2, none⟩ (fun k e => by have := (HO9.out.lt k e).1; show k ≠ g6; omega) (.slice A9 (1 + f.code.length) c9)
   exact ⟨j, A9, c9, pN, hjl, hQ ((HK6.out.grown HG9.out (some_ne (by omega))).set_ 2 _), hQ (by rw [e9]; exact Rx.of_own HX9), (own_cap HO9.out).2, hQ ((HSL4.out.keep (Kp.of_grown HG9.out (by omega) (.inl hlo))).keep ((Kp.refl _ _ _).set (.inr (by show hi ≤ g6; omega)) _)), hQ (HC9.out.set (show cb ≠ g6 by omega) (show B ≤ g6 by omega) _), hQ (grownBy_set (grownBy_trans HG4.out HG9.out) (show w.heap.size ≤ g6 by omega) _), hQ ((HK34.out.grown HG9.out (some_ne (by omega))).far (by show ¬ w.heap.size = g6; omega) _), hQ ((HK44.out.grown HG9.out (some_ne (by omega))).far (by show ¬ w.heap.size + 1 = g6; omega) _)⟩
 case rest =>
  obtain ⟨j, A9, c9, p9, hjl, HK9, HR9, hc9, HS9, HC9, HG9, HK39, HK49⟩ := hcut
  obtain ⟨W9, hW9⟩ : ∃ W9, W9 = wc := ⟨_, rfl⟩
  subst hW9
  obtain ⟨q0, -, qz⟩ := Blk.one HK39.out
  obtain ⟨x0, x1, x2, -, -, -, xz⟩ := HK9.out.c3
  have HRP := hQ (only_any W9 lo hi (some ad) p cp i f.params As A9 f.slots.length (1 + f.code.length) cs c9 (HF0.out.keep (Kp.of_grown HG9.out hh (.inl hlo))) (by have := HG9.out.size; omega) hil (by omega))
  have hs9 := HG9.out.size
  have hs49 : w.heap.size + 1 < W9.heap.size := HK49.out.lt
  clear HK3 HK4 HK34 HK44 HK6 HSH HC4 HC1 HNL4 HSL4 HNL HSL
  go_wp2_with fail
  refine HRP.out.mono ?_
  rintro e w10 ⟨Aq, cq, vs, rfl, hcq, hvl, hvq, hrq, hb10⟩
  have HVL := hQ hvl
  have HVQ := hQ hvq
  have HRQ := hQ hrq
  have HB10 := hQ hb10
  have HK410 := hQ (HK49.out.after hb10)
  have HCQ := hQ hcq
  clear hcq hvl hvq hrq hb10 q0 qz x0 x1 x2 HRP
  obtain ⟨p0, pf, pz⟩ := Blk.one HK410.out
  go_wp2
  obtain ⟨W11, hW11⟩ : ∃ W11, W11 = w10.setCell ⟨w.heap.size + 1, 0, none⟩ (.slice Aq p.length cq) := ⟨_, rfl⟩
  rw [← hW11]
  have hKr : Blk W11 (w.heap.size + 1) 26 #[.slice Aq p.length cq] := by
   rw [hW11]; exact HK410.out.set_ 0 _
  obtain ⟨r0, -, -⟩ := Blk.one hKr
  refine bodyPost_ret (v := .agg #[.slice Aq p.length cq]) (by simp [results, Tryd.results17, go_sem, r0]) rfl ?_
  have hs11 : W11.heap.size = w10.heap.size := by rw [hW11]; simp [World.setCell]
  have hs10 := HB10.out.size
  have hk1 : Kp lo hi W9 W11 := by
   rw [hW11]
   exact (Kp.of_below HB10.out (by omega)).set (.inr (by show hi ≤ w.heap.size + 1; omega)) _
  have hk2 : Kp W4.heap.size W9.heap.size W9 W11 := by
   rw [hW11]
   exact (Kp.of_below HB10.out nL).set (.inl (by show w.heap.size + 1 < W4.heap.size; omega)) _
  have hk3 : Kp W9.heap.size w10.heap.size w10 W11 := by
   rw [hW11]
   exact (Kp.refl _ _ _).set (.inl (by show w.heap.size + 1 < W9.heap.size; omega)) _
  have hG11 : w.grownBy W11 (some cb) := by
   rw [hW11]
   exact grownBy_set (grownBy_trans HG9.out (grownBy_of_below HB10.out _)) (Nat.le_succ _) _
  have hcl : (cycF f j).code.length = 1 + f.code.length := by simp [cycF]; omega
  have hql : (cyc p i j).length = p.length := by simp [cyc]
  refine ⟨i, j, Aq, cq, p9, ⟨hil, hjl⟩, rfl, HCQ.out, ?_, ?_, hG11⟩
  · intro W k1 k2 hsW
    have k2a : Kp W9.heap.size w10.heap.size W11 W := k2.less (by omega) (by omega)
    have k2b : Kp W4.heap.size W9.heap.size W11 W := k2.less (by omega) (by omega)
    refine ⟨_, by rw [hql]; exact (Rx.keep (Rx.keep HRQ.out hk3) k2a).more (by omega) (by omega), ?_⟩
    unfold cyc
    rw [← HFE.out]
    have hN : Nx W lo W.heap.size A9 (cycF f j).code := by
     unfold Nx
     rw [hcl]
     exact (Rx.keep (Rx.keep HR9.out hk2) k2b).more (by omega) (by omega)
    have hS : Sx W lo W.heap.size As (cycF f j).slots := ((HS9.out.keep hk1).keep k1).more nL (by omega)
    have h := Vx.setF3 (((HVQ.out.keep hk1).keep k1).more nL (by omega : hi ≤ W.heap.size)) HVL.out hil hS hN ⟨m1, m2⟩ (by rw [hcl]; exact ⟨by unfold maxLen; omega, hc9⟩)
    rw [hcl] at h
    exact h
  · rw [hW11]
    exact (HC9.out.after HB10.out).set (show cb ≠ w.heap.size + 1 by omega) (show B ≤ w.heap.size + 1 by omega) _
end Go.Proofs.YtdijeijbcoeopaaDoor.pm
