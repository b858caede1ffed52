/- The reference's machine of chapter 12: one step, words; all but operations on registers. Printed by mkxs.py. -/
import Derived.Test.YtcnndoefgjbmiaaGreatGXc
set_option linter.unusedVariables false
set_option maxRecDepth 10000
set_option maxHeartbeats 8000000
namespace Go.Proofs.YtcnndoefgjbmiaaGreat.pm
open Go.RowKit
theorem cell2 {W1 W4 : World} {a : Addr} {v : Value} (hB : Below W1.heap.size W1 W4) (h : W1.cell? a = some v) (hlt : a.block < W1.heap.size) : W4.cell? a = some v ∧ ∀ o, (W4.alloc o).drew.cell? a = some v :=
 ⟨(hB.cell (p := a) hlt).trans h, fun o => (World.cell?_alloc_lt W4 o a (Nat.lt_of_lt_of_le hlt hB.size)).trans ((hB.cell (p := a) hlt).trans h)⟩
theorem cell3 {W4 : World} {a : Addr} {v : Value} (h : W4.cell? a = some v) (hlt : a.block < W4.heap.size) : ∀ o, (W4.alloc o).drew.cell? a = some v := fun o => (World.cell?_alloc_lt W4 o a hlt).trans h
theorem own_ne {w : World} {base g n c size : Nat} {e : TypeId} {xs : List Value} (h : w.ownsRow base e size (.slice (some ⟨g, 0, none⟩) n c) n xs) {q : Nat} (hq : g ≠ q) (j : Nat) (u : Value) : (w.setCell ⟨q, j, none⟩ u).ownsRow base e size (.slice (some ⟨g, 0, none⟩) n c) n xs :=
 h.kept (grown_mb w q j u) (.inr (fun e => hq (by simpa [Value.ownBlock] using e)))
def kX (m : Mx) (t f np : Nat) : Mx := { m with steps := m.steps + 1, acts := m.acts.set t ⟨f, np⟩ }
def TS (mb : Nat) (al : Int) (pv : Value) (m : Mx) (w : World) (e : Ending) (w' : World) : Prop := e = .returned (.tuple #[]) ∧ w.grownBy w' (some mb) ∧ ∃ iv L, TAt w' mb al pv iv L m ∧ InX w' mb iv m.inp
structure StW (W1 w : World) (mb g cap t g5 : Nat) (al : Int) (pv iv : Value) (L : Lq) (m : Mx) (f np : Nat) (X : Array Value) : Prop where
 blk : Blk w mb 94 (tcs al pv iv (.slice L.As m.acts.length L.ca) (.slice L.Ab m.mem.length L.cb) (.slice L.Ub m.use.length L.cu) (.slice L.At m.trace.length L.ct) { m with steps := m.steps + 1 })
 own : w.ownsRow W1.heap.size 126 2 (.slice (some ⟨g, 0, none⟩) (t + 1) cap) (t + 1) ((m.acts.set t ⟨f, np⟩).flatMap acR)
 box : Blk w g5 50 X
 gr : W1.grownBy w (some mb)
section
variable {W1 w : World} {mb g cap t g5 f np : Nat} {al : Int} {pv iv : Value} {L : Lq} {m : Mx} {X : Array Value}
theorem StW.start (hB : Below W1.heap.size W1 w) (h : TAt W1 mb al pv iv L m) (ho : w.ownsRow W1.heap.size 126 2 (.slice (some ⟨g, 0, none⟩) (t + 1) cap) (t + 1) (m.acts.flatMap acR)) (hb : Blk w g5 50 X) (h5 : W1.heap.size ≤ g5) (hg : W1.heap.size ≤ g) (ht : t < m.acts.length) :
 StW W1 (w.setCell ⟨mb, 31, none⟩ (.int .i64 ((m.steps : Int) + 1))) mb g cap t g5 al pv iv L m (m.acts.getD t Ac.z).f (m.acts.getD t Ac.z).pc X := by
 have hlt := h.blk.lt
 refine ⟨(h.after hB).blk.set_ 31 _, ?_, hb.far (p := ⟨mb, 31, none⟩) (by show g5 ≠ mb; omega) _, grownBy_trans (grownBy_of_below hB _) (grown_mb _ _ _ _)⟩
 rw [show m.acts.set t ⟨(m.acts.getD t Ac.z).f, (m.acts.getD t Ac.z).pc⟩ = m.acts by
  rw [List.getD_eq_getElem?_getD, List.getElem?_eq_getElem ht]
  exact List.set_getElem_self ht]
 exact own_ne ho (by omega) 31 _
theorem StW.drew (h : StW W1 w mb g cap t g5 al pv iv L m f np X) : StW W1 w.drew mb g cap t g5 al pv iv L m f np X := ⟨h.blk.drew, h.own, h.box.drew, grownBy_trans h.gr (grownBy_of_below (bR.drew) _)⟩
theorem StW.pc (h : StW W1 w mb g cap t g5 al pv iv L m f np X) (ht : m.acts.length = t + 1) (hg : W1.heap.size ≤ g) (h5 : g < g5) (hlt : mb < W1.heap.size) (n2 : Nat) : StW W1 (w.setCell ⟨g, t * 2 + 1, none⟩ (.int .i64 (n2 : Int))) mb g cap t g5 al pv iv L m f n2 X := by
 have hs := (h.own.stored (t * 2 + 1) (.int .i64 (n2 : Int))).1
 rw [set_top_flat acR_len (by rw [List.length_set]; omega) (by omega) (a' := ⟨f, n2⟩) (by rw [List.getD_eq_getElem?_getD, List.getElem?_set_self (by omega)]; rfl), List.set_set] at hs
 exact ⟨h.blk.far (p := ⟨g, t * 2 + 1, none⟩) (by show mb ≠ g; omega) _, hs, h.box.far (p := ⟨g, t * 2 + 1, none⟩) (by show g5 ≠ g; omega) _, grownBy_set h.gr (p := ⟨g, t * 2 + 1, none⟩) hg _⟩
theorem StW.cells (h : StW W1 w mb g cap t g5 al pv iv L m f np X) (ht : m.acts.length = t + 1) : w.cell? ⟨g, t * 2, none⟩ = some (.int .i64 (f : Int)) ∧ w.cell? ⟨g, t * 2 + 1, none⟩ = some (.int .i64 (np : Int)) ∧ (∀ j, w.frozen? ⟨g, j, none⟩ = false) ∧ g < w.heap.size ∧ w.cell? ⟨mb, 18, none⟩ = some (.slice L.As m.acts.length L.ca) ∧ (∀ j, w.frozen? ⟨mb, j, none⟩ = false) ∧ mb < w.heap.size ∧ g5 < w.heap.size := by
 have hl : (m.acts.set t ⟨f, np⟩).length = t + 1 := by rw [List.length_set]; exact ht
 have g0 : ∀ j, j < 2 → w.cell? ⟨g, t * 2 + j, none⟩ = (acR ⟨f, np⟩)[j]? := fun j hj => by
  rw [h.own.cellAt (t * 2 + j) (by omega), flat_get acR_len Ac.z _ t j (by omega) hj, List.getD_eq_getElem?_getD, List.getElem?_set_self (by omega)]
  rfl
 exact ⟨by simpa [acR] using g0 0 (by omega), by simpa [acR] using g0 1 (by omega), fun j => h.own.frozenAt j, (h.own.lt g rfl).2, h.blk.cell 18, fun j => h.blk.frozen j, h.blk.lt, h.box.lt⟩
theorem StW.fin (h : StW W1 w mb g cap t g5 al pv iv L m f np X) (h1 : TAt W1 mb al pv iv L m) (ht : m.acts.length = t + 1) (h5 : mb < g5) (hin : InX W1 mb iv m.inp) :
 TAt (w.setCell ⟨mb, 18, none⟩ (.slice (some ⟨g, 0, none⟩) (t + 1) cap)) mb al pv iv { L with As := some ⟨g, 0, none⟩, ca := cap } (kX m t f np) ∧ W1.grownBy (w.setCell ⟨mb, 18, none⟩ (.slice (some ⟨g, 0, none⟩) (t + 1) cap)) (some mb) ∧ InX (w.setCell ⟨mb, 18, none⟩ (.slice (some ⟨g, 0, none⟩) (t + 1) cap)) mb iv m.inp ∧ Blk (w.setCell ⟨mb, 18, none⟩ (.slice (some ⟨g, 0, none⟩) (t + 1) cap)) g5 50 X := by
 have hl : (m.acts.set t ⟨f, np⟩).length = t + 1 := by rw [List.length_set]; exact ht
 have hlt := h1.blk.lt
 have hg8 : W1.grownBy (w.setCell ⟨mb, 18, none⟩ (.slice (some ⟨g, 0, none⟩) (t + 1) cap)) (some mb) := grownBy_trans h.gr (grown_mb _ _ _ _)
 have hr := h1.rows.grow hg8
 refine ⟨⟨?_, ⟨?_, hr.tr, hr.by_, hr.us_, ⟨?_, hr.caps.2⟩⟩⟩, hg8, hin.grown hg8 hlt, h.box.far (p := ⟨mb, 18, none⟩) (by show g5 ≠ mb; omega) _⟩
 · show Blk _ mb _ (tcs al pv iv (.slice (some ⟨g, 0, none⟩) (m.acts.set t ⟨f, np⟩).length cap) _ _ _ _)
   rw [hl]
   exact h.blk.set_ 18 _
 · show Rx _ (mb + 1) _ 2 (some ⟨g, 0, none⟩) (m.acts.set t ⟨f, np⟩).length _
   rw [hl]
   exact ((Rx.of_own h.own).more (lo' := mb + 1) hlt nL).growM (grown_mb w mb 18 _)
 · show (m.acts.set t ⟨f, np⟩).length ≤ cap
   rw [hl]
   exact (own_cap h.own).2
end
theorem kX_next {m : Mx} {t : Nat} (ht : m.acts.length = t + 1) : kX m t (m.acts.getD t Ac.z).f ((m.acts.getD t Ac.z).pc + 1) = m.next := by
 unfold kX Mx.next Mx.setTop Mx.top
 rw [ht]
 rfl
structure PreR (W1 : World) (mb : Nat) (al : Int) (ad : Addr) (p : List Fr) (cp : Nat) (iv : Value) (L : Lq) (m : Mx) : Prop where
 at_ : TAt W1 mb al (.slice (some ad) p.length cp) iv L m
 tf : TF m
 wf : Wf p m
 gx : Gx W1 0 mb (some ad) p
 inx : InX W1 mb iv m.inp
 ok : OkX p m (m.ins p)
 hp : p.length ≤ maxLen
 st : m.steps ≤ 1000000
 pc : ∀ a ∈ m.acts, a.pc ≤ 1000000
 tr : m.trace.length ≤ 1000000
 en : m.ended = false
 room : m.sp + szF p m.top.f ≤ m.mem.length
section
variable {mb cp : Nat} {al : Int} {iv : Value} {L : Lq} {m : Mx} {p : List Fr} {ad : Addr}
theorem tst_a (W1 : World) (h : PreR W1 mb al ad p cp iv L m) (hop : 15 ≤ (m.ins p).op) :
 Calls Tryz.prog 35 #[.pointer (some ⟨mb, 0, none⟩)] W1 (TS mb al (.slice (some ad) p.length cp) (stepX p m) W1) := by
 obtain ⟨i0, hi0, hz0, hz2, hz3⟩ := info_parts info_tact
 obtain ⟨t, ht⟩ : ∃ t, m.acts.length = t + 1 := ⟨m.acts.length - 1, by have := h.wf.some_; omega⟩
 have htop : m.top = m.acts.getD t Ac.z := by unfold Mx.top; rw [ht]; rfl
 have hmem : m.acts.getD t Ac.z ∈ m.acts := getD_mem' (by omega)
 obtain ⟨hf, hpc⟩ := h.wf.live _ hmem
 have hpc6 := h.pc _ hmem
 have ht6 : t ≤ 1000000 := by have := h.tf.acts; omega
 obtain ⟨vs, hvs⟩ : ∃ vs, vs = m.acts.flatMap acR := ⟨_, rfl⟩
 obtain ⟨f, hff⟩ : ∃ f, f = (m.acts.getD t Ac.z).f := ⟨_, rfl⟩
 obtain ⟨pc, hpce⟩ : ∃ q, q = (m.acts.getD t Ac.z).pc := ⟨_, rfl⟩
 have hfx : m.ins p = (p.getD f Fr.z).code.getD pc Ins.z := by unfold Mx.ins; rw [htop, ← hff, ← hpce]
 rw [← hff] at hf hpc
 rw [← hpce] at hpc hpc6
 obtain ⟨ad', Ai, ci, e', hbl, -, -, z2, -, -, hnx, hcl, -⟩ := h.gx.whole hf
 obtain rfl : ad = ad' := by injection e'
 obtain ⟨adI, hAI, hIb, x0, x1, x2, x3, x4⟩ := hnx.whole hpc
 subst hAI
 rw [← hfx] at x0 x1 x2 x3 x4
 obtain ⟨oo, oa, ob, oc, oi, hx⟩ : ∃ oo oa ob oc oi, m.ins p = ⟨oo, oa, ob, oc, oi⟩ := ⟨_, _, _, _, _, rfl⟩
 rw [hx] at x0 x1 x2 x3 x4
 dsimp only at x0 x1 x2 x3 x4
 obtain ⟨nf, hnf⟩ : ∃ q, q = (p.getD f Fr.z).code.length := ⟨_, rfl⟩
 rw [← hnf] at z2 hpc hcl
 obtain ⟨m1, m18, -, -, -, -, -, -, -, -, m31, -, hlt⟩ := tcells h.at_.blk
 have hRD : Hid (Reads W1 W1.heap.size 2 L.As (t + 1) (m.acts.flatMap acR)) := hQ (by rw [← ht]; exact h.at_.rows.acts.1)
 rw [ht] at m18
 have HX := hQ hx
 have HFF := hQ hff
 have HPCE := hQ hpce
 have HNF := hQ hnf
 have HT := hQ ht
 have HTOP := hQ htop
 have HH := hQ h
 have hF3 : (ad.add (f * 3)).block < W1.heap.size := by rw [block_of_add]; omega
 have hI3 : (adI.add (pc * 5)).block < W1.heap.size := by rw [block_of_add]; omega
 have ht0 : (0 : Int) ≤ (t : Int) := by omega
 have hti : (t : Int) ≤ 1000000 := by omega
 have hfi : (f : Int) < (p.length : Int) := by omega
 have hf0 : (0 : Int) ≤ (f : Int) := by omega
 have hpi : (pc : Int) < (nf : Int) := by omega
 have hp0 : (0 : Int) ≤ (pc : Int) := by omega
 have hpi6 : (pc : Int) ≤ 1000000 := by omega
 have hnl : (nf : Int) ≤ 9223372036854775807 := by have := hcl; unfold maxLen at this; omega
 have hst6 := h.st
 obtain ⟨sn, hsn⟩ : ∃ q, q = m.steps := ⟨_, rfl⟩
 rw [← hsn] at m31 hst6
 have HSN := hQ hsn
 have hO1 : Hid (∀ u ∈ m.acts.flatMap acR, u.oneCell' = true) := hQ (acR_one _)
 rw [← hvs] at hRD hO1
 have HVS := hQ hvs
 clear h hvs hff hpce hnf hx hfx hmem htop ht e' hcl hnx hsn
 go_enter Tryz.func35, Tryz.ntmps35
 go_upto_region 2 with (at_builtin; refine wpList_append_any _ rfl (.const (.slice none 0 0)) (.tmp 15) _ rfl W1.heap.size 126 i0 _ 2 16 Tryz.underlying92 hi0 hz0 hz2 hz3 rfl (by omega) (.slice none 0 0) 0 [] rfl (World.ownsRow_nil _ _ _ _) _ L.As (t + 1) L.ca vs rfl hRD.out hO1.out (by unfold maxLen; omega) (by omega) nL ?_; intro o1 w3 own3' hg3' hat3'; have own3 : w3.ownsRow W1.heap.size 126 2 o1 (t + 1) vs := (by simpa using own3'); obtain ⟨g, cap, rfl, hg, hglt⟩ := own3.form (by omega))
 have b3 : Below W1.heap.size W1 w3 := below_append bR (World.ownsRow_nil W1 W1.heap.size 126 2) hg3' nL (by simp)
 rw [HVS.out] at own3
 have gc : ∀ j, j < 2 → w3.cell? ⟨g, t * 2 + j, none⟩ = (acR (m.acts.getD t Ac.z))[j]? := fun j hj => (own3.cellAt (t * 2 + j) (by omega)).trans (flat_get acR_len Ac.z m.acts t j (by rw [HT.out]; omega) hj)
 have r0 : w3.cell? ⟨g, t * 2, none⟩ = some (.int .i64 (f : Int)) := by rw [HFF.out]; simpa [acR] using gc 0 (by omega)
 have r1 : w3.cell? ⟨g, t * 2 + 1, none⟩ = some (.int .i64 (pc : Int)) := by rw [HPCE.out]; simpa [acR] using gc 1 (by omega)
 have HO3 := hQ own3
 have HB3 := hQ b3
 clear own3 own3' hg3' hat3' b3 m18 gc
 obtain ⟨f0, e0⟩ := cell2 HB3.out m1 hlt
 have e1 := cell3 r0 hglt
 have e2 := cell3 r1 hglt
 obtain ⟨f3, e3⟩ := cell2 HB3.out z2 hF3
 obtain ⟨f4, e4⟩ := cell2 HB3.out x0 hI3
 obtain ⟨f5, e5⟩ := cell2 HB3.out x1 hI3
 obtain ⟨f6, e6⟩ := cell2 HB3.out x2 hI3
 obtain ⟨f7, e7⟩ := cell2 HB3.out x3 hI3
 obtain ⟨f8, e8⟩ := cell2 HB3.out x4 hI3
 have hz14 : W1.heap.size ≤ w3.heap.size := HB3.out.size
 have hmz : mb < w3.heap.size := by omega
 have hFz : (ad.add (f * 3)).block < w3.heap.size := by omega
 have hIz : (adI.add (pc * 5)).block < w3.heap.size := by omega
 have m31' := (HB3.out.cell (p := ⟨mb, 31, none⟩) hlt).trans m31
 clear x0 x1 x2 x3 x4 z2 m1
 go_region
 clear e0 e1 e2 e3 e4 e5 e6 e7 e8 f0 f3 f4 f5 f6 f7 f8
 obtain ⟨W5, hW5⟩ : ∃ W, W = (w3.alloc (.cells #[.int .i64 oo, .int .i64 oa, .int .i64 ob, .int .i64 oc, .int .u64 oi] 50)).drew := ⟨_, rfl⟩
 obtain ⟨g5, hg5⟩ : ∃ g, g = w3.heap.size := ⟨_, rfl⟩
 rw [← hW5, ← hg5]
 have hb5 : Below w3.heap.size w3 W5 := by rw [hW5]; exact (bR.alloc nL _).drew
 have HK5 : Hid (Blk W5 g5 50 #[.int .i64 oo, .int .i64 oa, .int .i64 ob, .int .i64 oc, .int .u64 oi]) := hQ (by rw [hW5, hg5]; exact (Blk.new _ _ _).drew)
 have HO5 := hQ (own_keep HO3.out hb5 nL)
 have HB5 : Hid (Below W1.heap.size W1 W5) := hQ (HB3.out.trans (hb5.mono HB3.out.size))
 have hgg5 : g < g5 := by omega
 have hg5m : mb < g5 := by omega
 have m31w := (hb5.cell (p := ⟨mb, 31, none⟩) hmz).trans m31'
 have r1w := (hb5.cell (p := ⟨g, t * 2 + 1, none⟩) hglt).trans r1
 have mf31 := (HH.out.at_.after HB5.out).blk.frozen 31
 have rf1 := HO5.out.frozenAt (t * 2 + 1)
 have hlt5 : mb < W5.heap.size := (HH.out.at_.after HB5.out).blk.lt
 have hglt5 : g < W5.heap.size := (HO5.out.lt g rfl).2
 have hgm : ¬ g = mb := by omega
 have hg5g : ¬ g5 = g := by omega
 have hg5n : ¬ g5 = mb := by omega
 have hmg : ¬ mb = g := by omega
 have hstI : (sn : Int) ≤ 1000000 := by omega
 have hst0 : (0 : Int) ≤ (sn : Int) := by omega
 have HS5 := hQ (StW.start HB5.out HH.out.at_ HO5.out HK5.out (by omega) hg (by rw [HT.out]; omega))
 rw [← HSN.out, ← HFF.out, ← HPCE.out] at HS5
 have h56 := fun (np : Nat) => HS5.out.pc HT.out hg hgg5 hlt np
 obtain ⟨x0, x1, x2, x3, x4, -, -, -, -, -, xz⟩ := HK5.out.c5
 clear hW5 hb5 hg5 hmz hFz hIz hF3 hI3 m31 m31' r0 r1 HO3 HB3 hz14 hglt
 have HS6 := hQ (h56 (pc + 1))
 clear h56 HS5
 go_upto_region 5 with (fail)
 obtain ⟨W6, hW6⟩ : ∃ W, W = (W5.setCell ⟨mb, 31, none⟩ (.int .i64 ((sn : Int) + 1))).setCell ⟨g, t * 2 + 1, none⟩ (.int .i64 ((pc : Int) + 1)) := ⟨_, rfl⟩
 rw [show (((pc + 1 : Nat) : Int)) = (pc : Int) + 1 by omega, ← hW6] at HS6
 rw [← hW6]
 clear hW6 HK5 HO5 HB5 m31w r1w mf31 rf1 hlt5 hglt5 hstI hst0 x0 x1 x2 x3 x4 xz
 obtain ⟨q0, q1, qf, qz, m18, mf, hlt6, -⟩ := HS6.out.cells HT.out
 obtain ⟨x0, x1, x2, x3, x4, -, -, -, -, -, xz⟩ := HS6.out.box.c5
 rw [HT.out] at m18
 have qf0 := qf (t * 2)
 have qf1 := qf (t * 2 + 1)
 by_cases h20 : oo = 20
 · subst h20
   obtain ⟨prm, sz, gx⟩ := HH.out.ok.gx
   rw [HX.out] at gx
   obtain ⟨j0, j1⟩ := gx.ja rfl
   obtain ⟨a, rfl⟩ := Int.eq_ofNat_of_zero_le j0
   clear gx j0 j1
   go_upto_region 7 with (fail)
   go_region
   go_upto_region 9 with (fail)
   obtain ⟨W7, hW7⟩ : ∃ W, W = (W6.setCell ⟨g, t * 2 + 1, none⟩ (.int .i64 (a : Int))).drew := ⟨_, rfl⟩
   rw [← hW7]
   have HS7 := hQ (HS6.out.pc HT.out hg hgg5 hlt a).drew
   rw [← hW7] at HS7
   clear hW7
   clear HS6 q0 q1 qf qz m18 mf hlt6 x0 x1 x2 x3 x4 xz qf0 qf1
   obtain ⟨q0, q1, -, qz, m18, mf, hlt7, -⟩ := HS7.out.cells HT.out
   obtain ⟨x0, x1, x2, x3, x4, -, -, -, -, -, xz⟩ := HS7.out.box.c5
   rw [HT.out] at m18
   have mf18 := mf 18
   go_upto_region 10 with (fail)
   obtain ⟨W8, hW8⟩ : ∃ W, W = W7.setCell ⟨mb, 18, none⟩ (.slice (some ⟨g, 0, none⟩) (t + 1) cap) := ⟨_, rfl⟩
   rw [← hW8]
   have h8 := HS7.out.fin HH.out.at_ HT.out hg5m HH.out.inx
   rw [← hW8] at h8
   obtain ⟨b1, b2, b3, b4⟩ := h8
   have HM8 := hQ b1
   have HG8 := hQ b2
   have HIN8 := hQ b3
   have HK58 := hQ b4
   clear b1 b2 b3 b4 hW8 HS7 q0 q1 qz m18 mf mf18 hlt7 x0 x1 x2 x3 x4 xz
   obtain ⟨x0, x1, x2, x3, x4, -, -, -, -, -, xz⟩ := HK58.out.c5
   go_wp2
   go_end0
   have hr : stepX p m = kX m t f a := by
    unfold stepX doX
    rw [HX.out]
    dsimp only
    rw [if_neg (by decide), if_neg (by decide), if_neg (by decide), if_pos rfl]
    simp only [Int.toNat_natCast]
    rw [HFF.out]
    unfold kX Mx.setTop Mx.top Mx.next Mx.setTop Mx.top
    simp only [List.length_set, HT.out, Nat.add_sub_cancel, List.getD_eq_getElem?_getD, List.set_set]
    rw [List.getElem?_set_self (by rw [HT.out]; omega)]
    rfl
   exact ⟨rfl, HG8.out, iv, _, by rw [hr]; exact HM8.out, by rw [hr]; exact HIN8.out⟩
 by_cases h21 : oo = 21
 · subst h21
   obtain ⟨prm, sz, gx⟩ := HH.out.ok.gx
   rw [HX.out] at gx
   obtain ⟨j0, j1⟩ := gx.jb rfl
   obtain ⟨l0, l1⟩ := gx.ra (.inr rfl)
   dsimp only at j0 j1 l0 l1
   obtain ⟨a, rfl⟩ := Int.eq_ofNat_of_zero_le l0
   obtain ⟨b, rfl⟩ := Int.eq_ofNat_of_zero_le j0
   clear gx j0 j1
   have r0 : W6.cell? ⟨mb, 2 + a * 2, none⟩ = some (.int .u64 (((rg m a).1 : Nat) : Int)) := (treg_cell HS6.out.blk (r := a) (by omega)).1
   obtain ⟨v, hv9⟩ : ∃ v, v = (rg m a).1 := ⟨_, rfl⟩
   rw [← hv9] at r0
   have HV9 := hQ hv9
   clear hv9
   by_cases hv0 : v = 0
   · have hvn : (v : Int) = 0 := by omega
     go_upto_region 7 with (fail)
     go_region
     go_upto_region 9 with (fail)
     obtain ⟨W7, hW7⟩ : ∃ W, W = W6.drew := ⟨_, rfl⟩
     rw [← hW7]
     have HS7 : Hid (StW W1 W7 mb g cap t g5 al (.slice (some ad) p.length cp) iv L m f (pc + 1) #[.int .i64 21, .int .i64 (a : Int), .int .i64 (b : Int), .int .i64 oc, .int .u64 oi]) := hQ (by rw [hW7]; exact HS6.out.drew)
     clear hW7 r0
     clear HS6 q0 q1 qf qz m18 mf hlt6 x0 x1 x2 x3 x4 xz qf0 qf1
     obtain ⟨q0, q1, -, qz, m18, mf, hlt7, -⟩ := HS7.out.cells HT.out
     obtain ⟨x0, x1, x2, x3, x4, -, -, -, -, -, xz⟩ := HS7.out.box.c5
     rw [HT.out] at m18
     have mf18 := mf 18
     go_upto_region 10 with (fail)
     obtain ⟨W8, hW8⟩ : ∃ W, W = W7.setCell ⟨mb, 18, none⟩ (.slice (some ⟨g, 0, none⟩) (t + 1) cap) := ⟨_, rfl⟩
     rw [← hW8]
     have h8 := HS7.out.fin HH.out.at_ HT.out hg5m HH.out.inx
     rw [← hW8] at h8
     obtain ⟨b1, b2, b3, b4⟩ := h8
     have HM8 := hQ b1
     have HG8 := hQ b2
     have HIN8 := hQ b3
     have HK58 := hQ b4
     clear b1 b2 b3 b4 hW8 HS7 q0 q1 qz m18 mf mf18 hlt7 x0 x1 x2 x3 x4 xz
     obtain ⟨x0, x1, x2, x3, x4, -, -, -, -, -, xz⟩ := HK58.out.c5
     go_wp2
     go_end0
     have hr : stepX p m = kX m t f (pc + 1) := by
      unfold stepX doX
      rw [HX.out]
      dsimp only
      have hva : (rg m.next a).1 = 0 := HV9.out.symm.trans hv0
      rw [if_neg (by decide), if_neg (by decide), if_neg (by decide), if_neg (by decide), if_pos rfl]
      simp only [Int.toNat_natCast]
      rw [if_pos hva]
      rw [HFF.out, HPCE.out]
      exact (kX_next HT.out).symm
     exact ⟨rfl, HG8.out, iv, _, by rw [hr]; exact HM8.out, by rw [hr]; exact HIN8.out⟩
   · have hvn : ¬ (v : Int) = 0 := by omega
     go_upto_region 7 with (fail)
     go_region
     go_upto_region 9 with (fail)
     obtain ⟨W7, hW7⟩ : ∃ W, W = (W6.setCell ⟨g, t * 2 + 1, none⟩ (.int .i64 (b : Int))).drew := ⟨_, rfl⟩
     rw [← hW7]
     have HS7 := hQ (HS6.out.pc HT.out hg hgg5 hlt b).drew
     rw [← hW7] at HS7
     clear hW7 r0
     clear HS6 q0 q1 qf qz m18 mf hlt6 x0 x1 x2 x3 x4 xz qf0 qf1
     obtain ⟨q0, q1, -, qz, m18, mf, hlt7, -⟩ := HS7.out.cells HT.out
     obtain ⟨x0, x1, x2, x3, x4, -, -, -, -, -, xz⟩ := HS7.out.box.c5
     rw [HT.out] at m18
     have mf18 := mf 18
     go_upto_region 10 with (fail)
     obtain ⟨W8, hW8⟩ : ∃ W, W = W7.setCell ⟨mb, 18, none⟩ (.slice (some ⟨g, 0, none⟩) (t + 1) cap) := ⟨_, rfl⟩
     rw [← hW8]
     have h8 := HS7.out.fin HH.out.at_ HT.out hg5m HH.out.inx
     rw [← hW8] at h8
     obtain ⟨b1, b2, b3, b4⟩ := h8
     have HM8 := hQ b1
     have HG8 := hQ b2
     have HIN8 := hQ b3
     have HK58 := hQ b4
     clear b1 b2 b3 b4 hW8 HS7 q0 q1 qz m18 mf mf18 hlt7 x0 x1 x2 x3 x4 xz
     obtain ⟨x0, x1, x2, x3, x4, -, -, -, -, -, xz⟩ := HK58.out.c5
     go_wp2
     go_end0
     have hr : stepX p m = kX m t f b := by
      unfold stepX doX
      rw [HX.out]
      dsimp only
      have hva : (rg m.next a).1 ≠ 0 := fun e => hv0 (HV9.out.trans e)
      rw [if_neg (by decide), if_neg (by decide), if_neg (by decide), if_neg (by decide), if_pos rfl]
      simp only [Int.toNat_natCast]
      rw [if_neg hva]
      rw [HFF.out]
      unfold kX Mx.setTop Mx.top Mx.next Mx.setTop Mx.top
      simp only [List.length_set, HT.out, Nat.add_sub_cancel, List.getD_eq_getElem?_getD, List.set_set]
      rw [List.getElem?_set_self (by rw [HT.out]; omega)]
      rfl
     exact ⟨rfl, HG8.out, iv, _, by rw [hr]; exact HM8.out, by rw [hr]; exact HIN8.out⟩
 have b20 : (oo == 20) = false := by simpa using h20
 have b21 : (oo == 21) = false := by simpa using h21
 go_upto_region 7 with (fail)
 go_region
 go_upto_region 9 with (fail)
 have HS7 := hQ HS6.out.drew
 clear HS6 q0 q1 qf qz m18 mf hlt6 x0 x1 x2 x3 x4 xz qf0 qf1
 generalize W6.drew = W7 at *
 obtain ⟨q0, q1, -, qz, m18, mf, hlt7, -⟩ := HS7.out.cells HT.out
 obtain ⟨x0, x1, x2, x3, x4, -, -, -, -, -, xz⟩ := HS7.out.box.c5
 rw [HT.out] at m18
 have mf18 := mf 18
 go_upto_region 10 with (fail)
 obtain ⟨W8, hW8⟩ : ∃ W, W = W7.setCell ⟨mb, 18, none⟩ (.slice (some ⟨g, 0, none⟩) (t + 1) cap) := ⟨_, rfl⟩
 rw [← hW8]
 have h8 := HS7.out.fin HH.out.at_ HT.out hg5m HH.out.inx
 rw [← hW8] at h8
 obtain ⟨b1, b2, b3, b4⟩ := h8
 have HM8 := hQ b1
 have HG8 := hQ b2
 have HIN8 := hQ b3
 have HK58 := hQ b4
 clear b1 b2 b3 b4 hW8 HS7 q0 q1 qz m18 mf mf18 hlt7 x0 x1 x2 x3 x4 xz
 obtain ⟨x0, x1, x2, x3, x4, -, -, -, -, -, xz⟩ := HK58.out.c5
 rw [HFF.out, HPCE.out, kX_next HT.out] at HM8
 have HNT : Hid (m.next.top.f = f) := hQ (by rw [HFF.out, ← HTOP.out, next_top' (by rw [HT.out]; omega)])
 have hlt8 : mb < W8.heap.size := HM8.out.blk.lt
 have HG0 : Hid (Gx W8 0 mb (some ad) p) := hQ (HH.out.gx.keep (Kp.of_grown HG8.out (Nat.le_of_lt hlt) (.inr nL)))
 have HTF : Hid (TF m.next) := hQ (by have a := HH.out.tf; exact ⟨a.regs, by show (m.acts.set _ _).length ≤ _; rw [List.length_set]; exact a.acts, a.sp, a.tp, a.mem, a.dp, a.len, a.m256, a.rgw⟩)
 have HNA : Hid (m.next.acts.length = t + 1) := hQ (by show (m.acts.set _ _).length = _; rw [List.length_set]; exact HT.out)
 obtain ⟨L8, hL8⟩ : ∃ L8, L8 = ({ L with As := some ⟨g, 0, none⟩, ca := cap } : Lq) := ⟨_, rfl⟩
 rw [← hL8] at HM8
 clear hL8
 obtain ⟨prm, sz, gx⟩ := HH.out.ok.gx
 have GX' := hQ gx
 have OK' := hQ HH.out.ok
 rw [HX.out] at GX' OK'
 clear gx
 have HEQ : Hid (stepX p m = doX p m.next ⟨oo, oa, ob, oc, oi⟩) := hQ (by unfold stepX; rw [HX.out])
 by_cases h22 : oo = 22
 · subst h22
   obtain ⟨l0, l1⟩ := GX'.out.ca rfl
   dsimp only at l0 l1
   obtain ⟨a, rfl⟩ := Int.eq_ofNat_of_zero_le l0
   have hz := OK'.out.sz rfl
   simp only [Int.toNat_natCast] at hz
   have HE := hQ (tenter_any (p := p) W8 a (by omega) HH.out.hp hz.1 hz.2 HM8.out HG0.out HTF.out.acts HTF.out.sp HTF.out.tp HTF.out.mem HTF.out.dp HTF.out.len HTF.out.m256)
   have he : doX p m.next ⟨22, (a : Int), ob, oc, oi⟩ = m.next.call a (szF p a) := by
    unfold doX
    dsimp only
    rw [if_neg (by decide), if_neg (by decide), if_neg (by decide), if_neg (by decide), if_neg (by decide), if_pos rfl]
    simp only [Int.toNat_natCast]
   have HE2 := hQ (HEQ.out.trans he)
   clear he hz
   go_wp2_with fail
   refine HE.out.mono ?_
   rintro e w9 ⟨rfl, hg9, L9, hm9⟩
   have HM9 := hQ hm9
   have HG9 := hQ hg9
   clear hm9 hg9
   go_wp2
   go_end0
   exact ⟨rfl, grownBy_trans HG8.out HG9.out, iv, L9, by rw [HE2.out]; exact HM9.out, by rw [HE2.out, show (m.next.call a (szF p a)).inp = m.inp by unfold Mx.call; split <;> rfl]; exact HIN8.out.grown HG9.out hlt8⟩
 by_cases h23 : oo = 23
 · subst h23
   have hz0 := HH.out.ok.sz0
   rw [HTOP.out, ← HFF.out] at hz0
   have hrm := HH.out.room
   rw [HTOP.out, ← HFF.out] at hrm
   have HE := hQ (tleave_any (p := p) W8 f (szF p f) t HNA.out (by rw [← HNT.out]; unfold Mx.top; rw [HNA.out]; rfl) hf HH.out.hp hz0.1 hrm HM8.out HTF.out HG0.out)
   have he : doX p m.next ⟨23, oa, ob, oc, oi⟩ = m.next.leave (szF p f) := by
    unfold doX
    dsimp only
    rw [if_neg (by decide), if_neg (by decide), if_neg (by decide), if_neg (by decide), if_neg (by decide), if_neg (by decide), if_pos rfl, HNT.out]
   have HE2 := hQ (HEQ.out.trans he)
   clear he hz0 hrm
   go_wp2_with fail
   refine HE.out.mono ?_
   rintro e w9 ⟨rfl, hg9, L9, hm9⟩
   have HM9 := hQ hm9
   have HG9 := hQ hg9
   clear hm9 hg9
   go_wp2
   go_end0
   exact ⟨rfl, grownBy_trans HG8.out HG9.out, iv, L9, by rw [HE2.out]; exact HM9.out, by rw [HE2.out, show (m.next.leave (szF p f)).inp = m.inp by unfold Mx.leave; split <;> rfl]; exact HIN8.out.grown HG9.out hlt8⟩
 by_cases h24 : oo = 24
 · subst h24
   obtain ⟨im, rfl⟩ := Int.eq_ofNat_of_zero_le OK'.out.im.1
   have HE := hQ (tend_any W8 1 HM8.out)
   go_wp2_with fail
   refine HE.out.mono ?_
   rintro e w9 ⟨rfl, hm9, hg9⟩
   have hi9 := HIN8.out.grown hg9 hlt8
   have HK59 := hQ (HK58.out.grown hg9 (fun e => by injection e; omega))
   clear x0 x1 x2 x3 x4 xz
   obtain ⟨x0, x1, x2, x3, x4, -, -, -, -, -, xz⟩ := HK59.out.c5
   have c27 : w9.cell? ⟨mb, 27, none⟩ = some (.int .u64 ((m.next.stop 1).code : Int)) := hm9.blk.cell 27
   have mf := hm9.blk.frozen 27
   have hlt9 := hm9.blk.lt
   have HM9 := hQ hm9
   have HG9 := hQ hg9
   clear hm9 hg9
   go_wp2
   go_end0
   have hgr : w9.grownBy (w9.setCell ⟨mb, 27, none⟩ (.int .u64 ((im : Nat) : Int))) (some mb) := grown_mb _ _ _ _
   have hm := HM9.out.move hgr (m' := { m.next.stop 1 with code := im }) (HM9.out.blk.set_ 27 _) rfl rfl rfl rfl
   have he : doX p m.next ⟨24, oa, ob, oc, (im : Int)⟩ = { m.next.stop 1 with code := im } := by
    unfold doX
    dsimp only
    rw [if_neg (by decide), if_neg (by decide), if_neg (by decide), if_neg (by decide), if_neg (by decide), if_neg (by decide), if_neg (by decide), if_pos rfl]
    simp only [Int.toNat_natCast]
    rfl
   exact ⟨rfl, grownBy_trans HG8.out (grownBy_trans HG9.out hgr), iv, _, by rw [HEQ.out, he]; exact hm, by rw [HEQ.out, he]; exact hi9.grown hgr hlt9⟩
 have b22 : (oo == 22) = false := by simpa using h22
 have b23 : (oo == 23) = false := by simpa using h23
 have b24 : (oo == 24) = false := by simpa using h24
 have hm1 : oo = 15 ∨ oo = 16 ∨ oo = 17 := by
  obtain ⟨g0, g1, g2, g3⟩ := GX'.out.op
  dsimp only at g0 g1 g2 g3
  rw [HX.out] at hop
  dsimp only at hop
  omega
 have HME : Hid (Calls Tryz.prog 55 #[.pointer (some ⟨mb, 0, none⟩), .agg #[.int .i64 oo, .int .i64 oa, .int .i64 ob, .int .i64 oc, .int .u64 oi]] W8 (MemT mb al (.slice (some ad) p.length cp) iv (doX p m.next ⟨oo, oa, ob, oc, oi⟩) W8) ∧ (doX p m.next ⟨oo, oa, ob, oc, oi⟩).inp = m.inp) := hQ (by
  obtain ⟨s1, s2, s3⟩ := GX'.out.sc hm1
  dsimp only at s1 s2 s3
  obtain ⟨c, rfl⟩ := Int.eq_ofNat_of_zero_le (show 0 ≤ oc by omega)
  unfold doX
  dsimp only
  rcases hm1 with rfl | rfl | rfl
  · obtain ⟨a1, a2⟩ := GX'.out.ra (.inl (by show (15 : Int) ≤ 15; decide))
    have rd := OK'.out.rd (.inl rfl)
    have k1 := GX'.out.rd (.inl rfl)
    dsimp only at a1 a2 rd k1
    obtain ⟨a, rfl⟩ := Int.eq_ofNat_of_zero_le a1
    obtain ⟨b, rfl⟩ := Int.eq_ofNat_of_zero_le k1.1
    rw [if_pos rfl]
    simp only [Int.toNat_natCast] at rd ⊢
    exact ⟨tmem_ld W8 a b c oi HM8.out HTF.out (by omega) (by omega) s1 rd, by unfold Mx.load; split <;> rfl⟩
  · obtain ⟨b1, b2⟩ := GX'.out.rb (.inr (.inr rfl))
    have wr := OK'.out.wr (.inl rfl)
    have k1 := GX'.out.wr (.inl rfl)
    dsimp only at b1 b2 wr k1
    obtain ⟨a, rfl⟩ := Int.eq_ofNat_of_zero_le k1.1
    obtain ⟨b, rfl⟩ := Int.eq_ofNat_of_zero_le b1
    rw [if_neg (by decide), if_pos rfl]
    simp only [Int.toNat_natCast] at wr ⊢
    exact ⟨tmem_st W8 a b c oi HM8.out HTF.out (by omega) (by omega) s1 wr, rfl⟩
  · have rd := OK'.out.rd (.inr rfl)
    have k1 := GX'.out.rd (.inr rfl)
    have wr := OK'.out.wr (.inr rfl)
    have k2 := GX'.out.wr (.inr rfl)
    dsimp only at rd k1 wr k2
    obtain ⟨a, rfl⟩ := Int.eq_ofNat_of_zero_le k2.1
    obtain ⟨b, rfl⟩ := Int.eq_ofNat_of_zero_le k1.1
    rw [if_neg (by decide), if_neg (by decide), if_pos rfl]
    simp only [Int.toNat_natCast] at rd wr ⊢
    exact ⟨tmem_mv W8 a b c oi HM8.out HTF.out (by omega) s1 wr rd, by unfold Mx.moveIn; split <;> rfl⟩)
 generalize doX p m.next ⟨oo, oa, ob, oc, oi⟩ = RES at HME HEQ
 go_wp2_with fail
 refine HME.out.1.mono ?_
 rintro e w9 ⟨rfl, hg9, L9, hm9⟩
 have HM9 := hQ hm9
 have HG9 := hQ hg9
 clear hm9 hg9
 go_wp2
 go_end0
 exact ⟨rfl, grownBy_trans HG8.out HG9.out, iv, L9, by rw [HEQ.out]; exact HM9.out, by rw [HEQ.out, HME.out.2]; exact HIN8.out.grown HG9.out hlt8⟩
end
end Go.Proofs.YtcnndoefgjbmiaaGreat.pm
