/- The reference's machine that runs targets: how it lies in memory. Printed by mkxa.py. -/
import Derived.Test.YtcnndoefgjbmiaaGreatGJj
import Derived.Test.YtcnndoefgjbmiaaGreatGRp
set_option linter.unusedVariables false
set_option maxRecDepth 10000
set_option maxHeartbeats 8000000
namespace Go.Proofs.YtcnndoefgjbmiaaGreat.pm
open Go.RowKit
structure Lq where
 As : Option Addr
 ca : Nat
 At : Option Addr
 ct : Nat
 Ab : Option Addr
 cb : Nat
 Ub : Option Addr
 cu : Nat
def acR (a : Ac) : List Value := [.int .i64 a.f, .int .i64 a.pc]
theorem acR_len (a : Ac) : (acR a).length = 2 := rfl
def tcs (al : Int) (pv iv sv bv uv tv : Value) (m : Mx) : Array Value :=
 #[.int .i64 al, pv, .int .u64 (rg m 0).1, .int .u64 (rg m 0).2, .int .u64 (rg m 1).1, .int .u64 (rg m 1).2, .int .u64 (rg m 2).1, .int .u64 (rg m 2).2, .int .u64 (rg m 3).1, .int .u64 (rg m 3).2, .int .u64 (rg m 4).1, .int .u64 (rg m 4).2, .int .u64 (rg m 5).1, .int .u64 (rg m 5).2, .int .u64 (rg m 6).1, .int .u64 (rg m 6).2, .int .u64 (rg m 7).1, .int .u64 (rg m 7).2,
  sv, bv, uv, .int .i64 m.sp, .int .i64 m.tp, .int .i64 m.deep, iv, .bool m.ended, .int .i64 m.kind, .int .u64 m.code, .int .u64 m.res.1, .int .u64 m.res.2, tv, .int .i64 m.steps]
structure TRows (w : World) (lo : Nat) (L : Lq) (m : Mx) : Prop where
 acts : Rx w lo w.heap.size 2 L.As m.acts.length (m.acts.flatMap acR)
 tr : Rx w lo w.heap.size 2 L.At m.trace.length (m.trace.flatMap vcl)
 by_ : Rx w lo w.heap.size 1 L.Ab m.mem.length (nb m.mem)
 us_ : Rx w lo w.heap.size 1 L.Ub m.use.length (m.use.map Value.bool)
 caps : m.acts.length ≤ L.ca ∧ m.trace.length ≤ L.ct ∧ m.mem.length ≤ L.cb ∧ m.use.length ≤ L.cu
structure TAt (w : World) (mb : Nat) (al : Int) (pv iv : Value) (L : Lq) (m : Mx) : Prop where
 blk : Blk w mb 94 (tcs al pv iv (.slice L.As m.acts.length L.ca) (.slice L.Ab m.mem.length L.cb) (.slice L.Ub m.use.length L.cu) (.slice L.At m.trace.length L.ct) m)
 rows : TRows w (mb + 1) L m
section
variable {w w' : World} {mb lo : Nat} {al : Int} {pv iv sv bv uv tv : Value} {L : Lq} {m : Mx}
theorem Rx.growM {s n : Nat} {A : Option Addr} {xs : List Value} (h : Rx w (mb + 1) w.heap.size s A n xs) (hg : w.grownBy w' (some mb)) : Rx w' (mb + 1) w'.heap.size s A n xs :=
 (h.keep (Kp.of_grown hg nL (.inl (by omega)))).more nL hg.size
theorem TRows.grow (h : TRows w (mb + 1) L m) (hg : w.grownBy w' (some mb)) : TRows w' (mb + 1) L m := ⟨h.acts.growM hg, h.tr.growM hg, h.by_.growM hg, h.us_.growM hg, h.caps⟩
theorem TAt.after (h : TAt w mb al pv iv L m) (hb : Below w.heap.size w w') : TAt w' mb al pv iv L m := ⟨h.blk.after hb, h.rows.grow (grownBy_of_below hb _)⟩
theorem TAt.move (h : TAt w mb al pv iv L m) (hg : w.grownBy w' (some mb)) {iv' : Value} {m' : Mx} (hb : Blk w' mb 94 (tcs al pv iv' (.slice L.As m.acts.length L.ca) (.slice L.Ab m.mem.length L.cb) (.slice L.Ub m.use.length L.cu) (.slice L.At m.trace.length L.ct) m'))
 (ha : m'.acts = m.acts) (ht : m'.trace = m.trace) (hm : m'.mem = m.mem) (hu : m'.use = m.use) : TAt w' mb al pv iv' L m' :=
 ⟨by rw [ha, ht, hm, hu]; exact hb, by have r := h.rows.grow hg; exact ⟨by rw [ha]; exact r.acts, by rw [ht]; exact r.tr, by rw [hm]; exact r.by_, by rw [hu]; exact r.us_, by rw [ha, ht, hm, hu]; exact r.caps⟩⟩
theorem grown_mb (w : World) (mb j : Nat) (u : Value) : w.grownBy (w.setCell ⟨mb, j, none⟩ u) (some mb) :=
 ⟨rfl, rfl, rfl, by simp [World.setCell], fun i hi hn => Below.heap_setCell w ⟨mb, j, none⟩ _ i (fun e => hn (by rw [e]))⟩
theorem InX.grown {inp : List Nat} (h : InX w mb iv inp) (hg : w.grownBy w' (some mb)) (hm : mb < w.heap.size) : InX w' mb iv inp :=
 h.after ⟨hg.os, hg.tape, hg.output, hg.size, fun i hi => hg.block i (by omega) (fun e => by injection e; omega)⟩
theorem treg_cell (h : Blk w mb 94 (tcs al pv iv sv bv uv tv m)) {r : Nat} (hr : r < 8) : w.cell? ⟨mb, 2 + r * 2, none⟩ = some (.int .u64 (rg m r).1) ∧ w.cell? ⟨mb, 2 + r * 2 + 1, none⟩ = some (.int .u64 (rg m r).2) := by
 have e : r = 0 ∨ r = 1 ∨ r = 2 ∨ r = 3 ∨ r = 4 ∨ r = 5 ∨ r = 6 ∨ r = 7 := by omega
 rcases e with rfl | rfl | rfl | rfl | rfl | rfl | rfl | rfl
 · exact ⟨h.cell 2, h.cell 3⟩
 · exact ⟨h.cell 4, h.cell 5⟩
 · exact ⟨h.cell 6, h.cell 7⟩
 · exact ⟨h.cell 8, h.cell 9⟩
 · exact ⟨h.cell 10, h.cell 11⟩
 · exact ⟨h.cell 12, h.cell 13⟩
 · exact ⟨h.cell 14, h.cell 15⟩
 · exact ⟨h.cell 16, h.cell 17⟩
theorem treg_set (h : Blk w mb 94 (tcs al pv iv sv bv uv tv m)) (hr8 : m.regs.length = 8) {r : Nat} (hr : r < 8) (v : Nat × Nat) :
 Blk ((w.setCell ⟨mb, 2 + r * 2, none⟩ (.int .u64 v.1)).setCell ⟨mb, 2 + r * 2 + 1, none⟩ (.int .u64 v.2)) mb 94 (tcs al pv iv sv bv uv tv { m with regs := m.regs.set r v }) := by
 have h1 := (h.set_ (2 + r * 2) (.int .u64 v.1)).set_ (2 + r * 2 + 1) (.int .u64 v.2)
 have e : ((tcs al pv iv sv bv uv tv m).setIfInBounds (2 + r * 2) (.int .u64 v.1)).setIfInBounds (2 + r * 2 + 1) (.int .u64 v.2) = tcs al pv iv sv bv uv tv { m with regs := m.regs.set r v } := by
  obtain ⟨regs, acts, mem, use, sp, tp, deep, inp, kind, code, res, steps, trace, ended⟩ := m
  match regs, hr8 with
  | [r0, r1, r2, r3, r4, r5, r6, r7], _ =>
   have e : r = 0 ∨ r = 1 ∨ r = 2 ∨ r = 3 ∨ r = 4 ∨ r = 5 ∨ r = 6 ∨ r = 7 := by omega
   rcases e with rfl | rfl | rfl | rfl | rfl | rfl | rfl | rfl <;> rfl
 rw [e] at h1
 exact h1
theorem tcells (h : Blk w mb 94 (tcs al pv iv sv bv uv tv m)) : w.cell? ⟨mb, 1, none⟩ = some pv ∧ w.cell? ⟨mb, 18, none⟩ = some sv ∧ w.cell? ⟨mb, 19, none⟩ = some bv ∧ w.cell? ⟨mb, 20, none⟩ = some uv ∧ w.cell? ⟨mb, 21, none⟩ = some (.int .i64 m.sp) ∧
 w.cell? ⟨mb, 22, none⟩ = some (.int .i64 m.tp) ∧ w.cell? ⟨mb, 23, none⟩ = some (.int .i64 m.deep) ∧ w.cell? ⟨mb, 24, none⟩ = some iv ∧ w.cell? ⟨mb, 25, none⟩ = some (.bool m.ended) ∧ w.cell? ⟨mb, 30, none⟩ = some tv ∧ w.cell? ⟨mb, 31, none⟩ = some (.int .i64 m.steps) ∧ (∀ j, w.frozen? ⟨mb, j, none⟩ = false) ∧ mb < w.heap.size :=
 ⟨h.cell 1, h.cell 18, h.cell 19, h.cell 20, h.cell 21, h.cell 22, h.cell 23, h.cell 24, h.cell 25, h.cell 30, h.cell 31, fun j => h.frozen j, h.lt⟩
theorem TAt.bs (h : TAt w mb al pv iv L m) (h6 : ∀ v ∈ m.mem, v < 256) : Bs w w.heap.size L.Ab m.mem.length m.mem := ⟨h.rows.by_.1, h6⟩
theorem TAt.sl (h : TAt w mb al pv iv L m) : Sl Value.bool w w.heap.size L.Ub m.use.length m.use := h.rows.us_.1
theorem Rx.frs {A A' : Option Addr} {s n n' : Nat} {xs xs' : List Value} (h : Rx w lo w.heap.size s A n xs) (hf : Frs w.heap.size A A') (hn : n' = n) (hlo : lo ≤ w.heap.size) (hr : Reads w' w'.heap.size s A' n' xs') : Rx w' lo w'.heap.size s A' n' xs' := by
 refine ⟨hr, fun ad e h0 => ?_⟩
 rcases hf with e1 | e1
 · exact h.2 ad (by rw [← e1, e]) (by omega)
 · exact Nat.le_trans hlo (e1 ad e)
def TD (mb : Nat) (al : Int) (pv iv : Value) (m : Mx) (w : World) (e : Ending) (w' : World) : Prop := e = .returned (.tuple #[]) ∧ w.grownBy w' (some mb) ∧ ∃ L, TAt w' mb al pv iv L m
theorem tend_any (w : World) (k : Int) (h : TAt w mb al pv iv L m) :
 Calls Tryz.prog 34 #[.pointer (some ⟨mb, 0, none⟩), .int .i64 k] w fun e w' => e = .returned (.tuple #[]) ∧ TAt w' mb al pv iv L (m.stop k) ∧ w.grownBy w' (some mb) := by
 have f0 := h.blk.frozen 26
 have f1 := h.blk.frozen 25
 have c0 : w.cell? ⟨mb, 26, none⟩ = some (.int .i64 m.kind) := h.blk.cell 26
 have c1 : w.cell? ⟨mb, 25, none⟩ = some (.bool m.ended) := h.blk.cell 25
 have hlt := h.blk.lt
 have HM := hQ h
 clear h
 go_enter Tryz.func34, Tryz.ntmps34
 go_wp2
 go_end0
 have hg := grownBy_trans (grown_mb w mb 26 (.int .i64 k)) (grown_mb _ mb 25 (.bool true))
 exact ⟨rfl, HM.out.move hg (m' := m.stop k) ((HM.out.blk.set_ 26 _).set_ 25 _) rfl rfl rfl rfl, hg⟩
end
def StT (mb n : Nat) (lb : List Nat) (lu : List Bool) (A : Option Addr) (c : Nat) (U : Option Addr) (d : Nat) (w : World) : Prop :=
 Rx w (mb + 1) w.heap.size 1 A n (nb lb) ∧ Rx w (mb + 1) w.heap.size 1 U n (lu.map Value.bool) ∧ n ≤ c ∧ n ≤ d
theorem info_tact : (Tryz.prog.info? 126).map (fun i => (i.zero, i.size, i.bytes)) = some (some (.agg #[.int .i64 0, .int .i64 0]), 2, 16) := by kernel_rfl
section
variable {w w' : World} {mb n b c d lo hi : Nat} {lb : List Nat} {lu : List Bool} {A U : Option Addr}
theorem StT.grow (h : StT mb n lb lu A c U d w) (hg : w.grownBy w' (some mb)) : StT mb n lb lu A c U d w' := ⟨h.1.growM hg, h.2.1.growM hg, h.2.2⟩
theorem Rx.box {s i : Nat} {xs : List Value} {t : TypeId} {cs : Array Value} (h : Rx w lo hi s A n xs) (hg : Blk w b t cs) (hne : ∀ x ∈ xs, x ∉ cs) (u : Value) : Rx (w.setCell ⟨b, i, none⟩ u) lo hi s A n xs := ⟨Reads.box h.1 hg hne u, h.2⟩
theorem nb_not {a1 a2 a3 a4 : Option Addr} {n1 n2 c1 c2 : Nat} {k : Int} (l : List Nat) : ∀ x ∈ nb l, x ∉ #[Value.slice a1 n1 c1, .slice a2 n2 c2, .int .i64 k] := by
 intro x hx hc
 obtain ⟨v, -, rfl⟩ := List.mem_map.1 hx
 simp at hc
theorem bl_not {a1 a2 a3 a4 : Option Addr} {n1 n2 c1 c2 : Nat} {k : Int} (l : List Bool) : ∀ x ∈ l.map Value.bool, x ∉ #[Value.slice a1 n1 c1, .slice a2 n2 c2, .int .i64 k] := by
 intro x hx hc
 obtain ⟨v, -, rfl⟩ := List.mem_map.1 hx
 simp at hc
theorem StT.put {X1 X2 Y1 Y2 : Option Addr} {n1 n2 c1 c2 m1 m2 e1 e2 : Nat} {k k' : Int} (h : StT mb n lb lu A c U d w) (hg : Blk w b 69 #[.slice X1 n1 c1, .slice X2 n2 c2, .int .i64 k]) :
 StT mb n lb lu A c U d (((w.setCell ⟨b, 0, none⟩ (.slice Y1 m1 e1)).setCell ⟨b, 1, none⟩ (.slice Y2 m2 e2)).setCell ⟨b, 2, none⟩ (.int .i64 k')) := by
 have g1 : Blk (w.setCell ⟨b, 0, none⟩ (.slice Y1 m1 e1)) b 69 #[.slice Y1 m1 e1, .slice X2 n2 c2, .int .i64 k] := hg.set_ 0 _
 have g2 : Blk ((w.setCell ⟨b, 0, none⟩ (.slice Y1 m1 e1)).setCell ⟨b, 1, none⟩ (.slice Y2 m2 e2)) b 69 #[.slice Y1 m1 e1, .slice Y2 m2 e2, .int .i64 k] := g1.set_ 1 _
 have hz : (((w.setCell ⟨b, 0, none⟩ (.slice Y1 m1 e1)).setCell ⟨b, 1, none⟩ (.slice Y2 m2 e2)).setCell ⟨b, 2, none⟩ (.int .i64 k')).heap.size = w.heap.size := by simp [World.setCell]
 exact ⟨by rw [hz]; exact ((h.1.box hg (nb_not (a3 := none) (a4 := none) _) _).box g1 (nb_not (a3 := none) (a4 := none) _) _).box g2 (nb_not (a3 := none) (a4 := none) _) _, by rw [hz]; exact ((h.2.1.box hg (bl_not (a3 := none) (a4 := none) _) _).box g1 (bl_not (a3 := none) (a4 := none) _) _).box g2 (bl_not (a3 := none) (a4 := none) _) _, h.2.2⟩
end
section
variable {mb cp : Nat} {al : Int} {iv : Value} {L : Lq} {m : Mx} {p : List Fr} {ad : Addr}
theorem acR_one (l : List Ac) : ∀ u ∈ l.flatMap acR, u.oneCell' = true := fun u hu => by
 obtain ⟨x, -, hx⟩ := List.mem_flatMap.1 hu
 simp [acR] at hx
 rcases hx with rfl | rfl <;> rfl
theorem StT.of {W W1 w2 : World} {R : Int × List Nat × List Bool × Nat} {A' U' : Option Addr} {c' d' n : Nat} (h : TAt W1 mb al (.slice (some ad) p.length cp) iv L m) (hn : n = m.mem.length) (hl : m.use.length = n) (hB : Below W1.heap.size W1 W)
 (hb : Bs w2 w2.heap.size A' n R.2.1) (hs : Sl Value.bool w2 w2.heap.size U' n R.2.2.1) (h1 : n ≤ c') (h2 : n ≤ d') (f1 : Frs W.heap.size L.Ab A') (f2 : Frs W.heap.size L.Ub U') : StT mb n R.2.1 R.2.2.1 A' c' U' d' w2 := by
 have hlt := h.blk.lt
 have hz := hB.size
 exact ⟨h.rows.by_.frs (f1.mono hz) hn (by omega) hb.1, h.rows.us_.frs (f2.mono hz) hl.symm (by omega) hs, h1, h2⟩
theorem tenter_any (W1 : World) (f : Nat) (hf : f < p.length) (hp : p.length ≤ maxLen) (hz : ((szF p f : Nat) : Int) = (p.getD f Fr.z).size) (hz1 : szF p f < 2147483520) (h : TAt W1 mb al (.slice (some ad) p.length cp) iv L m) (hg : Gx W1 0 mb (some ad) p) (hacts : m.acts.length ≤ 1000000) (hsp : m.sp ≤ m.tp) (htp : m.tp ≤ m.mem.length) (hm : m.mem.length ≤ 1048576) (hdp : m.deep ≤ 1048576) (hl : m.use.length = m.mem.length) (h6 : ∀ v ∈ m.mem, v < 256) :
 Calls Tryz.prog 33 #[.pointer (some ⟨mb, 0, none⟩), .int .i64 (f : Int)] W1 (TD mb al (.slice (some ad) p.length cp) iv (m.call f (szF p f)) W1) := by
 obtain ⟨i0, hi0, hz0, hz2, hz3⟩ := info_parts info_tact
 obtain ⟨ad', Ai, ci, e0, hbl, -, y1, -, -⟩ := hg.whole hf
 obtain rfl : ad = ad' := by injection e0
 rw [← hz] at y1
 obtain ⟨z, hzz⟩ : ∃ z, z = szF p f := ⟨_, rfl⟩
 rw [← hzz] at y1 hz1 ⊢
 obtain ⟨RES, hres⟩ : ∃ R, R = m.call f z := ⟨_, rfl⟩
 rw [← hres]
 have HRES := hQ hres
 clear hres
 obtain ⟨m1, m18, m19, m20, m21, -, m23, -, -, -, -, -, hlt⟩ := tcells h.blk
 obtain ⟨n, hn⟩ : ∃ n, n = m.mem.length := ⟨_, rfl⟩
 rw [← hn] at hl hm htp m19
 rw [hl] at m20
 obtain ⟨sp, hspe⟩ : ∃ q, q = m.sp := ⟨_, rfl⟩
 rw [← hspe] at m21
 have HPU := hQ (fun (W : World) (hB : Below W1.heap.size W1 W) => refpush_any L.Ab L.Ub n L.cb L.cu m.sp m.mem m.use z (by omega) (by omega) W (by rw [hn]; exact (h.after hB).bs h6) (by rw [← hl]; exact (h.after hB).sl) hm (by omega) (by rw [hn]; exact h.rows.caps.2.2.1) (by rw [← hl]; exact h.rows.caps.2.2.2))
 rw [← hspe] at HPU
 have hF3 : (ad.add (f * 3)).block < W1.heap.size := by rw [block_of_add]; omega
 have HM := hQ h
 have HN := hQ hn
 have HL := hQ hl
 have HSP := hQ hspe
 have hfi : (f : Int) < (p.length : Int) := by omega
 have hf0 : (0 : Int) ≤ (f : Int) := by omega
 have hspl : sp ≤ n := by omega
 obtain ⟨R, hR⟩ : ∃ R, R = pushV m.mem m.use sp (z : Int) := ⟨_, rfl⟩
 rw [← hR] at HPU
 have HR := hQ hR
 have HKL : Hid (∀ W, Below W1.heap.size W1 W → W.cell? ⟨mb, 1, none⟩ = some (.slice (some ad) p.length cp) ∧ W.cell? ⟨(ad.add (f * 3)).block, (ad.add (f * 3)).off + 1, none⟩ = some (.int .i64 (z : Int)) ∧ W.cell? ⟨mb, 19, none⟩ = some (.slice L.Ab n L.cb) ∧ W.cell? ⟨mb, 20, none⟩ = some (.slice L.Ub n L.cu) ∧ W.cell? ⟨mb, 21, none⟩ = some (.int .i64 (sp : Int))) := hQ (fun W hW => ⟨(hW.cell (p := ⟨mb, 1, none⟩) hlt).trans m1, (hW.cell (p := ⟨(ad.add (f * 3)).block, (ad.add (f * 3)).off + 1, none⟩) hF3).trans y1, (hW.cell (p := ⟨mb, 19, none⟩) hlt).trans m19, (hW.cell (p := ⟨mb, 20, none⟩) hlt).trans m20, (hW.cell (p := ⟨mb, 21, none⟩) hlt).trans m21⟩)
 have HD1 : Hid (Below W1.heap.size W1 W1.drew) := hQ (bR.drew)
 clear h hg e0 hz hzz hn hl hspe hR m1 m18 m19 m20 m21 m23 y1
 go_enter Tryz.func33, Tryz.ntmps33
 go_upto_region 0 with (fail)
 go_cut [4, 5] (fun s4 s5 wx => ∃ (q : Nat) (A' : Option Addr) (c' : Nat) (U' : Option Addr) (d' : Nat), s4 = .pointer (some ⟨q, 0, none⟩) ∧ s5 = .int .i64 R.1 ∧ W1.heap.size ≤ q ∧ Hid (Blk wx q 69 #[.slice A' n c', .slice U' n d', .int .i64 (R.2.2.2 : Nat)]) ∧ Hid (StT mb n R.2.1 R.2.2.1 A' c' U' d' wx) ∧ Hid (Below W1.heap.size W1 wx))
 case first =>
  have HA : Hid (∀ W o, Below W1.heap.size W1 W → Below W1.heap.size W1 (W.alloc o)) := hQ (fun W o h => h.alloc h.size o)
  have HX : Hid (∀ (W : World) (g : Nat) (u v x : Value), W1.heap.size ≤ g → Below W1.heap.size W1 W → Below W1.heap.size W1 (((W.setCell ⟨g, 0, none⟩ u).setCell ⟨g, 1, none⟩ v).setCell ⟨g, 2, none⟩ x)) := hQ (fun W g u v x hg h => ((h.setCell (by simpa using hg) u).setCell (by simpa using hg) v).setCell (by simpa using hg) x)
  go_region_held3 (fun W => W.cell? ⟨mb, 1, none⟩ = some (.slice (some ad) p.length cp) ∧ W.cell? ⟨(ad.add (f * 3)).block, (ad.add (f * 3)).off + 1, none⟩ = some (.int .i64 (z : Int)) ∧ W.cell? ⟨mb, 19, none⟩ = some (.slice L.Ab n L.cb) ∧ W.cell? ⟨mb, 20, none⟩ = some (.slice L.Ub n L.cu) ∧ W.cell? ⟨mb, 21, none⟩ = some (.int .i64 (sp : Int)))
   (with_reducible first | assumption | exact HKL.out _ HD1.out | exact HKL.out _ (HA.out _ _ HD1.out) | exact HKL.out _ (Hid.out (by assumption)) | exact HKL.out _ (HA.out _ _ (Hid.out (by assumption))) | exact HKL.out _ (HA.out _ _ bR).drew | exact HKL.out _ (HX.out _ _ _ _ _ nL (Hid.out (by assumption))) | exact HKL.out _ (HX.out _ _ _ _ _ (Hid.out HB2).size (HA.out _ _ (Hid.out HB2))))
   (first
    | (go_at_call 53; refine (HPU.out _ HD1.out).mono ?_; rintro e w2 ⟨A', c', U', d', rfl, hb2, hs2, k1, k2, b2, f1, f2⟩; have HB2 : Hid (Below W1.heap.size W1 w2) := hQ (HD1.out.trans (b2.mono HD1.out.size)); have HT2 := hQ (StT.of HM.out HN.out HL.out HD1.out hb2 hs2 k1 k2 f1 f2); clear b2 hb2 hs2 k1 k2 f1 f2)
    | (go_at_call 53; refine (HPU.out _ (HA.out _ _ HD1.out)).mono ?_; rintro e w2 ⟨A', c', U', d', rfl, hb2, hs2, k1, k2, b2, f1, f2⟩; have HB2 : Hid (Below W1.heap.size W1 w2) := hQ ((HA.out _ _ HD1.out).trans (b2.mono (HA.out _ _ HD1.out).size)); have HT2 := hQ (StT.of HM.out HN.out HL.out (HA.out _ _ HD1.out) hb2 hs2 k1 k2 f1 f2); have HKB : Hid (Blk w2 W1.heap.size 69 #[.slice none 0 0, .slice none 0 0, .int .i64 0]) := hQ ((Blk.new W1.drew _ _).after b2); obtain ⟨y0, y1, y2, g0, g1, g2, yz⟩ := HKB.out.c3; clear b2 hb2 hs2 k1 k2 f1 f2))
  all_goals go_wp2_with fail
  all_goals go_meet
  all_goals first
   | exact ⟨_, A', c', U', d', rfl, rfl, HB2.out.size, hQ (Blk.new w2 _ _), hQ (HT2.out.grow (grownBy_of_below (bR.alloc nL _) _)), hQ (HA.out _ _ HB2.out)⟩
   | exact ⟨_, A', c', U', d', rfl, rfl, HB2.out.size, hQ ((Blk.new w2 _ _).drew), hQ (HT2.out.grow (grownBy_of_below ((bR.alloc nL _).drew) _)), hQ (HA.out _ _ HB2.out).drew⟩
   | exact ⟨_, A', c', U', d', rfl, rfl, Nat.le_refl _, hQ (((HKB.out.set_ 0 _).set_ 1 _).set_ 2 _), hQ (HT2.out.put HKB.out), hQ (HX.out _ _ _ _ _ nL HB2.out)⟩
 case rest =>
  obtain ⟨q, A', c', U', d', rfl, rfl, hq, HQ, HT2, HB2⟩ := hcut
  generalize wc = W2 at *
  have HM2 := hQ (HM.out.after HB2.out)
  have hqm : mb < q := by omega
  clear HKL HD1 HPU hF3
  by_cases hov : sp < z
  · have hR9 : R = (9, m.mem, m.use, sp) := by rw [HR.out]; unfold pushV; rw [if_neg (by omega), if_pos (by omega)]
    have HE : Hid (m.call f z = m.stop 5) := hQ (by unfold Mx.call; rw [← HSP.out, if_pos hov])
    subst hR9
    dsimp only at HT2 HQ
    have HEN := hQ (tend_any W2 5 HM2.out)
    clear HT2 HQ HR
    go_wp2_with fail
    refine HEN.out.mono ?_
    rintro e w3 ⟨rfl, m3, g3⟩
    have HM3 := hQ m3
    have HG3 := hQ (grownBy_trans (grownBy_of_below HB2.out (some mb)) g3)
    clear m3 g3
    go_wp2
    go_end0
    exact ⟨rfl, HG3.out, _, by rw [HRES.out, HE.out]; exact HM3.out⟩
  · obtain ⟨s2, hs2⟩ : ∃ s2, sp = s2 + z := ⟨sp - z, by omega⟩
    have hR0 : R = (0, m.mem, splice m.use s2 (List.replicate z false), s2) := by
     rw [HR.out, hs2]
     unfold pushV
     rw [if_neg (by omega), if_neg (by omega)]
     simp
    subst hR0
    obtain ⟨us, hus⟩ : ∃ us, us = splice m.use s2 (List.replicate z false) := ⟨_, rfl⟩
    rw [← hus] at HT2 HQ
    dsimp only at HT2 HQ
    have HUS := hQ hus
    have hus2 : us.length = n := by rw [hus, length_splice _ _ _ (by rw [List.length_replicate]; have := HL.out; omega)]; exact HL.out
    have HUL := hQ hus2
    clear hus hus2 hov
    obtain ⟨x0, x1, x2, -, -, -, xz⟩ := HQ.out.c3
    obtain ⟨m1, m18, m19, m20, m21, m22, m23, -, -, -, -, mf, hlt2⟩ := tcells HM2.out.blk
    have mf19 := mf 19
    have mf20 := mf 20
    have mf21 := mf 21
    have hqm2 : ¬ q = mb := by omega
    have hmq2 : ¬ mb = q := by omega
    clear m1 m18 mf
    go_upto_region 4 with (fail)
    obtain ⟨W3, hW3⟩ : ∃ W, W = ((W2.setCell ⟨mb, 19, none⟩ (.slice A' n c')).setCell ⟨mb, 20, none⟩ (.slice U' n d')).setCell ⟨mb, 21, none⟩ (.int .i64 (s2 : Int)) := ⟨_, rfl⟩
    rw [← hW3]
    have hg3 : W2.grownBy W3 (some mb) := by rw [hW3]; exact grownBy_trans (grown_mb _ _ _ _) (grownBy_trans (grown_mb _ _ _ _) (grown_mb _ _ _ _))
    obtain ⟨m2, hm2⟩ : ∃ m2, m2 = ({ m with use := us, sp := s2 } : Mx) := ⟨_, rfl⟩
    have HM3 : Hid (TAt W3 mb al (.slice (some ad) p.length cp) iv ⟨L.As, L.ca, L.At, L.ct, A', c', U', d'⟩ m2) := hQ (by
     have hr := HM2.out.rows.grow hg3
     have ht := HT2.out.grow hg3
     rw [hm2]
     refine ⟨?_, ⟨hr.acts, hr.tr, by show Rx _ _ _ _ _ m.mem.length _; rw [← HN.out]; exact ht.1, by show Rx _ _ _ _ _ us.length _; rw [HUL.out]; exact ht.2.1, ⟨hr.caps.1, hr.caps.2.1, by show m.mem.length ≤ c'; rw [← HN.out]; exact ht.2.2.1, by show us.length ≤ d'; rw [HUL.out]; exact ht.2.2.2⟩⟩⟩
     show Blk W3 mb _ (tcs al (.slice (some ad) p.length cp) iv (.slice L.As m.acts.length L.ca) (.slice A' m.mem.length c') (.slice U' us.length d') (.slice L.At m.trace.length L.ct) _)
     rw [HUL.out, ← HN.out, hW3]
     exact ((HM2.out.blk.set_ 19 _).set_ 20 _).set_ 21 _)
    have HG3 : Hid (W1.grownBy W3 (some mb)) := hQ (grownBy_trans (grownBy_of_below HB2.out _) hg3)
    have HQ3 : Hid (Blk W3 q 69 #[.slice A' n c', .slice U' n d', .int .i64 (s2 : Int)]) := hQ (HQ.out.grown hg3 (fun e => by injection e; omega))
    have HM2E := hQ hm2
    have hdp2 : m2.deep ≤ 1048576 := by rw [hm2]; exact hdp
    have htp2 : m2.tp ≤ 1048576 := by rw [hm2]; show m.tp ≤ _; omega
    have hsp2 : s2 ≤ m2.tp := by rw [hm2]; show s2 ≤ m.tp; have := HSP.out; omega
    clear hW3 hg3 hm2 HM2 HQ HT2 HB2 x0 x1 x2 xz m19 m20 m21 m22 m23 mf19 mf20 mf21 hlt2
    obtain ⟨x0, x1, x2, -, -, -, xz⟩ := HQ3.out.c3
    obtain ⟨-, m18, -, -, -, m22, m23, -, -, -, -, mf, hlt2⟩ := tcells HM3.out.blk
    have mf23 := mf 23
    obtain ⟨tp, htpe⟩ : ∃ q, q = m2.tp := ⟨_, rfl⟩
    obtain ⟨dp, hdpe⟩ : ∃ q, q = m2.deep := ⟨_, rfl⟩
    rw [← htpe] at m22 htp2 hsp2
    rw [← hdpe] at m23 hdp2
    have HTPE := hQ htpe
    have HDPE := hQ hdpe
    clear htpe hdpe m18 mf
    go_still_tail 15, (by kernel_rfl)
    change wpList _ _ _ _ _ W3.drew
    go_upto_region 5 with (fail)
    obtain ⟨D, hD⟩ : ∃ D : Nat, D = if dp < tp - s2 then tp - s2 else dp := ⟨_, rfl⟩
    have e9 : max (dp : Int) ((tp : Int) - (s2 : Int)) = (D : Int) := by
     rw [hD]
     split <;> omega
    rw [e9]
    obtain ⟨W4, hW4⟩ : ∃ W, W = (W3.setCell ⟨mb, 23, none⟩ (.int .i64 (D : Int))).drew := ⟨_, rfl⟩
    rw [← hW4]
    have hg4 : W3.grownBy W4 (some mb) := by rw [hW4]; exact grownBy_trans (grown_mb _ _ _ _) (grownBy_of_below (bR.drew) _)
    obtain ⟨m3, hm3⟩ : ∃ m3, m3 = ({ m2 with deep := D } : Mx) := ⟨_, rfl⟩
    have HM4 : Hid (TAt W4 mb al (.slice (some ad) p.length cp) iv ⟨L.As, L.ca, L.At, L.ct, A', c', U', d'⟩ m3) := hQ (by rw [hm3]; exact HM3.out.move hg4 (by rw [hW4]; exact (HM3.out.blk.set_ 23 _).drew) rfl rfl rfl rfl)
    have HG4 := hQ (grownBy_trans HG3.out hg4)
    have HM3E := hQ hm3
    have HDE := hQ hD
    obtain ⟨na, hna⟩ : ∃ k, k = m.acts.length := ⟨_, rfl⟩
    have ha3 : m3.acts = m.acts := by rw [hm3, HM2E.out]
    have hRX : Rx W4 (mb + 1) W4.heap.size 2 L.As na (m.acts.flatMap acR) := by have := HM4.out.rows.acts; rw [ha3, ← hna] at this; exact this
    obtain ⟨vs, hvs⟩ : ∃ vs, vs = m.acts.flatMap acR := ⟨_, rfl⟩
    have hO1 : ∀ u ∈ vs, u.oneCell' = true := by rw [hvs]; exact acR_one _
    rw [← hvs] at hRX
    have HRD := hQ hRX.1
    have HO1 := hQ hO1
    have HVS := hQ hvs
    have HNA := hQ hna
    have HA3 := hQ ha3
    have hna6 : na ≤ 1000000 := by omega
    clear hW4 hg4 hm3 hD hna ha3 hRX hvs hO1 HM3 HG3 x0 x1 x2 xz m22 m23 mf23 hlt2 e9
    obtain ⟨-, m18, -, -, -, -, -, -, -, -, -, -, hlt4⟩ := tcells HM4.out.blk
    rw [HA3.out, ← HNA.out] at m18
    dsimp only at m18
    go_wp2_with (first
     | (at_builtin; refine wpList_append_any _ rfl (.const (.slice none 0 0)) (.tmp 50) _ rfl W4.heap.size 126 i0 _ 2 16 Tryz.underlying92 hi0 hz0 hz2 hz3 rfl (by omega) (.slice none 0 0) 0 [] rfl (World.ownsRow_nil _ _ _ _) _ L.As na L.ca vs rfl HRD.out HO1.out (by unfold maxLen; omega) (by omega) nL ?_; intro o1 w5 own5' hg5' hat5'; have own5 : w5.ownsRow W4.heap.size 126 2 o1 na vs := (by simpa using own5'); obtain ⟨A5, c5, rfl, -⟩ := own_form own5; have HO5 := hQ own5; have HB5 : Hid (Below W4.heap.size W4 w5) := hQ (below_append bR (World.ownsRow_nil W4 W4.heap.size 126 2) hg5' nL (by simp)); clear own5 own5' hg5' hat5' m18)
     | (at_builtin; refine wpList_append_any _ rfl (.tmp 51) (.tmp 54) _ rfl W4.heap.size 126 i0 _ 2 16 Tryz.underlying92 hi0 hz0 hz2 hz3 rfl (by omega) _ na vs rfl (HO5.out.alloc _) (w5.heap.size + 1) (some ⟨w5.heap.size, 0, none⟩) 1 1 [.int .i64 (f : Int), .int .i64 0] rfl (show Reads (World.alloc w5 _) _ _ _ _ _ from reads_new1 rfl) (by simp [Value.oneCell']) (by unfold maxLen; omega) (by omega) (by have := HB5.out.size; simp; omega) ?_; intro v6 w6 own6 gX atX; clear atX; have HO6 := hQ own6; have HB6 : Hid (Below W4.heap.size W4 w6) := hQ ((HB5.out.alloc HB5.out.size _).trans (below_of_grownR gX (fun k hk => (HO5.out.lt k hk).1) (by have := HB5.out.size; simp; omega))); obtain ⟨A6, c6, rfl, -⟩ := own_form own6; obtain ⟨-, m18, -, -, -, -, -, -, -, -, -, mf, hlt6⟩ := tcells (HM4.out.after HB6.out).blk; have mf18 := mf 18; clear own6 gX mf))
    go_end0
    obtain ⟨W7, hW7⟩ : ∃ W, W = w6.setCell ⟨mb, 18, none⟩ (.slice A6 (na + 1) c6) := ⟨_, rfl⟩
    rw [← hW7]
    have hg7 : W4.grownBy W7 (some mb) := by rw [hW7]; exact grownBy_trans (grownBy_of_below HB6.out _) (grown_mb _ _ _ _)
    have he : RES = { m3 with acts := m3.acts ++ [⟨f, 0⟩] } := by
     rw [HRES.out, HM3E.out, HM2E.out, HDE.out, HDPE.out, HTPE.out, HM2E.out, HUS.out]
     unfold Mx.call
     rw [← HSP.out, if_neg (by omega), hs2, Nat.add_sub_cancel]
    have hl7 : (m3.acts ++ [(⟨f, 0⟩ : Ac)]).length = na + 1 := by rw [List.length_append, HA3.out, ← HNA.out]; rfl
    have hr7 := HM4.out.rows.grow hg7
    refine ⟨rfl, grownBy_trans HG4.out hg7, ⟨A6, c6, L.At, L.ct, A', c', U', d'⟩, ?_⟩
    rw [he]
    refine ⟨?_, ⟨?_, hr7.tr, hr7.by_, hr7.us_, ⟨?_, hr7.caps.2⟩⟩⟩
    · show Blk W7 mb _ (tcs al (.slice (some ad) p.length cp) iv (.slice A6 (m3.acts ++ [(⟨f, 0⟩ : Ac)]).length c6) _ _ _ _)
      rw [hl7, hW7]
      exact (HM4.out.after HB6.out).blk.set_ 18 _
    · show Rx W7 (mb + 1) W7.heap.size 2 A6 (m3.acts ++ [(⟨f, 0⟩ : Ac)]).length ((m3.acts ++ [(⟨f, 0⟩ : Ac)]).flatMap acR)
      rw [hl7, hW7, List.flatMap_append, HA3.out, ← HVS.out]
      exact ((Rx.of_own HO6.out).more (lo' := mb + 1) hlt4 nL).growM (grown_mb w6 mb 18 _)
    · show (m3.acts ++ [(⟨f, 0⟩ : Ac)]).length ≤ c6
      rw [hl7]
      exact (own_cap HO6.out).2
end
end Go.Proofs.YtcnndoefgjbmiaaGreat.pm
