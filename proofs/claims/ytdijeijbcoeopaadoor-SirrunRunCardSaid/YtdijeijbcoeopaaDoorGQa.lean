/- The reference's machine that runs source programs, as plain data; how it lies in memory. -/
import Derived.Test.YtdijeijbcoeopaaDoorGMt
import Derived.Test.YtdijeijbcoeopaaDoorGNj
set_option linter.unusedVariables false
set_option maxRecDepth 10000
set_option maxHeartbeats 8000000
namespace Go.Proofs.YtdijeijbcoeopaaDoor.pm
open Go.RowKit
structure As8 where
 f : Nat
 pc : Nat
 ss : List (Option (Nat × Nat))
 aa : List (Option (Nat × Nat))
def As8.z : As8 := ⟨0, 0, [], []⟩
structure Sx8 where
 regs : List (Nat × Nat)
 acts : List As8
 deep : Nat
 inp : List Nat
 kind : Int
 code : Nat
 res : Nat × Nat
 steps : Nat
 trace : List (Nat × Nat)
 ended : Bool
def Sx8.start (inp : List Nat) : Sx8 := ⟨List.replicate 8 (0, 0), [], 0, inp, 0, 0, (0, 0), 0, [], false⟩
def sg (s : Sx8) (i : Nat) : Nat × Nat := s.regs.getD i (0, 0)
namespace Sx8
def stop (s : Sx8) (k : Int) : Sx8 := { s with kind := k, ended := true }
def top (s : Sx8) : As8 := s.acts.getD (s.acts.length - 1) As8.z
def setTop (s : Sx8) (a : As8) : Sx8 := { s with acts := s.acts.set (s.acts.length - 1) a }
def enter (p : List Fn) (s : Sx8) (f : Nat) : Sx8 := { s with acts := s.acts ++ [⟨f, 0, List.replicate (p.getD f Fn.z).slots.length none, List.replicate 8 none⟩], deep := if s.deep < s.acts.length + 1 then s.acts.length + 1 else s.deep }
end Sx8
def cellV (o : Option (Nat × Nat)) : List Value := [.int .u64 (o.getD (0, 0)).1, .int .u64 (o.getD (0, 0)).2, .bool o.isSome]
theorem cellV_len (o : Option (Nat × Nat)) : (cellV o).length = 3 := rfl
def CX (w : World) (lo hi : Nat) (A : Option Addr) (cs : List (Option (Nat × Nat))) : Prop := Rx w lo hi 3 A cs.length (cs.flatMap cellV)
def SVx (w : World) (lo hi : Nat) (vs : List Value) (l : List As8) : Prop :=
 ∀ i, i < l.length → ∃ Sl c1 Ar c2, vs[i * 4]? = some (.int .i64 (l.getD i As8.z).f) ∧ vs[i * 4 + 1]? = some (.int .i64 (l.getD i As8.z).pc) ∧ vs[i * 4 + 2]? = some (.slice Sl (l.getD i As8.z).ss.length c1) ∧ vs[i * 4 + 3]? = some (.slice Ar (l.getD i As8.z).aa.length c2) ∧
  CX w lo hi Sl (l.getD i As8.z).ss ∧ CX w lo hi Ar (l.getD i As8.z).aa ∧ ((l.getD i As8.z).ss.length ≤ c1 ∧ (l.getD i As8.z).ss.length ≤ maxLen) ∧ ((l.getD i As8.z).aa.length ≤ c2 ∧ (l.getD i As8.z).aa.length ≤ maxLen)
section
variable {lo hi lo' hi' : Nat} {w w' : World} {A : Option Addr} {vs : List Value} {l : List As8} {cs : List (Option (Nat × Nat))}
theorem CX.keep (h : CX w lo hi A cs) (hk : Kp lo hi w w') : CX w' lo hi A cs := Rx.keep h hk
theorem CX.more (h : CX w lo hi A cs) (hl : lo' ≤ lo) (hh : hi ≤ hi') : CX w lo' hi' A cs := Rx.more h hl hh
theorem SVx.keep (h : SVx w lo hi vs l) (hk : Kp lo hi w w') : SVx w' lo hi vs l := fun i hi => by
 obtain ⟨Sl, c1, Ar, c2, h1, h2, h3, h4, h5, h6, h7⟩ := h i hi
 exact ⟨Sl, c1, Ar, c2, h1, h2, h3, h4, h5.keep hk, h6.keep hk, h7⟩
theorem SVx.more (h : SVx w lo hi vs l) (hl : lo' ≤ lo) (hh : hi ≤ hi') : SVx w lo' hi' vs l := fun i hi => by
 obtain ⟨Sl, c1, Ar, c2, h1, h2, h3, h4, h5, h6, h7⟩ := h i hi
 exact ⟨Sl, c1, Ar, c2, h1, h2, h3, h4, h5.more hl hh, h6.more hl hh, h7⟩
theorem CX.at_ {k : Nat} (h : CX w lo hi A cs) (hk : k < cs.length) : ∃ ad, A = some ad ∧ lo ≤ ad.block ∧ ad.block < hi ∧ w.cell? (ad.add (k * 3)) = some (.int .u64 ((cs.getD k none).getD (0, 0)).1) ∧ w.cell? ⟨(ad.add (k * 3)).block, (ad.add (k * 3)).off + 1, none⟩ = some (.int .u64 ((cs.getD k none).getD (0, 0)).2) ∧
 w.cell? ⟨(ad.add (k * 3)).block, (ad.add (k * 3)).off + 2, none⟩ = some (.bool (cs.getD k none).isSome) := by
 obtain ⟨ad, e, hb, hc⟩ := h.1.2 (by omega)
 have g0 : ∀ j, j < 3 → (cs.flatMap cellV)[k * 3 + j]? = (cellV (cs.getD k none))[j]? := fun j hj => flat_get cellV_len none cs k j (by omega) hj
 refine ⟨ad, e, h.2 ad e (by omega), hb, hc (k * 3) _ ?_, ?_, ?_⟩
 · simpa [cellV] using g0 0 (by omega)
 · rw [← add_pos _ 1 (by omega), add_of_add]; exact hc (k * 3 + 1) _ (by simpa [cellV] using g0 1 (by omega))
 · rw [← add_pos _ 2 (by omega), add_of_add]; exact hc (k * 3 + 2) _ (by simpa [cellV] using g0 2 (by omega))
end
def rcs (pv iv sv tv : Value) (s : Sx8) : Array Value :=
 #[pv, .int .u64 (sg s 0).1, .int .u64 (sg s 0).2, .int .u64 (sg s 1).1, .int .u64 (sg s 1).2, .int .u64 (sg s 2).1, .int .u64 (sg s 2).2, .int .u64 (sg s 3).1, .int .u64 (sg s 3).2,
  .int .u64 (sg s 4).1, .int .u64 (sg s 4).2, .int .u64 (sg s 5).1, .int .u64 (sg s 5).2, .int .u64 (sg s 6).1, .int .u64 (sg s 6).2, .int .u64 (sg s 7).1, .int .u64 (sg s 7).2,
  sv, iv, .int .i64 s.deep, .bool s.ended, .int .i64 s.kind, .int .u64 s.code, .int .u64 s.res.1, .int .u64 s.res.2, tv, .int .i64 s.steps]
structure SAt (w : World) (mb : Nat) (pv iv : Value) (As : Option Addr) (ca : Nat) (At : Option Addr) (ct : Nat) (s : Sx8) : Prop where
 blk : Blk w mb 83 (rcs pv iv (.slice As s.acts.length ca) (.slice At s.trace.length ct) s)
 acts : ∃ vs, Rx w (mb + 1) w.heap.size 4 As s.acts.length vs ∧ SVx w (mb + 1) w.heap.size vs s.acts
 tr : Rx w (mb + 1) w.heap.size 2 At s.trace.length (s.trace.flatMap vcl)
 caps : s.acts.length ≤ ca ∧ s.trace.length ≤ ct
section
variable {w w' : World} {mb ca ct : Nat} {pv iv x y : Value} {As At : Option Addr} {s : Sx8}
theorem sreg_cell (h : Blk w mb 83 (rcs pv iv x y s)) {r : Nat} (hr : r < 8) : w.cell? ⟨mb, 1 + r * 2, none⟩ = some (.int .u64 (sg s r).1) ∧ w.cell? ⟨mb, 1 + r * 2 + 1, none⟩ = some (.int .u64 (sg s r).2) := by
 have e : r = 0 ∨ r = 1 ∨ r = 2 ∨ r = 3 ∨ r = 4 ∨ r = 5 ∨ r = 6 ∨ r = 7 := by omega
 rcases e with rfl | rfl | rfl | rfl | rfl | rfl | rfl | rfl
 · exact ⟨h.cell 1, h.cell 2⟩
 · exact ⟨h.cell 3, h.cell 4⟩
 · exact ⟨h.cell 5, h.cell 6⟩
 · exact ⟨h.cell 7, h.cell 8⟩
 · exact ⟨h.cell 9, h.cell 10⟩
 · exact ⟨h.cell 11, h.cell 12⟩
 · exact ⟨h.cell 13, h.cell 14⟩
 · exact ⟨h.cell 15, h.cell 16⟩
theorem SAt.cells (h : SAt w mb pv iv As ca At ct s) : w.cell? ⟨mb, 0, none⟩ = some pv ∧ w.cell? ⟨mb, 17, none⟩ = some (.slice As s.acts.length ca) ∧ w.cell? ⟨mb, 18, none⟩ = some iv ∧ w.cell? ⟨mb, 19, none⟩ = some (.int .i64 s.deep) ∧ w.cell? ⟨mb, 20, none⟩ = some (.bool s.ended) ∧
 w.cell? ⟨mb, 25, none⟩ = some (.slice At s.trace.length ct) ∧ w.cell? ⟨mb, 26, none⟩ = some (.int .i64 s.steps) ∧ mb < w.heap.size :=
 ⟨h.blk.cell 0, h.blk.cell 17, h.blk.cell 18, h.blk.cell 19, h.blk.cell 20, h.blk.cell 25, h.blk.cell 26, h.blk.lt⟩
theorem SAt.mset (h : SAt w mb pv iv As ca At ct s) (j : Nat) (u : Value) (s' : Sx8) (ha : s'.acts = s.acts) (ht : s'.trace = s.trace)
 (e : (rcs pv iv (.slice As s.acts.length ca) (.slice At s.trace.length ct) s).setIfInBounds j u = rcs pv iv (.slice As s.acts.length ca) (.slice At s.trace.length ct) s') :
 SAt (w.setCell ⟨mb, j, none⟩ u) mb pv iv As ca At ct s' := by
 have hk : Kp (mb + 1) w.heap.size w (w.setCell ⟨mb, j, none⟩ u) := (Kp.refl _ _ _).set (.inl (by show mb < mb + 1; omega)) _
 have hz : (w.setCell ⟨mb, j, none⟩ u).heap.size = w.heap.size := by simp [World.setCell]
 obtain ⟨vs, h1, h2⟩ := h.acts
 refine ⟨?_, ⟨vs, ?_, ?_⟩, ?_, by rw [ha, ht]; exact h.caps⟩
 · rw [ha, ht, ← e]; exact h.blk.set_ j u
 · rw [ha, hz]; exact h1.keep hk
 · rw [ha, hz]; exact h2.keep hk
 · rw [ht, hz]; exact h.tr.keep hk
theorem SAt.after (h : SAt w mb pv iv As ca At ct s) (hb : Below w.heap.size w w') : SAt w' mb pv iv As ca At ct s := by
 have hk := Kp.of_below (lo := mb + 1) hb nL
 obtain ⟨vs, h1, h2⟩ := h.acts
 exact ⟨h.blk.after hb, ⟨vs, (h1.keep hk).more nL hb.size, (h2.keep hk).more nL hb.size⟩, (h.tr.keep hk).more nL hb.size, h.caps⟩
theorem SAt.rset (h : SAt w mb pv iv As ca At ct s) (hr8 : s.regs.length = 8) {r : Nat} (hr : r < 8) (v : Nat × Nat) :
 SAt ((w.setCell ⟨mb, 1 + r * 2, none⟩ (.int .u64 v.1)).setCell ⟨mb, 1 + r * 2 + 1, none⟩ (.int .u64 v.2)) mb pv iv As ca At ct { s with regs := s.regs.set r v } := by
 have h1 := h.mset (1 + r * 2) (.int .u64 v.1) { s with regs := s.regs.set r (v.1, (sg s r).2) } rfl rfl (by
  obtain ⟨regs, acts, deep, inp, kind, code, res, steps, trace, ended⟩ := s
  match regs, hr8 with
  | [r0, r1, r2, r3, r4, r5, r6, r7], _ =>
   have e : r = 0 ∨ r = 1 ∨ r = 2 ∨ r = 3 ∨ r = 4 ∨ r = 5 ∨ r = 6 ∨ r = 7 := by omega
   rcases e with rfl | rfl | rfl | rfl | rfl | rfl | rfl | rfl <;> rfl)
 have h2 := h1.mset (1 + r * 2 + 1) (.int .u64 v.2) { s with regs := s.regs.set r v } rfl rfl (by
  obtain ⟨regs, acts, deep, inp, kind, code, res, steps, trace, ended⟩ := s
  match regs, hr8 with
  | [r0, r1, r2, r3, r4, r5, r6, r7], _ =>
   have e : r = 0 ∨ r = 1 ∨ r = 2 ∨ r = 3 ∨ r = 4 ∨ r = 5 ∨ r = 6 ∨ r = 7 := by omega
   rcases e with rfl | rfl | rfl | rfl | rfl | rfl | rfl | rfl <;> rfl)
 exact h2
theorem SAt.restack (h : SAt w mb pv iv As ca At ct s) (hb : Below w.heap.size w w') {As' : Option Addr} {ca' : Nat} {acts' : List As8} (h' : ∃ vs, Rx w' (mb + 1) w'.heap.size 4 As' acts'.length vs ∧ SVx w' (mb + 1) w'.heap.size vs acts') (hc : acts'.length ≤ ca') :
 SAt (w'.setCell ⟨mb, 17, none⟩ (.slice As' acts'.length ca')) mb pv iv As' ca' At ct { s with acts := acts' } := by
 have hk : Kp (mb + 1) w'.heap.size w' (w'.setCell ⟨mb, 17, none⟩ (.slice As' acts'.length ca')) := (Kp.refl _ _ _).set (.inl (by show mb < mb + 1; omega)) _
 have hz : (w'.setCell ⟨mb, 17, none⟩ (.slice As' acts'.length ca')).heap.size = w'.heap.size := by simp [World.setCell]
 have h0 := h.after hb
 obtain ⟨vs, h1, h2⟩ := h'
 refine ⟨(h0.blk.set_ 17 _), ⟨vs, by rw [hz]; exact h1.keep hk, by rw [hz]; exact h2.keep hk⟩, by rw [hz]; exact h0.tr.keep hk, ⟨hc, h.caps.2⟩⟩
theorem grown_mb (w : World) (mb j : Nat) (u : Value) : w.grownBy (w.setCell ⟨mb, j, none⟩ u) (some mb) :=
 ⟨rfl, rfl, rfl, by simp [World.setCell], fun i hi hn => Below.heap_setCell w ⟨mb, j, none⟩ _ i (fun e => hn (by rw [e]))⟩
theorem SAt.move (h : SAt w mb pv iv As ca At ct s) (hg : w.grownBy w' (some mb)) {s' : Sx8} (hb : Blk w' mb 83 (rcs pv iv (.slice As s.acts.length ca) (.slice At s.trace.length ct) s')) (ha : s'.acts = s.acts) (ht : s'.trace = s.trace) : SAt w' mb pv iv As ca At ct s' := by
 have hk : Kp (mb + 1) w.heap.size w w' := Kp.of_grown hg nL (.inl (by omega))
 obtain ⟨vs, h1, h2⟩ := h.acts
 exact ⟨by rw [ha, ht]; exact hb, ⟨vs, by rw [ha]; exact (h1.keep hk).more nL hg.size, by rw [ha]; exact (h2.keep hk).more nL hg.size⟩, by rw [ht]; exact (h.tr.keep hk).more nL hg.size, by rw [ha, ht]; exact h.caps⟩
theorem send_any (w : World) (k : Int) (h : SAt w mb pv iv As ca At ct s) :
 Calls Tryd.prog 35 #[.pointer (some ⟨mb, 0, none⟩), .int .i64 k] w fun e w' => e = .returned (.tuple #[]) ∧ SAt w' mb pv iv As ca At ct (s.stop k) ∧ w.grownBy w' (some mb) := by
 have f0 := h.blk.frozen 21
 have f1 := h.blk.frozen 20
 have c0 : w.cell? ⟨mb, 21, none⟩ = some (.int .i64 s.kind) := h.blk.cell 21
 have c1 : w.cell? ⟨mb, 20, none⟩ = some (.bool s.ended) := h.blk.cell 20
 have hlt := h.blk.lt
 have HM := hQ h
 clear h
 go_enter Tryd.func35, Tryd.ntmps35
 go_wp2
 go_end0
 exact ⟨rfl, (HM.out.mset 21 (.int .i64 k) { s with kind := k } rfl rfl rfl).mset 20 (.bool true) (s.stop k) rfl rfl rfl, grownBy_trans (grown_mb _ _ _ _) (grown_mb _ _ _ _)⟩
def ReadD (mb : Nat) (pv iv : Value) (As : Option Addr) (ca : Nat) (At : Option Addr) (ct : Nat) (s : Sx8) (o : Option (Nat × Nat)) (w : World) (e : Ending) (w' : World) : Prop :=
 e = .returned (.agg #[.int .u64 (o.getD (0, 0)).1, .int .u64 (o.getD (0, 0)).2]) ∧ SAt w' mb pv iv As ca At ct (if o.isSome = true then s else s.stop 3) ∧ w.grownBy w' (some mb)
theorem sread_any (w : World) (o : Option (Nat × Nat)) (h : SAt w mb pv iv As ca At ct s) :
 Calls Tryd.prog 62 #[.pointer (some ⟨mb, 0, none⟩), .agg #[.int .u64 (o.getD (0, 0)).1, .int .u64 (o.getD (0, 0)).2, .bool o.isSome]] w (ReadD mb pv iv As ca At ct s o w) := by
 obtain ⟨v1, hv1⟩ : ∃ v1, v1 = (o.getD (0, 0)).1 := ⟨_, rfl⟩
 obtain ⟨v2, hv2⟩ : ∃ v2, v2 = (o.getD (0, 0)).2 := ⟨_, rfl⟩
 unfold ReadD
 rw [← hv1, ← hv2]
 obtain ⟨ok, hok⟩ : ∃ ok, ok = o.isSome := ⟨_, rfl⟩
 rw [← hok]
 obtain ⟨W1, hW1⟩ : ∃ W1, W1 = (w.alloc (.cells #[.int .u64 v1, .int .u64 v2, .bool ok] 118)).alloc (.cells #[.int .u64 0, .int .u64 0] 37) := ⟨_, rfl⟩
 have hB1 : Below w.heap.size w W1 := by rw [hW1]; exact (bR.alloc nL _).alloc (by simp) _
 have HK : Hid (Blk W1 w.heap.size 118 #[.int .u64 v1, .int .u64 v2, .bool ok]) := hQ (by rw [hW1]; exact (Blk.new _ _ _).alloc _)
 have HK4 : Hid (Blk W1 (w.heap.size + 1) 37 #[.int .u64 0, .int .u64 0]) := hQ (by rw [hW1]; exact Blk.newAt (by simp))
 have hlt0 := h.blk.lt
 have HM := hQ (h.after hB1)
 have HG1 : Hid (w.grownBy W1 (some mb)) := hQ (grownBy_of_below hB1 _)
 have HW1 := hQ hW1
 have H0 := hQ h
 have hsz : w.heap.size + 1 < W1.heap.size := HK4.out.lt
 clear h hW1 hB1 hv1 hv2 hok
 obtain ⟨x0, x1, x2, -, -, -, xz⟩ := HK.out.c3
 have hlt := HM.out.blk.lt
 have fin : ∀ (W : World) (s' : Sx8), w.grownBy W (some mb) → Blk W mb 83 (rcs pv iv (.slice As s.acts.length ca) (.slice At s.trace.length ct) s') → s'.acts = s.acts → s'.trace = s.trace →
  SAt ((W.setCell ⟨w.heap.size + 1, 0, none⟩ (.int .u64 v1)).setCell ⟨w.heap.size + 1, 1, none⟩ (.int .u64 v2)) mb pv iv As ca At ct s' ∧ w.grownBy ((W.setCell ⟨w.heap.size + 1, 0, none⟩ (.int .u64 v1)).setCell ⟨w.heap.size + 1, 1, none⟩ (.int .u64 v2)) (some mb) := fun W s' hg hb ha ht => by
  have hg' : w.grownBy ((W.setCell ⟨w.heap.size + 1, 0, none⟩ (.int .u64 v1)).setCell ⟨w.heap.size + 1, 1, none⟩ (.int .u64 v2)) (some mb) := grownBy_set (grownBy_set hg (Nat.le_succ _) _) (Nat.le_succ _) _
  exact ⟨H0.out.move hg' ((hb.far (p := ⟨w.heap.size + 1, 0, none⟩) (by show ¬ mb = w.heap.size + 1; omega) _).far (p := ⟨w.heap.size + 1, 1, none⟩) (by show ¬ mb = w.heap.size + 1; omega) _) ha ht, hg'⟩
 have FIN := hQ fin
 clear fin
 cases ok with
 | true =>
  obtain ⟨y0, y1, yf, yg, yz⟩ := HK4.out.c2
  go_enter Tryd.func62, Tryd.ntmps62
  go_upto_region 1 with (fail)
  rw [← HW1.out]
  go_wp2
  have hK9 := (HK4.out.set_ 0 (.int .u64 v1)).set_ 1 (.int .u64 v2)
  obtain ⟨r0, r1, -, -, -⟩ := Blk.c2 hK9
  refine bodyPost_ret (v := .agg #[.int .u64 v1, .int .u64 v2]) (by simp [results, Tryd.results62, go_sem, r0, r1]) rfl ?_
  exact ⟨rfl, FIN.out W1 s HG1.out HM.out.blk rfl rfl⟩
 | false =>
  go_enter Tryd.func62, Tryd.ntmps62
  go_upto_region 1 with (fail)
  rw [← HW1.out]
  go_wp2_with fail
  refine (send_any _ 3 HM.out).mono ?_
  rintro e w3 ⟨rfl, m3, g3⟩
  have HM3 := hQ m3
  have HG3 := hQ (grownBy_trans HG1.out g3)
  have HK3 := hQ (HK.out.grown g3 (some_ne (by omega)))
  have HK43 := hQ (HK4.out.grown g3 (some_ne (by omega)))
  clear m3 g3 x0 x1 x2 xz
  obtain ⟨x0, x1, x2, -, -, -, xz⟩ := HK3.out.c3
  obtain ⟨y0, y1, yf, yg, yz⟩ := HK43.out.c2
  go_wp2
  have hK9 := (HK43.out.set_ 0 (.int .u64 v1)).set_ 1 (.int .u64 v2)
  obtain ⟨r0, r1, -, -, -⟩ := Blk.c2 hK9
  refine bodyPost_ret (v := .agg #[.int .u64 v1, .int .u64 v2]) (by simp [results, Tryd.results62, go_sem, r0, r1]) rfl ?_
  exact ⟨rfl, FIN.out w3 (s.stop 3) HG3.out HM3.out.blk rfl rfl⟩
end
def Mx.pl0 (m : Mx) (x : Ins) : Mx := if x.op = 0 then { m with regs := m.regs.set x.a.toNat (x.imm.toNat, 0) } else m.plain x
namespace Sx8
def core (s : Sx8) : Mx := ⟨s.regs, [], [], 0, s.inp, s.kind, s.code, s.res, s.steps, s.trace, s.ended⟩
def pl (s : Sx8) (x : Ins) : Sx8 := { s with regs := (s.core.pl0 x).regs, inp := (s.core.pl0 x).inp, trace := (s.core.pl0 x).trace, kind := (s.core.pl0 x).kind, ended := (s.core.pl0 x).ended }
def ins (p : List Fn) (s : Sx8) : Ins := (p.getD s.top.f Fn.z).code.getD s.top.pc Ins.z
def newpc (p : List Fn) (s : Sx8) : Nat := if (s.ins p).op = 20 then (s.ins p).a.toNat else if (s.ins p).op = 21 ∧ (sg s (s.ins p).a.toNat).1 ≠ 0 then (s.ins p).b.toNat else s.top.pc + 1
def adv (p : List Fn) (s : Sx8) : Sx8 := { s.setTop { s.top with pc := s.newpc p } with steps := s.steps + 1 }
def take (s : Sx8) (r : Nat) (v : Option (Nat × Nat)) : Sx8 :=
 match v with
 | some v => { s with regs := s.regs.set r v }
 | none => s.stop 3
def putS (s : Sx8) (k : Nat) (v : Nat × Nat) : Sx8 := s.setTop { s.top with ss := s.top.ss.set k (some v) }
def putA (s : Sx8) (k : Nat) (v : Nat × Nat) : Sx8 := s.setTop { s.top with aa := s.top.aa.set k (some v) }
def moveIn (s : Sx8) (k : Nat) (v : Option (Nat × Nat)) : Sx8 :=
 match v with
 | some v => s.putS k v
 | none => s.stop 3
end Sx8
def stepS (p : List Fn) (s : Sx8) : Sx8 :=
 let x := s.ins p
 let k := s.adv p
 if x.op = 20 ∨ x.op = 21 then k
 else if x.op = 22 then k.enter p x.a.toNat
 else if x.op = 23 then if s.acts.length = 1 then ({ k with acts := [], res := sg k 0 } : Sx8).stop 0 else { k with acts := k.acts.take (s.acts.length - 1) }
 else if x.op = 24 then ({ k with code := x.imm.toNat } : Sx8).stop 1
 else if x.op = 15 then k.take x.a.toNat (k.top.ss.getD x.b.toNat none)
 else if x.op = 16 then k.putS x.a.toNat (vcut (sg k x.b.toNat) ((p.getD k.top.f Fn.z).slots.getD x.a.toNat (0, 0)).1)
 else if x.op = 17 then k.moveIn x.a.toNat (k.top.ss.getD x.b.toNat none)
 else if x.op = 18 then k.putA x.a.toNat (sg k x.b.toNat)
 else if x.op = 19 then k.take x.a.toNat ((k.acts.getD (s.acts.length - 2) As8.z).aa.getD x.b.toNat none)
 else k.pl x
section
variable {w w' : World} {mb ca ct lo hi : Nat} {pv iv : Value} {As At : Option Addr} {s : Sx8} {vs : List Value} {l : List As8}
theorem SAt.act_at (h : SAt w mb pv iv As ca At ct s) {i : Nat} (hi : i < s.acts.length) : ∃ ad Sl c1 Ar c2, As = some ad ∧ mb < ad.block ∧ ad.block < w.heap.size ∧ w.cell? (ad.add (i * 4)) = some (.int .i64 (s.acts.getD i As8.z).f) ∧
 w.cell? ⟨(ad.add (i * 4)).block, (ad.add (i * 4)).off + 1, none⟩ = some (.int .i64 (s.acts.getD i As8.z).pc) ∧ w.cell? ⟨(ad.add (i * 4)).block, (ad.add (i * 4)).off + 2, none⟩ = some (.slice Sl (s.acts.getD i As8.z).ss.length c1) ∧
 w.cell? ⟨(ad.add (i * 4)).block, (ad.add (i * 4)).off + 3, none⟩ = some (.slice Ar (s.acts.getD i As8.z).aa.length c2) ∧ CX w (mb + 1) w.heap.size Sl (s.acts.getD i As8.z).ss ∧ CX w (mb + 1) w.heap.size Ar (s.acts.getD i As8.z).aa ∧
 ((s.acts.getD i As8.z).ss.length ≤ c1 ∧ (s.acts.getD i As8.z).ss.length ≤ maxLen) ∧ ((s.acts.getD i As8.z).aa.length ≤ c2 ∧ (s.acts.getD i As8.z).aa.length ≤ maxLen) := by
 obtain ⟨vs, hr, hv⟩ := h.acts
 obtain ⟨Sl, c1, Ar, c2, e1, e2, e3, e4, q1, q2, q3, q4⟩ := hv i hi
 obtain ⟨ad, e, hb, hc⟩ := hr.1.2 (by omega)
 refine ⟨ad, Sl, c1, Ar, c2, e, hr.2 ad e (by omega), hb, hc _ _ e1, ?_, ?_, ?_, q1, q2, q3, q4⟩
 · rw [← add_pos _ 1 (by omega), add_of_add]; exact hc (i * 4 + 1) _ e2
 · rw [← add_pos _ 2 (by omega), add_of_add]; exact hc (i * 4 + 2) _ e3
 · rw [← add_pos _ 3 (by omega), add_of_add]; exact hc (i * 4 + 3) _ e4
def set4 (vs : List Value) (t : Nat) (v0 v1 v2 v3 : Value) : List Value := (((vs.set (t * 4) v0).set (t * 4 + 1) v1).set (t * 4 + 2) v2).set (t * 4 + 3) v3
theorem set4_ne (vs : List Value) {t j : Nat} (v0 v1 v2 v3 : Value) (h : j < t * 4 ∨ t * 4 + 4 ≤ j) : (set4 vs t v0 v1 v2 v3)[j]? = vs[j]? := by
 unfold set4
 rw [List.getElem?_set_ne (by omega), List.getElem?_set_ne (by omega), List.getElem?_set_ne (by omega), List.getElem?_set_ne (by omega)]
theorem set4_at (vs : List Value) {t : Nat} (v0 v1 v2 v3 : Value) (h : t * 4 + 4 ≤ vs.length) : (set4 vs t v0 v1 v2 v3)[t * 4]? = some v0 ∧ (set4 vs t v0 v1 v2 v3)[t * 4 + 1]? = some v1 ∧ (set4 vs t v0 v1 v2 v3)[t * 4 + 2]? = some v2 ∧ (set4 vs t v0 v1 v2 v3)[t * 4 + 3]? = some v3 := by
 unfold set4
 refine ⟨?_, ?_, ?_, ?_⟩
 · rw [List.getElem?_set_ne (by omega), List.getElem?_set_ne (by omega), List.getElem?_set_ne (by omega), List.getElem?_set_self (by omega)]
 · rw [List.getElem?_set_ne (by omega), List.getElem?_set_ne (by omega), List.getElem?_set_self (by rw [List.length_set]; omega)]
 · rw [List.getElem?_set_ne (by omega), List.getElem?_set_self (by rw [List.length_set, List.length_set]; omega)]
 · rw [List.getElem?_set_self (by rw [List.length_set, List.length_set, List.length_set]; omega)]
theorem SVx.set (h : SVx w lo hi vs l) (hl : vs.length = l.length * 4) {t : Nat} (ht : t < l.length) (a : As8) {Sl Ar : Option Addr} {c1 c2 : Nat} (hs : CX w lo hi Sl a.ss) (ha : CX w lo hi Ar a.aa) (k1 : a.ss.length ≤ c1 ∧ a.ss.length ≤ maxLen) (k2 : a.aa.length ≤ c2 ∧ a.aa.length ≤ maxLen) :
 SVx w lo hi (set4 vs t (.int .i64 a.f) (.int .i64 a.pc) (.slice Sl a.ss.length c1) (.slice Ar a.aa.length c2)) (l.set t a) := by
 intro i hi
 rw [List.length_set] at hi
 by_cases e : t = i
 · subst e
   have hg : (l.set t a).getD t As8.z = a := by rw [List.getD_eq_getElem?_getD, List.getElem?_set_self ht]; rfl
   rw [hg]
   obtain ⟨g0, g1, g2, g3⟩ := set4_at vs (t := t) (.int .i64 a.f) (.int .i64 a.pc) (.slice Sl a.ss.length c1) (.slice Ar a.aa.length c2) (by omega)
   exact ⟨Sl, c1, Ar, c2, g0, g1, g2, g3, hs, ha, k1, k2⟩
 · have hg : (l.set t a).getD i As8.z = l.getD i As8.z := by rw [List.getD_eq_getElem?_getD, List.getElem?_set_ne e, ← List.getD_eq_getElem?_getD]
   rw [hg]
   obtain ⟨Sl', c1', Ar', c2', e1, e2, e3, e4, q⟩ := h i hi
   exact ⟨Sl', c1', Ar', c2', (set4_ne _ _ _ _ _ (by omega)).trans e1, (set4_ne _ _ _ _ _ (by omega)).trans e2, (set4_ne _ _ _ _ _ (by omega)).trans e3, (set4_ne _ _ _ _ _ (by omega)).trans e4, q⟩
theorem own_set4 {base g n c : Nat} {e : TypeId} (h : w.ownsRow base e 4 (.slice (some ⟨g, 0, none⟩) n c) n vs) (t : Nat) (v0 v1 v2 v3 : Value) :
 ((((w.setCell ⟨g, t * 4, none⟩ v0).setCell ⟨g, t * 4 + 1, none⟩ v1).setCell ⟨g, t * 4 + 2, none⟩ v2).setCell ⟨g, t * 4 + 3, none⟩ v3).ownsRow base e 4 (.slice (some ⟨g, 0, none⟩) n c) n (set4 vs t v0 v1 v2 v3) :=
 ((((h.stored (t * 4) v0).1.stored (t * 4 + 1) v1).1.stored (t * 4 + 2) v2).1.stored (t * 4 + 3) v3).1
theorem SAt.relay {W5 : World} {g c : Nat} (h : SAt w mb pv iv As ca At ct s) (hb : Below w.heap.size w W5) (hrx : Rx w (mb + 1) w.heap.size 4 As s.acts.length vs) (hv : SVx w (mb + 1) w.heap.size vs s.acts)
 (own : W5.ownsRow w.heap.size 100 4 (.slice (some ⟨g, 0, none⟩) s.acts.length c) s.acts.length vs) {t : Nat} (ht : t < s.acts.length) (a : As8) {Sl Ar : Option Addr} {c1 c2 : Nat}
 (hs : CX w (mb + 1) w.heap.size Sl a.ss) (ha : CX w (mb + 1) w.heap.size Ar a.aa) (k1 : a.ss.length ≤ c1 ∧ a.ss.length ≤ maxLen) (k2 : a.aa.length ≤ c2 ∧ a.aa.length ≤ maxLen) :
 SAt (((((W5.setCell ⟨g, t * 4, none⟩ (.int .i64 a.f)).setCell ⟨g, t * 4 + 1, none⟩ (.int .i64 a.pc)).setCell ⟨g, t * 4 + 2, none⟩ (.slice Sl a.ss.length c1)).setCell ⟨g, t * 4 + 3, none⟩ (.slice Ar a.aa.length c2)).setCell ⟨mb, 17, none⟩ (.slice (some ⟨g, 0, none⟩) s.acts.length c)) mb pv iv (some ⟨g, 0, none⟩) c At ct { s with acts := s.acts.set t a } := by
 have hmb : mb < w.heap.size := h.blk.lt
 have hg : w.heap.size ≤ g := (own.lt g rfl).1
 have B6 : Below w.heap.size w ((((W5.setCell ⟨g, t * 4, none⟩ (.int .i64 a.f)).setCell ⟨g, t * 4 + 1, none⟩ (.int .i64 a.pc)).setCell ⟨g, t * 4 + 2, none⟩ (.slice Sl a.ss.length c1)).setCell ⟨g, t * 4 + 3, none⟩ (.slice Ar a.aa.length c2)) :=
  (((hb.setCell hg _).setCell hg _).setCell hg _).setCell hg _
 have own6 := own_set4 own t (.int .i64 a.f) (.int .i64 a.pc) (.slice Sl a.ss.length c1) (.slice Ar a.aa.length c2)
 have hk := Kp.of_below (lo := mb + 1) B6 nL
 have hvl : vs.length = s.acts.length * 4 := hrx.1.1
 have hl : (s.acts.set t a).length = s.acts.length := List.length_set ..
 have := h.restack B6 (As' := some ⟨g, 0, none⟩) (ca' := c) (acts' := s.acts.set t a) ⟨_, by rw [hl]; exact (Rx.of_own own6).more (by omega) nL, ((hv.keep hk).more nL B6.size).set hvl ht a ((hs.keep hk).more nL B6.size) ((ha.keep hk).more nL B6.size) k1 k2⟩ (by rw [hl]; exact (own_cap own).2)
 rw [hl] at this
 exact this
end
end Go.Proofs.YtdijeijbcoeopaaDoor.pm
