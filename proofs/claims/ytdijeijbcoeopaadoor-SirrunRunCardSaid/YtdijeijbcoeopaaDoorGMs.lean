/- The machine that runs source programs, as plain data; how it lies in memory. -/
import Derived.Test.YtdijeijbcoeopaaDoorGPm
import Derived.BigQuiet
import Derived.Deep.QuietTactic
import Derived.Deep.RegionHeld3
import Derived.Deep.RegionLaw
set_option linter.unusedVariables false
set_option maxRecDepth 10000
set_option maxHeartbeats 8000000
namespace Go.Proofs.YtdijeijbcoeopaaDoor.pm
open Go.RowKit
theorem own_miss8 {w : World} {base n : Nat} {e : TypeId} {size : Nat} {v : Value} {xs : List Value} (h : w.ownsRow base e size v n xs) (p : Addr) (hp : ∀ j, v.ownBlock = some j → j ≠ p.block) (u : Value) : (w.setCell p u).ownsRow base e size v n xs := by
 refine ⟨h.1, ?_⟩
 rcases h.2 with h1 | ⟨g, cap, cur, rfl, h2, h3, r⟩
 · exact .inl h1
 · refine .inr ⟨g, cap, cur, rfl, h2, ?_, r⟩
   exact (Below.heap_setCell w p u g (hp g rfl)).trans h3
structure Ac where
 f : Nat
 pc : Nat
 ms : Option Nat
 ma : Option Nat
def Ac.z : Ac := ⟨0, 0, none, none⟩
structure Mx where
 regs : List (Nat × Nat)
 acts : List Ac
 hp : List (List (Int × (Nat × Nat)))
 deep : Nat
 inp : List Nat
 kind : Int
 code : Nat
 res : Nat × Nat
 steps : Nat
 trace : List (Nat × Nat)
 ended : Bool
def Mx.start (inp : List Nat) : Mx := ⟨List.replicate 8 (0, 0), [], [], 0, inp, 0, 0, (0, 0), 0, [], false⟩
namespace Mx
def call (m : Mx) (f : Nat) : Mx := { m with acts := m.acts ++ [⟨f, 0, none, none⟩], deep := if m.deep < m.acts.length + 1 then m.acts.length + 1 else m.deep }
def stop (m : Mx) (k : Int) : Mx := { m with kind := k, ended := true }
def look (m : Mx) (o : Option Nat) (k : Int) : Option (Nat × Nat) :=
 match o with
 | none => none
 | some i => (m.hp.getD i []).lookup k
def take (m : Mx) (r : Nat) (v : Option (Nat × Nat)) : Mx :=
 match v with
 | some v => { m with regs := m.regs.set r v }
 | none => m.stop 3
def top (m : Mx) : Ac := m.acts.getD (m.acts.length - 1) Ac.z
def setTop (m : Mx) (a : Ac) : Mx := { m with acts := m.acts.set (m.acts.length - 1) a }
def defS (m : Mx) (k : Int) (v : Nat × Nat) : Mx :=
 match m.top.ms with
 | some j => { m with hp := m.hp.set j ((k, v) :: m.hp.getD j []) }
 | none => { m.setTop { m.top with ms := some m.hp.length } with hp := m.hp ++ [[(k, v)]] }
def defA (m : Mx) (k : Int) (v : Nat × Nat) : Mx :=
 match m.top.ma with
 | some j => { m with hp := m.hp.set j ((k, v) :: m.hp.getD j []) }
 | none => { m.setTop { m.top with ma := some m.hp.length } with hp := m.hp ++ [[(k, v)]] }
end Mx
def vcl (x : Nat × Nat) : List Value := [.int .u64 x.1, .int .u64 x.2]
def acV (ad : Addr) (bl : List Nat) (a : Ac) : List Value := [.pointer (some (ad.add (a.f * 3))), .int .i64 a.pc, .map (a.ms.map fun i => bl.getD i 0), .map (a.ma.map fun i => bl.getD i 0)]
theorem acV_len (ad : Addr) (bl : List Nat) (a : Ac) : (acV ad bl a).length = 4 := rfl
def rg (m : Mx) (i : Nat) : Nat × Nat := m.regs.getD i (0, 0)
def mcs (pv iv sv tv : Value) (m : Mx) : Array Value :=
 #[pv, iv, .int .u64 (rg m 0).1, .int .u64 (rg m 0).2, .int .u64 (rg m 1).1, .int .u64 (rg m 1).2, .int .u64 (rg m 2).1, .int .u64 (rg m 2).2, .int .u64 (rg m 3).1, .int .u64 (rg m 3).2,
  .int .u64 (rg m 4).1, .int .u64 (rg m 4).2, .int .u64 (rg m 5).1, .int .u64 (rg m 5).2, .int .u64 (rg m 6).1, .int .u64 (rg m 6).2, .int .u64 (rg m 7).1, .int .u64 (rg m 7).2,
  sv, .int .i64 m.deep, .int .i64 m.kind, .int .u64 m.code, .int .u64 m.res.1, .int .u64 m.res.2, tv, .int .i64 m.steps, .bool m.ended]
structure MAt (w : World) (B n mb : Nat) (ad : Addr) (pv iv : Value) (As : Option Addr) (cs : Nat) (At : Option Addr) (ct : Nat) (bl : List Nat) (m : Mx) : Prop where
 blk : Blk w mb 71 (mcs pv iv (.slice As m.acts.length cs) (.slice At m.trace.length ct) m)
 hmb : B ≤ mb
 own : w.ownsRow B 90 4 (.slice As m.acts.length cs) m.acts.length (m.acts.flatMap (acV ad bl))
 tr : w.ownsRow B 37 2 (.slice At m.trace.length ct) m.trace.length (m.trace.flatMap vcl)
 bll : bl.length = m.hp.length
 nd : bl.Nodup
 maps : ∀ i, i < bl.length → B ≤ bl.getD i 0 ∧ Mp w (bl.getD i 0) n (m.hp.getD i [])
structure Wf (p : List Fn) (m : Mx) : Prop where
 regs : m.regs.length = 8
 live : ∀ a ∈ m.acts, a.f < p.length ∧ a.pc < (p.getD a.f Fn.z).code.length ∧ (∀ i, a.ms = some i → i < m.hp.length) ∧ (∀ i, a.ma = some i → i < m.hp.length)
 some_ : 1 ≤ m.acts.length
section
variable {w w' : World} {B n mb cs ct : Nat} {ad : Addr} {pv iv x y : Value} {As At : Option Addr} {bl : List Nat} {m : Mx}
theorem MAt.cells (h : MAt w B n mb ad pv iv As cs At ct bl m) : w.cell? ⟨mb, 0, none⟩ = some pv ∧ w.cell? ⟨mb, 1, none⟩ = some iv ∧ w.cell? ⟨mb, 18, none⟩ = some (.slice As m.acts.length cs) ∧ w.cell? ⟨mb, 19, none⟩ = some (.int .i64 m.deep) ∧
 w.cell? ⟨mb, 24, none⟩ = some (.slice At m.trace.length ct) ∧ w.cell? ⟨mb, 25, none⟩ = some (.int .i64 m.steps) ∧ w.cell? ⟨mb, 26, none⟩ = some (.bool m.ended) ∧ mb < w.heap.size :=
 ⟨h.blk.cell 0, h.blk.cell 1, h.blk.cell 18, h.blk.cell 19, h.blk.cell 24, h.blk.cell 25, h.blk.cell 26, h.blk.lt⟩
theorem reg_cell (h : Blk w mb 71 (mcs pv iv x y m)) {r : Nat} (hr : r < 8) : w.cell? ⟨mb, 2 + r * 2, none⟩ = some (.int .u64 (rg m r).1) ∧ w.cell? ⟨mb, 2 + r * 2 + 1, none⟩ = some (.int .u64 (rg m r).2) := by
 have e : r = 0 ∨ r = 1 ∨ r = 2 ∨ r = 3 ∨ r = 4 ∨ r = 5 ∨ r = 6 ∨ r = 7 := by omega
 rcases e with rfl | rfl | rfl | rfl | rfl | rfl | rfl | rfl
 · exact ⟨h.cell 2, h.cell 3⟩
 · exact ⟨h.cell 4, h.cell 5⟩
 · exact ⟨h.cell 6, h.cell 7⟩
 · exact ⟨h.cell 8, h.cell 9⟩
 · exact ⟨h.cell 10, h.cell 11⟩
 · exact ⟨h.cell 12, h.cell 13⟩
 · exact ⟨h.cell 14, h.cell 15⟩
 · exact ⟨h.cell 16, h.cell 17⟩
theorem MAt.mb_own (h : MAt w B n mb ad pv iv As cs At ct bl m) : (Value.slice As m.acts.length cs).ownBlock ≠ some mb := fun e => by
 rcases h.own.2 with ⟨h0, -⟩ | ⟨g, cap, cur, h0, -, h2, -⟩
 · rw [h0] at e; cases e
 · rw [h0] at e
   have e' : g = mb := by simpa [Value.ownBlock] using e
   have hb : w.heap[mb]? = some (.cells (mcs pv iv (.slice As m.acts.length cs) (.slice At m.trace.length ct) m) 71 (0, 0)) := h.blk
   rw [e', hb] at h2
   injection h2 with h2
   injection h2 with _ h3
   exact absurd h3 (by decide)
theorem MAt.mb_tr (h : MAt w B n mb ad pv iv As cs At ct bl m) : (Value.slice At m.trace.length ct).ownBlock ≠ some mb := fun e => by
 rcases h.tr.2 with ⟨h0, -⟩ | ⟨g, cap, cur, h0, -, h2, -⟩
 · rw [h0] at e; cases e
 · rw [h0] at e
   have e' : g = mb := by simpa [Value.ownBlock] using e
   have hb : w.heap[mb]? = some (.cells (mcs pv iv (.slice As m.acts.length cs) (.slice At m.trace.length ct) m) 71 (0, 0)) := h.blk
   rw [e', hb] at h2
   injection h2 with h2
   injection h2 with _ h3
   exact absurd h3 (by decide)
theorem Mp.ne_cells {b g : Nat} {L : List (Int × (Nat × Nat))} {cur : Array Value} {t : TypeId} {f : Nat × Nat} (h : Mp w b n L) (hg : w.heap[g]? = some (.cells cur t f)) : b ≠ g := fun e => by
 obtain ⟨D, ⟨es, clock, hb, _⟩, _⟩ := h
 subst e
 rw [hg] at hb
 cases hb
theorem own_heap {b e s k : Nat} {v : Value} {xs : List Value} (h : w.ownsRow b e s v k xs) {gb : Nat} (hg : v.ownBlock = some gb) : ∃ cur, w.heap[gb]? = some (.cells cur e (0, 0)) := by
 rcases h.2 with ⟨h0, -⟩ | ⟨g, cap, cur, h0, -, h2, -⟩
 · rw [h0] at hg; cases hg
 · rw [h0] at hg
   have e' : g = gb := by simpa [Value.ownBlock] using hg
   subst e'
   exact ⟨cur, h2⟩
theorem MAt.mset (h : MAt w B n mb ad pv iv As cs At ct bl m) (j : Nat) (u : Value) (m' : Mx)
 (ha : m'.acts = m.acts) (ht : m'.trace = m.trace) (hp : m'.hp = m.hp) (e : (mcs pv iv (.slice As m.acts.length cs) (.slice At m.trace.length ct) m).setIfInBounds j u = mcs pv iv (.slice As m.acts.length cs) (.slice At m.trace.length ct) m') :
 MAt (w.setCell ⟨mb, j, none⟩ u) B n mb ad pv iv As cs At ct bl m' := by
 refine ⟨?_, h.hmb, ?_, ?_, by rw [hp]; exact h.bll, h.nd, fun i hi => ?_⟩
 · rw [ha, ht, ← e]; exact h.blk.set_ j u
 · rw [ha]; exact own_miss8 h.own _ (fun j e => by have := h.mb_own; intro e'; exact this (by rw [e, e'])) u
 · rw [ht]; exact own_miss8 h.tr _ (fun j e => by have := h.mb_tr; intro e'; exact this (by rw [e, e'])) u
 · rw [hp]
   have hb : w.heap[mb]? = some (.cells (mcs pv iv (.slice As m.acts.length cs) (.slice At m.trace.length ct) m) 71 (0, 0)) := h.blk
   exact ⟨(h.maps i hi).1, (h.maps i hi).2.setCell (a := ⟨mb, j, none⟩) ((h.maps i hi).2.ne_cells hb) u⟩
theorem MAt.after (h : MAt w B n mb ad pv iv As cs At ct bl m) (hb : Below w.heap.size w w') : MAt w' B n mb ad pv iv As cs At ct bl m := by
 have hg : w.grownBy w' none := ⟨hb.os, hb.tape, hb.output, hb.size, fun i hi _ => hb.block i hi⟩
 exact ⟨h.blk.after hb, h.hmb, h.own.kept hg (by cases (Value.slice As m.acts.length cs).ownBlock <;> simp), h.tr.kept hg (by cases (Value.slice At m.trace.length ct).ownBlock <;> simp), h.bll, h.nd, fun i hi => ⟨(h.maps i hi).1, (h.maps i hi).2.kept hg (by simp)⟩⟩
theorem MAt.mono (h : MAt w B n mb ad pv iv As cs At ct bl m) {n' : Nat} (hn : n ≤ n') : MAt w B n' mb ad pv iv As cs At ct bl m :=
 ⟨h.blk, h.hmb, h.own, h.tr, h.bll, h.nd, fun i hi => ⟨(h.maps i hi).1, (h.maps i hi).2.mono hn⟩⟩
theorem blk_own_ne {g t e s k gb : Nat} {cs : Array Value} {v : Value} {xs : List Value} {b : Nat} (h : Blk w g t cs) (ho : w.ownsRow b e s v k xs) (hne : t ≠ e) : v.ownBlock ≠ some g := fun hg => by
 obtain ⟨cur, h2⟩ := own_heap ho hg
 have hb : w.heap[g]? = some (.cells cs t (0, 0)) := h
 rw [hb] at h2
 injection h2 with h2
 injection h2 with _ h3
 exact hne h3
theorem own_own_ne {e e' s s' k k' b b' : Nat} {v v' : Value} {xs xs' : List Value} (h : w.ownsRow b e s v k xs) (h' : w.ownsRow b' e' s' v' k' xs') (hne : e ≠ e') : v.ownBlock = none ∨ v.ownBlock ≠ v'.ownBlock := by
 cases hv : v.ownBlock with
 | none => exact .inl rfl
 | some g =>
  refine .inr fun hg => ?_
  obtain ⟨c1, h1⟩ := own_heap h hv
  obtain ⟨c2, h2⟩ := own_heap h' hg.symm
  rw [h1] at h2
  injection h2 with h2
  injection h2 with _ h3
  exact hne h3
theorem MAt.restack (h : MAt w B n mb ad pv iv As cs At ct bl m) (hg : w.grownBy w' (Value.slice As m.acts.length cs).ownBlock) {As' : Option Addr} {cs' : Nat} {acts' : List Ac}
 (own' : w'.ownsRow B 90 4 (.slice As' acts'.length cs') acts'.length (acts'.flatMap (acV ad bl))) (m' : Mx) (ha : m'.acts = acts') (ht : m'.trace = m.trace) (hp : m'.hp = m.hp)
 (e : (mcs pv iv (.slice As m.acts.length cs) (.slice At m.trace.length ct) m).setIfInBounds 18 (.slice As' acts'.length cs') = mcs pv iv (.slice As' acts'.length cs') (.slice At m.trace.length ct) m') :
 MAt (w'.setCell ⟨mb, 18, none⟩ (.slice As' acts'.length cs')) B n mb ad pv iv As' cs' At ct bl m' := by
 have hb' := h.blk.grown hg (fun e => h.mb_own e.symm)
 have htr : w'.ownsRow B 37 2 (.slice At m.trace.length ct) m.trace.length (m.trace.flatMap vcl) := h.tr.kept hg (own_own_ne h.tr h.own (by decide))
 refine ⟨?_, h.hmb, ?_, ?_, by rw [hp]; exact h.bll, h.nd, fun i hi => ?_⟩
 · rw [ha, ht, ← e]; exact hb'.set_ 18 _
 · rw [ha]; exact own_miss8 own' _ (fun j e e' => blk_own_ne (gb := 0) hb' own' (by decide) (by rw [e, e'])) _
 · rw [ht]; exact own_miss8 htr _ (fun j e e' => blk_own_ne (gb := 0) hb' htr (by decide) (by rw [e, e'])) _
 · rw [hp]
   have hbb : w'.heap[mb]? = some (.cells (mcs pv iv (.slice As m.acts.length cs) (.slice At m.trace.length ct) m) 71 (0, 0)) := hb'
   have hm : Mp w' (bl.getD i 0) n (m.hp.getD i []) := (h.maps i hi).2.kept hg (fun e => by
    obtain ⟨cur, h2⟩ := own_heap h.own e.symm
    exact (h.maps i hi).2.ne_cells h2 rfl)
   exact ⟨(h.maps i hi).1, hm.setCell (a := ⟨mb, 18, none⟩) (hm.ne_cells hbb) _⟩
theorem reads_new1 {w : World} {size n : Nat} {t : TypeId} {cs : List Value} (hs : cs.length = n * size) : Reads (w.alloc (.cells cs.toArray t)) (w.heap.size + 1) size (some ⟨w.heap.size, 0, none⟩) n cs :=
 ⟨hs, fun _ => ⟨_, rfl, by simp, fun j u hu => by
  have h := Blk.cell (Blk.new w t cs.toArray) j
  rw [show (⟨w.heap.size, 0, none⟩ : Addr).add j = ⟨w.heap.size, j, none⟩ by unfold Addr.add; by_cases hj : j = 0 <;> simp [hj], h]
  simpa using hu⟩⟩
theorem grownBy_transR {a b c : World} {r : Option Nat} (h : a.grownBy b r) (k : b.grownBy c r) : a.grownBy c r :=
 ⟨k.os.trans h.os, k.tape.trans h.tape, k.output.trans h.output, Nat.le_trans h.size k.size, fun i hi hn => (k.block i (Nat.lt_of_lt_of_le hi h.size) hn).trans (h.block i hi hn)⟩
theorem below_of_grownR {B : Nat} {a b : World} {r : Option Nat} (h : a.grownBy b r) (hr : ∀ k, r = some k → B ≤ k) (hB : B ≤ a.heap.size) : Below B a b :=
 ⟨h.os, h.tape, h.output, h.size, fun i hi => h.block i (Nat.lt_of_lt_of_le hi hB) (fun e => by have := hr i e.symm; omega)⟩
theorem MAt.push (h : MAt w B n mb ad pv iv As cs At ct bl m) (hg : w.grownBy w' (Value.slice As m.acts.length cs).ownBlock) {A6 : Option Addr} {c6 f : Nat}
 (own' : w'.ownsRow B 90 4 (.slice A6 (m.acts.length + 1) c6) (m.acts.length + 1) (m.acts.flatMap (acV ad bl) ++ [.pointer (some (ad.add (f * 3))), .int .i64 0, .map none, .map none])) :
 MAt (w'.setCell ⟨mb, 18, none⟩ (.slice A6 (m.acts.length + 1) c6)) B n mb ad pv iv A6 c6 At ct bl { m with acts := m.acts ++ [⟨f, 0, none, none⟩] } := by
 have hl : (m.acts ++ [(⟨f, 0, none, none⟩ : Ac)]).length = m.acts.length + 1 := by simp
 have ho : w'.ownsRow B 90 4 (.slice A6 (m.acts ++ [(⟨f, 0, none, none⟩ : Ac)]).length c6) (m.acts ++ [(⟨f, 0, none, none⟩ : Ac)]).length ((m.acts ++ [(⟨f, 0, none, none⟩ : Ac)]).flatMap (acV ad bl)) := by
  rw [hl, List.flatMap_append]; exact own'
 have := h.restack hg ho { m with acts := m.acts ++ [⟨f, 0, none, none⟩] } rfl rfl rfl rfl
 rw [hl] at this
 exact this
theorem set_top_flat {f : Ac → List Value} (hf : ∀ a, (f a).length = 4) {l : List Ac} {t j : Nat} (ht : t < l.length) (hj : j < 4) {u : Value} {a' : Ac} (e : (f (l.getD t Ac.z)).set j u = f a') :
 (l.flatMap f).set (t * 4 + j) u = (l.set t a').flatMap f := by
 induction l generalizing t with
 | nil => simp at ht
 | cons x r ih =>
  cases t with
  | zero =>
   rw [List.flatMap_cons, sZ, List.flatMap_cons, Nat.zero_mul, Nat.zero_add, List.set_append_left _ _ (by rw [hf]; exact hj)]
   rw [← e]; rfl
  | succ t =>
   rw [List.flatMap_cons, sS, List.flatMap_cons, List.set_append_right _ _ (by rw [hf]; omega), show (t + 1) * 4 + j - (f x).length = t * 4 + j by rw [hf]; omega, ih (by simpa using ht) (by simpa using e)]
theorem MAt.aset {g t : Nat} (h : MAt w B n mb ad pv iv (some ⟨g, 0, none⟩) cs At ct bl m) (ht : m.acts.length = t + 1) {j : Nat} (hj : j < 4) (u : Value) (a' : Ac) (e : (acV ad bl m.top).set j u = acV ad bl a') :
 MAt (w.setCell ⟨g, t * 4 + j, none⟩ u) B n mb ad pv iv (some ⟨g, 0, none⟩) cs At ct bl (m.setTop a') := by
 have et : m.top = m.acts.getD t Ac.z := by unfold Mx.top; rw [show m.acts.length - 1 = t by omega]
 have hl : (m.setTop a').acts.length = m.acts.length := by simp [Mx.setTop]
 have hs : (m.setTop a').acts = m.acts.set t a' := by unfold Mx.setTop; rw [show m.acts.length - 1 = t by omega]
 have ho := (h.own.stored (t * 4 + j) u).1
 rw [set_top_flat (acV_len ad bl) (by omega) hj (by rw [← et]; exact e), ← hs] at ho
 have hmg : mb ≠ g := fun e => h.mb_own (by rw [e]; rfl)
 refine ⟨?_, h.hmb, ?_, ?_, h.bll, h.nd, fun i hi => ?_⟩
 · rw [hl]; exact h.blk.far (p := ⟨g, t * 4 + j, none⟩) hmg u
 · rw [hl]; exact ho
 · exact own_miss8 h.tr _ (fun i e e' => by
    rcases own_own_ne h.tr h.own (by decide) with h0 | h0
    · rw [h0] at e; cases e
    · exact h0 (by rw [e, e']; rfl)) u
 · refine ⟨(h.maps i hi).1, (h.maps i hi).2.setCell (a := ⟨g, t * 4 + j, none⟩) ?_ u⟩
   obtain ⟨cur, h2⟩ := own_heap h.own (gb := g) rfl
   exact (h.maps i hi).2.ne_cells h2
theorem own_cut {b e s k k' c g : Nat} {xs : List Value} (h : w.ownsRow b e s (.slice (some ⟨g, 0, none⟩) k c) k xs) (hk : k' ≤ k) : w.ownsRow b e s (.slice (some ⟨g, 0, none⟩) k' c) k' (xs.take (k' * s)) := by
 have hle : k' * s ≤ k * s := Nat.mul_le_mul_right s hk
 refine ⟨by rw [List.length_take, h.1]; omega, ?_⟩
 rcases h.2 with ⟨h0, -⟩ | ⟨g', cap, cur, h0, h1, h2, h3, h4, h5, h6⟩
 · cases h0
 · injection h0 with e1 e2 e3
   injection e1 with e1
   injection e1 with e1
   subst e1 e3
   exact .inr ⟨g, c, cur, rfl, h1, h2, by omega, h4, h5, by rw [← h6, List.take_take]; congr 1; omega⟩
theorem flat_take {f : Ac → List Value} (hf : ∀ a, (f a).length = 4) : ∀ (l : List Ac) (t : Nat), (l.flatMap f).take (t * 4) = (l.take t).flatMap f
 | [], t => by simp
 | x :: r, 0 => by simp
 | x :: r, t + 1 => by
  rw [List.flatMap_cons, List.take_succ_cons, List.flatMap_cons, List.take_append, hf, show (t + 1) * 4 - 4 = t * 4 by omega, flat_take hf r t, List.take_of_length_le (by rw [hf]; omega)]
theorem MAt.pop {g t : Nat} (h : MAt w B n mb ad pv iv (some ⟨g, 0, none⟩) cs At ct bl m) (ht : m.acts.length = t + 1) :
 MAt (w.setCell ⟨mb, 18, none⟩ (.slice (some ⟨g, 0, none⟩) t cs)) B n mb ad pv iv (some ⟨g, 0, none⟩) cs At ct bl { m with acts := m.acts.take t } := by
 have hl : (m.acts.take t).length = t := by rw [List.length_take]; omega
 have ho : w.ownsRow B 90 4 (.slice (some ⟨g, 0, none⟩) (m.acts.take t).length cs) (m.acts.take t).length ((m.acts.take t).flatMap (acV ad bl)) := by
  rw [hl, ← flat_take (acV_len ad bl)]
  exact own_cut h.own (by omega)
 have := h.restack (grownBy_of_below bR _) ho { m with acts := m.acts.take t } rfl rfl rfl rfl
 rw [hl] at this
 exact this
theorem MAt.lt_own (h : MAt w B n mb ad pv iv As cs At ct bl m) : ∀ k, (Value.slice As m.acts.length cs).ownBlock = some k → B ≤ k ∧ k < w.heap.size := h.own.lt
theorem info_act : (Tryd.prog.info? 90).map (fun i => (i.zero, i.size, i.bytes)) = some (some (.agg #[.pointer none, .int .i64 0, .map none, .map none]), 4, 32) := by kernel_rfl
end
section
variable {B n mb cs ct : Nat} {ad : Addr} {pv iv : Value} {As At : Option Addr} {bl : List Nat} {m : Mx}
theorem below_set {B : Nat} {w : World} {p : Addr} (h : B ≤ p.block) (u : Value) : Below B w (w.setCell p u) := bR.setCell h u
theorem stop_any (w : World) (k : Int) (h : MAt w B n mb ad pv iv As cs At ct bl m) :
 Calls Tryd.prog 31 #[.pointer (some ⟨mb, 0, none⟩), .int .i64 k] w fun e w' => e = .returned (.tuple #[]) ∧ MAt w' B n mb ad pv iv As cs At ct bl (m.stop k) ∧ Below B w w' := by
 have f0 := h.blk.frozen 20
 have f1 := h.blk.frozen 26
 have c0 : w.cell? ⟨mb, 20, none⟩ = some (.int .i64 m.kind) := h.blk.cell 20
 have c1 : w.cell? ⟨mb, 26, none⟩ = some (.bool m.ended) := h.blk.cell 26
 have hlt := h.blk.lt
 have HM := hQ h
 clear h
 go_enter Tryd.func31, Tryd.ntmps31
 go_wp2
 go_end0
 exact ⟨rfl, (HM.out.mset 20 (.int .i64 k) { m with kind := k } rfl rfl rfl rfl).mset 26 (.bool true) (m.stop k) rfl rfl rfl rfl, (below_set (p := ⟨mb, 20, none⟩) HM.out.hmb _).trans (below_set (p := ⟨mb, 26, none⟩) HM.out.hmb _)⟩
theorem MAt.rset {w : World} (h : MAt w B n mb ad pv iv As cs At ct bl m) (hr8 : m.regs.length = 8) {r : Nat} (hr : r < 8) (v : Nat × Nat) :
 MAt ((w.setCell ⟨mb, 2 + r * 2, none⟩ (.int .u64 v.1)).setCell ⟨mb, 2 + r * 2 + 1, none⟩ (.int .u64 v.2)) B n mb ad pv iv As cs At ct bl { m with regs := m.regs.set r v } := by
 have h1 := h.mset (2 + r * 2) (.int .u64 v.1) { m with regs := m.regs.set r (v.1, (rg m r).2) } rfl rfl rfl (by
  obtain ⟨regs, acts, hp, deep, inp, kind, code, res, steps, trace, ended⟩ := m
  match regs, hr8 with
  | [r0, r1, r2, r3, r4, r5, r6, r7], _ =>
   have e : r = 0 ∨ r = 1 ∨ r = 2 ∨ r = 3 ∨ r = 4 ∨ r = 5 ∨ r = 6 ∨ r = 7 := by omega
   rcases e with rfl | rfl | rfl | rfl | rfl | rfl | rfl | rfl <;> rfl)
 have h2 := h1.mset (2 + r * 2 + 1) (.int .u64 v.2) { m with regs := m.regs.set r v } rfl rfl rfl (by
  obtain ⟨regs, acts, hp, deep, inp, kind, code, res, steps, trace, ended⟩ := m
  match regs, hr8 with
  | [r0, r1, r2, r3, r4, r5, r6, r7], _ =>
   have e : r = 0 ∨ r = 1 ∨ r = 2 ∨ r = 3 ∨ r = 4 ∨ r = 5 ∨ r = 6 ∨ r = 7 := by omega
   rcases e with rfl | rfl | rfl | rfl | rfl | rfl | rfl | rfl <;> rfl)
 exact h2
theorem take_any (w : World) (r : Nat) (hr : r < 8) (hr8 : m.regs.length = 8) (v : Nat × Nat) (ok : Bool) (h : MAt w B n mb ad pv iv As cs At ct bl m) :
 Calls Tryd.prog 41 #[.pointer (some ⟨mb, 0, none⟩), .int .i64 (r : Int), .agg #[.int .u64 v.1, .int .u64 v.2], .bool ok] w fun e w' => e = .returned (.tuple #[]) ∧ MAt w' B n mb ad pv iv As cs At ct bl (m.take r (if ok then some v else none)) ∧ Below B w w' := by
 obtain ⟨W1, hW1⟩ : ∃ W1, W1 = w.alloc (.cells #[.int .u64 v.1, .int .u64 v.2] 37) := ⟨_, rfl⟩
 have hB1 : Below w.heap.size w W1 := by rw [hW1]; exact bR.alloc nL _
 have HK : Hid (Blk W1 w.heap.size 37 #[.int .u64 v.1, .int .u64 v.2]) := hQ (by rw [hW1]; exact Blk.new _ _ _)
 have hlt0 := h.blk.lt
 have hmb := h.hmb
 have HM := hQ (h.after hB1)
 have HB1 : Hid (Below B w W1) := hQ (hB1.mono (by omega))
 have HW1 := hQ hW1
 have hri : (r : Int) < 8 := by omega
 have hr0 : (0 : Int) ≤ (r : Int) := by omega
 clear h hW1 hB1
 have hlt := HM.out.blk.lt
 obtain ⟨x0, x1, -⟩ := HK.out.c2
 cases ok with
 | true =>
  obtain ⟨c0, c1⟩ := reg_cell HM.out.blk hr
  have f0 := HM.out.blk.frozen (2 + r * 2)
  have f1 := HM.out.blk.frozen (2 + r * 2 + 1)
  go_enter Tryd.func41, Tryd.ntmps41
  go_upto_region 1 with (fail)
  rw [← HW1.out]
  go_wp2_with fail
  go_region_with (fail)
  go_wp2
  go_end0
  exact ⟨rfl, (HM.out.rset hr8 hr v).after (bR.drew), HB1.out.trans (((below_set (p := ⟨mb, 2 + r * 2, none⟩) hmb _).trans (below_set (p := ⟨mb, 2 + r * 2 + 1, none⟩) hmb _)).drew)⟩
 | false => 
  go_enter Tryd.func41, Tryd.ntmps41
  go_upto_region 1 with (fail)
  rw [← HW1.out]
  go_wp2_with fail
  refine (stop_any _ 3 HM.out).mono ?_
  rintro e w3 ⟨rfl, m3, b3⟩
  have HM3 := hQ m3
  have HB3 := hQ (HB1.out.trans b3)
  clear m3 b3
  go_wp2
  go_end0
  exact ⟨rfl, HM3.out, HB3.out⟩
def CallD (w : World) (B n mb : Nat) (ad : Addr) (pv iv : Value) (At : Option Addr) (ct : Nat) (bl : List Nat) (m : Mx) (e : Ending) (w' : World) : Prop :=
 e = .returned (.tuple #[]) ∧ Below B w w' ∧ ∃ As' cs', MAt w' B n mb ad pv iv As' cs' At ct bl m
theorem call_any (w : World) (np cp f : Nat) (hf : f < np) (hnp : np ≤ maxLen) (hacts : m.acts.length ≤ 1000000) (h : MAt w B n mb ad (.slice (some ad) np cp) iv As cs At ct bl m) (hB : B ≤ w.heap.size) :
 Calls Tryd.prog 30 #[.pointer (some ⟨mb, 0, none⟩), .int .i64 (f : Int)] w (CallD w B n mb ad (.slice (some ad) np cp) iv At ct bl (m.call f)) := by
 obtain ⟨i0, hi0, hz0, hz1, hz2⟩ := info_parts info_act
 obtain ⟨c0, -, c18, c19, -, -, -, hlt⟩ := h.cells
 have f18 := h.blk.frozen 18
 have hmb := h.hmb
 have HM := hQ h
 have hfi : (f : Int) < (np : Int) := by omega
 have hf0 : (0 : Int) ≤ (f : Int) := by omega
 clear h
 go_enter Tryd.func30, Tryd.ntmps30
 go_upto_region 0 with (fail)
 go_cut [] (fun wx => ∃ A6 c6, Hid (MAt wx B n mb ad (.slice (some ad) np cp) iv A6 c6 At ct bl { m with acts := m.acts ++ [⟨f, 0, none, none⟩] }) ∧ Hid (Below B w wx))
 case first =>
  go_region_law (first
   | (refine step_append_any _ rfl (.tmp 8) (.tmp 17) 69 rfl B 90 i0 _ 4 32 Tryd.underlying69 hi0 hz0 hz1 hz2 rfl (by omega) (.slice As m.acts.length cs) m.acts.length (m.acts.flatMap (acV ad bl)) (by first | (simp [Act.eval]; done) | (simp [Act.eval, Act.put]; done)) (World.ownsRow.drew (HM.out.own.alloc _)) (w.heap.size + 1) (some ⟨w.heap.size, 0, none⟩) 1 1 _ (by first | (simp [Act.eval]; done) | (simp [Act.eval, Act.put]; done)) (show Reads (World.alloc w _) _ _ _ _ _ from reads_new1 rfl) (by simp [Value.oneCell']) (by unfold maxLen; omega) (by omega) (by simp; omega) ?_; intro v6 w6 own6 gX atX; clear atX; have HO6 : Hid (w6.ownsRow B 90 4 v6 (m.acts.length + 1) (m.acts.flatMap (acV ad bl) ++ [.pointer (some (ad.add (f * 3))), .int .i64 0, .map none, .map none])) := hQ own6; have HG6 : Hid (w.grownBy w6 (Value.slice As m.acts.length cs).ownBlock) := hQ (grownBy_transR (grownBy_of_below ((bR.alloc nL _).drew) _) gX); obtain ⟨A6, c6, rfl, -⟩ := own_form own6; have y18 : w6.cell? ⟨mb, 18, none⟩ = some (.slice As m.acts.length cs) := (HM.out.blk.grown HG6.out (fun e => HM.out.mb_own e.symm)).cell 18; have yf := (HM.out.blk.grown HG6.out (fun e => HM.out.mb_own e.symm)).frozen 18; clear own6 gX))
  all_goals go_wp2_with fail
  all_goals go_meet
  all_goals exact ⟨_, _, hQ (HM.out.push HG6.out HO6.out), hQ ((below_of_grownR HG6.out (fun k hk => (HM.out.lt_own k hk).1) hB).trans (below_set (p := ⟨mb, 18, none⟩) hmb _))⟩
 case rest =>
  obtain ⟨A6, c6, HM6, HB6⟩ := hcut
  obtain ⟨W6, hW6⟩ : ∃ W6, W6 = wc := ⟨_, rfl⟩
  subst hW6
  clear c0 c18 c19 f18
  obtain ⟨c0, -, c18, c19, -, -, -, hlt6⟩ := HM6.out.cells
  have hl6 : ({ m with acts := m.acts ++ [⟨f, 0, none, none⟩] } : Mx).acts.length = m.acts.length + 1 := by simp
  rw [hl6] at c18
  have c19' : W6.cell? ⟨mb, 19, none⟩ = some (.int .i64 m.deep) := c19
  clear c19
  have f19 := HM6.out.blk.frozen 19
  go_upto_region 1 with (fail)
  go_region_with (fail)
  all_goals go_wp2
  all_goals go_end0
  all_goals
   first
   | (have hd : m.deep < m.acts.length + 1 := by omega
      have e : (m.acts.length : Int) + 1 = (((m.call f).deep : Nat) : Int) := by simp [Mx.call, hd]
      rw [e]
      exact ⟨rfl, HB6.out.trans ((below_set (p := ⟨mb, 19, none⟩) hmb _).drew), _, _, (HM6.out.mset 19 _ (m.call f) rfl rfl rfl rfl).after (bR.drew)⟩)
   | (have hd : ¬ m.deep < m.acts.length + 1 := by omega
      have e : (m.deep : Int) = (((m.call f).deep : Nat) : Int) := by simp [Mx.call, hd]
      rw [e]
      exact ⟨rfl, HB6.out.trans ((below_set (p := ⟨mb, 19, none⟩) hmb _).drew), _, _, (HM6.out.mset 19 _ (m.call f) rfl rfl rfl rfl).after (bR.drew)⟩)
end
open Go.Maps (Keyed)
theorem Mp.store {w : World} {b n : Nat} {L : List (Int × (Nat × Nat))} (h : Mp w b n L) (hn : n < maxLen) {k : Int} (hk : (Lit.int .i64 k).wf = true) (y : Nat × Nat) :
 ∃ w', (Instr.mapUpdate 88 (.map (some b)) (.int .i64 k) (.agg #[.int .u64 y.1, .int .u64 y.2])).run Tryd.prog w = .ok () w' ∧ Mp w' b (n + 1) ((k, y) :: L) ∧ w.grownBy w' (some b) := by
 obtain ⟨D, h1, h2⟩ := h
 obtain ⟨w', hrun, h3, h4⟩ := h1.store keyl Tryd.underlying88 hn (Go.Maps.keyOf_int_mk Tryd.underlying3 hk) (valR_mk (y.1 : Int) (y.2 : Int))
 refine ⟨w', hrun, ⟨_, h3, fun j hj => ?_⟩, h4.grown⟩
 have hm : Maps.IsMap D := World.ownsMap.isMap h1
 have hkl : WideAt.IsKeyLit (.int .i64 k) := by first | trivial | simp [WideAt.IsKeyLit]
 rw [List.lookup_cons]
 by_cases e : j = k
 · subst e
   rw [Maps.has_put_same hm hkl, Maps.atKey_put_same hm hkl]
   simp [dV]
 · have hne : (Lit.int .i64 j) ≠ .int .i64 k := fun h => e (by injection h)
   rw [Maps.has_put_other hne, Maps.atKey_put_other hne]
   have e' : (j == k) = false := by simpa using e
   rw [e']
   exact h2 j hj
theorem eqn_map (W : World) (o : Option Nat) : (binOp .eql 88 (.map o) (.map none)).run Tryd.prog W = .ok (.bool o.isNone) W := by
 cases o <;> kernel_rfl
section
variable {w w' : World} {B n mb cs ct : Nat} {ad : Addr} {pv iv : Value} {As At : Option Addr} {bl : List Nat} {m : Mx}
theorem nodup_getD {bl : List Nat} (h : bl.Nodup) {i j : Nat} (hi : i < bl.length) (hj : j < bl.length) (hne : i ≠ j) : bl.getD i 0 ≠ bl.getD j 0 := fun e => by
 rw [List.getD_eq_getElem?_getD, List.getD_eq_getElem?_getD, List.getElem?_eq_getElem hi, List.getElem?_eq_getElem hj] at e
 have e' : bl[i] = bl[j] := by simpa using e
 have hp := List.pairwise_iff_getElem.1 h
 rcases Nat.lt_or_gt_of_ne hne with hlt | hlt
 · exact hp i j hi hj hlt e'
 · exact hp j i hj hi hlt e'.symm
theorem MAt.mput (h : MAt w B n mb ad pv iv As cs At ct bl m) {i : Nat} (hi : i < m.hp.length) {L : List (Int × (Nat × Nat))} (hg : w.grownBy w' (some (bl.getD i 0))) (hm : Mp w' (bl.getD i 0) (n + 1) L) :
 MAt w' B (n + 1) mb ad pv iv As cs At ct bl { m with hp := m.hp.set i L } := by
 have hib : i < bl.length := by rw [h.bll]; exact hi
 have hmi := (h.maps i hib).2
 have hbb : w.heap[mb]? = some (.cells (mcs pv iv (.slice As m.acts.length cs) (.slice At m.trace.length ct) m) 71 (0, 0)) := h.blk
 refine ⟨h.blk.grown hg (fun e => hmi.ne_cells hbb (by injection e with e; exact e.symm)), h.hmb, h.own.kept hg ?_, h.tr.kept hg ?_, by simpa using h.bll, h.nd, fun j hj => ?_⟩
 · cases hv : (Value.slice As m.acts.length cs).ownBlock with
   | none => exact .inl rfl
   | some g =>
    obtain ⟨cur, h2⟩ := own_heap h.own hv
    exact .inr fun e => hmi.ne_cells h2 (by injection e with e; exact e.symm)
 · cases hv : (Value.slice At m.trace.length ct).ownBlock with
   | none => exact .inl rfl
   | some g =>
    obtain ⟨cur, h2⟩ := own_heap h.tr hv
    exact .inr fun e => hmi.ne_cells h2 (by injection e with e; exact e.symm)
 · refine ⟨(h.maps j hj).1, ?_⟩
   by_cases e : j = i
   · subst e
     show Mp w' (bl.getD j 0) (n + 1) ((m.hp.set j L).getD j [])
     rw [show (m.hp.set j L).getD j [] = L by rw [List.getD_eq_getElem?_getD, List.getElem?_set_self hi]; rfl]
     exact hm
   · show Mp w' (bl.getD j 0) (n + 1) ((m.hp.set i L).getD j [])
     rw [show (m.hp.set i L).getD j [] = m.hp.getD j [] by rw [List.getD_eq_getElem?_getD, List.getElem?_set_ne (fun e' => e e'.symm), ← List.getD_eq_getElem?_getD]]
     exact ((h.maps j hj).2.kept hg (fun e' => nodup_getD h.nd hj hib e (by injection e'))).mono (Nat.le_succ _)
theorem acV_more (ad : Addr) {bl : List Nat} {a : Ac} (h1 : ∀ i, a.ms = some i → i < bl.length) (h2 : ∀ i, a.ma = some i → i < bl.length) (b : Nat) : acV ad (bl ++ [b]) a = acV ad bl a := by
 have e : ∀ i, i < bl.length → (bl ++ [b]).getD i 0 = bl.getD i 0 := fun i hi => by
  rw [List.getD_eq_getElem?_getD, List.getElem?_append_left hi, ← List.getD_eq_getElem?_getD]
 have es : a.ms.map (fun i => (bl ++ [b]).getD i 0) = a.ms.map (fun i => bl.getD i 0) := by
  cases hs : a.ms with
  | none => rfl
  | some i => exact congrArg some (e i (h1 i hs))
 have ea : a.ma.map (fun i => (bl ++ [b]).getD i 0) = a.ma.map (fun i => bl.getD i 0) := by
  cases ha : a.ma with
  | none => rfl
  | some i => exact congrArg some (e i (h2 i ha))
 unfold acV
 rw [es, ea]
theorem MAt.mnew (h : MAt w B n mb ad pv iv As cs At ct bl m) (hB : B ≤ w.heap.size) (hl : ∀ a ∈ m.acts, (∀ i, a.ms = some i → i < m.hp.length) ∧ (∀ i, a.ma = some i → i < m.hp.length)) :
 MAt (w.alloc (.map #[] 0)) B n mb ad pv iv As cs At ct (bl ++ [w.heap.size]) { m with hp := m.hp ++ [[]] } := by
 have hfl : m.acts.flatMap (acV ad (bl ++ [w.heap.size])) = m.acts.flatMap (acV ad bl) := by
  have : ∀ l : List Ac, (∀ a ∈ l, (∀ i, a.ms = some i → i < m.hp.length) ∧ (∀ i, a.ma = some i → i < m.hp.length)) → l.flatMap (acV ad (bl ++ [w.heap.size])) = l.flatMap (acV ad bl) := by
   intro l
   induction l with
   | nil => intro _; rfl
   | cons x r ih =>
    intro hl
    rw [List.flatMap_cons, List.flatMap_cons, ih (fun a ha => hl a (by simp [ha])), acV_more ad (by rw [h.bll]; exact (hl x (by simp)).1) (by rw [h.bll]; exact (hl x (by simp)).2)]
  exact this m.acts hl
 have hlt : ∀ i, i < bl.length → bl.getD i 0 < w.heap.size := fun i hi => (h.maps i hi).2.lt
 refine ⟨h.blk.alloc _, h.hmb, ?_, h.tr.alloc _, by simpa using h.bll, ?_, fun i hi => ?_⟩
 · show World.ownsRow _ B _ 4 _ m.acts.length (m.acts.flatMap (acV ad (bl ++ [w.heap.size])))
   rw [hfl]; exact h.own.alloc _
 · rw [List.nodup_append]
   refine ⟨h.nd, by simp, fun a ha b hb => ?_⟩
   simp at hb
   subst hb
   intro e
   obtain ⟨i, hi, rfl⟩ := List.mem_iff_getElem.1 ha
   have := hlt i hi
   rw [List.getD_eq_getElem?_getD, List.getElem?_eq_getElem hi] at this
   simp at this
   omega
 · rw [List.length_append] at hi
   by_cases e : i < bl.length
   · have e1 : (bl ++ [w.heap.size]).getD i 0 = bl.getD i 0 := by rw [List.getD_eq_getElem?_getD, List.getElem?_append_left e, ← List.getD_eq_getElem?_getD]
     have e2 : (m.hp ++ [[]]).getD i [] = m.hp.getD i [] := by rw [List.getD_eq_getElem?_getD, List.getElem?_append_left (by rw [← h.bll]; exact e), ← List.getD_eq_getElem?_getD]
     show B ≤ (bl ++ [w.heap.size]).getD i 0 ∧ Mp _ ((bl ++ [w.heap.size]).getD i 0) n ((m.hp ++ [[]]).getD i [])
     rw [e1, e2]
     exact ⟨(h.maps i e).1, (h.maps i e).2.alloc _⟩
   · obtain rfl : i = bl.length := by simp at hi; omega
     have e1 : (bl ++ [w.heap.size]).getD bl.length 0 = w.heap.size := by simp
     have e2 : (m.hp ++ [[]]).getD bl.length [] = [] := by rw [h.bll]; simp
     show B ≤ (bl ++ [w.heap.size]).getD bl.length 0 ∧ Mp _ ((bl ++ [w.heap.size]).getD bl.length 0) n ((m.hp ++ [[]]).getD bl.length [])
     rw [e1, e2]
     exact ⟨hB, (Mp.made w).mono (Nat.zero_le _)⟩
def StepD (w : World) (B n mb : Nat) (ad : Addr) (pv iv : Value) (m : Mx) (e : Ending) (w' : World) : Prop :=
 e = .returned (.tuple #[]) ∧ Below B w w' ∧ ∃ As' cs' At' ct' bl', MAt w' B (n + 1) mb ad pv iv As' cs' At' ct' bl' m
def Frm (w w' : World) : Prop := ∀ (b : Nat) (cs : Array Value) (t : TypeId) (f : Nat × Nat), w.heap[b]? = some (Obj.cells cs t f) → t ≠ 90 → w'.heap[b]? = some (Obj.cells cs t f)
def DefD (w : World) (B n mb : Nat) (ad : Addr) (pv iv : Value) (g t : Nat) (m : Mx) (e : Ending) (w' : World) : Prop :=
 StepD w B n mb ad pv iv m e w' ∧ Frm w w' ∧ w'.cell? ⟨g, t * 4, none⟩ = w.cell? ⟨g, t * 4, none⟩
theorem Frm.trans {a b c : World} (h : Frm a b) (k : Frm b c) : Frm a c := fun i cs t f hi ht => k i cs t f (h i cs t f hi ht) ht
theorem Frm.of_below {a b : World} (h : Below a.heap.size a b) : Frm a b := fun i cs t f hi _ => by
 rw [h.block i (Array.getElem?_eq_some_iff.1 hi).1]; exact hi
theorem Frm.of_map {a b : World} {k n : Nat} {L : List (Int × (Nat × Nat))} (hm : Mp a k n L) (h : a.grownBy b (some k)) : Frm a b := fun i cs t f hi _ => by
 rw [h.block i (Array.getElem?_eq_some_iff.1 hi).1 (fun e => hm.ne_cells hi (by injection e with e; exact e.symm))]; exact hi
theorem Frm.set {a : World} {g j : Nat} {u : Value} {b' k : Nat} {v : Value} {xs : List Value} (ho : a.ownsRow b' 90 4 v k xs) (hv : v.ownBlock = some g) : Frm a (a.setCell ⟨g, j, none⟩ u) := fun i cs t f hi ht => by
 obtain ⟨cur, h2⟩ := own_heap ho hv
 have hne : i ≠ g := fun e => by
  subst e
  rw [h2] at hi
  injection hi with hi
  injection hi with _ hi
  exact ht hi.symm
 rw [Below.heap_setCell a ⟨g, j, none⟩ u i hne]; exact hi
theorem cell_of_map {a b : World} {k n : Nat} {L : List (Int × (Nat × Nat))} (hm : Mp a k n L) (h : a.grownBy b (some k)) {p : Addr} {v : Value} (hc : a.cell? p = some v) {cur : Array Value} {t : TypeId} {f : Nat × Nat} (hp : a.heap[p.block]? = some (.cells cur t f)) : b.cell? p = some v := by
 rw [← hc]
 exact World.cell?_of_block (h.block p.block (cell_lt hc) (fun e => hm.ne_cells hp (by injection e with e; exact e.symm)))
theorem define_s (w : World) (g t : Nat) (h : MAt w B n mb ad pv iv (some ⟨g, 0, none⟩) cs At ct bl m) (ht : m.acts.length = t + 1) (hl : ∀ a ∈ m.acts, (∀ i, a.ms = some i → i < m.hp.length) ∧ (∀ i, a.ma = some i → i < m.hp.length)) (hB : B ≤ w.heap.size) (hn : n ≤ 10000000) (k : Int) (hk : (Lit.int .i64 k).wf = true) (v : Nat × Nat) :
 Calls Tryd.prog 42 #[.pointer (some ⟨g, t * 4 + 2, none⟩), .int .i64 k, .agg #[.int .u64 v.1, .int .u64 v.2]] w (DefD w B n mb ad pv iv g t (m.defS k v)) := by
 obtain ⟨W1, hW1⟩ : ∃ W1, W1 = w.alloc (.cells #[.int .u64 v.1, .int .u64 v.2] 37) := ⟨_, rfl⟩
 have hB1 : Below w.heap.size w W1 := by rw [hW1]; exact bR.alloc nL _
 have HK : Hid (Blk W1 w.heap.size 37 #[.int .u64 v.1, .int .u64 v.2]) := hQ (by rw [hW1]; exact Blk.new _ _ _)
 have hgB : B ≤ g := (h.own.lt g rfl).1
 have hgw : g < w.heap.size := (h.own.lt g rfl).2
 have hs1 := hB1.size
 have HM := hQ (h.after hB1)
 have HB1 : Hid (Below B w W1) := hQ (hB1.mono hB)
 have HW1 := hQ hW1
 have HL := hQ hl
 have HT := hQ ht
 have et : m.top = m.acts.getD t Ac.z := by unfold Mx.top; rw [show m.acts.length - 1 = t by omega]
 have htop : m.top ∈ m.acts := by
  rw [et, List.getD_eq_getElem?_getD, List.getElem?_eq_getElem (by omega)]
  exact List.getElem_mem (by omega)
 have HLT := hQ (hl _ htop)
 have c0 : W1.cell? ⟨g, t * 4 + 2, none⟩ = some (.map (m.top.ms.map fun i => bl.getD i 0)) := by
  rw [et]
  have := (HM.out.own.cellAt (t * 4 + 2) (by omega)).trans (flat_get (acV_len ad bl) Ac.z m.acts t 2 (by omega) (by omega))
  simpa [acV] using this
 have f0 : W1.frozen? ⟨g, t * 4 + 2, none⟩ = false := HM.out.own.frozenAt _
 have gz : g < W1.heap.size := (HM.out.own.lt g rfl).2
 obtain ⟨pv0, hpv0⟩ : ∃ u, W1.cell? ⟨g, t * 4, none⟩ = some u := ⟨_, (HM.out.own.cellAt (t * 4 + 0) (by omega)).trans (flat_get (acV_len ad bl) Ac.z m.acts t 0 (by omega) (by omega))⟩
 have HPV : Hid (W1.cell? ⟨g, t * 4, none⟩ = some pv0) := hQ hpv0
 have HPW : Hid (w.cell? ⟨g, t * 4, none⟩ = some pv0) := hQ (by rw [← hpv0]; exact (hB1.cell (p := ⟨g, t * 4, none⟩) hgw).symm)
 have HFR1 : Hid (Frm w W1) := hQ (Frm.of_below hB1)
 obtain ⟨gcur, hgcur⟩ := own_heap HM.out.own (gb := g) rfl
 have HGC := hQ hgcur
 clear h hW1 hB1 hl ht et htop hpv0 hgcur
 obtain ⟨x0, x1, -, -, xz⟩ := HK.out.c2
 cases hms : m.top.ms with
 | some i =>
  rw [hms] at c0
  have hi : i < m.hp.length := HLT.out.1 i hms
  have HE : Hid (m.defS k v = { m with hp := m.hp.set i ((k, v) :: m.hp.getD i []) }) := hQ (by unfold Mx.defS; rw [hms])
  obtain ⟨b, hb⟩ : ∃ b, b = bl.getD i 0 := ⟨_, rfl⟩
  obtain ⟨hbi, hmp⟩ := HM.out.maps i (by rw [HM.out.bll]; exact hi)
  rw [← hb] at hbi hmp
  obtain ⟨w2, hr2, m2, g2⟩ := hmp.store (by unfold maxLen; omega) hk v
  obtain ⟨w3, hr3, m3, g3⟩ := (show Mp W1.drew b n (m.hp.getD i []) from hmp).store (by unfold maxLen; omega) hk v
  have c0' : W1.cell? ⟨g, t * 4 + 2, none⟩ = some (.map (some b)) := by rw [hb]; exact c0
  have g3' := grownBy_transR (grownBy_of_below ((Below.refl W1.heap.size W1).drew) (some b)) g3
  have HM2 := hQ (HM.out.mput hi (by rw [← hb]; exact g2) (by rw [← hb]; exact m2))
  have HM3 := hQ (HM.out.mput hi (by rw [← hb]; exact g3') (by rw [← hb]; exact m3))
  have HX2 : Hid (Frm W1 w2 ∧ w2.cell? ⟨g, t * 4, none⟩ = some pv0) := hQ ⟨Frm.of_map hmp g2, cell_of_map hmp g2 HPV.out HGC.out⟩
  have HX3 : Hid (Frm W1 w3 ∧ w3.cell? ⟨g, t * 4, none⟩ = some pv0) := hQ ⟨Frm.of_map hmp g3', cell_of_map hmp g3' HPV.out HGC.out⟩
  have HB2 : Hid (Below B W1 w2) := hQ (below_of_grownR g2 (fun q e => by injection e with e; omega) (by omega))
  have HB3 : Hid (Below B W1 w3) := hQ (below_of_grownR g3' (fun q e => by injection e with e; omega) (by omega))
  have heq : ∀ W, (binOp .eql 88 (.map (some b)) (.map none)).run Tryd.prog W = .ok (.bool false) W := fun W => eqn_map W _
  clear c0 hmp m2 m3 g2 g3 g3' hb hbi
  go_enter Tryd.func42, Tryd.ntmps42
  go_upto_region 1 with (fail)
  rw [← HW1.out]
  go_upto_region 3 with (fail)
  go_region_with (fail)
  all_goals go_wp2
  all_goals go_end0
  all_goals rw [HE.out]
  all_goals
   first
   | exact ⟨⟨rfl, HB1.out.trans HB2.out, _, _, _, _, _, HM2.out⟩, HFR1.out.trans HX2.out.1, HX2.out.2.trans HPW.out.symm⟩
   | exact ⟨⟨rfl, HB1.out.trans HB3.out, _, _, _, _, _, HM3.out⟩, HFR1.out.trans HX3.out.1, HX3.out.2.trans HPW.out.symm⟩
   | exact ⟨⟨rfl, HB1.out.trans HB2.out.drew, _, _, _, _, _, HM2.out.after (bR.drew)⟩, HFR1.out.trans HX2.out.1, HX2.out.2.trans HPW.out.symm⟩
   | exact ⟨⟨rfl, HB1.out.trans HB3.out.drew, _, _, _, _, _, HM3.out.after (bR.drew)⟩, HFR1.out.trans HX3.out.1, HX3.out.2.trans HPW.out.symm⟩
 | none =>
  rw [hms] at c0
  have c0' : W1.cell? ⟨g, t * 4 + 2, none⟩ = some (.map none) := c0
  have HE : Hid (m.defS k v = { m.setTop { m.top with ms := some m.hp.length } with hp := m.hp ++ [[(k, v)]] }) := hQ (by unfold Mx.defS; rw [hms])
  have hmm := @run_makeMap Tryd.prog
  clear c0
  have heq : ∀ W, (binOp .eql 88 (.map none) (.map none)).run Tryd.prog W = .ok (.bool true) W := fun W => eqn_map W _
  go_enter Tryd.func42, Tryd.ntmps42
  go_upto_region 1 with (fail)
  rw [← HW1.out]
  go_upto_region 3 with (fail)
  obtain ⟨W2, hW2⟩ : ∃ W2, W2 = (W1.setCell ⟨g, t * 4 + 2, none⟩ (.map (some W1.heap.size))).alloc (.map #[] 0) := ⟨_, rfl⟩
  rw [← hW2]
  have hB1' : B ≤ W1.heap.size := by omega
  have hm2 : MAt W2 B n mb ad pv iv (some ⟨g, 0, none⟩) cs At ct (bl ++ [W1.heap.size]) { m.setTop { m.top with ms := some m.hp.length } with hp := m.hp ++ [[]] } := by
   have h0 := HM.out.mnew hB1' HL.out
   have h1 := h0.aset (g := g) (t := t) HT.out (j := 2) (by omega) (.map (some W1.heap.size)) { m.top with ms := some m.hp.length } (by
    have e1 : ({ m with hp := m.hp ++ [[]] } : Mx).top = m.top := rfl
    have e2 : (bl ++ [W1.heap.size]).getD m.hp.length 0 = W1.heap.size := by rw [← HM.out.bll]; simp
    rw [e1]
    unfold acV
    simp only [Option.map_some, e2]
    rfl)
   rw [hW2, ← World.setCell_alloc_past _ _ _ _ gz]
   exact h1
  have hi2 : m.hp.length < (m.hp ++ [([] : List (Int × (Nat × Nat)))]).length := by simp
  have hbl2 : (bl ++ [W1.heap.size]).getD m.hp.length 0 = W1.heap.size := by rw [← HM.out.bll]; simp
  have hmp := (hm2.maps m.hp.length (by rw [hm2.bll]; exact hi2)).2
  have hge : (m.hp ++ [([] : List (Int × (Nat × Nat)))]).getD m.hp.length [] = [] := by simp
  rw [hbl2] at hmp
  have hmp' : Mp W2 W1.heap.size n [] := by
   have := hmp
   rw [show ({ m.setTop { m.top with ms := some m.hp.length } with hp := m.hp ++ [[]] } : Mx).hp.getD m.hp.length [] = [] from hge] at this
   exact this
  obtain ⟨b, hb⟩ : ∃ b, b = W1.heap.size := ⟨_, rfl⟩
  have hblb : (bl ++ [W1.heap.size]).getD m.hp.length 0 = b := by rw [hb]; exact hbl2
  rw [← hb] at hmp' ⊢
  obtain ⟨w2, hr2, m2, g2⟩ := hmp'.store (by unfold maxLen; omega) hk v
  obtain ⟨w3, hr3, m3, g3⟩ := (show Mp W2.drew b n [] from hmp').store (by unfold maxLen; omega) hk v
  have g3' := grownBy_transR (grownBy_of_below ((Below.refl W2.heap.size W2).drew) (some b)) g3
  have ehp : (m.hp ++ [([] : List (Int × (Nat × Nat)))]).set m.hp.length [(k, v)] = m.hp ++ [[(k, v)]] := by rw [List.set_append_right _ _ nL]; simp
  have HM2 := hQ (hm2.mput hi2 (by rw [hblb]; exact g2) (by rw [hblb]; exact m2))
  have HM3 := hQ (hm2.mput hi2 (by rw [hblb]; exact g3') (by rw [hblb]; exact m3))
  have hb2 : Below B W1 W2 := by rw [hW2]; exact (below_set (p := ⟨g, t * 4 + 2, none⟩) hgB _).alloc (by simpa using hB1') _
  have hs2 := hb2.size
  have HB2 : Hid (Below B W1 w2) := hQ (hb2.trans (below_of_grownR g2 (fun q e => by injection e with e; omega) (by omega)))
  have HB3 : Hid (Below B W1 w3) := hQ (hb2.trans (below_of_grownR g3' (fun q e => by injection e with e; omega) (by omega)))
  have c1 : W2.cell? ⟨g, t * 4 + 2, none⟩ = some (.map (some b)) := by
   rw [hW2, hb]
   go_simp
  have hk2 : Blk W2 w.heap.size 37 #[.int .u64 v.1, .int .u64 v.2] := by
   rw [hW2]
   exact (HK.out.far (p := ⟨g, t * 4 + 2, none⟩) (by show ¬ w.heap.size = g; omega) _).alloc _
  obtain ⟨x0', x1', -, -, xz'⟩ := hk2.c2
  have hf2 : Frm W1 W2 := by
   rw [hW2]
   exact (Frm.set HM.out.own rfl).trans (Frm.of_below (bR.alloc nL _))
  have hpc2 : W2.cell? ⟨g, t * 4, none⟩ = some pv0 := by
   have h0 := HPV.out
   rw [hW2]
   go_simp
  have hgc2 : ∃ cur, W2.heap[g]? = some (.cells cur 90 (0, 0)) := own_heap hm2.own (gb := g) rfl
  obtain ⟨gcur2, hgc2⟩ := hgc2
  have HX2 : Hid (Frm W1 w2 ∧ w2.cell? ⟨g, t * 4, none⟩ = some pv0) := hQ ⟨hf2.trans (Frm.of_map hmp' g2), cell_of_map hmp' g2 hpc2 hgc2⟩
  have HX3 : Hid (Frm W1 w3 ∧ w3.cell? ⟨g, t * 4, none⟩ = some pv0) := hQ ⟨hf2.trans (Frm.of_map hmp' g3'), cell_of_map hmp' g3' hpc2 hgc2⟩
  clear hf2 hpc2 hgc2
  clear hk2 hW2 hm2 hmp hmp' m2 m3 g2 g3 g3' hb hbl2 hblb c0' x0 x1 f0 hge
  go_region_with (fail)
  all_goals go_wp2
  all_goals go_end0
  all_goals rw [HE.out]
  all_goals
   first
   | exact ⟨⟨rfl, HB1.out.trans HB2.out, _, _, _, _, _, by have := HM2.out; rw [ehp] at this; exact this⟩, HFR1.out.trans HX2.out.1, HX2.out.2.trans HPW.out.symm⟩
   | exact ⟨⟨rfl, HB1.out.trans HB3.out, _, _, _, _, _, by have := HM3.out; rw [ehp] at this; exact this⟩, HFR1.out.trans HX3.out.1, HX3.out.2.trans HPW.out.symm⟩
   | exact ⟨⟨rfl, HB1.out.trans HB2.out.drew, _, _, _, _, _, by have := HM2.out.after (bR.drew); rw [ehp] at this; exact this⟩, HFR1.out.trans HX2.out.1, HX2.out.2.trans HPW.out.symm⟩
   | exact ⟨⟨rfl, HB1.out.trans HB3.out.drew, _, _, _, _, _, by have := HM3.out.after (bR.drew); rw [ehp] at this; exact this⟩, HFR1.out.trans HX3.out.1, HX3.out.2.trans HPW.out.symm⟩
theorem define_a (w : World) (g t : Nat) (h : MAt w B n mb ad pv iv (some ⟨g, 0, none⟩) cs At ct bl m) (ht : m.acts.length = t + 1) (hl : ∀ a ∈ m.acts, (∀ i, a.ms = some i → i < m.hp.length) ∧ (∀ i, a.ma = some i → i < m.hp.length)) (hB : B ≤ w.heap.size) (hn : n ≤ 10000000) (k : Int) (hk : (Lit.int .i64 k).wf = true) (v : Nat × Nat) :
 Calls Tryd.prog 42 #[.pointer (some ⟨g, t * 4 + 3, none⟩), .int .i64 k, .agg #[.int .u64 v.1, .int .u64 v.2]] w (DefD w B n mb ad pv iv g t (m.defA k v)) := by
 obtain ⟨W1, hW1⟩ : ∃ W1, W1 = w.alloc (.cells #[.int .u64 v.1, .int .u64 v.2] 37) := ⟨_, rfl⟩
 have hB1 : Below w.heap.size w W1 := by rw [hW1]; exact bR.alloc nL _
 have HK : Hid (Blk W1 w.heap.size 37 #[.int .u64 v.1, .int .u64 v.2]) := hQ (by rw [hW1]; exact Blk.new _ _ _)
 have hgB : B ≤ g := (h.own.lt g rfl).1
 have hgw : g < w.heap.size := (h.own.lt g rfl).2
 have hs1 := hB1.size
 have HM := hQ (h.after hB1)
 have HB1 : Hid (Below B w W1) := hQ (hB1.mono hB)
 have HW1 := hQ hW1
 have HL := hQ hl
 have HT := hQ ht
 have et : m.top = m.acts.getD t Ac.z := by unfold Mx.top; rw [show m.acts.length - 1 = t by omega]
 have htop : m.top ∈ m.acts := by
  rw [et, List.getD_eq_getElem?_getD, List.getElem?_eq_getElem (by omega)]
  exact List.getElem_mem (by omega)
 have HLT := hQ (hl _ htop)
 have c0 : W1.cell? ⟨g, t * 4 + 3, none⟩ = some (.map (m.top.ma.map fun i => bl.getD i 0)) := by
  rw [et]
  have := (HM.out.own.cellAt (t * 4 + 3) (by omega)).trans (flat_get (acV_len ad bl) Ac.z m.acts t 3 (by omega) (by omega))
  simpa [acV] using this
 have f0 : W1.frozen? ⟨g, t * 4 + 3, none⟩ = false := HM.out.own.frozenAt _
 have gz : g < W1.heap.size := (HM.out.own.lt g rfl).2
 obtain ⟨pv0, hpv0⟩ : ∃ u, W1.cell? ⟨g, t * 4, none⟩ = some u := ⟨_, (HM.out.own.cellAt (t * 4 + 0) (by omega)).trans (flat_get (acV_len ad bl) Ac.z m.acts t 0 (by omega) (by omega))⟩
 have HPV : Hid (W1.cell? ⟨g, t * 4, none⟩ = some pv0) := hQ hpv0
 have HPW : Hid (w.cell? ⟨g, t * 4, none⟩ = some pv0) := hQ (by rw [← hpv0]; exact (hB1.cell (p := ⟨g, t * 4, none⟩) hgw).symm)
 have HFR1 : Hid (Frm w W1) := hQ (Frm.of_below hB1)
 obtain ⟨gcur, hgcur⟩ := own_heap HM.out.own (gb := g) rfl
 have HGC := hQ hgcur
 clear h hW1 hB1 hl ht et htop hpv0 hgcur
 obtain ⟨x0, x1, -, -, xz⟩ := HK.out.c2
 cases hms : m.top.ma with
 | some i =>
  rw [hms] at c0
  have hi : i < m.hp.length := HLT.out.2 i hms
  have HE : Hid (m.defA k v = { m with hp := m.hp.set i ((k, v) :: m.hp.getD i []) }) := hQ (by unfold Mx.defA; rw [hms])
  obtain ⟨b, hb⟩ : ∃ b, b = bl.getD i 0 := ⟨_, rfl⟩
  obtain ⟨hbi, hmp⟩ := HM.out.maps i (by rw [HM.out.bll]; exact hi)
  rw [← hb] at hbi hmp
  obtain ⟨w2, hr2, m2, g2⟩ := hmp.store (by unfold maxLen; omega) hk v
  obtain ⟨w3, hr3, m3, g3⟩ := (show Mp W1.drew b n (m.hp.getD i []) from hmp).store (by unfold maxLen; omega) hk v
  have c0' : W1.cell? ⟨g, t * 4 + 3, none⟩ = some (.map (some b)) := by rw [hb]; exact c0
  have g3' := grownBy_transR (grownBy_of_below ((Below.refl W1.heap.size W1).drew) (some b)) g3
  have HM2 := hQ (HM.out.mput hi (by rw [← hb]; exact g2) (by rw [← hb]; exact m2))
  have HM3 := hQ (HM.out.mput hi (by rw [← hb]; exact g3') (by rw [← hb]; exact m3))
  have HX2 : Hid (Frm W1 w2 ∧ w2.cell? ⟨g, t * 4, none⟩ = some pv0) := hQ ⟨Frm.of_map hmp g2, cell_of_map hmp g2 HPV.out HGC.out⟩
  have HX3 : Hid (Frm W1 w3 ∧ w3.cell? ⟨g, t * 4, none⟩ = some pv0) := hQ ⟨Frm.of_map hmp g3', cell_of_map hmp g3' HPV.out HGC.out⟩
  have HB2 : Hid (Below B W1 w2) := hQ (below_of_grownR g2 (fun q e => by injection e with e; omega) (by omega))
  have HB3 : Hid (Below B W1 w3) := hQ (below_of_grownR g3' (fun q e => by injection e with e; omega) (by omega))
  have heq : ∀ W, (binOp .eql 88 (.map (some b)) (.map none)).run Tryd.prog W = .ok (.bool false) W := fun W => eqn_map W _
  clear c0 hmp m2 m3 g2 g3 g3' hb hbi
  go_enter Tryd.func42, Tryd.ntmps42
  go_upto_region 1 with (fail)
  rw [← HW1.out]
  go_upto_region 3 with (fail)
  go_region_with (fail)
  all_goals go_wp2
  all_goals go_end0
  all_goals rw [HE.out]
  all_goals
   first
   | exact ⟨⟨rfl, HB1.out.trans HB2.out, _, _, _, _, _, HM2.out⟩, HFR1.out.trans HX2.out.1, HX2.out.2.trans HPW.out.symm⟩
   | exact ⟨⟨rfl, HB1.out.trans HB3.out, _, _, _, _, _, HM3.out⟩, HFR1.out.trans HX3.out.1, HX3.out.2.trans HPW.out.symm⟩
   | exact ⟨⟨rfl, HB1.out.trans HB2.out.drew, _, _, _, _, _, HM2.out.after (bR.drew)⟩, HFR1.out.trans HX2.out.1, HX2.out.2.trans HPW.out.symm⟩
   | exact ⟨⟨rfl, HB1.out.trans HB3.out.drew, _, _, _, _, _, HM3.out.after (bR.drew)⟩, HFR1.out.trans HX3.out.1, HX3.out.2.trans HPW.out.symm⟩
 | none =>
  rw [hms] at c0
  have c0' : W1.cell? ⟨g, t * 4 + 3, none⟩ = some (.map none) := c0
  have HE : Hid (m.defA k v = { m.setTop { m.top with ma := some m.hp.length } with hp := m.hp ++ [[(k, v)]] }) := hQ (by unfold Mx.defA; rw [hms])
  have hmm := @run_makeMap Tryd.prog
  clear c0
  have heq : ∀ W, (binOp .eql 88 (.map none) (.map none)).run Tryd.prog W = .ok (.bool true) W := fun W => eqn_map W _
  go_enter Tryd.func42, Tryd.ntmps42
  go_upto_region 1 with (fail)
  rw [← HW1.out]
  go_upto_region 3 with (fail)
  obtain ⟨W2, hW2⟩ : ∃ W2, W2 = (W1.setCell ⟨g, t * 4 + 3, none⟩ (.map (some W1.heap.size))).alloc (.map #[] 0) := ⟨_, rfl⟩
  rw [← hW2]
  have hB1' : B ≤ W1.heap.size := by omega
  have hm2 : MAt W2 B n mb ad pv iv (some ⟨g, 0, none⟩) cs At ct (bl ++ [W1.heap.size]) { m.setTop { m.top with ma := some m.hp.length } with hp := m.hp ++ [[]] } := by
   have h0 := HM.out.mnew hB1' HL.out
   have h1 := h0.aset (g := g) (t := t) HT.out (j := 3) (by omega) (.map (some W1.heap.size)) { m.top with ma := some m.hp.length } (by
    have e1 : ({ m with hp := m.hp ++ [[]] } : Mx).top = m.top := rfl
    have e2 : (bl ++ [W1.heap.size]).getD m.hp.length 0 = W1.heap.size := by rw [← HM.out.bll]; simp
    rw [e1]
    unfold acV
    simp only [Option.map_some, e2]
    rfl)
   rw [hW2, ← World.setCell_alloc_past _ _ _ _ gz]
   exact h1
  have hi2 : m.hp.length < (m.hp ++ [([] : List (Int × (Nat × Nat)))]).length := by simp
  have hbl2 : (bl ++ [W1.heap.size]).getD m.hp.length 0 = W1.heap.size := by rw [← HM.out.bll]; simp
  have hmp := (hm2.maps m.hp.length (by rw [hm2.bll]; exact hi2)).2
  have hge : (m.hp ++ [([] : List (Int × (Nat × Nat)))]).getD m.hp.length [] = [] := by simp
  rw [hbl2] at hmp
  have hmp' : Mp W2 W1.heap.size n [] := by
   have := hmp
   rw [show ({ m.setTop { m.top with ma := some m.hp.length } with hp := m.hp ++ [[]] } : Mx).hp.getD m.hp.length [] = [] from hge] at this
   exact this
  obtain ⟨b, hb⟩ : ∃ b, b = W1.heap.size := ⟨_, rfl⟩
  have hblb : (bl ++ [W1.heap.size]).getD m.hp.length 0 = b := by rw [hb]; exact hbl2
  rw [← hb] at hmp' ⊢
  obtain ⟨w2, hr2, m2, g2⟩ := hmp'.store (by unfold maxLen; omega) hk v
  obtain ⟨w3, hr3, m3, g3⟩ := (show Mp W2.drew b n [] from hmp').store (by unfold maxLen; omega) hk v
  have g3' := grownBy_transR (grownBy_of_below ((Below.refl W2.heap.size W2).drew) (some b)) g3
  have ehp : (m.hp ++ [([] : List (Int × (Nat × Nat)))]).set m.hp.length [(k, v)] = m.hp ++ [[(k, v)]] := by rw [List.set_append_right _ _ nL]; simp
  have HM2 := hQ (hm2.mput hi2 (by rw [hblb]; exact g2) (by rw [hblb]; exact m2))
  have HM3 := hQ (hm2.mput hi2 (by rw [hblb]; exact g3') (by rw [hblb]; exact m3))
  have hb2 : Below B W1 W2 := by rw [hW2]; exact (below_set (p := ⟨g, t * 4 + 3, none⟩) hgB _).alloc (by simpa using hB1') _
  have hs2 := hb2.size
  have HB2 : Hid (Below B W1 w2) := hQ (hb2.trans (below_of_grownR g2 (fun q e => by injection e with e; omega) (by omega)))
  have HB3 : Hid (Below B W1 w3) := hQ (hb2.trans (below_of_grownR g3' (fun q e => by injection e with e; omega) (by omega)))
  have c1 : W2.cell? ⟨g, t * 4 + 3, none⟩ = some (.map (some b)) := by
   rw [hW2, hb]
   go_simp
  have hk2 : Blk W2 w.heap.size 37 #[.int .u64 v.1, .int .u64 v.2] := by
   rw [hW2]
   exact (HK.out.far (p := ⟨g, t * 4 + 3, none⟩) (by show ¬ w.heap.size = g; omega) _).alloc _
  obtain ⟨x0', x1', -, -, xz'⟩ := hk2.c2
  have hf2 : Frm W1 W2 := by
   rw [hW2]
   exact (Frm.set HM.out.own rfl).trans (Frm.of_below (bR.alloc nL _))
  have hpc2 : W2.cell? ⟨g, t * 4, none⟩ = some pv0 := by
   have h0 := HPV.out
   rw [hW2]
   go_simp
  have hgc2 : ∃ cur, W2.heap[g]? = some (.cells cur 90 (0, 0)) := own_heap hm2.own (gb := g) rfl
  obtain ⟨gcur2, hgc2⟩ := hgc2
  have HX2 : Hid (Frm W1 w2 ∧ w2.cell? ⟨g, t * 4, none⟩ = some pv0) := hQ ⟨hf2.trans (Frm.of_map hmp' g2), cell_of_map hmp' g2 hpc2 hgc2⟩
  have HX3 : Hid (Frm W1 w3 ∧ w3.cell? ⟨g, t * 4, none⟩ = some pv0) := hQ ⟨hf2.trans (Frm.of_map hmp' g3'), cell_of_map hmp' g3' hpc2 hgc2⟩
  clear hf2 hpc2 hgc2
  clear hk2 hW2 hm2 hmp hmp' m2 m3 g2 g3 g3' hb hbl2 hblb c0' x0 x1 f0 hge
  go_region_with (fail)
  all_goals go_wp2
  all_goals go_end0
  all_goals rw [HE.out]
  all_goals
   first
   | exact ⟨⟨rfl, HB1.out.trans HB2.out, _, _, _, _, _, by have := HM2.out; rw [ehp] at this; exact this⟩, HFR1.out.trans HX2.out.1, HX2.out.2.trans HPW.out.symm⟩
   | exact ⟨⟨rfl, HB1.out.trans HB3.out, _, _, _, _, _, by have := HM3.out; rw [ehp] at this; exact this⟩, HFR1.out.trans HX3.out.1, HX3.out.2.trans HPW.out.symm⟩
   | exact ⟨⟨rfl, HB1.out.trans HB2.out.drew, _, _, _, _, _, by have := HM2.out.after (bR.drew); rw [ehp] at this; exact this⟩, HFR1.out.trans HX2.out.1, HX2.out.2.trans HPW.out.symm⟩
   | exact ⟨⟨rfl, HB1.out.trans HB3.out.drew, _, _, _, _, _, by have := HM3.out.after (bR.drew); rw [ehp] at this; exact this⟩, HFR1.out.trans HX3.out.1, HX3.out.2.trans HPW.out.symm⟩
end
end Go.Proofs.YtdijeijbcoeopaaDoor.pm
