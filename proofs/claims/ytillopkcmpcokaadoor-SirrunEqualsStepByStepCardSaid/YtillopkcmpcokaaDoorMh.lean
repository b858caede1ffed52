/- The machine that runs source programs, as plain data; how it lies in memory. -/
import Derived.Test.YtillopkcmpcokaaDoorPx
import Derived.Test.YtillopkcmpcokaaDoorMp
namespace Go.Proofs.YtillopkcmpcokaaDoor.pm
open Go.RowKit
set_option linter.unusedVariables false
set_option maxRecDepth 10000

theorem own_miss8 {w : World} {base n : Nat} {e : TypeId} {size : Nat} {v : Value} {xs : List Value} (h : w.ownsRow base e size v n xs) (p : Addr) (hp : ∀ j, v.ownBlock = some j → j ≠ p.block) (u : Value) : (w.setCell p u).ownsRow base e size v n xs := by
  refine ⟨h.1, ?_⟩
  rcases h.2 with h1 | ⟨g, cap, cur, rfl, h2, h3, r⟩
  · exact .inl h1
  · refine .inr ⟨g, cap, cur, rfl, h2, ?_, r⟩
    exact (Below.heap_setCell w p u g (hp g rfl)).trans h3
/-- an activation -/
structure Ac where
  f : Nat
  pc : Nat
  ms : Option Nat
  ma : Option Nat
def Ac.z : Ac := ⟨0, 0, none, none⟩
structure Mx where
  regs : List (Nat × Nat)
  acts : List Ac
  hp : List (List (Int × (Nat × Nat)))
  deep : Nat
  inp : List Nat
  kind : Int
  code : Nat
  res : Nat × Nat
  steps : Nat
  trace : List (Nat × Nat)
  ended : Bool
def Mx.start (inp : List Nat) : Mx := ⟨List.replicate 8 (0, 0), [], [], 0, inp, 0, 0, (0, 0), 0, [], false⟩
namespace Mx
def call (m : Mx) (f : Nat) : Mx := { m with acts := m.acts ++ [⟨f, 0, none, none⟩], deep := if m.deep < m.acts.length + 1 then m.acts.length + 1 else m.deep }
def stop (m : Mx) (k : Int) : Mx := { m with kind := k, ended := true }
def look (m : Mx) (o : Option Nat) (k : Int) : Option (Nat × Nat) :=
  match o with
  | none => none
  | some i => (m.hp.getD i []).lookup k
def take (m : Mx) (r : Nat) (v : Option (Nat × Nat)) : Mx :=
  match v with
  | some v => { m with regs := m.regs.set r v }
  | none => m.stop 3
def top (m : Mx) : Ac := m.acts.getD (m.acts.length - 1) Ac.z
def setTop (m : Mx) (a : Ac) : Mx := { m with acts := m.acts.set (m.acts.length - 1) a }
def defS (m : Mx) (k : Int) (v : Nat × Nat) : Mx :=
  match m.top.ms with
  | some j => { m with hp := m.hp.set j ((k, v) :: m.hp.getD j []) }
  | none => { m.setTop { m.top with ms := some m.hp.length } with hp := m.hp ++ [[(k, v)]] }
def defA (m : Mx) (k : Int) (v : Nat × Nat) : Mx :=
  match m.top.ma with
  | some j => { m with hp := m.hp.set j ((k, v) :: m.hp.getD j []) }
  | none => { m.setTop { m.top with ma := some m.hp.length } with hp := m.hp ++ [[(k, v)]] }
end Mx
/-- the cells of a value -/
def vcl (x : Nat × Nat) : List Value := [.int .u64 x.1, .int .u64 x.2]
theorem vcl_len (x : Nat × Nat) : (vcl x).length = 2 := rfl
/-- the cells of an activation: ad: where the functions lie; bl: the maps' blocks -/
def acV (ad : Addr) (bl : List Nat) (a : Ac) : List Value := [.pointer (some (ad.add (a.f * 3))), .int .i64 a.pc, .map (a.ms.map fun i => bl.getD i 0), .map (a.ma.map fun i => bl.getD i 0)]
theorem acV_len (ad : Addr) (bl : List Nat) (a : Ac) : (acV ad bl a).length = 4 := rfl
def rg (m : Mx) (i : Nat) : Nat × Nat := m.regs.getD i (0, 0)
/-- the cells of the machine -/
def mcs (pv iv sv tv : Value) (m : Mx) : Array Value :=
  #[pv, iv, .int .u64 (rg m 0).1, .int .u64 (rg m 0).2, .int .u64 (rg m 1).1, .int .u64 (rg m 1).2, .int .u64 (rg m 2).1, .int .u64 (rg m 2).2, .int .u64 (rg m 3).1, .int .u64 (rg m 3).2,
    .int .u64 (rg m 4).1, .int .u64 (rg m 4).2, .int .u64 (rg m 5).1, .int .u64 (rg m 5).2, .int .u64 (rg m 6).1, .int .u64 (rg m 6).2, .int .u64 (rg m 7).1, .int .u64 (rg m 7).2,
    sv, .int .i64 m.deep, .int .i64 m.kind, .int .u64 m.code, .int .u64 m.res.1, .int .u64 m.res.2, tv, .int .i64 m.steps, .bool m.ended]
/-- the machine in memory, in blocks from B on; each of its maps has at most n entries -/
structure MAt (w : World) (B n mb : Nat) (ad : Addr) (pv iv : Value) (As : Option Addr) (cs : Nat) (At : Option Addr) (ct : Nat) (bl : List Nat) (m : Mx) : Prop where
  blk : Blk w mb 73 (mcs pv iv (.slice As m.acts.length cs) (.slice At m.trace.length ct) m)
  hmb : B ≤ mb
  own : w.ownsRow B 96 4 (.slice As m.acts.length cs) m.acts.length (m.acts.flatMap (acV ad bl))
  tr : w.ownsRow B 33 2 (.slice At m.trace.length ct) m.trace.length (m.trace.flatMap vcl)
  bll : bl.length = m.hp.length
  nd : bl.Nodup
  maps : ∀ i, i < bl.length → B ≤ bl.getD i 0 ∧ Mp w (bl.getD i 0) n (m.hp.getD i [])
/-- every activation stands at an instruction; a map that it has is there; the registers are eight -/
structure Wf (p : List Fn) (m : Mx) : Prop where
  regs : m.regs.length = 8
  live : ∀ a ∈ m.acts, a.f < p.length ∧ a.pc < (p.getD a.f Fn.z).code.length ∧ (∀ i, a.ms = some i → i < m.hp.length) ∧ (∀ i, a.ma = some i → i < m.hp.length)
  some_ : 1 ≤ m.acts.length
section
variable {w w' : World} {B n mb cs ct : Nat} {ad : Addr} {pv iv x y : Value} {As At : Option Addr} {bl : List Nat} {m : Mx}
/-- the cells of the machine that are read at fixed places -/
theorem MAt.cells (h : MAt w B n mb ad pv iv As cs At ct bl m) : w.cell? ⟨mb, 0, none⟩ = some pv ∧ w.cell? ⟨mb, 1, none⟩ = some iv ∧ w.cell? ⟨mb, 18, none⟩ = some (.slice As m.acts.length cs) ∧ w.cell? ⟨mb, 19, none⟩ = some (.int .i64 m.deep) ∧
    w.cell? ⟨mb, 24, none⟩ = some (.slice At m.trace.length ct) ∧ w.cell? ⟨mb, 25, none⟩ = some (.int .i64 m.steps) ∧ w.cell? ⟨mb, 26, none⟩ = some (.bool m.ended) ∧ mb < w.heap.size :=
  ⟨h.blk.cell 0, h.blk.cell 1, h.blk.cell 18, h.blk.cell 19, h.blk.cell 24, h.blk.cell 25, h.blk.cell 26, h.blk.lt⟩
theorem reg_cell (h : Blk w mb 73 (mcs pv iv x y m)) {r : Nat} (hr : r < 8) : w.cell? ⟨mb, 2 + r * 2, none⟩ = some (.int .u64 (rg m r).1) ∧ w.cell? ⟨mb, 2 + r * 2 + 1, none⟩ = some (.int .u64 (rg m r).2) := by
  have e : r = 0 ∨ r = 1 ∨ r = 2 ∨ r = 3 ∨ r = 4 ∨ r = 5 ∨ r = 6 ∨ r = 7 := by omega
  rcases e with rfl | rfl | rfl | rfl | rfl | rfl | rfl | rfl
  · exact ⟨h.cell 2, h.cell 3⟩
  · exact ⟨h.cell 4, h.cell 5⟩
  · exact ⟨h.cell 6, h.cell 7⟩
  · exact ⟨h.cell 8, h.cell 9⟩
  · exact ⟨h.cell 10, h.cell 11⟩
  · exact ⟨h.cell 12, h.cell 13⟩
  · exact ⟨h.cell 14, h.cell 15⟩
  · exact ⟨h.cell 16, h.cell 17⟩
theorem MAt.mb_own (h : MAt w B n mb ad pv iv As cs At ct bl m) : (Value.slice As m.acts.length cs).ownBlock ≠ some mb := fun e => by
  rcases h.own.2 with ⟨h0, -⟩ | ⟨g, cap, cur, h0, -, h2, -⟩
  · rw [h0] at e; cases e
  · rw [h0] at e
    have e' : g = mb := by simpa [Value.ownBlock] using e
    have hb : w.heap[mb]? = some (.cells (mcs pv iv (.slice As m.acts.length cs) (.slice At m.trace.length ct) m) 73 (0, 0)) := h.blk
    rw [e', hb] at h2
    injection h2 with h2
    injection h2 with _ h3
    exact absurd h3 (by decide)
theorem MAt.mb_tr (h : MAt w B n mb ad pv iv As cs At ct bl m) : (Value.slice At m.trace.length ct).ownBlock ≠ some mb := fun e => by
  rcases h.tr.2 with ⟨h0, -⟩ | ⟨g, cap, cur, h0, -, h2, -⟩
  · rw [h0] at e; cases e
  · rw [h0] at e
    have e' : g = mb := by simpa [Value.ownBlock] using e
    have hb : w.heap[mb]? = some (.cells (mcs pv iv (.slice As m.acts.length cs) (.slice At m.trace.length ct) m) 73 (0, 0)) := h.blk
    rw [e', hb] at h2
    injection h2 with h2
    injection h2 with _ h3
    exact absurd h3 (by decide)
theorem Mp.ne_cells {b g : Nat} {L : List (Int × (Nat × Nat))} {cur : Array Value} {t : TypeId} {f : Nat × Nat} (h : Mp w b n L) (hg : w.heap[g]? = some (.cells cur t f)) : b ≠ g := fun e => by
  obtain ⟨D, ⟨es, clock, hb, _⟩, _⟩ := h
  subst e
  rw [hg] at hb
  cases hb
theorem own_heap {b e s k : Nat} {v : Value} {xs : List Value} (h : w.ownsRow b e s v k xs) {gb : Nat} (hg : v.ownBlock = some gb) : ∃ cur, w.heap[gb]? = some (.cells cur e (0, 0)) := by
  rcases h.2 with ⟨h0, -⟩ | ⟨g, cap, cur, h0, -, h2, -⟩
  · rw [h0] at hg; cases hg
  · rw [h0] at hg
    have e' : g = gb := by simpa [Value.ownBlock] using hg
    subst e'
    exact ⟨cur, h2⟩
/-- a cell of the machine is written -/
theorem MAt.mset (h : MAt w B n mb ad pv iv As cs At ct bl m) (j : Nat) (u : Value) (m' : Mx)
    (ha : m'.acts = m.acts) (ht : m'.trace = m.trace) (hp : m'.hp = m.hp) (e : (mcs pv iv (.slice As m.acts.length cs) (.slice At m.trace.length ct) m).setIfInBounds j u = mcs pv iv (.slice As m.acts.length cs) (.slice At m.trace.length ct) m') :
    MAt (w.setCell ⟨mb, j, none⟩ u) B n mb ad pv iv As cs At ct bl m' := by
  refine ⟨?_, h.hmb, ?_, ?_, by rw [hp]; exact h.bll, h.nd, fun i hi => ?_⟩
  · rw [ha, ht, ← e]; exact h.blk.set_ j u
  · rw [ha]; exact own_miss8 h.own _ (fun j e => by have := h.mb_own; intro e'; exact this (by rw [e, e'])) u
  · rw [ht]; exact own_miss8 h.tr _ (fun j e => by have := h.mb_tr; intro e'; exact this (by rw [e, e'])) u
  · rw [hp]
    have hb : w.heap[mb]? = some (.cells (mcs pv iv (.slice As m.acts.length cs) (.slice At m.trace.length ct) m) 73 (0, 0)) := h.blk
    exact ⟨(h.maps i hi).1, (h.maps i hi).2.setCell (a := ⟨mb, j, none⟩) ((h.maps i hi).2.ne_cells hb) u⟩
theorem MAt.after (h : MAt w B n mb ad pv iv As cs At ct bl m) (hb : Below w.heap.size w w') : MAt w' B n mb ad pv iv As cs At ct bl m := by
  have hg : w.grownBy w' none := ⟨hb.os, hb.tape, hb.output, hb.size, fun i hi _ => hb.block i hi⟩
  exact ⟨h.blk.after hb, h.hmb, h.own.kept hg (by cases (Value.slice As m.acts.length cs).ownBlock <;> simp), h.tr.kept hg (by cases (Value.slice At m.trace.length ct).ownBlock <;> simp), h.bll, h.nd, fun i hi => ⟨(h.maps i hi).1, (h.maps i hi).2.kept hg (by simp)⟩⟩
theorem MAt.mono (h : MAt w B n mb ad pv iv As cs At ct bl m) {n' : Nat} (hn : n ≤ n') : MAt w B n' mb ad pv iv As cs At ct bl m :=
  ⟨h.blk, h.hmb, h.own, h.tr, h.bll, h.nd, fun i hi => ⟨(h.maps i hi).1, (h.maps i hi).2.mono hn⟩⟩
theorem blk_own_ne {g t e s k gb : Nat} {cs : Array Value} {v : Value} {xs : List Value} {b : Nat} (h : Blk w g t cs) (ho : w.ownsRow b e s v k xs) (hne : t ≠ e) : v.ownBlock ≠ some g := fun hg => by
  obtain ⟨cur, h2⟩ := own_heap ho hg
  have hb : w.heap[g]? = some (.cells cs t (0, 0)) := h
  rw [hb] at h2
  injection h2 with h2
  injection h2 with _ h3
  exact hne h3
theorem own_own_ne {e e' s s' k k' b b' : Nat} {v v' : Value} {xs xs' : List Value} (h : w.ownsRow b e s v k xs) (h' : w.ownsRow b' e' s' v' k' xs') (hne : e ≠ e') : v.ownBlock = none ∨ v.ownBlock ≠ v'.ownBlock := by
  cases hv : v.ownBlock with
  | none => exact .inl rfl
  | some g =>
    refine .inr fun hg => ?_
    obtain ⟨c1, h1⟩ := own_heap h hv
    obtain ⟨c2, h2⟩ := own_heap h' hg.symm
    rw [h1] at h2
    injection h2 with h2
    injection h2 with _ h3
    exact hne h3
/-- the row of activations is another one -/
theorem MAt.restack (h : MAt w B n mb ad pv iv As cs At ct bl m) (hg : w.grownBy w' (Value.slice As m.acts.length cs).ownBlock) {As' : Option Addr} {cs' : Nat} {acts' : List Ac}
    (own' : w'.ownsRow B 96 4 (.slice As' acts'.length cs') acts'.length (acts'.flatMap (acV ad bl))) (m' : Mx) (ha : m'.acts = acts') (ht : m'.trace = m.trace) (hp : m'.hp = m.hp)
    (e : (mcs pv iv (.slice As m.acts.length cs) (.slice At m.trace.length ct) m).setIfInBounds 18 (.slice As' acts'.length cs') = mcs pv iv (.slice As' acts'.length cs') (.slice At m.trace.length ct) m') :
    MAt (w'.setCell ⟨mb, 18, none⟩ (.slice As' acts'.length cs')) B n mb ad pv iv As' cs' At ct bl m' := by
  have hb' := h.blk.grown hg (fun e => h.mb_own e.symm)
  have htr : w'.ownsRow B 33 2 (.slice At m.trace.length ct) m.trace.length (m.trace.flatMap vcl) := h.tr.kept hg (own_own_ne h.tr h.own (by decide))
  refine ⟨?_, h.hmb, ?_, ?_, by rw [hp]; exact h.bll, h.nd, fun i hi => ?_⟩
  · rw [ha, ht, ← e]; exact hb'.set_ 18 _
  · rw [ha]; exact own_miss8 own' _ (fun j e e' => blk_own_ne (gb := 0) hb' own' (by decide) (by rw [e, e'])) _
  · rw [ht]; exact own_miss8 htr _ (fun j e e' => blk_own_ne (gb := 0) hb' htr (by decide) (by rw [e, e'])) _
  · rw [hp]
    have hbb : w'.heap[mb]? = some (.cells (mcs pv iv (.slice As m.acts.length cs) (.slice At m.trace.length ct) m) 73 (0, 0)) := hb'
    have hm : Mp w' (bl.getD i 0) n (m.hp.getD i []) := (h.maps i hi).2.kept hg (fun e => by
      obtain ⟨cur, h2⟩ := own_heap h.own e.symm
      exact (h.maps i hi).2.ne_cells h2 rfl)
    exact ⟨(h.maps i hi).1, hm.setCell (a := ⟨mb, 18, none⟩) (hm.ne_cells hbb) _⟩
theorem reads_new1 {w : World} {size n : Nat} {t : TypeId} {cs : List Value} (hs : cs.length = n * size) : Reads (w.alloc (.cells cs.toArray t)) (w.heap.size + 1) size (some ⟨w.heap.size, 0, none⟩) n cs :=
  ⟨hs, fun _ => ⟨_, rfl, by simp, fun j u hu => by
    have h := Blk.cell (Blk.new w t cs.toArray) j
    rw [show (⟨w.heap.size, 0, none⟩ : Addr).add j = ⟨w.heap.size, j, none⟩ by unfold Addr.add; by_cases hj : j = 0 <;> simp [hj], h]
    simpa using hu⟩⟩
theorem grownBy_transR {a b c : World} {r : Option Nat} (h : a.grownBy b r) (k : b.grownBy c r) : a.grownBy c r :=
  ⟨k.os.trans h.os, k.tape.trans h.tape, k.output.trans h.output, Nat.le_trans h.size k.size, fun i hi hn => (k.block i (Nat.lt_of_lt_of_le hi h.size) hn).trans (h.block i hi hn)⟩
theorem below_of_grownR {B : Nat} {a b : World} {r : Option Nat} (h : a.grownBy b r) (hr : ∀ k, r = some k → B ≤ k) (hB : B ≤ a.heap.size) : Below B a b :=
  ⟨h.os, h.tape, h.output, h.size, fun i hi => h.block i (Nat.lt_of_lt_of_le hi hB) (fun e => by have := hr i e.symm; omega)⟩
theorem MAt.push (h : MAt w B n mb ad pv iv As cs At ct bl m) (hg : w.grownBy w' (Value.slice As m.acts.length cs).ownBlock) {A6 : Option Addr} {c6 f : Nat}
    (own' : w'.ownsRow B 96 4 (.slice A6 (m.acts.length + 1) c6) (m.acts.length + 1) (m.acts.flatMap (acV ad bl) ++ [.pointer (some (ad.add (f * 3))), .int .i64 0, .map none, .map none])) :
    MAt (w'.setCell ⟨mb, 18, none⟩ (.slice A6 (m.acts.length + 1) c6)) B n mb ad pv iv A6 c6 At ct bl { m with acts := m.acts ++ [⟨f, 0, none, none⟩] } := by
  have hl : (m.acts ++ [(⟨f, 0, none, none⟩ : Ac)]).length = m.acts.length + 1 := by simp
  have ho : w'.ownsRow B 96 4 (.slice A6 (m.acts ++ [(⟨f, 0, none, none⟩ : Ac)]).length c6) (m.acts ++ [(⟨f, 0, none, none⟩ : Ac)]).length ((m.acts ++ [(⟨f, 0, none, none⟩ : Ac)]).flatMap (acV ad bl)) := by
    rw [hl, List.flatMap_append]; exact own'
  have := h.restack hg ho { m with acts := m.acts ++ [⟨f, 0, none, none⟩] } rfl rfl rfl rfl
  rw [hl] at this
  exact this
theorem set_top_flat {f : Ac → List Value} (hf : ∀ a, (f a).length = 4) {l : List Ac} {t j : Nat} (ht : t < l.length) (hj : j < 4) {u : Value} {a' : Ac} (e : (f (l.getD t Ac.z)).set j u = f a') :
    (l.flatMap f).set (t * 4 + j) u = (l.set t a').flatMap f := by
  induction l generalizing t with
  | nil => simp at ht
  | cons x r ih =>
    cases t with
    | zero =>
      rw [List.flatMap_cons, List.set_cons_zero, List.flatMap_cons, Nat.zero_mul, Nat.zero_add, List.set_append_left _ _ (by rw [hf]; exact hj)]
      rw [← e]; rfl
    | succ t =>
      rw [List.flatMap_cons, List.set_cons_succ, List.flatMap_cons, List.set_append_right _ _ (by rw [hf]; omega), show (t + 1) * 4 + j - (f x).length = t * 4 + j by rw [hf]; omega, ih (by simpa using ht) (by simpa using e)]
/-- a cell of the topmost activation is written -/
theorem MAt.aset {g t : Nat} (h : MAt w B n mb ad pv iv (some ⟨g, 0, none⟩) cs At ct bl m) (ht : m.acts.length = t + 1) {j : Nat} (hj : j < 4) (u : Value) (a' : Ac) (e : (acV ad bl m.top).set j u = acV ad bl a') :
    MAt (w.setCell ⟨g, t * 4 + j, none⟩ u) B n mb ad pv iv (some ⟨g, 0, none⟩) cs At ct bl (m.setTop a') := by
  have et : m.top = m.acts.getD t Ac.z := by unfold Mx.top; rw [show m.acts.length - 1 = t by omega]
  have hl : (m.setTop a').acts.length = m.acts.length := by simp [Mx.setTop]
  have hs : (m.setTop a').acts = m.acts.set t a' := by unfold Mx.setTop; rw [show m.acts.length - 1 = t by omega]
  have ho := (h.own.stored (t * 4 + j) u).1
  rw [set_top_flat (acV_len ad bl) (by omega) hj (by rw [← et]; exact e), ← hs] at ho
  have hmg : mb ≠ g := fun e => h.mb_own (by rw [e]; rfl)
  refine ⟨?_, h.hmb, ?_, ?_, h.bll, h.nd, fun i hi => ?_⟩
  · rw [hl]; exact h.blk.far (p := ⟨g, t * 4 + j, none⟩) hmg u
  · rw [hl]; exact ho
  · exact own_miss8 h.tr _ (fun i e e' => by
      rcases own_own_ne h.tr h.own (by decide) with h0 | h0
      · rw [h0] at e; cases e
      · exact h0 (by rw [e, e']; rfl)) u
  · refine ⟨(h.maps i hi).1, (h.maps i hi).2.setCell (a := ⟨g, t * 4 + j, none⟩) ?_ u⟩
    obtain ⟨cur, h2⟩ := own_heap h.own (gb := g) rfl
    exact (h.maps i hi).2.ne_cells h2
theorem own_cut {b e s k k' c g : Nat} {xs : List Value} (h : w.ownsRow b e s (.slice (some ⟨g, 0, none⟩) k c) k xs) (hk : k' ≤ k) : w.ownsRow b e s (.slice (some ⟨g, 0, none⟩) k' c) k' (xs.take (k' * s)) := by
  have hle : k' * s ≤ k * s := Nat.mul_le_mul_right s hk
  refine ⟨by rw [List.length_take, h.1]; omega, ?_⟩
  rcases h.2 with ⟨h0, -⟩ | ⟨g', cap, cur, h0, h1, h2, h3, h4, h5, h6⟩
  · cases h0
  · injection h0 with e1 e2 e3
    injection e1 with e1
    injection e1 with e1
    subst e1 e3
    exact .inr ⟨g, c, cur, rfl, h1, h2, by omega, h4, h5, by rw [← h6, List.take_take]; congr 1; omega⟩
theorem flat_take {f : Ac → List Value} (hf : ∀ a, (f a).length = 4) : ∀ (l : List Ac) (t : Nat), (l.flatMap f).take (t * 4) = (l.take t).flatMap f
  | [], t => by simp
  | x :: r, 0 => by simp
  | x :: r, t + 1 => by
    rw [List.flatMap_cons, List.take_succ_cons, List.flatMap_cons, List.take_append, hf, show (t + 1) * 4 - 4 = t * 4 by omega, flat_take hf r t, List.take_of_length_le (by rw [hf]; omega)]
/-- the topmost activation is struck -/
theorem MAt.pop {g t : Nat} (h : MAt w B n mb ad pv iv (some ⟨g, 0, none⟩) cs At ct bl m) (ht : m.acts.length = t + 1) :
    MAt (w.setCell ⟨mb, 18, none⟩ (.slice (some ⟨g, 0, none⟩) t cs)) B n mb ad pv iv (some ⟨g, 0, none⟩) cs At ct bl { m with acts := m.acts.take t } := by
  have hl : (m.acts.take t).length = t := by rw [List.length_take]; omega
  have ho : w.ownsRow B 96 4 (.slice (some ⟨g, 0, none⟩) (m.acts.take t).length cs) (m.acts.take t).length ((m.acts.take t).flatMap (acV ad bl)) := by
    rw [hl, ← flat_take (acV_len ad bl)]
    exact own_cut h.own (by omega)
  have := h.restack (grownBy_of_below (Below.refl _ _) _) ho { m with acts := m.acts.take t } rfl rfl rfl rfl
  rw [hl] at this
  exact this
theorem MAt.lt_own (h : MAt w B n mb ad pv iv As cs At ct bl m) : ∀ k, (Value.slice As m.acts.length cs).ownBlock = some k → B ≤ k ∧ k < w.heap.size := h.own.lt
theorem info_act : (Tryd.prog.info? 96).map (fun i => (i.zero, i.size, i.bytes)) = some (some (.agg #[.pointer none, .int .i64 0, .map none, .map none]), 4, 32) := by kernel_rfl
end
end Go.Proofs.YtillopkcmpcokaaDoor.pm
