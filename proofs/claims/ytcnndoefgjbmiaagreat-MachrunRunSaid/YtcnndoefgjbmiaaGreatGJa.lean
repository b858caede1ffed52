/- Rows of the call's own that are cleared or written in the middle. -/
import Derived.Laws.IdiomCopy
import Derived.Laws.CopyOwn
import Derived.Test.YtcnndoefgjbmiaaGreatGKa
import Derived.Deep.RegionLaw
import Derived.StillTailTactics
set_option linter.unusedVariables false
set_option maxRecDepth 10000
set_option maxHeartbeats 8000000
namespace Go.Proofs.YtcnndoefgjbmiaaGreat
open Go.RowKit
theorem splice_nil {α : Type} (L : List α) (o : Nat) : splice L o [] = L := by simp [splice]
theorem splice_cons {α : Type} (L : List α) (o : Nat) (v : α) (r : List α) (h : o + (r.length + 1) ≤ L.length) : splice (L.set o v) (o + 1) r = splice L o (v :: r) := by
 have e : L.set o v = (L.take o ++ [v]) ++ L.drop (o + 1) := by rw [List.set_eq_take_append_cons_drop, if_pos (by omega)]; simp
 have hl : (L.take o ++ [v]).length = o + 1 := by simp; omega
 unfold splice
 rw [e, List.take_append_of_le_length (by omega), List.take_of_length_le (by omega), List.drop_append, List.drop_of_length_le (by omega), hl, List.drop_drop]
 simp only [List.append_assoc, List.cons_append, List.nil_append, List.length_cons]
 rw [show o + 1 + (o + 1 + r.length - (o + 1)) = o + (r.length + 1) by omega]
theorem own_setCells {base : Nat} {e : TypeId} {g n cap : Nat} : ∀ (ys : List Value) (o : Nat) (w : World) (xs : List Value), w.ownsRow base e 1 (.slice (some ⟨g, 0, none⟩) n cap) n xs → o + ys.length ≤ n →
 (w.setCells g o ys).ownsRow base e 1 (.slice (some ⟨g, 0, none⟩) n cap) n (splice xs o ys) ∧ w.grownBy (w.setCells g o ys) (some g)
 | [], o, w, xs, h, _ => by
  rw [splice_nil]
  exact ⟨h, World.grownBy.refl w _⟩
 | v :: r, o, w, xs, h, hl => by
  have hx : xs.length = n := by have := h.1; omega
  obtain ⟨h1, h2⟩ := h.stored o v
  simp only [List.length_cons] at hl
  obtain ⟨h3, h4⟩ := own_setCells r (o + 1) _ _ h1 (by omega)
  rw [splice_cons _ _ _ _ (by omega)] at h3
  exact ⟨h3, h2.trans h4⟩
theorem run_clear_own {P : Program} {w : World} {base : Nat} {t e : TypeId} {z : Value} (ht : P.underlying t = some (.slice e)) (hv : ∀ w, (zeroValue e).run P w = .ok z w) (hz : z.cells = #[z]) (h1 : z.oneCell' = true)
 {g n cap : Nat} {xs : List Value} (h : w.ownsRow base e 1 (.slice (some ⟨g, 0, none⟩) n cap) n xs) (o k c : Nat) (hk : 0 < k) (hok : o + k ≤ n) (ty : TypeId) :
 (Builtin.clear_ #[t] ty #[.slice (some ⟨g, o, none⟩) k c]).run P w = .ok (.tuple #[]) (w.setCells g o (List.replicate k z)) := by
 have hx : xs.length = n := by have := h.1; omega
 refine Lib.run_clear_slice w t e ty z ht hv hz h1 g o k c hk (fun j hj => ?_) (fun j _ => h.frozenAt _)
 rw [h.cellAt (o + j) (by omega), List.getElem?_eq_getElem (by omega)]
 rfl
theorem below_own {B : Nat} {w w' : World} {base n : Nat} {e : TypeId} {size : Nat} {g cap : Nat} {xs : List Value} (h : w.ownsRow base e size (.slice (some ⟨g, 0, none⟩) n cap) n xs) (hg : w.grownBy w' (some g)) (hB : B ≤ base) (hb : base ≤ w.heap.size) : Below B w w' := by
 have hl := h.lt g rfl
 exact bR.grown hg (by omega) fun k hk => by cases hk; omega
end Go.Proofs.YtcnndoefgjbmiaaGreat
namespace Go.Proofs.YtcnndoefgjbmiaaGreat.pm
open Go.RowKit
theorem own_miss8 {w : World} {base n : Nat} {e : TypeId} {size : Nat} {v : Value} {xs : List Value} (h : w.ownsRow base e size v n xs) (p : Addr) (hp : ∀ j, v.ownBlock = some j → j ≠ p.block) (u : Value) : (w.setCell p u).ownsRow base e size v n xs := by
 refine ⟨h.1, ?_⟩
 rcases h.2 with h1 | ⟨g, cap, cur, rfl, h2, h3, r⟩
 · exact .inl h1
 · refine .inr ⟨g, cap, cur, rfl, h2, ?_, r⟩
   exact (Below.heap_setCell w p u g (hp g rfl)).trans h3
theorem spl_get {α : Type} (L cs : List α) (o i : Nat) (h : o + cs.length ≤ L.length) : (splice L o cs)[i]? = if i < o then L[i]? else if i < o + cs.length then cs[i - o]? else L[i]? := by
 have hl : (L.take o).length = o := by simp; omega
 unfold splice
 by_cases h1 : i < o
 · rw [if_pos h1, List.getElem?_append_left (by omega), List.getElem?_take, if_pos h1]
 · rw [if_neg h1, List.getElem?_append_right (by omega), hl]
   by_cases h2 : i < o + cs.length
   · rw [if_pos h2, List.getElem?_append_left (by omega)]
   · rw [if_neg h2, List.getElem?_append_right (by omega), List.getElem?_drop]
     congr 1
     omega
theorem splice_rep {α : Type} (L : List α) (k j : Nat) (x : α) (h : k + j < L.length) : (splice L k (List.replicate j x)).set (k + j) x = splice L k (List.replicate (j + 1) x) := by
 have hl : (splice L k (List.replicate j x)).length = L.length := length_splice _ _ _ (by simp; omega)
 apply List.ext_getElem?
 intro i
 rw [List.getElem?_set, hl, spl_get _ _ _ _ (by simp; omega), spl_get _ _ _ _ (by simp; omega)]
 simp only [List.length_replicate, List.getElem?_replicate]
 by_cases h1 : k + j = i
 · subst h1
   rw [if_pos rfl, if_pos h, if_neg (by omega), if_pos (by omega), if_pos (by omega)]
 · rw [if_neg h1]
   by_cases h2 : i < k
   · rw [if_pos h2, if_pos h2]
   · rw [if_neg h2, if_neg h2]
     by_cases h3 : i < k + j
     · rw [if_pos h3, if_pos (by omega), if_pos (by omega), if_pos (by omega)]
     · rw [if_neg h3, if_neg (by omega)]
structure Ac where
 f : Nat
 pc : Nat
def Ac.z : Ac := ⟨0, 0⟩
structure Mx where
 regs : List (Nat × Nat)
 acts : List Ac
 mem : List Nat
 use : List Bool
 sp : Nat
 tp : Nat
 deep : Nat
 inp : List Nat
 kind : Int
 code : Nat
 res : Nat × Nat
 steps : Nat
 trace : List (Nat × Nat)
 ended : Bool
def Mx.start (inp : List Nat) (size tp : Nat) : Mx := ⟨List.replicate 8 (0, 0), [], List.replicate size 0, List.replicate size false, tp, tp, 0, inp, 0, 0, (0, 0), 0, [], false⟩
namespace Mx
def stop (m : Mx) (k : Int) : Mx := { m with kind := k, ended := true }
def call (m : Mx) (f z : Nat) : Mx :=
 if m.sp < z then m.stop 5 else
 { m with use := splice m.use (m.sp - z) (List.replicate z false), sp := m.sp - z, deep := if m.deep < m.tp - (m.sp - z) then m.tp - (m.sp - z) else m.deep, acts := m.acts ++ [⟨f, 0⟩] }
def top (m : Mx) : Ac := m.acts.getD (m.acts.length - 1) Ac.z
def setTop (m : Mx) (a : Ac) : Mx := { m with acts := m.acts.set (m.acts.length - 1) a }
def rd (m : Mx) (off n : Nat) : Option (List Nat) := if ((m.use.drop (m.sp + off)).take n).all id = true then some ((m.mem.drop (m.sp + off)).take n) else none
def wr (m : Mx) (off : Nat) (b : List Nat) : Mx := { m with mem := splice m.mem (m.sp + off) b, use := splice m.use (m.sp + off) (List.replicate b.length true) }
end Mx
def vcl (x : Nat × Nat) : List Value := [.int .u64 x.1, .int .u64 x.2]
def acV (ad : Addr) (a : Ac) : List Value := [.pointer (some (ad.add (a.f * 3))), .int .i64 a.pc]
theorem acV_len (ad : Addr) (a : Ac) : (acV ad a).length = 2 := rfl
def rg (m : Mx) (i : Nat) : Nat × Nat := m.regs.getD i (0, 0)
def mcs (al : Int) (pv iv sv tv bv uv : Value) (m : Mx) : Array Value :=
 #[.int .u64 (rg m 0).1, .int .u64 (rg m 0).2, .int .u64 (rg m 1).1, .int .u64 (rg m 1).2, .int .u64 (rg m 2).1, .int .u64 (rg m 2).2, .int .u64 (rg m 3).1, .int .u64 (rg m 3).2,
  .int .u64 (rg m 4).1, .int .u64 (rg m 4).2, .int .u64 (rg m 5).1, .int .u64 (rg m 5).2, .int .u64 (rg m 6).1, .int .u64 (rg m 6).2, .int .u64 (rg m 7).1, .int .u64 (rg m 7).2,
  iv, .int .i64 m.kind, .int .u64 m.code, .int .u64 m.res.1, .int .u64 m.res.2, tv, .int .i64 m.steps, .bool m.ended,
  .int .i64 al, pv, bv, uv, .int .i64 m.sp, .int .i64 m.tp, sv, .int .i64 m.deep]
structure Pl where
 al : Int
 bv : Value
 uv : Value
structure MAt (w : World) (B mb : Nat) (L : Pl) (ad : Addr) (pv iv : Value) (As : Option Addr) (cs : Nat) (At : Option Addr) (ct : Nat) (m : Mx) : Prop where
 blk : Blk w mb 72 (mcs L.al pv iv (.slice As m.acts.length cs) (.slice At m.trace.length ct) L.bv L.uv m)
 hmb : B ≤ mb
 own : w.ownsRow B 115 2 (.slice As m.acts.length cs) m.acts.length (m.acts.flatMap (acV ad))
 tr : w.ownsRow B 38 2 (.slice At m.trace.length ct) m.trace.length (m.trace.flatMap vcl)
 by_ : w.ownsRow B 5 1 L.bv m.mem.length (nb m.mem)
 us_ : w.ownsRow B 4 1 L.uv m.use.length (m.use.map Value.bool)
structure Wf (p : List Fr) (m : Mx) : Prop where
 regs : m.regs.length = 8
 live : ∀ a ∈ m.acts, a.f < p.length ∧ a.pc < (p.getD a.f Fr.z).code.length
 some_ : 1 ≤ m.acts.length
theorem own_heap {w : World} {b e s k : Nat} {v : Value} {xs : List Value} (h : w.ownsRow b e s v k xs) {gb : Nat} (hg : v.ownBlock = some gb) : ∃ cur, w.heap[gb]? = some (.cells cur e (0, 0)) := by
 rcases h.2 with ⟨h0, -⟩ | ⟨g, cap, cur, h0, -, h2, -⟩
 · rw [h0] at hg; cases hg
 · rw [h0] at hg
   have e' : g = gb := by simpa [Value.ownBlock] using hg
   subst e'
   exact ⟨cur, h2⟩
theorem blk_own_ne {w : World} {g t e s k gb : Nat} {cs : Array Value} {v : Value} {xs : List Value} {b : Nat} (h : Blk w g t cs) (ho : w.ownsRow b e s v k xs) (hne : t ≠ e) : v.ownBlock ≠ some g := fun hg => by
 obtain ⟨cur, h2⟩ := own_heap ho hg
 have hb : w.heap[g]? = some (.cells cs t (0, 0)) := h
 rw [hb] at h2
 injection h2 with h2
 injection h2 with _ h3
 exact hne h3
theorem own_own_ne {w : World} {e e' s s' k k' b b' : Nat} {v v' : Value} {xs xs' : List Value} (h : w.ownsRow b e s v k xs) (h' : w.ownsRow b' e' s' v' k' xs') (hne : e ≠ e') : v.ownBlock = none ∨ v.ownBlock ≠ v'.ownBlock := by
 cases hv : v.ownBlock with
 | none => exact .inl rfl
 | some g =>
  refine .inr fun hg => ?_
  obtain ⟨c1, h1⟩ := own_heap h hv
  obtain ⟨c2, h2⟩ := own_heap h' hg.symm
  rw [h1] at h2
  injection h2 with h2
  injection h2 with _ h3
  exact hne h3
theorem own_set_other {w : World} {e e' s s' k k' b b' : Nat} {v v' : Value} {xs xs' : List Value} (h : w.ownsRow b e s v k xs) (h' : w.ownsRow b' e' s' v' k' xs') (hne : e ≠ e') {p : Addr} (hp : v'.ownBlock = some p.block) (u : Value) : (w.setCell p u).ownsRow b e s v k xs :=
 own_miss8 h p (fun j e1 e2 => by
  rcases own_own_ne h h' hne with h0 | h0
  · rw [h0] at e1; cases e1
  · exact h0 (by rw [e1, hp, e2])) u
theorem own_set_blk {w : World} {g t e s k b : Nat} {cs : Array Value} {v : Value} {xs : List Value} (h : w.ownsRow b e s v k xs) (hb : Blk w g t cs) (hne : t ≠ e) {p : Addr} (hp : p.block = g) (u : Value) : (w.setCell p u).ownsRow b e s v k xs :=
 own_miss8 h p (fun j e1 e2 => blk_own_ne (gb := 0) hb h hne (by rw [e1, e2, hp])) u
section
variable {w w' : World} {B mb cs ct : Nat} {L : Pl} {ad : Addr} {pv iv x y : Value} {As At : Option Addr} {m : Mx}
theorem MAt.cells (h : MAt w B mb L ad pv iv As cs At ct m) : w.cell? ⟨mb, 16, none⟩ = some iv ∧ w.cell? ⟨mb, 21, none⟩ = some (.slice At m.trace.length ct) ∧ w.cell? ⟨mb, 22, none⟩ = some (.int .i64 m.steps) ∧ w.cell? ⟨mb, 23, none⟩ = some (.bool m.ended) ∧
 w.cell? ⟨mb, 25, none⟩ = some pv ∧ w.cell? ⟨mb, 26, none⟩ = some L.bv ∧ w.cell? ⟨mb, 27, none⟩ = some L.uv ∧ w.cell? ⟨mb, 28, none⟩ = some (.int .i64 m.sp) ∧ w.cell? ⟨mb, 29, none⟩ = some (.int .i64 m.tp) ∧ w.cell? ⟨mb, 30, none⟩ = some (.slice As m.acts.length cs) ∧ w.cell? ⟨mb, 31, none⟩ = some (.int .i64 m.deep) ∧ mb < w.heap.size :=
 ⟨h.blk.cell 16, h.blk.cell 21, h.blk.cell 22, h.blk.cell 23, h.blk.cell 25, h.blk.cell 26, h.blk.cell 27, h.blk.cell 28, h.blk.cell 29, h.blk.cell 30, h.blk.cell 31, h.blk.lt⟩
theorem reg_cell (h : Blk w mb 72 (mcs L.al pv iv x y L.bv L.uv m)) {r : Nat} (hr : r < 8) : w.cell? ⟨mb, r * 2, none⟩ = some (.int .u64 (rg m r).1) ∧ w.cell? ⟨mb, r * 2 + 1, none⟩ = some (.int .u64 (rg m r).2) := by
 have e : r = 0 ∨ r = 1 ∨ r = 2 ∨ r = 3 ∨ r = 4 ∨ r = 5 ∨ r = 6 ∨ r = 7 := by omega
 rcases e with rfl | rfl | rfl | rfl | rfl | rfl | rfl | rfl
 · exact ⟨h.cell 0, h.cell 1⟩
 · exact ⟨h.cell 2, h.cell 3⟩
 · exact ⟨h.cell 4, h.cell 5⟩
 · exact ⟨h.cell 6, h.cell 7⟩
 · exact ⟨h.cell 8, h.cell 9⟩
 · exact ⟨h.cell 10, h.cell 11⟩
 · exact ⟨h.cell 12, h.cell 13⟩
 · exact ⟨h.cell 14, h.cell 15⟩
theorem MAt.mset (h : MAt w B mb L ad pv iv As cs At ct m) (j : Nat) (u : Value) (m' : Mx)
 (ha : m'.acts = m.acts) (ht : m'.trace = m.trace) (hm : m'.mem = m.mem) (hu : m'.use = m.use) (iv' : Value) (e : (mcs L.al pv iv (.slice As m.acts.length cs) (.slice At m.trace.length ct) L.bv L.uv m).setIfInBounds j u = mcs L.al pv iv' (.slice As m.acts.length cs) (.slice At m.trace.length ct) L.bv L.uv m') :
 MAt (w.setCell ⟨mb, j, none⟩ u) B mb L ad pv iv' As cs At ct m' := by
 refine ⟨?_, h.hmb, ?_, ?_, ?_, ?_⟩
 · rw [ha, ht, ← e]; exact h.blk.set_ j u
 · rw [ha]; exact own_set_blk (p := ⟨mb, j, none⟩) h.own h.blk (by decide) rfl u
 · rw [ht]; exact own_set_blk (p := ⟨mb, j, none⟩) h.tr h.blk (by decide) rfl u
 · rw [hm]; exact own_set_blk (p := ⟨mb, j, none⟩) h.by_ h.blk (by decide) rfl u
 · rw [hu]; exact own_set_blk (p := ⟨mb, j, none⟩) h.us_ h.blk (by decide) rfl u
theorem MAt.iset (h : MAt w B mb L ad pv iv As cs At ct m) (iv' : Value) (inp' : List Nat) : MAt (w.setCell ⟨mb, 16, none⟩ iv') B mb L ad pv iv' As cs At ct { m with inp := inp' } :=
 h.mset 16 iv' { m with inp := inp' } rfl rfl rfl rfl iv' rfl
theorem MAt.lset (h : MAt w B mb L ad pv iv As cs At ct m) (hr8 : m.regs.length = 8) {r : Nat} (hr : r < 8) (v : Nat) :
 MAt (w.setCell ⟨mb, r * 2, none⟩ (.int .u64 v)) B mb L ad pv iv As cs At ct { m with regs := m.regs.set r (v, (rg m r).2) } :=
 h.mset (r * 2) (.int .u64 v) { m with regs := m.regs.set r (v, (rg m r).2) } rfl rfl rfl rfl iv (by
  obtain ⟨regs, acts, mem, use, sp, tp, deep, inp, kind, code, res, steps, trace, ended⟩ := m
  match regs, hr8 with
  | [r0, r1, r2, r3, r4, r5, r6, r7], _ =>
   have e : r = 0 ∨ r = 1 ∨ r = 2 ∨ r = 3 ∨ r = 4 ∨ r = 5 ∨ r = 6 ∨ r = 7 := by omega
   rcases e with rfl | rfl | rfl | rfl | rfl | rfl | rfl | rfl <;> rfl)
theorem MAt.rset (h : MAt w B mb L ad pv iv As cs At ct m) (hr8 : m.regs.length = 8) {r : Nat} (hr : r < 8) (v : Nat × Nat) :
 MAt ((w.setCell ⟨mb, r * 2, none⟩ (.int .u64 v.1)).setCell ⟨mb, r * 2 + 1, none⟩ (.int .u64 v.2)) B mb L ad pv iv As cs At ct { m with regs := m.regs.set r v } :=
 (h.lset hr8 hr v.1).mset (r * 2 + 1) (.int .u64 v.2) { m with regs := m.regs.set r v } rfl rfl rfl rfl iv (by
  obtain ⟨regs, acts, mem, use, sp, tp, deep, inp, kind, code, res, steps, trace, ended⟩ := m
  match regs, hr8 with
  | [r0, r1, r2, r3, r4, r5, r6, r7], _ =>
   have e : r = 0 ∨ r = 1 ∨ r = 2 ∨ r = 3 ∨ r = 4 ∨ r = 5 ∨ r = 6 ∨ r = 7 := by omega
   rcases e with rfl | rfl | rfl | rfl | rfl | rfl | rfl | rfl <;> rfl)
theorem rg_set {r : Nat} (hr : r < m.regs.length) (v : Nat × Nat) : rg { m with regs := m.regs.set r v } r = v := by
 unfold rg
 rw [List.getD_eq_getElem?_getD, List.getElem?_set_self hr]
 rfl
theorem MAt.after (h : MAt w B mb L ad pv iv As cs At ct m) (hb : Below w.heap.size w w') : MAt w' B mb L ad pv iv As cs At ct m := by
 have hg : w.grownBy w' none := ⟨hb.os, hb.tape, hb.output, hb.size, fun i hi _ => hb.block i hi⟩
 exact ⟨h.blk.after hb, h.hmb, h.own.kept hg (by cases (Value.slice As m.acts.length cs).ownBlock <;> simp), h.tr.kept hg (by cases (Value.slice At m.trace.length ct).ownBlock <;> simp), h.by_.kept hg (by cases L.bv.ownBlock <;> simp), h.us_.kept hg (by cases L.uv.ownBlock <;> simp)⟩
theorem MAt.mb_own (h : MAt w B mb L ad pv iv As cs At ct m) : (Value.slice As m.acts.length cs).ownBlock ≠ some mb := blk_own_ne (gb := 0) h.blk h.own (by decide)
theorem MAt.mb_tr (h : MAt w B mb L ad pv iv As cs At ct m) : (Value.slice At m.trace.length ct).ownBlock ≠ some mb := blk_own_ne (gb := 0) h.blk h.tr (by decide)
theorem MAt.mb_by (h : MAt w B mb L ad pv iv As cs At ct m) : L.bv.ownBlock ≠ some mb := blk_own_ne (gb := 0) h.blk h.by_ (by decide)
theorem MAt.mb_us (h : MAt w B mb L ad pv iv As cs At ct m) : L.uv.ownBlock ≠ some mb := blk_own_ne (gb := 0) h.blk h.us_ (by decide)
theorem MAt.restack (h : MAt w B mb L ad pv iv As cs At ct m) (hg : w.grownBy w' (Value.slice As m.acts.length cs).ownBlock) {As' : Option Addr} {cs' : Nat} {acts' : List Ac}
 (own' : w'.ownsRow B 115 2 (.slice As' acts'.length cs') acts'.length (acts'.flatMap (acV ad))) :
 MAt (w'.setCell ⟨mb, 30, none⟩ (.slice As' acts'.length cs')) B mb L ad pv iv As' cs' At ct { m with acts := acts' } := by
 have hb' := h.blk.grown hg (fun e => h.mb_own e.symm)
 have htr := h.tr.kept hg (own_own_ne h.tr h.own (by decide))
 have hby := h.by_.kept hg (own_own_ne h.by_ h.own (by decide))
 have hus := h.us_.kept hg (own_own_ne h.us_ h.own (by decide))
 exact ⟨hb'.set_ 30 _, h.hmb, own_set_blk (p := ⟨mb, 30, none⟩) own' hb' (by decide) rfl _, own_set_blk (p := ⟨mb, 30, none⟩) htr hb' (by decide) rfl _, own_set_blk (p := ⟨mb, 30, none⟩) hby hb' (by decide) rfl _, own_set_blk (p := ⟨mb, 30, none⟩) hus hb' (by decide) rfl _⟩
theorem MAt.retrace (h : MAt w B mb L ad pv iv As cs At ct m) (hg : w.grownBy w' (Value.slice At m.trace.length ct).ownBlock) {At' : Option Addr} {ct' : Nat} {tr' : List (Nat × Nat)}
 (own' : w'.ownsRow B 38 2 (.slice At' tr'.length ct') tr'.length (tr'.flatMap vcl)) :
 MAt (w'.setCell ⟨mb, 21, none⟩ (.slice At' tr'.length ct')) B mb L ad pv iv As cs At' ct' { m with trace := tr' } := by
 have hb' := h.blk.grown hg (fun e => h.mb_tr e.symm)
 have hac := h.own.kept hg (own_own_ne h.own h.tr (by decide))
 have hby := h.by_.kept hg (own_own_ne h.by_ h.tr (by decide))
 have hus := h.us_.kept hg (own_own_ne h.us_ h.tr (by decide))
 exact ⟨hb'.set_ 21 _, h.hmb, own_set_blk (p := ⟨mb, 21, none⟩) hac hb' (by decide) rfl _, own_set_blk (p := ⟨mb, 21, none⟩) own' hb' (by decide) rfl _, own_set_blk (p := ⟨mb, 21, none⟩) hby hb' (by decide) rfl _, own_set_blk (p := ⟨mb, 21, none⟩) hus hb' (by decide) rfl _⟩
theorem MAt.remem (h : MAt w B mb L ad pv iv As cs At ct m) (hg : w.grownBy w' L.bv.ownBlock) {l : List Nat} (hl : l.length = m.mem.length) (own' : w'.ownsRow B 5 1 L.bv l.length (nb l)) :
 MAt w' B mb L ad pv iv As cs At ct { m with mem := l } :=
 ⟨h.blk.grown hg (fun e => h.mb_by e.symm), h.hmb, h.own.kept hg (own_own_ne h.own h.by_ (by decide)), h.tr.kept hg (own_own_ne h.tr h.by_ (by decide)), own', h.us_.kept hg (own_own_ne h.us_ h.by_ (by decide))⟩
theorem MAt.reuse (h : MAt w B mb L ad pv iv As cs At ct m) (hg : w.grownBy w' L.uv.ownBlock) {l : List Bool} (own' : w'.ownsRow B 4 1 L.uv l.length (l.map Value.bool)) :
 MAt w' B mb L ad pv iv As cs At ct { m with use := l } :=
 ⟨h.blk.grown hg (fun e => h.mb_us e.symm), h.hmb, h.own.kept hg (own_own_ne h.own h.us_ (by decide)), h.tr.kept hg (own_own_ne h.tr h.us_ (by decide)), h.by_.kept hg (own_own_ne h.by_ h.us_ (by decide)), own'⟩
theorem reads_new1 {w : World} {size n : Nat} {t : TypeId} {cs : List Value} (hs : cs.length = n * size) : Reads (w.alloc (.cells cs.toArray t)) (w.heap.size + 1) size (some ⟨w.heap.size, 0, none⟩) n cs :=
 ⟨hs, fun _ => ⟨_, rfl, by simp, fun j u hu => by
  have h := Blk.cell (Blk.new w t cs.toArray) j
  rw [show (⟨w.heap.size, 0, none⟩ : Addr).add j = ⟨w.heap.size, j, none⟩ by unfold Addr.add; by_cases hj : j = 0 <;> simp [hj], h]
  simpa using hu⟩⟩
theorem grownBy_transR {a b c : World} {r : Option Nat} (h : a.grownBy b r) (k : b.grownBy c r) : a.grownBy c r :=
 ⟨k.os.trans h.os, k.tape.trans h.tape, k.output.trans h.output, Nat.le_trans h.size k.size, fun i hi hn => (k.block i (Nat.lt_of_lt_of_le hi h.size) hn).trans (h.block i hi hn)⟩
theorem below_of_grownR {B : Nat} {a b : World} {r : Option Nat} (h : a.grownBy b r) (hr : ∀ k, r = some k → B ≤ k) (hB : B ≤ a.heap.size) : Below B a b :=
 ⟨h.os, h.tape, h.output, h.size, fun i hi => h.block i (Nat.lt_of_lt_of_le hi hB) (fun e => by have := hr i e.symm; omega)⟩
theorem MAt.push (h : MAt w B mb L ad pv iv As cs At ct m) (hg : w.grownBy w' (Value.slice As m.acts.length cs).ownBlock) {A6 : Option Addr} {c6 f : Nat}
 (own' : w'.ownsRow B 115 2 (.slice A6 (m.acts.length + 1) c6) (m.acts.length + 1) (m.acts.flatMap (acV ad) ++ [.pointer (some (ad.add (f * 3))), .int .i64 0])) :
 MAt (w'.setCell ⟨mb, 30, none⟩ (.slice A6 (m.acts.length + 1) c6)) B mb L ad pv iv A6 c6 At ct { m with acts := m.acts ++ [⟨f, 0⟩] } := by
 have hl : (m.acts ++ [(⟨f, 0⟩ : Ac)]).length = m.acts.length + 1 := by simp
 have ho : w'.ownsRow B 115 2 (.slice A6 (m.acts ++ [(⟨f, 0⟩ : Ac)]).length c6) (m.acts ++ [(⟨f, 0⟩ : Ac)]).length ((m.acts ++ [(⟨f, 0⟩ : Ac)]).flatMap (acV ad)) := by
  rw [hl, List.flatMap_append]; exact own'
 have := h.restack hg ho
 rw [hl] at this
 exact this
theorem set_top_flat {f : Ac → List Value} (hf : ∀ a, (f a).length = 2) {l : List Ac} {t j : Nat} (ht : t < l.length) (hj : j < 2) {u : Value} {a' : Ac} (e : (f (l.getD t Ac.z)).set j u = f a') :
 (l.flatMap f).set (t * 2 + j) u = (l.set t a').flatMap f := by
 induction l generalizing t with
 | nil => simp at ht
 | cons x r ih =>
  cases t with
  | zero =>
   rw [List.flatMap_cons, sZ, List.flatMap_cons, Nat.zero_mul, Nat.zero_add, List.set_append_left _ _ (by rw [hf]; exact hj)]
   rw [← e]; rfl
  | succ t =>
   rw [List.flatMap_cons, sS, List.flatMap_cons, List.set_append_right _ _ (by rw [hf]; omega), show (t + 1) * 2 + j - (f x).length = t * 2 + j by rw [hf]; omega, ih (by simpa using ht) (by simpa using e)]
theorem MAt.aset {g t : Nat} (h : MAt w B mb L ad pv iv (some ⟨g, 0, none⟩) cs At ct m) (ht : m.acts.length = t + 1) {j : Nat} (hj : j < 2) (u : Value) (a' : Ac) (e : (acV ad m.top).set j u = acV ad a') :
 MAt (w.setCell ⟨g, t * 2 + j, none⟩ u) B mb L ad pv iv (some ⟨g, 0, none⟩) cs At ct (m.setTop a') := by
 have et : m.top = m.acts.getD t Ac.z := by unfold Mx.top; rw [show m.acts.length - 1 = t by omega]
 have hl : (m.setTop a').acts.length = m.acts.length := by simp [Mx.setTop]
 have hs : (m.setTop a').acts = m.acts.set t a' := by unfold Mx.setTop; rw [show m.acts.length - 1 = t by omega]
 have ho := (h.own.stored (t * 2 + j) u).1
 rw [set_top_flat (acV_len ad) (by omega) hj (by rw [← et]; exact e), ← hs] at ho
 have hmg : mb ≠ g := fun e => h.mb_own (by rw [e]; rfl)
 refine ⟨?_, h.hmb, ?_, own_set_other (p := ⟨g, t * 2 + j, none⟩) h.tr h.own (by decide) rfl u, own_set_other (p := ⟨g, t * 2 + j, none⟩) h.by_ h.own (by decide) rfl u, own_set_other (p := ⟨g, t * 2 + j, none⟩) h.us_ h.own (by decide) rfl u⟩
 · rw [hl]; exact h.blk.far (p := ⟨g, t * 2 + j, none⟩) hmg u
 · rw [hl]; exact ho
theorem own_cut {b e s k k' c g : Nat} {xs : List Value} (h : w.ownsRow b e s (.slice (some ⟨g, 0, none⟩) k c) k xs) (hk : k' ≤ k) : w.ownsRow b e s (.slice (some ⟨g, 0, none⟩) k' c) k' (xs.take (k' * s)) := by
 have hle : k' * s ≤ k * s := Nat.mul_le_mul_right s hk
 refine ⟨by rw [List.length_take, h.1]; omega, ?_⟩
 rcases h.2 with ⟨h0, -⟩ | ⟨g', cap, cur, h0, h1, h2, h3, h4, h5, h6⟩
 · cases h0
 · injection h0 with e1 e2 e3
   injection e1 with e1
   injection e1 with e1
   subst e1 e3
   exact .inr ⟨g, c, cur, rfl, h1, h2, by omega, h4, h5, by rw [← h6, List.take_take]; congr 1; omega⟩
theorem flat_take {f : Ac → List Value} (hf : ∀ a, (f a).length = 2) : ∀ (l : List Ac) (t : Nat), (l.flatMap f).take (t * 2) = (l.take t).flatMap f
 | [], t => by simp
 | x :: r, 0 => by simp
 | x :: r, t + 1 => by
  rw [List.flatMap_cons, List.take_succ_cons, List.flatMap_cons, List.take_append, hf, show (t + 1) * 2 - 2 = t * 2 by omega, flat_take hf r t, List.take_of_length_le (by rw [hf]; omega)]
theorem MAt.pop {g t : Nat} (h : MAt w B mb L ad pv iv (some ⟨g, 0, none⟩) cs At ct m) (ht : m.acts.length = t + 1) :
 MAt (w.setCell ⟨mb, 30, none⟩ (.slice (some ⟨g, 0, none⟩) t cs)) B mb L ad pv iv (some ⟨g, 0, none⟩) cs At ct { m with acts := m.acts.take t } := by
 have hl : (m.acts.take t).length = t := by rw [List.length_take]; omega
 have ho : w.ownsRow B 115 2 (.slice (some ⟨g, 0, none⟩) (m.acts.take t).length cs) (m.acts.take t).length ((m.acts.take t).flatMap (acV ad)) := by
  rw [hl, ← flat_take (acV_len ad)]
  exact own_cut h.own (by omega)
 have := h.restack (grownBy_of_below bR _) ho
 rw [hl] at this
 exact this
theorem MAt.lt_own (h : MAt w B mb L ad pv iv As cs At ct m) : ∀ k, (Value.slice As m.acts.length cs).ownBlock = some k → B ≤ k ∧ k < w.heap.size := h.own.lt
theorem info_act : (Tryz.prog.info? 115).map (fun i => (i.zero, i.size, i.bytes)) = some (some (.agg #[.pointer none, .int .i64 0]), 2, 16) := by kernel_rfl
end
section
variable {B mb cs ct np cp : Nat} {L : Pl} {ad : Addr} {pv iv : Value} {As At : Option Addr} {m : Mx}
theorem below_set {B : Nat} {w : World} {p : Addr} (h : B ≤ p.block) (u : Value) : Below B w (w.setCell p u) := bR.setCell h u
theorem stop_any (w : World) (k : Int) (h : MAt w B mb L ad pv iv As cs At ct m) :
 Calls Tryz.prog 29 #[.pointer (some ⟨mb, 0, none⟩), .int .i64 k] w fun e w' => e = .returned (.tuple #[]) ∧ MAt w' B mb L ad pv iv As cs At ct (m.stop k) ∧ Below B w w' := by
 have f0 := h.blk.frozen 17
 have f1 := h.blk.frozen 23
 have c0 : w.cell? ⟨mb, 17, none⟩ = some (.int .i64 m.kind) := h.blk.cell 17
 have c1 : w.cell? ⟨mb, 23, none⟩ = some (.bool m.ended) := h.blk.cell 23
 have hlt := h.blk.lt
 have HM := hQ h
 clear h
 go_enter Tryz.func29, Tryz.ntmps29
 go_wp2
 go_end0
 exact ⟨rfl, (HM.out.mset 17 (.int .i64 k) { m with kind := k } rfl rfl rfl rfl iv rfl).mset 23 (.bool true) (m.stop k) rfl rfl rfl rfl iv rfl, (below_set (p := ⟨mb, 17, none⟩) HM.out.hmb _).trans (below_set (p := ⟨mb, 23, none⟩) HM.out.hmb _)⟩
end
end Go.Proofs.YtcnndoefgjbmiaaGreat.pm
namespace Go.Proofs.YtcnndoefgjbmiaaGreat
open Go.RowKit
def zb (s : Nat) : Array Value := madeCells #[.int .u8 0] s
def zu (s : Nat) : Array Value := madeCells #[.bool false] s
theorem zb_list (s : Nat) : (zb s).toList = nb (List.replicate s 0) := by
 unfold zb nb
 rw [toList_madeCells_one]
 simp
theorem zu_list (s : Nat) : (zu s).toList = (List.replicate s false).map Value.bool := by
 unfold zu
 rw [toList_madeCells_one]
 simp
theorem zb_size (s : Nat) : (zb s).size = s * 1 := by rw [← Array.length_toList, zb_list]; simp [nb]
theorem zu_size (s : Nat) : (zu s).size = s * 1 := by rw [← Array.length_toList, zu_list]; simp
theorem info_bool : (Tryz.prog.info? 4).map (fun i => (i.zero, i.size, i.bytes)) = some (some (.bool false), 1, 1) := by kernel_rfl
theorem make_bytes (s : Nat) (hs : s ≤ 1048576) (w : World) : (Instr.makeSlice 22 (.int .i64 (s : Int)) (.int .i64 (s : Int))).run Tryz.prog w = .ok (.slice (some ⟨w.heap.size, 0, none⟩) s s) (w.alloc (.cells (zb s) 5)) := by
 obtain ⟨i0, hi0, hz0, hz1, hz2⟩ := info_parts info_u8
 have := run_make_rowN (P := Tryz.prog) 22 5 i0 _ Tryz.underlying22 hi0 hz0 .i64 .i64 s s nL (by rw [hz2]; omega) (by omega) w
 rw [hz1, Nat.mul_one] at this
 exact this
theorem make_bools (s : Nat) (hs : s ≤ 1048576) (w : World) : (Instr.makeSlice 67 (.int .i64 (s : Int)) (.int .i64 (s : Int))).run Tryz.prog w = .ok (.slice (some ⟨w.heap.size, 0, none⟩) s s) (w.alloc (.cells (zu s) 4)) := by
 obtain ⟨i0, hi0, hz0, hz1, hz2⟩ := info_parts info_bool
 have := run_make_rowN (P := Tryz.prog) 67 4 i0 _ Tryz.underlying67 hi0 hz0 .i64 .i64 s s nL (by rw [hz2]; omega) (by omega) w
 rw [hz1, Nat.mul_one] at this
 exact this
def newR (size align : Int) : Int × Nat × Int := if 0 ≤ size ∧ size ≤ 1048576 ∧ powB align = true then (0, size.toNat, size - size % align) else (4, 0, 0)
def NewR (w : World) (r : Int × Nat × Int) (e : Ending) (w' : World) : Prop :=
 ∃ A1 c1 A2 c2, e = .returned (.tuple #[.agg #[.slice A1 r.2.1 c1, .slice A2 r.2.1 c2, .int .i64 r.2.2], .int .i64 r.1]) ∧
  w'.ownsRow w.heap.size 5 1 (.slice A1 r.2.1 c1) r.2.1 (nb (List.replicate r.2.1 0)) ∧
  w'.ownsRow w.heap.size 4 1 (.slice A2 r.2.1 c2) r.2.1 ((List.replicate r.2.1 false).map Value.bool) ∧ Below w.heap.size w w'
theorem newstk_own1 (w : World) (o : Obj) (s : Nat) (hs : s ≤ 1048576) :
 (((w.alloc o).alloc (.cells (zb s) 5)).alloc (.cells (zu s) 4)).drew.ownsRow w.heap.size 5 1 (.slice (some ⟨w.heap.size + 1, 0, none⟩) s s) s (nb (List.replicate s 0)) ∧
 (((w.alloc o).alloc (.cells (zb s) 5)).alloc (.cells (zu s) 4)).drew.ownsRow w.heap.size 4 1 (.slice (some ⟨w.heap.size + 1 + 1, 0, none⟩) s s) s ((List.replicate s false).map Value.bool) ∧
 Below w.heap.size w (((w.alloc o).alloc (.cells (zb s) 5)).alloc (.cells (zu s) 4)).drew := by
 have e1 : (w.alloc o).heap.size = w.heap.size + 1 := by simp
 have e2 : ((w.alloc o).alloc (.cells (zb s) 5)).heap.size = w.heap.size + 1 + 1 := by simp
 have o1 := World.ownsRow_lit (base := w.heap.size) (e := 5) (size := 1) (w.alloc o) (zb s) s (by simp) (by unfold maxLen; omega) (zb_size s)
 have o2 := World.ownsRow_lit (base := w.heap.size) (e := 4) (size := 1) ((w.alloc o).alloc (.cells (zb s) 5)) (zu s) s (by simp; omega) (by unfold maxLen; omega) (zu_size s)
 rw [zb_list, e1] at o1
 rw [zu_list, e2] at o2
 exact ⟨(o1.alloc _).drew, o2.drew, by go_grown⟩
theorem newstk_own2 (w : World) (o : Obj) (s : Nat) (hs : s ≤ 1048576) :
 (((w.alloc o).alloc (.cells (zu s) 4)).alloc (.cells (zb s) 5)).drew.ownsRow w.heap.size 5 1 (.slice (some ⟨w.heap.size + 1 + 1, 0, none⟩) s s) s (nb (List.replicate s 0)) ∧
 (((w.alloc o).alloc (.cells (zu s) 4)).alloc (.cells (zb s) 5)).drew.ownsRow w.heap.size 4 1 (.slice (some ⟨w.heap.size + 1, 0, none⟩) s s) s ((List.replicate s false).map Value.bool) ∧
 Below w.heap.size w (((w.alloc o).alloc (.cells (zu s) 4)).alloc (.cells (zb s) 5)).drew := by
 have e1 : (w.alloc o).heap.size = w.heap.size + 1 := by simp
 have e2 : ((w.alloc o).alloc (.cells (zu s) 4)).heap.size = w.heap.size + 1 + 1 := by simp
 have o1 := World.ownsRow_lit (base := w.heap.size) (e := 4) (size := 1) (w.alloc o) (zu s) s (by simp) (by unfold maxLen; omega) (zu_size s)
 have o2 := World.ownsRow_lit (base := w.heap.size) (e := 5) (size := 1) ((w.alloc o).alloc (.cells (zu s) 4)) (zb s) s (by simp; omega) (by unfold maxLen; omega) (zb_size s)
 rw [zu_list, e1] at o1
 rw [zb_list, e2] at o2
 exact ⟨o2.drew, (o1.alloc _).drew, by go_grown⟩
theorem stknew_any (x y : Int) (hx0 : -9223372036854775808 ≤ x) (hx1 : x ≤ 9223372036854775807) (hy0 : -9223372036854775808 ≤ y) (hy1 : y ≤ 9223372036854775807) (w : World) :
 Calls Tryz.prog 27 #[.int .i64 x, .int .i64 y] w (NewR w (newR x y)) := by
 by_cases h : 0 ≤ x ∧ x ≤ 1048576
 · obtain ⟨h0, h1⟩ := h
   obtain ⟨s, rfl⟩ := Int.eq_ofNat_of_zero_le h0
   have hpw := fun W : World => power_any y hy0 hy1 W
   rcases hb : powB y with _ | _
   · rw [hb] at hpw
     have hr : newR (s : Int) y = (4, 0, 0) := by unfold newR; rw [if_neg (by simp [hb])]
     have HP := hQ hpw
     have HR := hQ hr
     clear hpw hb hr
     go_enter Tryz.func27, Tryz.ntmps27
     go_wp2_with fail
     refine (HP.out _).mono ?_
     rintro e w1 ⟨rfl, rfl⟩
     go_wp2
     go_returns
     rw [HR.out]
     exact ⟨none, 0, none, 0, rfl, World.ownsRow_nil _ _ _ _, World.ownsRow_nil _ _ _ _, by go_grown⟩
   · rw [hb] at hpw
     obtain ⟨k, hk, hy⟩ := (powB_iff y).1 hb
     have hand := i64_andNot_pow s k (by omega) hk
     have hpk := pow24 hk
     have hr : newR (s : Int) y = (0, s, ((s - s % 2 ^ k : Nat) : Int)) := by
      unfold newR
      rw [if_pos ⟨h0, h1, hb⟩]
      have e1 : (s : Int) % y = ((s % 2 ^ k : Nat) : Int) := by rw [hy]; rfl
      rw [e1]
      have : s % 2 ^ k ≤ s := Nat.mod_le _ _
      simp only [Int.toNat_natCast]
      congr 2
      omega
     have hy1' : y - 1 = ((2 ^ k - 1 : Nat) : Int) := by omega
     have HP := hQ hpw
     have HR := hQ hr
     have hand' : bits .andNot .i64 (s : Int) (y - 1) = ((s - s % 2 ^ k : Nat) : Int) := by rw [hy1']; exact hand
     have hyb : 1 ≤ y ∧ y ≤ 16777216 := powB_range y hb
     have hmb := make_bytes s (by omega)
     have hmu := make_bools s (by omega)
     clear hpw hb hr hand hy hy1'
     generalize s - s % 2 ^ k = sp at *
     clear hpk
     go_enter Tryz.func27, Tryz.ntmps27
     go_wp2_with fail
     refine (HP.out _).mono ?_
     rintro e w1 ⟨rfl, rfl⟩
     go_wp2_with fail
     go_region
     all_goals
      clear hmb hmu hand'
      go_wp2
      go_returns
      rw [HR.out]
      refine ⟨_, _, _, _, rfl, ?_⟩
     · exact newstk_own1 w _ s (by omega)
     · exact newstk_own2 w _ s (by omega)
 · have hr : newR x y = (4, 0, 0) := by unfold newR; rw [if_neg (by omega)]
   have HR := hQ hr
   have hx : x < 0 ∨ (0 ≤ x ∧ 1048576 < x) := by omega
   clear hr h
   rcases hx with h | ⟨h, h'⟩
   all_goals
    go_enter Tryz.func27, Tryz.ntmps27
    go_wp2
    go_returns
    rw [HR.out]
    exact ⟨none, 0, none, 0, rfl, World.ownsRow_nil _ _ _ _, World.ownsRow_nil _ _ _ _, by go_grown⟩
theorem refstknew_any (x y : Int) (hx0 : -9223372036854775808 ≤ x) (hx1 : x ≤ 9223372036854775807) (hy0 : -9223372036854775808 ≤ y) (hy1 : y ≤ 9223372036854775807) (w : World) :
 Calls Tryz.prog 32 #[.int .i64 x, .int .i64 y] w (NewR w (newR x y)) := by
 by_cases h : 0 ≤ x ∧ x ≤ 1048576
 · obtain ⟨h0, h1⟩ := h
   obtain ⟨s, rfl⟩ := Int.eq_ofNat_of_zero_le h0
   have hpw := fun W : World => refpower_any y hy0 hy1 W
   rcases hb : powB y with _ | _
   · rw [hb] at hpw
     have hr : newR (s : Int) y = (4, 0, 0) := by unfold newR; rw [if_neg (by simp [hb])]
     have HP := hQ hpw
     have HR := hQ hr
     clear hpw hb hr
     go_enter Tryz.func32, Tryz.ntmps32
     go_wp2_with fail
     refine (HP.out _).mono ?_
     rintro e w1 ⟨rfl, rfl⟩
     go_wp2
     go_returns
     rw [HR.out]
     exact ⟨none, 0, none, 0, rfl, World.ownsRow_nil _ _ _ _, World.ownsRow_nil _ _ _ _, by go_grown⟩
   · rw [hb] at hpw
     obtain ⟨k, hk, hy⟩ := (powB_iff y).1 hb
     have hpk := pow24 hk
     have hyb' := powB_range y hb
     have hm0 : 0 ≤ (s : Int) % y := Int.emod_nonneg _ (by omega)
     have hm1 : (s : Int) % y < y := Int.emod_lt_of_pos _ (by omega)
     have hm2 : (s : Int) % y ≤ s := by
      have := Int.emod_lt_of_pos (s : Int) (show 0 < y by omega)
      have h3 : (s : Int) = y * ((s : Int) / y) + (s : Int) % y := (Int.mul_ediv_add_emod _ _).symm
      have h4 : 0 ≤ y * ((s : Int) / y) := Int.mul_nonneg (by omega) (Int.ediv_nonneg (by omega) (by omega))
      omega
     have hr : newR (s : Int) y = (0, s, (s : Int) - (s : Int) % y) := by
      unfold newR
      rw [if_pos ⟨h0, h1, hb⟩]
      simp
     have hyz : (y == 0) = false := by simp; omega
     have HP := hQ hpw
     have HR := hQ hr
     have hyb : 1 ≤ y ∧ y ≤ 16777216 := powB_range y hb
     have hmb := make_bytes s (by omega)
     have hmu := make_bools s (by omega)
     clear hpw hb hr hy hpk
     go_enter Tryz.func32, Tryz.ntmps32
     go_wp2_with fail
     refine (HP.out _).mono ?_
     rintro e w1 ⟨rfl, rfl⟩
     go_wp2_with fail
     go_region
     all_goals
      clear hmb hmu
      go_wp2
      go_returns
      rw [HR.out]
      refine ⟨_, _, _, _, rfl, ?_⟩
     · exact newstk_own1 w _ s (by omega)
     · exact newstk_own2 w _ s (by omega)
 · have hr : newR x y = (4, 0, 0) := by unfold newR; rw [if_neg (by omega)]
   have HR := hQ hr
   have hx : x < 0 ∨ (0 ≤ x ∧ 1048576 < x) := by omega
   clear hr h
   rcases hx with h | ⟨h, h'⟩
   all_goals
    go_enter Tryz.func32, Tryz.ntmps32
    go_wp2
    go_returns
    rw [HR.out]
    exact ⟨none, 0, none, 0, rfl, World.ownsRow_nil _ _ _ _, World.ownsRow_nil _ _ _ _, by go_grown⟩
end Go.Proofs.YtcnndoefgjbmiaaGreat
namespace Go.Proofs.YtcnndoefgjbmiaaGreat.pm
open Go.RowKit
section
variable {B mb cs ct np cp : Nat} {L : Pl} {ad : Addr} {pv iv : Value} {As At : Option Addr} {m : Mx}
structure Rw (L : Pl) (B n gb cb gu cu : Nat) : Prop where
 b : L.bv = .slice (some ⟨gb, 0, none⟩) n cb
 u : L.uv = .slice (some ⟨gu, 0, none⟩) n cu
 cb : n ≤ cb
 cu : n ≤ cu
 gb : B ≤ gb
 gu : B ≤ gu
theorem cap8 {w : World} {base n c : Nat} {e : TypeId} {size : Nat} {A : Option Addr} {xs : List Value} (h : w.ownsRow base e size (.slice A n c) n xs) : n ≤ c := by
 rcases h.2 with ⟨h1, h2⟩ | ⟨g, cap, cur, h1, _, _, h2, _⟩
 · cases h1; omega
 · cases h1; omega
theorem MAt.rw_ {w : World} (h : MAt w B mb L ad pv iv As cs At ct m) (hl : m.use.length = m.mem.length) (h0 : 0 < m.mem.length) : ∃ gb cb gu cu, Rw L B m.mem.length gb cb gu cu := by
 obtain ⟨g, c, e1, h1, -⟩ := h.by_.form h0
 obtain ⟨g', c', e2, h2, -⟩ := h.us_.form (by omega)
 have q1 := h.by_
 have q2 := h.us_
 rw [e1] at q1
 rw [e2] at q2
 rw [hl] at e2 q2
 exact ⟨g, c, g', c', e1, e2, cap8 q1, cap8 q2, h1, h2⟩
theorem mbytes_any (w : World) (off n gb cb gu cu : Nat) (hn : 1 ≤ n) (hb : m.sp + off + n ≤ m.mem.length) (hm : m.mem.length ≤ 1048576) (hr : Rw L B m.mem.length gb cb gu cu) (h : MAt w B mb L ad pv iv As cs At ct m) :
 Calls Tryz.prog 69 #[.pointer (some ⟨mb, 0, none⟩), .int .i64 (off : Int), .int .i64 (n : Int)] w fun e w' =>
  e = .returned (.tuple #[.slice (some ⟨gb, m.sp + off, none⟩) n (cb - (m.sp + off)), .slice (some ⟨gu, m.sp + off, none⟩) n (cu - (m.sp + off))]) ∧ Below w.heap.size w w' := by
 obtain ⟨-, -, -, -, -, c26, c27, c28, -, -, -, hlt⟩ := h.cells
 rw [hr.b] at c26
 rw [hr.u] at c27
 have h1 := hr.cb
 have h2 := hr.cu
 clear h hr
 generalize m.mem.length = N at *
 generalize m.sp = sp at *
 obtain ⟨k, hk⟩ : ∃ k, k = sp + off := ⟨_, rfl⟩
 rw [← hk]
 have HK := hQ hk
 clear hk
 have o0 : (0 : Int) ≤ (off : Int) := by omega
 have o1 : (off : Int) ≤ (N : Int) - (sp : Int) - (n : Int) := by omega
 have n1 : (N : Int) ≤ 1048576 := by omega
 have s1 : (sp : Int) ≤ (N : Int) := by omega
 have s0 : (0 : Int) ≤ (sp : Int) := by omega
 have m0 : (1 : Int) ≤ (n : Int) := by omega
 have m1 : (n : Int) ≤ (N : Int) := by omega
 have w1 : IntKind.i64.wrap ((N : Int) - (sp : Int)) = (N : Int) - (sp : Int) := IntWalk.i64_in _ (by omega)
 have w2 : IntKind.i64.wrap ((N : Int) - (sp : Int) - (n : Int)) = (N : Int) - (sp : Int) - (n : Int) := IntWalk.i64_in _ (by omega)
 go_enter Tryz.func69, Tryz.ntmps69
 go_upto_region 1 with (fail)
 go_quiet (fail)
 have HW : Hid (Below w.heap.size w (w.drewN nq)) := hQ (below_drewN bR _)
 have hk := HK.out
 have hki : (sp : Int) + (off : Int) = (k : Int) := by omega
 have hk1 : (k : Int) + (n : Int) ≤ (N : Int) := by omega
 have hk0 : (0 : Int) ≤ (k : Int) := by omega
 have hkc : k + n ≤ cb := by omega
 have hkd : k + n ≤ cu := by omega
 have hcb : (N : Int) ≤ (cb : Int) := by omega
 have hcu : (N : Int) ≤ (cu : Int) := by omega
 clear w1 w2 o0 o1 hk hb
 go_upto_region 5 with (fail)
 go_quiet (fail)
 go_wp2
 go_ret2
 exact ⟨by simp, below_drewN HW.out _⟩
theorem MAt.us' {w : World} (h : MAt w B mb L ad pv iv As cs At ct m) (hl : m.use.length = m.mem.length) {gb cb gu cu : Nat} (hr : Rw L B m.mem.length gb cb gu cu) : w.ownsRow B 4 1 (.slice (some ⟨gu, 0, none⟩) m.mem.length cu) m.mem.length (m.use.map Value.bool) := by
 have := h.us_
 rw [hr.u, hl] at this
 exact this
theorem MAt.by' {w : World} (h : MAt w B mb L ad pv iv As cs At ct m) {gb cb gu cu : Nat} (hr : Rw L B m.mem.length gb cb gu cu) : w.ownsRow B 5 1 (.slice (some ⟨gb, 0, none⟩) m.mem.length cb) m.mem.length (nb m.mem) := by
 have := h.by_
 rw [hr.b] at this
 exact this
theorem add_off (g k j : Nat) : (⟨g, k, none⟩ : Addr).add j = ⟨g, k + j, none⟩ := by
 unfold Addr.add
 by_cases hj : j = 0 <;> simp [hj]
theorem MAt.cutR {w : World} (h : MAt w B mb L ad pv iv As cs At ct m) {gb cb gu cu : Nat} (hr : Rw L B m.mem.length gb cb gu cu) {k n : Nat} (hk : k + n ≤ m.mem.length) : Reads w w.heap.size 1 (some ⟨gb, k, none⟩) n (nb ((m.mem.drop k).take n)) := by
 have ho := h.by' hr
 have hg := ho.lt gb rfl
 refine ⟨by rw [nb_length, List.length_take, List.length_drop]; omega, fun hn => ⟨_, rfl, hg.2, fun j u hu => ?_⟩⟩
 have hj : j < n := by
  rcases Nat.lt_or_ge j n with h1 | h1
  · exact h1
  · rw [List.getElem?_eq_none (by rw [nb_length, List.length_take]; omega)] at hu; cases hu
 rw [add_off, ho.cellAt (k + j) (by omega), ← hu, nb_get, nb_get, List.getElem?_take, if_pos hj, List.getElem?_drop]
theorem cut_get (l : List Bool) (k n j : Nat) (hj : j < n) : ((l.drop k).take n)[j]? = l[k + j]? := by
 rw [List.getElem?_take, if_pos hj, List.getElem?_drop]
def ReadD (w : World) (B mb : Nat) (L : Pl) (ad : Addr) (pv iv : Value) (As : Option Addr) (cs : Nat) (At : Option Addr) (ct : Nat) (m : Mx) (r : Option (List Nat)) (e : Ending) (w' : World) : Prop :=
 match r with
 | some l => ∃ A c, e = .returned (.slice A l.length c) ∧ l.length ≤ c ∧ Bs w' w'.heap.size A l.length l ∧ MAt w' B mb L ad pv iv As cs At ct m ∧ Below w.heap.size w w'
 | none => e = .returned (.slice none 0 0) ∧ MAt w' B mb L ad pv iv As cs At ct (m.stop 3) ∧ Below B w w'
theorem mread_any (w : World) (off n gb cb gu cu : Nat) (hn : 1 ≤ n) (hb : m.sp + off + n ≤ m.mem.length) (hm : m.mem.length ≤ 1048576) (hl : m.use.length = m.mem.length) (h256 : ∀ v ∈ m.mem, v < 256) (hr : Rw L B m.mem.length gb cb gu cu) (h : MAt w B mb L ad pv iv As cs At ct m) (hB : B ≤ w.heap.size) :
 Calls Tryz.prog 45 #[.pointer (some ⟨mb, 0, none⟩), .int .i64 (off : Int), .int .i64 (n : Int)] w (ReadD w B mb L ad pv iv As cs At ct m (m.rd off n)) := by
 have HC := hQ (mbytes_any w off n gb cb gu cu hn hb hm hr h)
 have HM := hQ h
 have HR := hQ hr
 have H256 := hQ h256
 have hni : (n : Int) ≤ 1048576 := by omega
 have hn0 : (1 : Int) ≤ (n : Int) := by omega
 obtain ⟨k, hk⟩ : ∃ k, k = m.sp + off := ⟨_, rfl⟩
 rw [← hk] at HC
 have HKK := hQ hk
 have hkn : k + n ≤ m.mem.length := by omega
 have HCU := hQ hr.cu
 have HCB := hQ hr.cb
 have HRD : Hid (m.rd off n = if ((m.use.drop k).take n).all id = true then some ((m.mem.drop k).take n) else none) := hQ (by rw [hk]; rfl)
 clear h hr h256 hk hb
 go_enter Tryz.func45, Tryz.ntmps45
 go_wp2_with fail
 refine HC.out.mono ?_
 rintro e w1 ⟨rfl, b1⟩
 have HM1 := hQ (HM.out.after b1)
 have HB1 := hQ (b1.mono hB)
 have HB0 := hQ b1
 have hs1 : w.heap.size ≤ w1.heap.size := b1.size
 clear b1 HC HM
 go_wp2
 go_loopw [20] (fun v wr => ∃ j : Nat, j ≤ n ∧ v = .int .i64 j ∧ wr = w1 ∧ Hid (∀ i, i < j → m.use[k + i]? = some true)) (fun v _ => n - (intOf v).toNat)
 case atStart => exact ⟨0, by omega, rfl, rfl, hQ (fun i hi => by omega)⟩
 case round =>
  obtain ⟨j, hj, rfl, rfl, HZ⟩ := hrel
  have hj0 : (0 : Int) ≤ (j : Int) := by omega
  by_cases hlt : j < n
  · have hji : (j : Int) < (n : Int) := by omega
    obtain ⟨u, hu⟩ : ∃ u, m.use[k + j]? = some u := ⟨_, List.getElem?_eq_getElem (by omega)⟩
    have hc : wr.cell? ⟨gu, k + j, none⟩ = some (.bool u) := by
     rw [(HM1.out.us' hl HR.out).cellAt (k + j) (by omega), List.getElem?_map, hu]; rfl
    have HU := hQ hu
    clear hu
    rcases u with _ | _
    · have HN : Hid (m.rd off n = none) := hQ (by
       rw [HRD.out, if_neg]
       intro ha
       rw [List.all_eq_true] at ha
       have h1 := cut_get m.use k n j hlt
       rw [HU.out] at h1
       have := ha false (List.mem_of_getElem? h1)
       cases this)
      rw [HN.out]
      go_wp2_with fail
      refine (stop_any _ 3 HM1.out).mono ?_
      rintro e w3 ⟨rfl, m3, b3⟩
      have HM3 := hQ m3
      have HB3 := hQ (HB1.out.trans b3)
      clear m3 b3 hc
      go_wp2
      go_ret
      exact ⟨(by first | trivial | rfl), HM3.out, HB3.out⟩
    · have HZ' : Hid (∀ i, i < j + 1 → m.use[k + i]? = some true) := hQ (fun i hi => by
       rcases Nat.lt_or_ge i j with h | h
       · exact HZ.out i h
       · obtain rfl : i = j := by omega
         exact HU.out)
      clear HZ HU
      go_wp2
      go_roundw
      case rel => exact ⟨j + 1, by omega, by go_num, trivial, HZ'⟩
      case measure => simp [intOf]; omega
  · obtain rfl : j = n := by omega
    have HS : Hid (m.rd off j = some ((m.mem.drop k).take j)) := hQ (by
     rw [HRD.out, if_pos]
     rw [List.all_eq_true]
     intro v hv
     obtain ⟨i, hi⟩ := List.mem_iff_getElem?.1 hv
     have hij : i < j := by
      rcases Nat.lt_or_ge i j with h | h
      · exact h
      · rw [List.getElem?_eq_none (by rw [List.length_take]; omega)] at hi; cases hi
     rw [cut_get _ _ _ _ hij, HZ.out i hij] at hi
     injection hi with hi
     rw [← hi]; rfl)
    rw [HS.out]
    clear HZ
    obtain ⟨i0, hi0, hz0, hz1, hz2⟩ := info_parts info_u8
    have HRD := hQ (HM1.out.cutR HR.out hkn)
    have hll : ((m.mem.drop k).take j).length = j := by rw [List.length_take, List.length_drop]; omega
    have HLT : Hid (∀ x ∈ (m.mem.drop k).take j, x < 256) := hQ (fun x hx => H256.out x (List.mem_of_mem_drop (List.mem_of_mem_take hx)))
    obtain ⟨l, hl'⟩ : ∃ l, l = (m.mem.drop k).take j := ⟨_, rfl⟩
    rw [← hl'] at HRD hll HLT ⊢
    have HLL := hQ hll
    have HSS : Hid (m.rd off j = some l) := hQ (by rw [HS.out, hl'])
    clear hl' HS hll
    go_wp2_with (at_builtin; refine wpList_append_any _ rfl (.const (.slice none 0 0)) (.tmp 31) _ rfl wr.heap.size 5 i0 _ 1 1 Tryz.underlying22 hi0 hz0 hz1 hz2 rfl (by omega) _ 0 [] rfl (World.ownsRow_nil _ _ _ _) wr.heap.size (some ⟨gb, k, none⟩) j (cb - k) (nb l) rfl HRD.out (nb_one l) (by unfold maxLen; omega) (by omega) nL ?_; intro v1 w1 own1 hg1 hat1; have bel1 := hQ (below_append (Below.refl wr.heap.size wr) (World.ownsRow_nil _ _ _ _ : wr.ownsRow wr.heap.size 5 1 (.slice none 0 0) 0 []) hg1 nL nL))
    have OWN1 : Hid (w1.ownsRow wr.heap.size 5 1 v1 j (nb l)) := hQ (by rw [Nat.zero_add, List.nil_append] at own1; exact own1)
    clear own1 hg1 hat1
    obtain ⟨A1, c1, rfl, -⟩ := own_form OWN1.out
    have hc1 := cap8 OWN1.out
    go_ret
    refine (show ∀ e w', ReadD w B mb L ad pv iv As cs At ct m (some l) e w' → ReadD w B mb L ad pv iv As cs At ct m (m.rd off j) e w' from fun e w' h => by rw [HSS.out]; exact h) _ _ ?_
    refine ⟨A1, c1, by rw [HLL.out]; rfl, by rw [HLL.out]; exact hc1, by rw [HLL.out]; exact Bs.of_own OWN1.out HLT.out, HM1.out.after bel1.out, HB0.out.trans (bel1.out.mono hs1)⟩
theorem mwrite_any (w : World) (off n c gb cb gu cu : Nat) (A : Option Addr) (l : List Nat) (hn : 1 ≤ n) (hc : n ≤ c) (hb : m.sp + off + n ≤ m.mem.length) (hm : m.mem.length ≤ 1048576) (hl : m.use.length = m.mem.length) (hr : Rw L B m.mem.length gb cb gu cu) (h : MAt w B mb L ad pv iv As cs At ct m) (hB : B ≤ w.heap.size) (hs : Bs w w.heap.size A n l) :
 Calls Tryz.prog 47 #[.pointer (some ⟨mb, 0, none⟩), .int .i64 (off : Int), .slice A n c] w fun e w' => e = .returned (.tuple #[]) ∧ MAt w' B mb L ad pv iv As cs At ct (m.wr off l) ∧ Below B w w' := by
 have HC := hQ (mbytes_any w off n gb cb gu cu hn hb hm hr h)
 have HM := hQ h
 have HR := hQ hr
 have hni : (n : Int) ≤ 1048576 := by omega
 have hn0 : (1 : Int) ≤ (n : Int) := by omega
 obtain ⟨k, hk⟩ : ∃ k, k = m.sp + off := ⟨_, rfl⟩
 rw [← hk] at HC
 have hkn : k + n ≤ m.mem.length := by omega
 have hll := hs.len
 have HLL := hQ hll
 have HS := hQ hs
 have HWR : Hid (m.wr off l = { m with mem := splice m.mem k l, use := splice m.use k (List.replicate n true) }) := hQ (by rw [hk, ← hll]; rfl)
 clear h hr hk hb hs hll
 rw [HWR.out]
 go_enter Tryz.func47, Tryz.ntmps47
 go_wp2_with fail
 refine HC.out.mono ?_
 rintro e w1 ⟨rfl, b1⟩
 have HM1 := hQ (HM.out.after b1)
 have HB1 := hQ (b1.mono hB)
 have HS1 := hQ (HS.out.below b1)
 have hs1 : w.heap.size ≤ w1.heap.size := b1.size
 clear b1 HC HM HS
 obtain ⟨W2, hcp, hm2, hb2⟩ : ∃ W2, (∀ ty, (Builtin.copy_ #[22, 22] ty #[.slice (some ⟨gb, k, none⟩) n (cb - k), .slice A n c]).run Tryz.prog w1 = .ok (goInt n) W2) ∧
  MAt W2 B mb L ad pv iv As cs At ct { m with mem := splice m.mem k l } ∧ Below B w1 W2 := by
  have hi : (Tryz.prog.info? 5).map (·.size) = some 1 := by
   obtain ⟨i0, hi0, hz0, hz1, hz2⟩ := info_parts info_u8
   rw [hi0]; simp [hz1]
  obtain ⟨sa, rfl, -, hsrc⟩ := HS1.out.1.2 (by omega)
  have o1 := HM1.out.by' HR.out
  have hmm : (nb m.mem).length = m.mem.length := nb_length _
  obtain ⟨p1, p2⟩ := own_setCells (nb l) k _ _ o1 (by rw [nb_length, HLL.out]; omega)
  have hB2 := below_own (B := B) o1 p2 nL (by omega)
  have hspl : splice (nb m.mem) k (nb l) = nb (splice m.mem k l) := by unfold nb; simp [splice, List.map_take, List.map_drop]
  have hsl : (splice m.mem k l).length = m.mem.length := length_splice _ _ _ (by rw [HLL.out]; omega)
  rw [hspl] at p1
  refine ⟨w1.setCells gb k (nb l), fun ty => ?_, ?_, hB2⟩
  · have hrr := run_copy_cells (P := Tryz.prog) w1 22 22 ty 5 gb k n (cb - k) sa n c (nb l) Tryz.underlying22 hi (by rw [nb_length, HLL.out]; exact (Nat.min_self n).symm) hsrc
     (fun j hj => by rw [nb_length, HLL.out] at hj; rw [o1.cellAt (k + j) (by omega), List.getElem?_eq_getElem (by rw [hmm]; omega)]; rfl) (fun j _ => o1.frozenAt _) (nb_one l)
    rw [nb_length, HLL.out] at hrr
    exact hrr
  · refine HM1.out.remem (l := splice m.mem k l) (by rw [HR.out.b]; exact p2) hsl ?_
    rw [HR.out.b, hsl]
    exact p1
 have HM2 := hQ hm2
 have HB2 := hQ (HB1.out.trans hb2)
 have hs2 := hb2.size
 clear hm2 hb2 HM1 HB1 HS1
 go_wp2
 go_loopw [22] (fun v wr => ∃ j : Nat, j ≤ n ∧ v = .int .i64 j ∧ Hid (MAt wr B mb L ad pv iv As cs At ct { m with mem := splice m.mem k l, use := splice m.use k (List.replicate j true) }) ∧ Hid (Below B w wr)) (fun v _ => n - (intOf v).toNat)
 case atStart => exact ⟨0, by omega, rfl, by rw [List.replicate_zero, splice_nil]; exact HM2, HB2⟩
 case round =>
  clear hcp
  obtain ⟨j, hj, rfl, HM3, HB3⟩ := hrel
  have hj0 : (0 : Int) ≤ (j : Int) := by omega
  by_cases hlt : j < n
  · have hji : (j : Int) < (n : Int) := by omega
    have hsl : (splice m.mem k l).length = m.mem.length := length_splice _ _ _ (by rw [HLL.out]; omega)
    have hsu : (splice m.use k (List.replicate j true)).length = m.mem.length := by rw [length_splice _ _ _ (by rw [List.length_replicate]; omega)]; exact hl
    have o3 : wr.ownsRow B 4 1 (.slice (some ⟨gu, 0, none⟩) m.mem.length cu) m.mem.length ((splice m.use k (List.replicate j true)).map Value.bool) := by
     have := HM3.out.us_
     rw [HR.out.u] at this
     dsimp only at this
     rw [hsu] at this
     exact this
    obtain ⟨u, hc⟩ : ∃ u, wr.cell? ⟨gu, k + j, none⟩ = some u := ⟨_, (o3.cellAt (k + j) (by omega)).trans (List.getElem?_eq_getElem (by simp; omega))⟩
    have hf := o3.frozenAt (k + j)
    have hgl := o3.lt gu rfl
    obtain ⟨p1, p2⟩ := o3.stored (k + j) (.bool true)
    have e1 : ((splice m.use k (List.replicate j true)).map Value.bool).set (k + j) (.bool true) = (splice m.use k (List.replicate (j + 1) true)).map Value.bool := by
     rw [← splice_rep m.use k j true (by omega), List.map_set]
    rw [e1] at p1
    have HM4 := hQ (HM3.out.reuse (l := splice m.use k (List.replicate (j + 1) true)) (by rw [HR.out.u]; exact p2) (by
     have hsu' : (splice m.use k (List.replicate (j + 1) true)).length = m.mem.length := by rw [length_splice _ _ _ (by rw [List.length_replicate]; omega)]; exact hl
     rw [HR.out.u, hsu']; exact p1))
    have HB4 : Hid (Below B w (wr.setCell ⟨gu, k + j, none⟩ (.bool true))) := hQ (HB3.out.trans (bR.setCell hgl.1 _))
    have hkc : k + j < cu := by have := HR.out.cu; omega
    clear o3 p1 p2 e1
    go_wp2
    go_roundw
    case rel => exact ⟨j + 1, by omega, by go_num, HM4, HB4⟩
    case measure => simp [intOf]; omega
  · obtain rfl : j = n := by omega
    go_wp2
    go_end0
    exact ⟨rfl, HM3.out, HB3.out⟩
end
section
variable {B mb cs ct np cp : Nat} {L : Pl} {ad : Addr} {pv iv : Value} {As At : Option Addr} {m : Mx}
def CallD (w : World) (B mb : Nat) (L : Pl) (ad : Addr) (pv iv : Value) (At : Option Addr) (ct : Nat) (m : Mx) (e : Ending) (w' : World) : Prop :=
 e = .returned (.tuple #[]) ∧ Below B w w' ∧ ∃ As' cs', MAt w' B mb L ad pv iv As' cs' At ct m
theorem clear_at (w : World) (U : Option Addr) (k z cu : Nat) (hk : k + z ≤ m.use.length) (hu : L.uv = .slice U m.use.length cu) (h : MAt w B mb L ad pv iv As cs At ct m) (hB : B ≤ w.heap.size) :
 ∃ W2, (∀ ty, (Builtin.clear_ #[67] ty #[.slice (if cu = k then U else U.map (·.add k)) z (cu - k)]).run Tryz.prog w = .ok (.tuple #[]) W2) ∧
  MAt W2 B mb L ad pv iv As cs At ct { m with use := splice m.use k (List.replicate z false) } ∧ Below B w W2 := by
 rcases Nat.eq_zero_or_pos z with h0 | h0
 · subst h0
   refine ⟨w, fun ty => ?_, ?_, Below.refl _ _⟩
   · generalize (if cu = k then U else U.map (·.add k)) = X
     cases X <;> simp [Builtin.clear_, run_underlying Tryz.underlying67]
   · rw [List.replicate_zero, splice_nil]; exact h
 · have o1 := h.us_
   rw [hu] at o1
   have hcu := cap8 o1
   obtain ⟨gu, c', hf, -, -⟩ := o1.form (by omega)
   obtain ⟨rfl, rfl⟩ : U = some ⟨gu, 0, none⟩ ∧ cu = c' := by injection hf; exact ⟨by assumption, by assumption⟩
   rw [if_neg (by omega), Option.map_some, add_off, Nat.zero_add]
   obtain ⟨i0, hi0, hz0, hz1, hz2⟩ := info_parts info_bool
   obtain ⟨p1, p2⟩ := own_setCells (List.replicate z (Value.bool false)) k _ _ o1 (by rw [List.length_replicate]; omega)
   have hB2 := below_own (B := B) o1 p2 nL hB
   have hspl : splice (m.use.map Value.bool) k (List.replicate z (Value.bool false)) = (splice m.use k (List.replicate z false)).map Value.bool := by simp [splice, List.map_take, List.map_drop]
   have hsl : (splice m.use k (List.replicate z false)).length = m.use.length := length_splice _ _ _ (by rw [List.length_replicate]; omega)
   rw [hspl] at p1
   refine ⟨_, fun ty => run_clear_own (P := Tryz.prog) (ty := ty) (c := cu - k) Tryz.underlying67 (z := .bool false) (fun w => by simp [zeroValue, typeInfo, hi0, hz0]) rfl rfl o1 k z h0 hk, ?_, hB2⟩
   refine h.reuse (l := splice m.use k (List.replicate z false)) (by rw [hu]; exact p2) ?_
   rw [hu, hsl]
   exact p1
theorem call_any (w : World) (p : List Fr) (cp f z : Nat) (hf : f < p.length) (hz : (p.getD f Fr.z).size = (z : Int)) (hz1 : z < 2147483520) (hp : p.length ≤ maxLen) (hacts : m.acts.length ≤ 1000000) (hsp : m.sp ≤ m.tp) (htp : m.tp ≤ m.mem.length) (hm : m.mem.length ≤ 1048576) (hdp : m.deep ≤ 1048576) (hl : m.use.length = m.mem.length) (h : MAt w B mb L ad (.slice (some ad) p.length cp) iv As cs At ct m) (hB : B ≤ w.heap.size) (hg : Gx w 0 B (some ad) p) :
 Calls Tryz.prog 28 #[.pointer (some ⟨mb, 0, none⟩), .int .i64 (f : Int)] w (CallD w B mb L ad (.slice (some ad) p.length cp) iv At ct (m.call f z)) := by
 obtain ⟨ad', Ai, ci, e0, hbl, y0, y1, -, y1', -⟩ := hg.whole hf
 obtain rfl : ad = ad' := by injection e0
 rw [hz] at y1 y1'
 obtain ⟨-, -, -, -, c25, c26, c27, c28, c29, c30, c31, hlt⟩ := h.cells
 have hmb := h.hmb
 have HM := hQ h
 have hfi : (f : Int) < (p.length : Int) := by omega
 have hf0 : (0 : Int) ≤ (f : Int) := by omega
 have hzi : (z : Int) < 2147483520 := by omega
 have hz0 : (0 : Int) ≤ (z : Int) := by omega
 have hsi : (m.sp : Int) ≤ 1048576 := by omega
 have hs0 : (0 : Int) ≤ (m.sp : Int) := by omega
 have HB := hQ hB
 clear h e0 hz hg
 by_cases hov : m.sp < z
 · have HE : Hid (m.call f z = m.stop 5) := hQ (by unfold Mx.call; rw [if_pos hov])
   have hoi : (m.sp : Int) < (z : Int) := by omega
   clear hov
   rw [HE.out]
   go_enter Tryz.func28, Tryz.ntmps28
   go_upto_region 1 with (fail)
   go_quiet (fail)
   have HMq := hQ (HM.out.after (below_drewN (Below.refl w.heap.size w) nq))
   have HBq : Hid (Below B w (w.drewN nq)) := hQ (below_drewN bR _)
   generalize w.drewN nq = wq at *
   clear c25 c26 c27 c28 c29 c30 c31 y0 y1 y1'
   go_wp2_with fail
   refine (stop_any _ 5 HMq.out).mono ?_
   rintro e w3 ⟨rfl, m3, b3⟩
   have HM3 := hQ m3
   have HB3 := hQ (HBq.out.trans b3)
   clear m3 b3
   go_wp2
   go_end0
   exact ⟨rfl, HB3.out, _, _, HM3.out⟩
 · have hoi : (z : Int) ≤ (m.sp : Int) := by omega
   go_enter Tryz.func28, Tryz.ntmps28
   go_upto_region 1 with (fail)
   go_quiet (fail)
   obtain ⟨U, cu, huv, -⟩ := own_form HM.out.us_
   have hcu : m.use.length ≤ cu := by have := HM.out.us_; rw [huv] at this; exact cap8 this
   obtain ⟨k, hk⟩ : ∃ k, k = m.sp - z := ⟨_, rfl⟩
   have hkz : m.sp = k + z := by omega
   have hmn : k + z ≤ m.use.length := by omega
   have HW := hQ (below_drewN (Below.refl w.heap.size w) nq)
   have HMq := hQ (HM.out.after HW.out)
   have HBq : Hid (Below B w (w.drewN nq)) := hQ (below_drewN bR _)
   have y0q := ((HW.out).cell (cell_lt y0)).trans y0
   have y1q := ((HW.out).cell (cell_lt y1)).trans y1
   have y2q := ((HW.out).cell (cell_lt y1')).trans y1'
   clear HW
   generalize w.drewN nq = wq at *
   have Y1 := hQ y1
   clear c25 c26 c27 c28 c29 c30 c31 y0 y1 y1' hlt
   obtain ⟨-, -, -, -, c25, c26, c27, c28, c29, c30, c31, hlt⟩ := HMq.out.cells
   rw [huv] at c27
   have HKZ := hQ hkz
   obtain ⟨S, hS⟩ : ∃ S, S = m.sp := ⟨_, rfl⟩
   rw [← hS] at c28
   have HS := hQ hS
   have hSz : (S : Int) - (z : Int) = (k : Int) := by omega
   have hSN : (S : Int) ≤ (m.use.length : Int) := by omega
   have hkS : (k : Int) ≤ (S : Int) := by omega
   have hzk : S - k = z := by omega
   have HZK := hQ hzk
   have htpi : (m.tp : Int) ≤ 1048576 := by omega
   have htk : k ≤ m.tp := by omega
   have hwk : IntKind.i64.wrap (k : Int) = (k : Int) := IntWalk.i64_in _ (by omega)
   have hkc : (m.use.length : Int) ≤ (cu : Int) := by omega
   have hkn : (m.use.length : Int) ≤ 1048576 := by omega
   have hSc : (S : Int) ≤ (cu : Int) := by omega
   have HUV := hQ huv
   have HL := hQ hl
   have HMN := hQ hmn
   clear hk hkz hov hsi hs0 hoi hS hzk huv hl hmn hcu hm htp hsp
   obtain ⟨N, hN⟩ : ∃ N, N = m.use.length := ⟨_, rfl⟩
   rw [← hN] at c27 hkc hkn hSN
   clear hN
   have hk0 : (0 : Int) ≤ (k : Int) := by omega
   have HBz : Hid (B ≤ wq.heap.size) := hQ (Nat.le_trans HB.out HBq.out.size)
   obtain ⟨W2, hcl, hm2, hb2⟩ := clear_at wq.drew U k (S - k) cu (by rw [HZK.out]; exact HMN.out) HUV.out (HMq.out.after (bR.drew)) HBz.out
   rw [HZK.out] at hm2
   have HCL := hQ hcl
   have HM2 := hQ hm2
   have HB2 := hQ (HBq.out.trans (((Below.refl B wq).drew).trans hb2))
   clear hcl hm2 hb2
   go_upto_region 3 with (fail)
   go_still_tail 20, (by kernel_rfl)
   change wpList _ _ _ _ _ wq.drew
   have hcl := HCL.out
   go_upto_region 4 with (fail)
   clear hcl HCL c25 c26 c27 c28 c29 c30 c31 y0q y1q y2q hlt
   have HBz2 : Hid (B ≤ W2.heap.size) := hQ (Nat.le_trans HB.out HB2.out.size)
   obtain ⟨m2, hm2⟩ : ∃ m2, m2 = ({ m with use := splice m.use k (List.replicate z false) } : Mx) := ⟨_, rfl⟩
   rw [← hm2] at HM2
   have e1 : m2.sp = S := by rw [hm2]; exact HS.out.symm
   have e2 : m2.tp = m.tp := by rw [hm2]
   have e3 : m2.deep = m.deep := by rw [hm2]
   have e4 : m2.acts = m.acts := by rw [hm2]
   obtain ⟨-, -, -, -, -, -, -, c28, -, -, -, hlt⟩ := HM2.out.cells
   rw [e1] at c28
   have f28 := HM2.out.blk.frozen 28
   have y1 := (HB2.out.cell (p := ⟨(ad.add (f * 3)).block, (ad.add (f * 3)).off + 1, none⟩) (by show (ad.add (f * 3)).block < B; rw [block_of_add]; exact hbl)).trans Y1.out
   go_still_tail 13, (by kernel_rfl)
   change wpList _ _ _ _ _ W2.drew
   go_upto_region 5 with (fail)
   obtain ⟨W3, hW3⟩ : ∃ W3, W3 = (W2.setCell ⟨mb, 28, none⟩ (.int .i64 (k : Int))).drew := ⟨_, rfl⟩
   rw [← hW3]
   obtain ⟨m3, hm3⟩ : ∃ m3, m3 = ({ m2 with sp := k } : Mx) := ⟨_, rfl⟩
   have HM3 : Hid (MAt W3 B mb L ad (.slice (some ad) p.length cp) iv As cs At ct m3) := hQ (by
    rw [hW3, hm3]
    exact (HM2.out.mset 28 (.int .i64 (k : Int)) { m2 with sp := k } rfl rfl rfl rfl iv rfl).after (bR.drew))
   have HB3 : Hid (Below B w W3) := hQ (by rw [hW3]; exact (HB2.out.trans (below_set (p := ⟨mb, 28, none⟩) hmb _)).drew)
   clear hW3 c28 f28 y1 hlt
   obtain ⟨-, -, -, -, -, -, -, c28, c29, c30, c31, hlt⟩ := HM3.out.cells
   have k1 : m3.sp = k := by rw [hm3]
   have k2 : m3.tp = m.tp := by rw [hm3]; exact e2
   have k3 : m3.deep = m.deep := by rw [hm3]; exact e3
   have k4 : m3.acts = m.acts := by rw [hm3]; exact e4
   rw [k1] at c28
   rw [k2] at c29
   rw [k3] at c31
   have f31 := HM3.out.blk.frozen 31
   obtain ⟨D, hD⟩ : ∃ D, D = m.tp - k := ⟨_, rfl⟩
   have hDi : (m.tp : Int) - (k : Int) = (D : Int) := by omega
   have hwD : IntKind.i64.wrap (D : Int) = (D : Int) := IntWalk.i64_in _ (by omega)
   have HD := hQ hD
   obtain ⟨dp, hdpe⟩ : ∃ dp, dp = m.deep := ⟨_, rfl⟩
   rw [← hdpe] at c31
   have HDP := hQ hdpe
   have hdpi : (dp : Int) ≤ 1048576 := by omega
   have HKK := hQ (⟨k1, k2, k3, k4, hm3, hm2⟩ : m3.sp = k ∧ m3.tp = m.tp ∧ m3.deep = m.deep ∧ m3.acts = m.acts ∧ m3 = ({ m2 with sp := k } : Mx) ∧ m2 = ({ m with use := splice m.use k (List.replicate z false) } : Mx))
   clear hD hdpe k1 k2 k3 k4 e1 e2 e3 e4 hm2 hm3 hSz hkS hSN hkc hkn hSc HM2 HB2 hwk htk hzi hz0
   go_still_tail 18, (by kernel_rfl)
   change wpList _ _ _ _ _ W3.drew
   go_upto_region 6 with (fail)
   obtain ⟨DD, hDD⟩ : ∃ DD : Nat, DD = if dp < D then D else dp := ⟨_, rfl⟩
   have e5 : (if dp < D then (D : Int) else (dp : Int)) = (DD : Int) := by rw [hDD]; split <;> rfl
   rw [e5]
   obtain ⟨m4, hm4⟩ : ∃ m4, m4 = ({ m3 with deep := DD } : Mx) := ⟨_, rfl⟩
   obtain ⟨W4, hW4⟩ : ∃ W4, W4 = (W3.setCell ⟨mb, 31, none⟩ (.int .i64 (DD : Int))).drew := ⟨_, rfl⟩
   rw [← hW4]
   have HM4 : Hid (MAt W4 B mb L ad (.slice (some ad) p.length cp) iv As cs At ct m4) := hQ (by
    rw [hW4, hm4]
    exact (HM3.out.mset 31 (.int .i64 (DD : Int)) { m3 with deep := DD } rfl rfl rfl rfl iv rfl).after (bR.drew))
   have HB4 : Hid (Below B w W4) := hQ (by rw [hW4]; exact (HB3.out.trans (below_set (p := ⟨mb, 31, none⟩) hmb _)).drew)
   have HBz4 : Hid (B ≤ W4.heap.size) := hQ (Nat.le_trans HB.out HB4.out.size)
   have ea : m4.acts = m.acts := by rw [hm4]; exact HKK.out.2.2.2.1
   have HE : Hid (m.call f z = { m4 with acts := m4.acts ++ [⟨f, 0⟩] }) := hQ (by
    obtain ⟨-, -, -, -, q5, q6⟩ := HKK.out
    unfold Mx.call
    rw [if_neg (by have := HKZ.out; omega), hm4, q5, q6, hDD, HDP.out, HD.out, show m.sp - z = k by have := HKZ.out; omega])
   rw [HE.out]
   have ha4 : m4.acts.length ≤ 1000000 := by rw [ea]; exact hacts
   clear hW4 hm4 hDD e5 ea c28 c29 c30 c31 f31 hlt HKK HE HM3 HB3
   obtain ⟨-, -, -, -, -, -, -, -, -, c30, -, hlt⟩ := HM4.out.cells
   have f30 := HM4.out.blk.frozen 30
   obtain ⟨i0, hi0, hz0, hz1, hz2⟩ := info_parts info_act
   go_wp2_with (at_builtin; refine wpList_append_any _ rfl (.tmp 82) (.tmp 85) _ rfl B 115 i0 _ 2 16 Tryz.underlying70 hi0 hz0 hz1 hz2 rfl (by omega) _ m4.acts.length (m4.acts.flatMap (acV ad)) rfl (HM4.out.own.alloc _) (W4.heap.size + 1) (some ⟨W4.heap.size, 0, none⟩) 1 1 [.pointer (some (ad.add (f * 3))), .int .i64 0] rfl (show Reads (World.alloc W4 _) _ _ _ _ _ from reads_new1 rfl) (by simp [Value.oneCell']) (by unfold maxLen; omega) (by omega) (by simp; omega) ?_; intro v6 w6 own6 gX atX; clear atX; have HO6 := hQ own6; have HG6 : Hid (W4.grownBy w6 (Value.slice As m4.acts.length cs).ownBlock) := hQ (grownBy_transR (grownBy_of_below (bR.alloc nL _) _) gX); obtain ⟨A6, c6, rfl, -⟩ := own_form own6; have y30 : w6.cell? ⟨mb, 30, none⟩ = some (.slice As m4.acts.length cs) := (HM4.out.blk.grown HG6.out (fun e => HM4.out.mb_own e.symm)).cell 30; have yf := (HM4.out.blk.grown HG6.out (fun e => HM4.out.mb_own e.symm)).frozen 30; clear own6 gX)
   all_goals go_end0
   all_goals exact ⟨rfl, HB4.out.trans ((below_of_grownR HG6.out (fun k hk => (HM4.out.lt_own k hk).1) HBz4.out).trans (below_set (p := ⟨mb, 30, none⟩) hmb _)), _, _, HM4.out.push HG6.out HO6.out⟩
end
end Go.Proofs.YtcnndoefgjbmiaaGreat.pm
