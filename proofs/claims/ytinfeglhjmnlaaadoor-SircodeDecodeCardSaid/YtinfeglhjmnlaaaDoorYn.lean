/- Bytes of programs: a program that is being read, in memory: its functions, the bytes of their descriptions. -/
import Derived.Test.YtinfeglhjmnlaaaDoorYm
namespace Go.Proofs.YtinfeglhjmnlaaaDoor.pm
open Go.RowKit
set_option linter.unusedVariables false
set_option maxRecDepth 10000

theorem info_bs : (Tryd.prog.info? 22).map (fun i => (i.zero, i.size, i.bytes)) = some (some (.slice none 0 0), 1, 24) := by kernel_rfl
theorem blk_kt {w w' : World} {g : Nat} {t t' : TypeId} {cs : Array Value} (h : Blk w g t' cs) (hk : Kt t 0 w.heap.size w w') (hne : t' ≠ t) : Blk w' g t' cs :=
  (hk g (Nat.zero_le _) h.lt (fun cs' fr' e => by
    have h' : w.heap[g]? = some (.cells cs t' (0, 0)) := h
    rw [h'] at e
    injection e with e
    injection e with _ e
    exact hne e)).trans h
theorem own_kt {w w' : World} {base n size : Nat} {e t : TypeId} {v : Value} {xs : List Value} (h : w.ownsRow base e size v n xs) (hk : Kt t 0 w.heap.size w w') (hne : e ≠ t) : w'.ownsRow base e size v n xs := by
  refine ⟨h.1, ?_⟩
  rcases h.2 with h1 | ⟨g, cap, cur, h1, h2, h3, r⟩
  · exact .inl h1
  · have hlt : g < w.heap.size := by
      rcases Nat.lt_or_ge g w.heap.size with h' | h'
      · exact h'
      · rw [Array.getElem?_eq_none h'] at h3; cases h3
    exact .inr ⟨g, cap, cur, h1, h2, (hk g (Nat.zero_le _) hlt (fun cs' fr' e' => by
      rw [h3] at e'
      injection e' with e'
      injection e' with _ e'
      exact hne e')).trans h3, r⟩
theorem kt_of_grown {w w' : World} {g : Nat} {t : TypeId} {cs : Array Value} (h : Blk w g t cs) (hg : w.grownBy w' (some g)) : Kt t 0 w.heap.size w w' := fun b h1 h2 h3 =>
  hg.block b h2 (fun e => by injection e with e; subst e; exact h3 _ _ h)
theorem kt_of_below {w w' : World} (t : TypeId) (h : Below w.heap.size w w') : Kt t 0 w.heap.size w w' := Kt.of_kp (Kp.of_below h (Nat.le_refl _))
/-- a slice of instructions, in a block of instructions -/
def NxT (W : World) (lo hi : Nat) (V : Option Addr) (ss : List Ins) : Prop := Nx W lo hi V ss ∧ TyA W V ss.length 58
theorem NxT.kt {W W' : World} {lo hi : Nat} {V : Option Addr} {ss : List Ins} {t : TypeId} (h : NxT W lo hi V ss) (hk : Kt t lo hi W W') (hne : 58 ≠ t) : NxT W' lo hi V ss := ⟨Rx.keepT h.1 h.2 hk hne, TyA.keepT h.1 h.2 hk hne⟩
theorem NxT.more {W : World} {lo hi lo' hi' : Nat} {V : Option Addr} {ss : List Ins} (h : NxT W lo hi V ss) (h1 : lo' ≤ lo) (h2 : hi ≤ hi') : NxT W lo' hi' V ss := ⟨h.1.more h1 h2, h.2⟩
/-- a slice of bytes, in a block of bytes -/
def BxT (W : World) (lo hi : Nat) (V : Option Addr) (d : List Nat) : Prop := Rx W lo hi 1 V d.length (nb d) ∧ TyA W V d.length 5
theorem BxT.kt {W W' : World} {lo hi : Nat} {V : Option Addr} {ss : List Nat} {t : TypeId} (h : BxT W lo hi V ss) (hk : Kt t lo hi W W') (hne : 5 ≠ t) : BxT W' lo hi V ss := ⟨Rx.keepT h.1 h.2 hk hne, TyA.keepT h.1 h.2 hk hne⟩
theorem BxT.more {W : World} {lo hi lo' hi' : Nat} {V : Option Addr} {ss : List Nat} (h : BxT W lo hi V ss) (h1 : lo' ≤ lo) (h2 : hi ≤ hi') : BxT W lo' hi' V ss := ⟨h.1.more h1 h2, h.2⟩
/-- what the cells of a row of functions say; all in blocks of their own types -/
def Vq (w : World) (lo hi : Nat) (vs : List Value) (p : List Fn) : Prop :=
  ∀ i, i < p.length → ∃ As cs Ai ci, vs[i * 3]? = some (.int .i64 (p.getD i Fn.z).params) ∧ vs[i * 3 + 1]? = some (.slice As (p.getD i Fn.z).slots.length cs) ∧ vs[i * 3 + 2]? = some (.slice Ai (p.getD i Fn.z).code.length ci) ∧
    SxT w lo hi As (p.getD i Fn.z).slots ∧ NxT w lo hi Ai (p.getD i Fn.z).code ∧ ((p.getD i Fn.z).slots.length ≤ maxLen ∧ (p.getD i Fn.z).slots.length ≤ cs) ∧ ((p.getD i Fn.z).code.length ≤ maxLen ∧ (p.getD i Fn.z).code.length ≤ ci)
/-- what the cells of a row of slices of bytes say -/
def Dq (w : World) (lo hi : Nat) (vs : List Value) (d : List (List Nat)) : Prop :=
  ∀ i, i < d.length → ∃ Ai ci, vs[i]? = some (.slice Ai (d.getD i []).length ci) ∧ BxT w lo hi Ai (d.getD i []) ∧ ((d.getD i []).length ≤ maxLen ∧ (d.getD i []).length ≤ ci)
section
variable {w w' : World} {lo hi lo' hi' : Nat} {vs : List Value} {p : List Fn} {d : List (List Nat)} {t : TypeId}
theorem Vq.kt (h : Vq w lo hi vs p) (hk : Kt t lo hi w w') (h1 : 103 ≠ t) (h2 : 58 ≠ t) : Vq w' lo hi vs p := fun i hi' => by
  obtain ⟨As, cs, Ai, ci, a, b, c, e, f, g⟩ := h i hi'
  exact ⟨As, cs, Ai, ci, a, b, c, e.kt hk h1, f.kt hk h2, g⟩
theorem Vq.more (h : Vq w lo hi vs p) (hl : lo' ≤ lo) (hh : hi ≤ hi') : Vq w lo' hi' vs p := fun i hi => by
  obtain ⟨As, cs, Ai, ci, a, b, c, e, f, g⟩ := h i hi
  exact ⟨As, cs, Ai, ci, a, b, c, e.more hl hh, f.more hl hh, g⟩
theorem Vq.vx (h : Vq w lo hi vs p) : Vx w lo hi vs p := fun i hi => by
  obtain ⟨As, cs, Ai, ci, a, b, c, e, f, g⟩ := h i hi
  exact ⟨As, cs, Ai, ci, a, b, c, e.1, f.1, g⟩
theorem Dq.kt (h : Dq w lo hi vs d) (hk : Kt t lo hi w w') (h1 : 5 ≠ t) : Dq w' lo hi vs d := fun i hi' => by
  obtain ⟨Ai, ci, a, b, c⟩ := h i hi'
  exact ⟨Ai, ci, a, b.kt hk h1, c⟩
theorem Dq.more (h : Dq w lo hi vs d) (hl : lo' ≤ lo) (hh : hi ≤ hi') : Dq w lo' hi' vs d := fun i hi => by
  obtain ⟨Ai, ci, a, b, c⟩ := h i hi
  exact ⟨Ai, ci, a, b.more hl hh, c⟩
theorem Vq.snoc (h : Vq w lo hi vs p) (hl : vs.length = p.length * 3) {f : Fn} {As Ai : Option Addr} {cs ci : Nat} (h1 : SxT w lo hi As f.slots) (h2 : NxT w lo hi Ai f.code) (h3 : f.slots.length ≤ maxLen ∧ f.slots.length ≤ cs) (h4 : f.code.length ≤ maxLen ∧ f.code.length ≤ ci) :
    Vq w lo hi (vs ++ [.int .i64 f.params, .slice As f.slots.length cs, .slice Ai f.code.length ci]) (p ++ [f]) := fun i hi => by
  rw [List.length_append] at hi
  rcases Nat.lt_or_ge i p.length with hlt | hge
  · obtain ⟨As', cs', Ai', ci', q1, q2, q3, q4⟩ := h i hlt
    have e : (p ++ [f]).getD i Fn.z = p.getD i Fn.z := by rw [List.getD_eq_getElem?_getD, List.getD_eq_getElem?_getD, List.getElem?_append_left hlt]
    rw [e]
    exact ⟨As', cs', Ai', ci', by rw [List.getElem?_append_left (by omega)]; exact q1, by rw [List.getElem?_append_left (by omega)]; exact q2, by rw [List.getElem?_append_left (by omega)]; exact q3, q4⟩
  · obtain rfl : i = p.length := by simp at hi; omega
    have e : (p ++ [f]).getD p.length Fn.z = f := by simp
    rw [e]
    refine ⟨As, cs, Ai, ci, ?_, ?_, ?_, h1, h2, h3, h4⟩
    · rw [List.getElem?_append_right (by omega), show p.length * 3 - vs.length = 0 by omega]; rfl
    · rw [List.getElem?_append_right (by omega), show p.length * 3 + 1 - vs.length = 1 by omega]; rfl
    · rw [List.getElem?_append_right (by omega), show p.length * 3 + 2 - vs.length = 2 by omega]; rfl
theorem Dq.snoc (h : Dq w lo hi vs d) (hl : vs.length = d.length) {f : List Nat} {Ai : Option Addr} {ci : Nat} (h1 : BxT w lo hi Ai f) (h2 : f.length ≤ maxLen ∧ f.length ≤ ci) :
    Dq w lo hi (vs ++ [.slice Ai f.length ci]) (d ++ [f]) := fun i hi => by
  rw [List.length_append] at hi
  rcases Nat.lt_or_ge i d.length with hlt | hge
  · obtain ⟨Ai', ci', q1, q2⟩ := h i hlt
    have e : (d ++ [f]).getD i [] = d.getD i [] := by rw [List.getD_eq_getElem?_getD, List.getD_eq_getElem?_getD, List.getElem?_append_left hlt]
    rw [e]
    exact ⟨Ai', ci', by rw [List.getElem?_append_left (by omega)]; exact q1, q2⟩
  · obtain rfl : i = d.length := by simp at hi; omega
    have e : (d ++ [f]).getD d.length [] = f := by simp
    rw [e]
    exact ⟨Ai, ci, by rw [List.getElem?_append_right (by omega), show d.length - vs.length = 0 by omega]; rfl, h1, h2⟩
end
/-- a program under way: the place for the answer, its cell, the row of its functions, the row of their descriptions -/
structure PI (g2 g7 lo : Nat) (fs : List Fn) (o1 : Value) (vs1 : List Value) (ds : List (List Nat)) (o2 : Value) (vs2 : List Value) (w W : World) : Prop where
  f : Blk W g2 44 #[.slice none 0 0]
  x : Blk W g7 44 #[o1]
  ow1 : W.ownsRow lo 97 3 o1 fs.length vs1
  vq : Vq W lo W.heap.size vs1 fs
  ow2 : W.ownsRow lo 22 1 o2 ds.length vs2
  dq : Dq W lo W.heap.size vs2 ds
  bel : Below w.heap.size w W
section
variable {g2 g7 lo : Nat} {fs : List Fn} {o1 o2 : Value} {vs1 vs2 : List Value} {ds : List (List Nat)} {w W W' : World} {t : TypeId}
def Far (t : TypeId) : Prop := 44 ≠ t ∧ 97 ≠ t ∧ 103 ≠ t ∧ 58 ≠ t ∧ 22 ≠ t ∧ 5 ≠ t
theorem PI.kt (h : PI g2 g7 lo fs o1 vs1 ds o2 vs2 w W) (hk : Kt t 0 W.heap.size W W') (hz : W.heap.size ≤ W'.heap.size) (hb : Below w.heap.size w W') (ht : Far t) : PI g2 g7 lo fs o1 vs1 ds o2 vs2 w W' :=
  ⟨blk_kt h.f hk ht.1, blk_kt h.x hk ht.1, own_kt h.ow1 hk ht.2.1, (h.vq.kt (hk.less (Nat.zero_le _) (Nat.le_refl _)) ht.2.2.1 ht.2.2.2.1).more (Nat.le_refl _) hz, own_kt h.ow2 hk ht.2.2.2.2.1,
    (h.dq.kt (hk.less (Nat.zero_le _) (Nat.le_refl _)) ht.2.2.2.2.2).more (Nat.le_refl _) hz, hb⟩
theorem far_rd : Far 135 := by unfold Far; decide
theorem PI.after (h : PI g2 g7 lo fs o1 vs1 ds o2 vs2 w W) (hb : Below W.heap.size W W') : PI g2 g7 lo fs o1 vs1 ds o2 vs2 w W' := h.kt (kt_of_below 135 hb) hb.size (h.bel.trans (hb.mono h.bel.size)) far_rd
theorem PI.grown {gr : Nat} {cs : Array Value} (h : PI g2 g7 lo fs o1 vs1 ds o2 vs2 w W) (hK : Blk W gr 135 cs) (hg : W.grownBy W' (some gr)) (hw : w.heap.size ≤ gr) : PI g2 g7 lo fs o1 vs1 ds o2 vs2 w W' :=
  h.kt (kt_of_grown hK hg) hg.size (h.bel.trans (below_of_grown hg hw h.bel.size)) far_rd
/-- one function more -/
theorem PI.app1 (h : PI g2 g7 lo fs o1 vs1 ds o2 vs2 w W) {f : Fn} {As Ai : Option Addr} {cs ci : Nat} {v' : Value} (hs : SxT W lo W.heap.size As f.slots) (hn : NxT W lo W.heap.size Ai f.code) (h3 : f.slots.length ≤ maxLen ∧ f.slots.length ≤ cs) (h4 : f.code.length ≤ maxLen ∧ f.code.length ≤ ci)
    (hwl : w.heap.size ≤ lo) (hw7 : w.heap.size ≤ g7) (h27 : g2 ≠ g7) (hlo : lo ≤ W.heap.size)
    (hown : W'.ownsRow lo 97 3 v' (fs.length + 1) (vs1 ++ [.int .i64 f.params, .slice As f.slots.length cs, .slice Ai f.code.length ci])) (hg : W.grownBy W' o1.ownBlock) :
    PI g2 g7 lo (fs ++ [f]) v' (vs1 ++ [.int .i64 f.params, .slice As f.slots.length cs, .slice Ai f.code.length ci]) ds o2 vs2 w (W'.setCell ⟨g7, 0, none⟩ v') := by
  have hk : Kt 97 0 W.heap.size W W' := Kt.of_own h.ow1 hg (Nat.le_refl _)
  have hkl := hk.less (Nat.zero_le lo) (Nat.le_refl _)
  have hv := ((h.vq.snoc h.ow1.1 hs hn h3 h4).kt hkl (by decide) (by decide)).more (Nat.le_refl _) hg.size
  have hd := (h.dq.kt hkl (by decide)).more (Nat.le_refl _) hg.size
  have hx := blk_kt h.x hk (by decide)
  have hf := blk_kt h.f hk (by decide)
  have ho2 := own_kt h.ow2 hk (by decide)
  have hk2 : Kt 44 0 W'.heap.size W' (W'.setCell ⟨g7, 0, none⟩ v') := kt_of_grown hx (gset6 _ _ _)
  have hkl2 := hk2.less (Nat.zero_le lo) (Nat.le_refl _)
  have hl1 : (fs ++ [f]).length = fs.length + 1 := by simp
  rw [← hl1] at hown
  exact ⟨hf.far (by simpa using h27) _, hx.set_ 0 _, own_kt hown hk2 (by decide), (hv.kt hkl2 (by decide) (by decide)).more (Nat.le_refl _) (by simp), own_kt ho2 hk2 (by decide), (hd.kt hkl2 (by decide)).more (Nat.le_refl _) (by simp),
    (h.bel.trans (below_append (Below.refl _ _) h.ow1 hg hwl hlo)).setCell (p := ⟨g7, 0, none⟩) hw7 _⟩
/-- one description more -/
theorem PI.app2 (h : PI g2 g7 lo fs o1 vs1 ds o2 vs2 w W) {d : List Nat} {Ai : Option Addr} {ci : Nat} {v' : Value} (hs : BxT W lo W.heap.size Ai d) (h3 : d.length ≤ maxLen ∧ d.length ≤ ci)
    (hwl : w.heap.size ≤ lo) (hlo : lo ≤ W.heap.size)
    (hown : W'.ownsRow lo 22 1 v' (ds.length + 1) (vs2 ++ [.slice Ai d.length ci])) (hg : W.grownBy W' o2.ownBlock) :
    PI g2 g7 lo fs o1 vs1 (ds ++ [d]) v' (vs2 ++ [.slice Ai d.length ci]) w W' := by
  have hk : Kt 22 0 W.heap.size W W' := Kt.of_own h.ow2 hg (Nat.le_refl _)
  have hkl := hk.less (Nat.zero_le lo) (Nat.le_refl _)
  have hl1 : (ds ++ [d]).length = ds.length + 1 := by simp
  rw [← hl1] at hown
  exact ⟨blk_kt h.f hk (by decide), blk_kt h.x hk (by decide), own_kt h.ow1 hk (by decide), (h.vq.kt hkl (by decide) (by decide)).more (Nat.le_refl _) hg.size, hown,
    ((h.dq.snoc (by have := h.ow2.1; omega) hs h3).kt hkl (by decide)).more (Nat.le_refl _) hg.size, h.bel.trans (below_append (Below.refl _ _) h.ow2 hg hwl hlo)⟩
end
/-- a slice of slices of bytes -/
def Dx (w : World) (lo hi : Nat) (A : Option Addr) (d : List (List Nat)) : Prop := ∃ vs, Rx w lo hi 1 A d.length vs ∧ Dq w lo hi vs d
theorem Dx.keep {w w' : World} {lo hi : Nat} {A : Option Addr} {d : List (List Nat)} (h : Dx w lo hi A d) (hk : Kp lo hi w w') : Dx w' lo hi A d := by
  obtain ⟨vs, h1, h2⟩ := h
  exact ⟨vs, h1.keep hk, h2.kt (t := 44) (Kt.of_kp hk) (by decide)⟩
theorem Dx.more {w : World} {lo hi lo' hi' : Nat} {A : Option Addr} {d : List (List Nat)} (h : Dx w lo hi A d) (hl : lo' ≤ lo) (hh : hi ≤ hi') : Dx w lo' hi' A d := by
  obtain ⟨vs, h1, h2⟩ := h
  exact ⟨vs, h1.more hl hh, h2.more hl hh⟩
/-- what parse answers -/
def PaD (l : List Nat) (w : World) (e : Ending) (w' : World) : Prop :=
  ∃ A c D cd, e = .returned (.tuple #[.agg #[.slice A (parF l).length c], .slice D (parD l).length cd, .int .i64 (parE l : Int)]) ∧ Fx w' w.heap.size w'.heap.size A (parF l) ∧ Dx w' w.heap.size w'.heap.size D (parD l) ∧
    ((parF l).length ≤ c ∧ (parD l).length ≤ cd) ∧ Below w.heap.size w w'
theorem PaD.err {l : List Nat} {w w' : World} {r : Nat} (h : parE l = r) (h0 : r ≠ 0) (hb : Below w.heap.size w w') : PaD l w (.returned (.tuple #[.agg #[.slice none 0 0], .slice none 0 0, .int .i64 (r : Int)])) w' := by
  obtain ⟨-, h1, h2⟩ := par_err (b := l) (by omega)
  refine ⟨none, 0, none, 0, by rw [h, h1, h2]; rfl, ?_, ?_, by rw [h1, h2]; exact ⟨Nat.le_refl _, Nat.le_refl _⟩, hb⟩
  · rw [h1]; exact ⟨[], Rx.nil _ _ _ _, fun i hi => by simp at hi⟩
  · rw [h2]; exact ⟨[], Rx.nil _ _ _ _, fun i hi => by simp at hi⟩
end Go.Proofs.YtinfeglhjmnlaaaDoor.pm
