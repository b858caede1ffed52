/- What holds in a run of a right program: plain mathematics. -/
import Derived.Test.YtdijeijbcoeopaaDoorGNa
set_option linter.unusedVariables false
set_option maxRecDepth 10000
namespace Go.Proofs.YtdijeijbcoeopaaDoor.pm
open Go.RowKit
def kOk (nf : Nat) (prm : Int) (ns nc k : Nat) (n : Int) : Prop := if k = 0 then n = 0 else 0 ≤ n ∧ n < lim nf prm ns nc k
theorem kOk_of {nf : Nat} {prm : Int} {ns nc k : Nat} {n : Int} (h1 : badK k n = false) (h2 : outK nf prm ns nc k n = false) (h3 : tgtK nf prm ns nc k n = false) : kOk nf prm ns nc k n := by
 unfold kOk
 split
 · subst_vars
   simpa [badK] using h1
 · unfold outK at h2
   unfold tgtK at h3
   rcases hb : inB n (lim nf prm ns nc k) with _ | _
   · rw [hb] at h2 h3
     simp at h2 h3
     exact absurd h2 h3
   · exact inB_t.1 hb
theorem instr_ok {nf : Nat} {prm : Int} {sl : List (Int × Int)} {nc : Nat} {x : Ins} (h : instrE nf prm sl nc x = 0) :
 (0 ≤ x.op ∧ x.op < 25) ∧ kOk nf prm sl.length nc (shp x.op.toNat).1 x.a ∧ kOk nf prm sl.length nc (shp x.op.toNat).2.1 x.b ∧ kOk nf prm sl.length nc (shp x.op.toNat).2.2.1 x.c := by
 unfold instrE at h
 split at h
 · omega
 rename_i g1
 split at h
 · omega
 rename_i g2
 split at h
 · omega
 split at h
 · omega
 rename_i g4
 split at h
 · omega
 split at h
 · omega
 rename_i g6
 have e1 : inB x.op 25 = true := by simpa using g1
 have e2 := Bool.eq_false_iff.2 g2
 have e4 := Bool.eq_false_iff.2 g4
 have e6 := Bool.eq_false_iff.2 g6
 rw [Bool.or_eq_false_iff, Bool.or_eq_false_iff] at e2 e4 e6
 exact ⟨inB_t.1 e1, kOk_of e2.1.1 e4.1.1 e6.1.1, kOk_of e2.1.2 e4.1.2 e6.1.2, kOk_of e2.2 e4.2 e6.2⟩
structure GF (nf : Nat) (f : Fn) : Prop where
 prm : 0 ≤ f.params ∧ f.params < 9
 ns : f.slots.length ≤ 512
 nc : 1 ≤ f.code.length ∧ f.code.length ≤ 1024
 ins : ∀ x ∈ f.code, instrE nf f.params f.slots f.code.length x = 0
 last : termB (f.code.getD (f.code.length - 1) Ins.z).op = true
theorem funcE_gf {nf : Nat} {f : Fn} (h : funcE nf f = 0) : GF nf f := by
 unfold funcE at h
 split at h
 · omega
 rename_i g1
 split at h
 · exact absurd h ‹_›
 rename_i g2
 split at h
 · omega
 rename_i g3
 split at h
 · exact absurd h ‹_›
 rename_i g4
 split at h
 · omega
 rename_i g5
 have e3 : inB f.params 9 = true := by simpa using g3
 have e5 := Bool.eq_false_iff.2 g5
 rw [Bool.or_eq_false_iff] at e5
 have hn : f.code.length ≠ 0 := by simpa using e5.1
 refine ⟨inB_t.1 e3, ?_, ⟨by omega, by omega⟩, fun x hx => firstE_mem (by simpa using g4) _ (List.mem_map.2 ⟨x, hx, rfl⟩), by simpa using e5.2⟩
 have g2' : slotsE f.slots = 0 := by simpa using g2
 unfold slotsE at g2'
 split at g2'
 · omega
 · omega
structure GP (p : List Fn) : Prop where
 len : 1 ≤ p.length ∧ p.length ≤ 80
 ent : (p.getD 0 Fn.z).params = 0
 fns : ∀ i, i < p.length → GF p.length (p.getD i Fn.z)
 rng : ∀ i, i < p.length → FnR (p.getD i Fn.z)
 imm : ∀ i, i < p.length → ∀ x ∈ (p.getD i Fn.z).code, 0 ≤ x.imm ∧ x.imm < 18446744073709551616
theorem progE_gp {p : List Fn} (h : progE p = 0) (hr : ∀ i, i < p.length → FnR (p.getD i Fn.z)) (hi : ∀ i, i < p.length → ∀ x ∈ (p.getD i Fn.z).code, 0 ≤ x.imm ∧ x.imm < 18446744073709551616) : GP p := by
 have h0 := h
 unfold progE at h
 split at h
 · omega
 split at h
 · omega
 split at h
 · omega
 rename_i g1 g2 g3
 exact ⟨⟨by omega, by omega⟩, by omega, fun i hi => funcE_gf (firstE_mem h _ (List.mem_map.2 ⟨_, getD_mem' hi, rfl⟩)), hr, hi⟩
structure GI (p : List Fn) (m : Mx) : Prop where
 wf : Wf p m
 bot : (m.acts.getD 0 Ac.z).f = 0
 rgw : ∀ v ∈ m.regs, W64x v
 hpw : ∀ L ∈ m.hp, ∀ kv ∈ L, W64x kv.2
 inw : ∀ v ∈ m.inp, v < 18446744073709551616
theorem W64x.zero : W64x (0, 0) := ⟨by show 0 < _; omega, by show 0 < _; omega⟩
section
variable {p : List Fn} {m k : Mx}
theorem GI.rg (h : GI p m) (r : Nat) : W64x (rg m r) := by
 unfold pm.rg
 rw [List.getD_eq_getElem?_getD]
 rcases hr : m.regs[r]? with _ | v
 · exact W64x.zero
 · exact h.rgw v (List.mem_of_getElem? hr)
theorem mem_set {α : Type} {l : List α} {i : Nat} {a x : α} (h : x ∈ l.set i a) : x ∈ l ∨ x = a := List.mem_or_eq_of_mem_set h
theorem GI.regs (h : GI p k) (r : Nat) {v : Nat × Nat} (hv : W64x v) : GI p { k with regs := k.regs.set r v } :=
 ⟨⟨by show (k.regs.set r v).length = 8; rw [List.length_set]; exact h.wf.regs, h.wf.live, h.wf.some_⟩, h.bot, fun u hu => by
  rcases mem_set hu with h1 | h1
  · exact h.rgw u h1
  · rw [h1]; exact hv, h.hpw, h.inw⟩
theorem GI.look_w (h : GI p k) {o : Option Nat} {key : Int} {v : Nat × Nat} (hl : k.look o key = some v) : W64x v := by
 cases o with
 | none => cases hl
 | some i =>
  have hl' : (k.hp.getD i []).lookup key = some v := hl
  rw [List.getD_eq_getElem?_getD] at hl'
  rcases hr : k.hp[i]? with _ | L
  · rw [hr] at hl'; cases hl'
  · rw [hr] at hl'
    have : ∃ kk, (kk, v) ∈ L := by
     have hl2 : L.lookup key = some v := hl'
     clear hr hl hl'
     induction L with
     | nil => cases hl2
     | cons a r ih =>
      obtain ⟨b, c⟩ := a
      rw [List.lookup_cons] at hl2
      split at hl2
      · injection hl2 with e; subst e; exact ⟨b, List.mem_cons_self ..⟩
      · obtain ⟨kk, hk⟩ := ih hl2
        exact ⟨kk, List.mem_cons_of_mem _ hk⟩
    obtain ⟨kk, hk⟩ := this
    exact h.hpw L (List.mem_of_getElem? hr) _ hk
def GX (p : List Fn) (m : Mx) : Prop := m.ended = true ∨ GI p m
theorem GI.take (h : GI p k) (r : Nat) {o : Option Nat} {key : Int} : GX p (k.take r (k.look o key)) := by
 unfold Mx.take
 split
 · rename_i v hv
   exact .inr (h.regs r (h.look_w hv))
 · exact .inl rfl
theorem GI.stop (k : Mx) (c : Int) : GX p (k.stop c) := .inl rfl
theorem getD0_append {l : List Ac} {a : Ac} (h : 1 ≤ l.length) : (l ++ [a]).getD 0 Ac.z = l.getD 0 Ac.z := by
 rw [List.getD_eq_getElem?_getD, List.getD_eq_getElem?_getD, List.getElem?_append_left (by omega)]
theorem GI.call (hp : GP p) (h : GI p k) {f : Nat} (hf : f < p.length) : GI p (k.call f) := by
 refine ⟨⟨h.wf.regs, fun a ha => ?_, ?_⟩, ?_, h.rgw, h.hpw, h.inw⟩
 · have ha' : a ∈ k.acts ++ [⟨f, 0, none, none⟩] := ha
   rcases List.mem_append.1 ha' with h1 | h1
   · exact h.wf.live a h1
   · simp at h1; subst h1
     exact ⟨hf, (hp.fns f hf).nc.1, ⟨fun i hi => (by cases hi), fun i hi => (by cases hi)⟩⟩
 · show 1 ≤ (k.acts ++ [_]).length
   simp
 · show ((k.acts ++ [_]).getD 0 Ac.z).f = 0
   rw [getD0_append h.wf.some_]; exact h.bot
theorem getD0_set {l : List Ac} {a : Ac} {i : Nat} (h : 1 ≤ l.length) (ha : a.f = (l.getD i Ac.z).f) : ((l.set i a).getD 0 Ac.z).f = (l.getD 0 Ac.z).f := by
 cases l with
 | nil => simp at h
 | cons b r =>
  cases i with
  | zero => simpa using ha
  | succ i => simp
theorem GI.setTop (h : GI p k) {a : Ac} (ha : a.f = k.top.f) (hl : a.f < p.length ∧ a.pc < (p.getD a.f Fn.z).code.length ∧ (∀ i, a.ms = some i → i < k.hp.length) ∧ (∀ i, a.ma = some i → i < k.hp.length)) : GI p (k.setTop a) := by
 refine ⟨⟨h.wf.regs, fun b hb => ?_, ?_⟩, ?_, h.rgw, h.hpw, h.inw⟩
 · rcases mem_set hb with h1 | h1
   · exact h.wf.live b h1
   · subst h1; exact hl
 · show 1 ≤ (k.acts.set _ a).length
   rw [List.length_set]; exact h.wf.some_
 · show ((k.acts.set _ a).getD 0 Ac.z).f = 0
   rw [getD0_set h.wf.some_ ha]; exact h.bot
theorem top_mem (h : GI p k) : k.top ∈ k.acts := getD_mem' (by have := h.wf.some_; omega)
theorem GI.heap (h : GI p k) {hp' : List (List (Int × (Nat × Nat)))} (hl : k.hp.length ≤ hp'.length) (hw : ∀ L ∈ hp', ∀ kv ∈ L, W64x kv.2) : GI p { k with hp := hp' } :=
 ⟨⟨h.wf.regs, fun a ha => ⟨(h.wf.live a ha).1, (h.wf.live a ha).2.1, fun i hi => Nat.lt_of_lt_of_le ((h.wf.live a ha).2.2.1 i hi) hl, fun i hi => Nat.lt_of_lt_of_le ((h.wf.live a ha).2.2.2 i hi) hl⟩, h.wf.some_⟩, h.bot, h.rgw, hw, h.inw⟩
theorem GI.cons_w (h : GI p k) {j : Nat} {key : Int} {v : Nat × Nat} (hv : W64x v) : ∀ L ∈ k.hp.set j ((key, v) :: k.hp.getD j []), ∀ kv ∈ L, W64x kv.2 := fun L hL kv hkv => by
 rcases mem_set hL with h1 | h1
 · exact h.hpw L h1 kv hkv
 · subst h1
   rcases List.mem_cons.1 hkv with h2 | h2
   · subst h2; exact hv
   · rw [List.getD_eq_getElem?_getD] at h2
     rcases hr : k.hp[j]? with _ | L'
     · rw [hr] at h2; cases h2
     · rw [hr] at h2; exact h.hpw L' (List.mem_of_getElem? hr) kv h2
theorem GI.snoc_w (h : GI p k) {key : Int} {v : Nat × Nat} (hv : W64x v) : ∀ L ∈ k.hp ++ [[(key, v)]], ∀ kv ∈ L, W64x kv.2 := fun L hL kv hkv => by
 rcases List.mem_append.1 hL with h1 | h1
 · exact h.hpw L h1 kv hkv
 · simp at h1; subst h1; simp at hkv; subst hkv; exact hv
theorem GI.defS (h : GI p k) (key : Int) {v : Nat × Nat} (hv : W64x v) : GI p (k.defS key v) := by
 unfold Mx.defS
 split
 · exact h.heap (by simp) (h.cons_w hv)
 · have h1 := h.heap (hp' := k.hp ++ [[(key, v)]]) (by simp) (h.snoc_w hv)
   have hl := h1.wf.live k.top (show k.top ∈ k.acts from top_mem h)
   exact h1.setTop (a := { k.top with ms := some k.hp.length }) rfl ⟨hl.1, hl.2.1, fun i hi => by injection hi with hi; subst hi; simp, hl.2.2.2⟩
theorem GI.defA (h : GI p k) (key : Int) {v : Nat × Nat} (hv : W64x v) : GI p (k.defA key v) := by
 unfold Mx.defA
 split
 · exact h.heap (by simp) (h.cons_w hv)
 · have h1 := h.heap (hp' := k.hp ++ [[(key, v)]]) (by simp) (h.snoc_w hv)
   have hl := h1.wf.live k.top (show k.top ∈ k.acts from top_mem h)
   exact h1.setTop (a := { k.top with ma := some k.hp.length }) rfl ⟨hl.1, hl.2.1, hl.2.2.1, fun i hi => by injection hi with hi; subst hi; simp⟩
theorem bitsN_lt (o : BinOp) (a c : Nat) : bitsN o a c < 18446744073709551616 := by
 have h := wf_bits o .u64 a c
 simp [Lit.wf, IntKind.min, IntKind.max, IntKind.signed, IntKind.bits] at h
 unfold bitsN
 omega
theorem apV_w (op : Int) (a b c d : Nat) : W64x (apV op a b c d).1 := by
 unfold apV
 repeat' split
 all_goals unfold W64x
 all_goals dsimp only
 all_goals first
  | exact ⟨loN_lt _, hiN_lt _⟩
  | exact ⟨bitsN_lt _ _ _, bitsN_lt _ _ _⟩
  | exact ⟨bitsN_lt _ _ _, bitsN_lt _ _ _⟩
  | exact ⟨by omega, by omega⟩
  | (unfold eqN; split <;> exact ⟨by omega, by omega⟩)
theorem GI.plain (h : GI p k) (x : Ins) : GX p (k.plain x) := by
 unfold Mx.plain
 split
 · exact .inr (h.regs _ (h.rg _))
 split
 · exact .inr (h.regs _ ⟨(h.rg _).1, (h.rg _).1⟩)
 split
 · exact .inr (h.regs _ ⟨(h.rg _).2, by show 0 < _; omega⟩)
 split
 · have h1 := h.regs x.a.toNat (v := (k.inp.headD 0, 0)) ⟨by
    show k.inp.headD 0 < _
    rcases hi : k.inp with _ | ⟨v, r⟩
    · show 0 < _; omega
    · exact h.inw v (by rw [hi]; exact List.mem_cons_self ..), by show 0 < _; omega⟩
   exact .inr ⟨⟨h1.wf.regs, h1.wf.live, h1.wf.some_⟩, h1.bot, h1.rgw, h1.hpw, fun v hv => h.inw v (List.mem_of_mem_tail hv)⟩
 split
 · exact .inr ⟨⟨h.wf.regs, h.wf.live, h.wf.some_⟩, h.bot, h.rgw, h.hpw, h.inw⟩
 split
 · exact .inr (h.regs _ (apV_w _ _ _ _ _))
 · exact .inl rfl
end
section
variable {p : List Fn} {m k : Mx}
theorem ins_mem (h : GI p m) : m.ins p ∈ (p.getD m.top.f Fn.z).code := getD_mem' (h.wf.live _ (top_mem h)).2.1
theorem GI.more (h : GI p k) (s : Nat) : GI p { k with steps := s } := ⟨⟨h.wf.regs, h.wf.live, h.wf.some_⟩, h.bot, h.rgw, h.hpw, h.inw⟩
theorem GI.next (h : GI p m) (hn : m.top.pc + 1 < (p.getD m.top.f Fn.z).code.length) : GI p m.next := by
 have hl := h.wf.live _ (top_mem h)
 exact (h.setTop (a := { m.top with pc := m.top.pc + 1 }) rfl ⟨hl.1, hn, hl.2.2⟩).more _
theorem not_last (hp : GP p) (h : GI p m) (ht : termB (m.ins p).op = false) : m.top.pc + 1 < (p.getD m.top.f Fn.z).code.length := by
 have hl := h.wf.live _ (top_mem h)
 rcases Nat.lt_or_ge (m.top.pc + 1) (p.getD m.top.f Fn.z).code.length with h1 | h1
 · exact h1
 · exfalso
   have e : m.top.pc = (p.getD m.top.f Fn.z).code.length - 1 := by omega
   have := (hp.fns _ hl.1).last
   rw [← e] at this
   have h2 : termB (m.ins p).op = true := this
   rw [h2] at ht
   cases ht
theorem next_setTop (h : 1 ≤ m.acts.length) (pc : Nat) : m.next.setTop { m.next.top with pc := pc } = { m.setTop { m.top with pc := pc } with steps := m.steps + 1 } := by
 rw [next_top h]
 unfold Mx.next Mx.setTop
 simp [List.set_set]
theorem next_take (m : Mx) : m.next.acts.take (m.acts.length - 1) = m.acts.take (m.acts.length - 1) := by
 show (m.acts.set (m.acts.length - 1) _).take _ = _
 rw [List.take_set_of_le nL]
theorem GI.back (h : GI p m) (hl : m.acts.length ≠ 1) : GI p { m.next with acts := m.next.acts.take (m.acts.length - 1) } := by
 rw [next_take]
 have h1 := h.wf.some_
 refine ⟨⟨h.wf.regs, fun a ha => h.wf.live a (List.mem_of_mem_take ha), by show 1 ≤ (m.acts.take _).length; rw [List.length_take]; omega⟩, ?_, h.rgw, h.hpw, h.inw⟩
 show ((m.acts.take (m.acts.length - 1)).getD 0 Ac.z).f = 0
 rw [List.getD_eq_getElem?_getD, List.getElem?_take_of_lt (by omega), ← List.getD_eq_getElem?_getD]
 exact h.bot
theorem two_acts (hp : GP p) (h : GI p m) (hprm : 0 < (p.getD m.top.f Fn.z).params) : 2 ≤ m.acts.length := by
 have h1 := h.wf.some_
 rcases Nat.lt_or_ge m.acts.length 2 with h2 | h2
 · exfalso
   have e : m.top = m.acts.getD 0 Ac.z := by unfold Mx.top; rw [show m.acts.length - 1 = 0 by omega]
   rw [e, h.bot, hp.ent] at hprm
   omega
 · exact h2
theorem vcut_w {v : Nat × Nat} (h : W64x v) (z : Int) : W64x (vcut v z) := by
 obtain ⟨h1, h2⟩ := h
 unfold vcut truncS
 exact truncV_lt _ _ _ h1 h2
theorem ok_x (hp : GP p) (h : GI p m) (ht : m.trace.length ≤ 1000000) : OkX p m (m.ins p) := by
 have hl := h.wf.live _ (top_mem h)
 have hg := hp.fns _ hl.1
 obtain ⟨⟨o1, o2⟩, ka, kb, kc⟩ := instr_ok (hg.ins _ (ins_mem h))
 have him := hp.imm _ hl.1 _ (ins_mem h)
 have hpl := hp.len.2
 have hns := hg.ns
 have hnc := hg.nc.2
 have hprm := hg.prm
 have htw := two_acts hp h
 have hrg := h.rg
 have hsz : ∀ k : Int, 0 ≤ k → k < (p.getD m.top.f Fn.z).slots.length → -9223372036854775808 ≤ ((p.getD m.top.f Fn.z).slots.getD k.toNat (0, 0)).1 ∧ ((p.getD m.top.f Fn.z).slots.getD k.toNat (0, 0)).1 ≤ 9223372036854775807 := fun k k0 k1 => by
  have := (hp.rng _ hl.1 _ (getD_mem' (z := (0, 0)) (show k.toNat < _ by omega))).1
  unfold I64 at this
  omega
 obtain ⟨ns, ens⟩ : ∃ ns, ns = (p.getD m.top.f Fn.z).slots.length := ⟨_, rfl⟩
 obtain ⟨nc, enc⟩ : ∃ nc, nc = (p.getD m.top.f Fn.z).code.length := ⟨_, rfl⟩
 obtain ⟨np, enp⟩ : ∃ np, np = (p.getD m.top.f Fn.z).params := ⟨_, rfl⟩
 rw [← ens, ← enc, ← enp] at ka kb kc
 unfold OkX PlOk OpOk
 generalize hx : m.ins p = x at *
 obtain ⟨op, a, b, c, imm⟩ := x
 have hcase : op = 0 ∨ op = 1 ∨ op = 2 ∨ op = 3 ∨ op = 4 ∨ op = 5 ∨ op = 6 ∨ op = 7 ∨ op = 8 ∨ op = 9 ∨ op = 10 ∨ op = 11 ∨ op = 12 ∨ op = 13 ∨ op = 14 ∨ op = 15 ∨ op = 16 ∨ op = 17 ∨ op = 18 ∨ op = 19 ∨ op = 20 ∨ op = 21 ∨ op = 22 ∨ op = 23 ∨ op = 24 := by
  dsimp only at o1 o2; omega
 rcases hcase with rfl | rfl | rfl | rfl | rfl | rfl | rfl | rfl | rfl | rfl | rfl | rfl | rfl | rfl | rfl | rfl | rfl | rfl | rfl | rfl | rfl | rfl | rfl | rfl | rfl
 all_goals simp [kOk, shp, shps, lim, lims] at ka kb kc
 all_goals dsimp only at him
 · exact .inr ⟨(by dsimp only; omega), (.inl ⟨rfl, ⟨(by dsimp only; omega), (by dsimp only; omega)⟩, him.1⟩)⟩
 · exact .inl ⟨⟨(by dsimp only; omega), (by dsimp only; omega)⟩, ⟨(by dsimp only; omega), (by dsimp only; omega)⟩, ⟨(by dsimp only; omega), (by dsimp only; omega)⟩, ⟨(by dsimp only; omega), (by dsimp only; omega)⟩, ⟨(by dsimp only; omega), (by dsimp only; omega)⟩, ht, hrg⟩
 · exact .inl ⟨⟨(by dsimp only; omega), (by dsimp only; omega)⟩, ⟨(by dsimp only; omega), (by dsimp only; omega)⟩, ⟨(by dsimp only; omega), (by dsimp only; omega)⟩, ⟨(by dsimp only; omega), (by dsimp only; omega)⟩, ⟨(by dsimp only; omega), (by dsimp only; omega)⟩, ht, hrg⟩
 · exact .inl ⟨⟨(by dsimp only; omega), (by dsimp only; omega)⟩, ⟨(by dsimp only; omega), (by dsimp only; omega)⟩, ⟨(by dsimp only; omega), (by dsimp only; omega)⟩, ⟨(by dsimp only; omega), (by dsimp only; omega)⟩, ⟨(by dsimp only; omega), (by dsimp only; omega)⟩, ht, hrg⟩
 · exact .inl ⟨⟨(by dsimp only; omega), (by dsimp only; omega)⟩, ⟨(by dsimp only; omega), (by dsimp only; omega)⟩, ⟨(by dsimp only; omega), (by dsimp only; omega)⟩, ⟨(by dsimp only; omega), (by dsimp only; omega)⟩, ⟨(by dsimp only; omega), (by dsimp only; omega)⟩, ht, hrg⟩
 · exact .inl ⟨⟨(by dsimp only; omega), (by dsimp only; omega)⟩, ⟨(by dsimp only; omega), (by dsimp only; omega)⟩, ⟨(by dsimp only; omega), (by dsimp only; omega)⟩, ⟨(by dsimp only; omega), (by dsimp only; omega)⟩, ⟨(by dsimp only; omega), (by dsimp only; omega)⟩, ht, hrg⟩
 · exact .inl ⟨⟨(by dsimp only; omega), (by dsimp only; omega)⟩, ⟨(by dsimp only; omega), (by dsimp only; omega)⟩, ⟨(by dsimp only; omega), (by dsimp only; omega)⟩, ⟨(by dsimp only; omega), (by dsimp only; omega)⟩, ⟨(by dsimp only; omega), (by dsimp only; omega)⟩, ht, hrg⟩
 · exact .inl ⟨⟨(by dsimp only; omega), (by dsimp only; omega)⟩, ⟨(by dsimp only; omega), (by dsimp only; omega)⟩, ⟨(by dsimp only; omega), (by dsimp only; omega)⟩, ⟨(by dsimp only; omega), (by dsimp only; omega)⟩, ⟨(by dsimp only; omega), (by dsimp only; omega)⟩, ht, hrg⟩
 · exact .inl ⟨⟨(by dsimp only; omega), (by dsimp only; omega)⟩, ⟨(by dsimp only; omega), (by dsimp only; omega)⟩, ⟨(by dsimp only; omega), (by dsimp only; omega)⟩, ⟨(by dsimp only; omega), (by dsimp only; omega)⟩, ⟨(by dsimp only; omega), (by dsimp only; omega)⟩, ht, hrg⟩
 · exact .inl ⟨⟨(by dsimp only; omega), (by dsimp only; omega)⟩, ⟨(by dsimp only; omega), (by dsimp only; omega)⟩, ⟨(by dsimp only; omega), (by dsimp only; omega)⟩, ⟨(by dsimp only; omega), (by dsimp only; omega)⟩, ⟨(by dsimp only; omega), (by dsimp only; omega)⟩, ht, hrg⟩
 · exact .inl ⟨⟨(by dsimp only; omega), (by dsimp only; omega)⟩, ⟨(by dsimp only; omega), (by dsimp only; omega)⟩, ⟨(by dsimp only; omega), (by dsimp only; omega)⟩, ⟨(by dsimp only; omega), (by dsimp only; omega)⟩, ⟨(by dsimp only; omega), (by dsimp only; omega)⟩, ht, hrg⟩
 · exact .inl ⟨⟨(by dsimp only; omega), (by dsimp only; omega)⟩, ⟨(by dsimp only; omega), (by dsimp only; omega)⟩, ⟨(by dsimp only; omega), (by dsimp only; omega)⟩, ⟨(by dsimp only; omega), (by dsimp only; omega)⟩, ⟨(by dsimp only; omega), (by dsimp only; omega)⟩, ht, hrg⟩
 · exact .inl ⟨⟨(by dsimp only; omega), (by dsimp only; omega)⟩, ⟨(by dsimp only; omega), (by dsimp only; omega)⟩, ⟨(by dsimp only; omega), (by dsimp only; omega)⟩, ⟨(by dsimp only; omega), (by dsimp only; omega)⟩, ⟨(by dsimp only; omega), (by dsimp only; omega)⟩, ht, hrg⟩
 · exact .inl ⟨⟨(by dsimp only; omega), (by dsimp only; omega)⟩, ⟨(by dsimp only; omega), (by dsimp only; omega)⟩, ⟨(by dsimp only; omega), (by dsimp only; omega)⟩, ⟨(by dsimp only; omega), (by dsimp only; omega)⟩, ⟨(by dsimp only; omega), (by dsimp only; omega)⟩, ht, hrg⟩
 · exact .inl ⟨⟨(by dsimp only; omega), (by dsimp only; omega)⟩, ⟨(by dsimp only; omega), (by dsimp only; omega)⟩, ⟨(by dsimp only; omega), (by dsimp only; omega)⟩, ⟨(by dsimp only; omega), (by dsimp only; omega)⟩, ⟨(by dsimp only; omega), (by dsimp only; omega)⟩, ht, hrg⟩
 · exact .inr ⟨(by dsimp only; omega), (.inr (.inr (.inr (.inl ⟨rfl, ⟨(by dsimp only; omega), (by dsimp only; omega)⟩, (by dsimp only; omega), (by dsimp only; omega)⟩))))⟩
 · exact .inr ⟨(by dsimp only; omega), (.inr (.inr (.inr (.inr (.inl ⟨rfl, ⟨(by dsimp only; omega), (by dsimp only; omega), (by dsimp only; omega)⟩, ⟨(by dsimp only; omega), (by dsimp only; omega)⟩, hrg _, hsz a (by omega) (by omega)⟩)))))⟩
 · exact .inr ⟨(by dsimp only; omega), (.inr (.inr (.inr (.inr (.inr (.inr (.inr (.inr (.inl ⟨rfl, ⟨(by dsimp only; omega), (by dsimp only; omega)⟩, (by dsimp only; omega), (by dsimp only; omega)⟩)))))))))⟩
 · exact .inr ⟨(by dsimp only; omega), (.inr (.inr (.inr (.inr (.inr (.inl ⟨rfl, ⟨(by dsimp only; omega), (by dsimp only; omega)⟩, (by dsimp only; omega), (by dsimp only; omega)⟩))))))⟩
 · exact .inr ⟨(by dsimp only; omega), (.inr (.inr (.inr (.inr (.inr (.inr (.inl ⟨rfl, ⟨(by dsimp only; omega), (by dsimp only; omega)⟩, ⟨(by dsimp only; omega), (by dsimp only; omega)⟩, htw (by omega)⟩)))))))⟩
 · exact .inr ⟨(by dsimp only; omega), (.inr (.inr (.inr (.inr (.inr (.inr (.inr (.inr (.inr (.inl ⟨rfl, (by dsimp only; omega)⟩))))))))))⟩
 · exact .inr ⟨(by dsimp only; omega), (.inr (.inr (.inr (.inr (.inr (.inr (.inr (.inl ⟨rfl, ⟨(by dsimp only; omega), (by dsimp only; omega)⟩, (by dsimp only; omega)⟩))))))))⟩
 · exact .inr ⟨(by dsimp only; omega), (.inr (.inl ⟨rfl, (by dsimp only; omega), (by dsimp only; omega)⟩))⟩
 · exact .inr ⟨(by dsimp only; omega), (.inr (.inr (.inl rfl)))⟩
 · exact .inr ⟨(by dsimp only; omega), (.inr (.inr (.inr (.inr (.inr (.inr (.inr (.inr (.inr (.inr ⟨rfl, him.1⟩))))))))))⟩
theorem GX.step (hp : GP p) (h : GI p m) (ht : m.trace.length ≤ 1000000) : GX p (stepX p m) := by
 have hl := h.wf.live _ (top_mem h)
 have hg := hp.fns _ hl.1
 obtain ⟨-, ka, kb, -⟩ := instr_ok (hg.ins _ (ins_mem h))
 have hnl := not_last hp h
 have hs := h.wf.some_
 unfold stepX
 rcases ok_x hp h ht with ⟨⟨o1, o2⟩, -⟩ | ⟨hn, hok⟩
 · rw [if_pos ⟨o1, o2⟩]
   refine (h.next (hnl ?_)).plain _
   unfold termB
   rw [show ((m.ins p).op == 20) = false by rw [beq_eq_false_iff_ne]; omega, show ((m.ins p).op == 23) = false by rw [beq_eq_false_iff_ne]; omega, show ((m.ins p).op == 24) = false by rw [beq_eq_false_iff_ne]; omega]
   rfl
 · rw [if_neg hn]
   rcases hok with ⟨ho, ⟨ha0, ha1⟩, hi⟩ | ⟨ho, ha0, ha1⟩ | ho | ⟨ho, ⟨ha0, ha1⟩, hb0, hb1⟩ | ⟨ho, ⟨ha0, ha1, ha2⟩, ⟨hb0, hb1⟩, ⟨hv1, hv2⟩, hs0, hs1⟩ | ⟨ho, ⟨ha0, ha1⟩, hb0, hb1⟩ | ⟨ho, ⟨ha0, ha1⟩, ⟨hb0, hb1⟩, hl2⟩ | ⟨ho, ⟨ha0, ha1⟩, hb0⟩ | ⟨ho, ⟨ha0, ha1⟩, hb0, hb1⟩ | ⟨ho, ha0⟩ | ⟨ho, hi⟩
   ·
     have e : stepM p m = { m.next with regs := m.next.regs.set (m.ins p).a.toNat ((m.ins p).imm.toNat, 0) } := by unfold stepM; simp only [ho, if_true]
     rw [e]
     have him := hp.imm _ hl.1 _ (ins_mem h)
     exact .inr ((h.next (hnl (by rw [ho]; rfl))).regs _ ⟨by show (m.ins p).imm.toNat < _; omega, by show 0 < _; omega⟩)
   · have e : stepM p m = m.next.call (m.ins p).a.toNat := by unfold stepM; simp only [ho]; rfl
     rw [e]
     exact .inr ((h.next (hnl (by rw [ho]; rfl))).call hp (by omega))
   · have e : stepM p m = if m.acts.length = 1 then ({ m.next with acts := m.next.acts.take 0, res := rg m.next 0 } : Mx).stop 0 else { m.next with acts := m.next.acts.take (m.acts.length - 1) } := by unfold stepM; simp only [ho]; rfl
     rw [e]
     split
     · exact .inl rfl
     · exact .inr (h.back ‹_›)
   · have e : stepM p m = m.next.take (m.ins p).a.toNat (m.next.look m.top.ms (m.ins p).b) := by unfold stepM; simp only [ho]; rfl
     rw [e]
     exact (h.next (hnl (by rw [ho]; rfl))).take _
   · have e : stepM p m = m.next.defS (m.ins p).a (vcut (rg m.next (m.ins p).b.toNat) (szOf8 p m (m.ins p))) := by unfold stepM; simp only [ho]; rfl
     rw [e]
     have h1 := h.next (hnl (by rw [ho]; rfl))
     exact .inr (h1.defS _ (vcut_w (h1.rg _) _))
   · have e : stepM p m = m.next.defA (m.ins p).a (rg m.next (m.ins p).b.toNat) := by unfold stepM; simp only [ho]; rfl
     rw [e]
     have h1 := h.next (hnl (by rw [ho]; rfl))
     exact .inr (h1.defA _ (h1.rg _))
   · have e : stepM p m = m.next.take (m.ins p).a.toNat (m.next.look (m.acts.getD (m.acts.length - 2) Ac.z).ma (m.ins p).b) := by unfold stepM; simp only [ho]; rfl
     rw [e]
     exact (h.next (hnl (by rw [ho]; rfl))).take _
   · have e : stepM p m = if (rg m.next (m.ins p).a.toNat).1 = 0 then m.next else m.next.setTop { m.next.top with pc := (m.ins p).b.toNat } := by unfold stepM; simp only [ho]; rfl
     rw [e]
     have h1 := h.next (hnl (by rw [ho]; rfl))
     split
     · exact .inr h1
     · rw [next_setTop hs]
       rw [ho] at kb
       have kb' : 0 ≤ (m.ins p).b ∧ (m.ins p).b < (p.getD m.top.f Fn.z).code.length := kb
       exact .inr ((h.setTop (a := { m.top with pc := (m.ins p).b.toNat }) rfl ⟨hl.1, by show (m.ins p).b.toNat < (p.getD m.top.f Fn.z).code.length; omega, hl.2.2⟩).more _)
   · have e : stepM p m = m.next.moveIn (m.ins p).a (m.next.look m.top.ms (m.ins p).b) := by unfold stepM; simp only [ho]; rfl
     rw [e]
     have h1 := h.next (hnl (by rw [ho]; rfl))
     unfold Mx.moveIn
     split
     · rename_i v hv
       exact .inr (h1.defS _ (h1.look_w hv))
     · exact .inl rfl
   · have e : stepM p m = m.next.setTop { m.next.top with pc := (m.ins p).a.toNat } := by unfold stepM; simp only [ho]; rfl
     rw [e, next_setTop hs]
     rw [ho] at ka
     have ka' : 0 ≤ (m.ins p).a ∧ (m.ins p).a < (p.getD m.top.f Fn.z).code.length := ka
     exact .inr ((h.setTop (a := { m.top with pc := (m.ins p).a.toNat }) rfl ⟨hl.1, by show (m.ins p).a.toNat < (p.getD m.top.f Fn.z).code.length; omega, hl.2.2⟩).more _)
   · have e : stepM p m = ({ m.next with code := (m.ins p).imm.toNat } : Mx).stop 1 := by unfold stepM; simp only [ho]; rfl
     rw [e]
     exact .inl rfl
theorem acts_take (m : Mx) (r : Nat) (o : Option (Nat × Nat)) : (m.take r o).acts = m.acts := by
 unfold Mx.take; split <;> rfl
theorem acts_defS (m : Mx) (k : Int) (v : Nat × Nat) : (m.defS k v).acts.length = m.acts.length := by
 unfold Mx.defS; split
 · rfl
 · simp [Mx.setTop]
theorem acts_defA (m : Mx) (k : Int) (v : Nat × Nat) : (m.defA k v).acts.length = m.acts.length := by
 unfold Mx.defA; split
 · rfl
 · simp [Mx.setTop]
theorem acts_moveIn (m : Mx) (a : Int) (r : Option (Nat × Nat)) : (m.moveIn a r).acts.length = m.acts.length := by
 unfold Mx.moveIn; split
 · exact acts_defS _ _ _
 · rfl
theorem acts_next (m : Mx) : m.next.acts.length = m.acts.length := by simp [Mx.next, Mx.setTop]
theorem ite_le {c : Prop} [Decidable c] {a b : Mx} {n : Nat} (h1 : a.acts.length ≤ n) (h2 : b.acts.length ≤ n) : (if c then a else b).acts.length ≤ n := by split <;> assumption
theorem acts_stepX (p : List Fn) (m : Mx) : (stepX p m).acts.length ≤ m.acts.length + 1 := by
 have hn := acts_next m
 have h0 : ∀ x, (m.next.plain x).acts = m.next.acts := fun x => by
  unfold Mx.plain
  simp only [apply_ite Mx.acts, Mx.stop, ite_self]
 unfold stepX
 split
 · rw [h0]; omega
 · unfold stepM
   dsimp only
   repeat' refine ite_le ?_ ?_
   all_goals first
    | (rw [acts_take]; omega)
    | (rw [acts_defS]; omega)
    | (rw [acts_defA]; omega)
    | (rw [acts_moveIn]; omega)
    | (show (m.next.acts ++ [_]).length ≤ _; rw [List.length_append]; simp; omega)
    | (show (m.next.acts.set _ _).length ≤ _; rw [List.length_set]; omega)
    | (show m.next.acts.length ≤ _; omega)
    | (show (m.next.acts.take _).length ≤ _; rw [List.length_take]; omega)
theorem trace_take (m : Mx) (r : Nat) (o : Option (Nat × Nat)) : (m.take r o).trace = m.trace := by
 unfold Mx.take; split <;> rfl
theorem trace_defS (m : Mx) (k : Int) (v : Nat × Nat) : (m.defS k v).trace = m.trace := by
 unfold Mx.defS; split <;> rfl
theorem trace_defA (m : Mx) (k : Int) (v : Nat × Nat) : (m.defA k v).trace = m.trace := by
 unfold Mx.defA; split <;> rfl
theorem trace_moveIn (m : Mx) (a : Int) (r : Option (Nat × Nat)) : (m.moveIn a r).trace = m.trace := by
 unfold Mx.moveIn; split
 · exact trace_defS _ _ _
 · rfl
theorem trace_stepM (p : List Fn) (m : Mx) : (stepM p m).trace = m.trace := by
 have hn : m.next.trace = m.trace := rfl
 have h1 : ∀ (m : Mx) f, (m.call f).trace = m.trace := fun _ _ => rfl
 have h2 : ∀ (m : Mx) f, (m.stop f).trace = m.trace := fun _ _ => rfl
 have h3 : ∀ (m : Mx) f, (m.setTop f).trace = m.trace := fun _ _ => rfl
 unfold stepM
 simp only [apply_ite Mx.trace, trace_take, trace_defS, trace_defA, trace_moveIn, h1, h2, h3, hn, ite_self]
theorem trace_stepX (p : List Fn) (m : Mx) : ∃ t, (stepX p m).trace = m.trace ++ t ∧ t.length ≤ 1 := by
 unfold stepX
 split
 · unfold Mx.plain
   repeat' split
   all_goals first
    | exact ⟨[_], rfl, by simp⟩
    | exact ⟨[], by rw [List.append_nil]; rfl, by simp⟩
 · exact ⟨[], by rw [trace_stepM, List.append_nil], by simp⟩
def Good (p : List Fn) (m : Mx) : Prop := GX p m ∧ m.acts.length ≤ m.steps + 1 ∧ m.trace.length ≤ m.steps
theorem good_step (hp : GP p) (h : Good p m) (he : m.ended = false) (hs : m.steps ≤ 100000) : FitX p m ∧ Good p (stepX p m) := by
 obtain ⟨h1, h2, h3⟩ := h
 rcases h1 with h1 | h1
 · rw [h1] at he; cases he
 · obtain ⟨t, ht, htl⟩ := trace_stepX p m
   have ha := acts_stepX p m
   refine ⟨⟨h1.wf, ok_x hp h1 (by omega), by omega, fun a ha => ?_⟩, GX.step hp h1 (by omega), ?_, ?_⟩
   · have := h1.wf.live a ha
     have := (hp.fns _ this.1).nc.2
     omega
   · rw [steps_stepX]; omega
   · rw [steps_stepX, ht, List.length_append]; omega
theorem good_start (hp : GP p) {inp : List Nat} (hi : ∀ v ∈ inp, v < 18446744073709551616) : Good p ((Mx.start inp).call 0) := by
 refine ⟨.inr ⟨⟨rfl, fun a ha => ?_, by simp [Mx.start, Mx.call]⟩, rfl, fun v hv => ?_, fun L hL => by simp [Mx.start, Mx.call] at hL, hi⟩, by simp [Mx.start, Mx.call], by simp [Mx.start, Mx.call]⟩
 · simp [Mx.start, Mx.call] at ha
   subst ha
   have h0 : 0 < p.length := hp.len.1
   exact ⟨h0, (hp.fns 0 h0).nc.1, fun i hi => (by cases hi), fun i hi => (by cases hi)⟩
 · have hv' : v ∈ List.replicate 8 ((0 : Nat), (0 : Nat)) := hv
   rw [List.mem_replicate] at hv'
   rw [hv'.2]; exact W64x.zero
end
end Go.Proofs.YtdijeijbcoeopaaDoor.pm
