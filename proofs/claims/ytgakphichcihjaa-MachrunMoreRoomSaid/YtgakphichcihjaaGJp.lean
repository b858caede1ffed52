/- What an instruction of a target does; what must hold ahead of a step. -/
import Derived.Test.YtgakphichcihjaaGJa
import Derived.Test.YtgakphichcihjaaGSc
import Derived.Test.YtgakphichcihjaaGAp
import Derived.Test.YtgakphichcihjaaGKe
namespace Go.Proofs.Ytgakphichcihjaa.pm
open Go.RowKit
set_option linter.unusedVariables false
set_option maxRecDepth 10000

/-- what an operation on registers, input and output does -/
def Mx.plain (m : Mx) (x : Ins) : Mx :=
  if x.op = 0 then { m with regs := m.regs.set x.a.toNat (x.imm.toNat, 0) }
  else if x.op = 1 then { m with regs := m.regs.set x.a.toNat (rg m x.b.toNat) }
  else if x.op = 11 then { m with regs := m.regs.set x.a.toNat ((rg m x.b.toNat).1, (rg m x.c.toNat).1) }
  else if x.op = 12 then { m with regs := m.regs.set x.a.toNat ((rg m x.b.toNat).2, 0) }
  else if x.op = 13 then { m with regs := m.regs.set x.a.toNat (m.inp.headD 0, 0), inp := m.inp.tail }
  else if x.op = 14 then { m with trace := m.trace ++ [rg m x.a.toNat] }
  else if (apV x.op (rg m x.b.toNat).1 (rg m x.b.toNat).2 (rg m x.c.toNat).1 (rg m x.c.toNat).2).2 = true then
    { m with regs := m.regs.set x.a.toNat (apV x.op (rg m x.b.toNat).1 (rg m x.b.toNat).2 (rg m x.c.toNat).1 (rg m x.c.toNat).2).1 }
  else m.stop 2
def Mx.ins (p : List Fr) (m : Mx) : Ins := (p.getD m.top.f Fr.z).code.getD m.top.pc Ins.z
/-- the machine behind the counting of a step -/
def Mx.next (m : Mx) : Mx := { m.setTop { m.top with pc := m.top.pc + 1 } with steps := m.steps + 1 }
def Mx.load (m : Mx) (a : Nat) (r : Option (List Nat)) : Mx :=
  match r with
  | some l => { m with regs := m.regs.set a (loV l, hiV l) }
  | none => m.stop 3
def Mx.moveIn (m : Mx) (a : Nat) (r : Option (List Nat)) : Mx :=
  match r with
  | some l => m.wr a l
  | none => m.stop 3
def Mx.leave (m : Mx) (z : Nat) : Mx :=
  if m.acts.length = 1 then ({ m with sp := m.sp + z, acts := m.acts.take 0, res := rg m 0 } : Mx).stop 0 else { m with sp := m.sp + z, acts := m.acts.take (m.acts.length - 1) }
def szF (p : List Fr) (f : Nat) : Nat := (p.getD f Fr.z).size.toNat
def prF (p : List Fr) (f : Nat) : Nat := (p.getD f Fr.z).params.toNat
/-- what an instruction does, behind the counting -/
def doX (p : List Fr) (k : Mx) (x : Ins) : Mx :=
  if x.op = 15 then k.load x.a.toNat (k.rd x.b.toNat x.c.toNat)
  else if x.op = 16 then k.wr x.a.toNat (bytesV (rg k x.b.toNat).1 (rg k x.b.toNat).2 x.c.toNat)
  else if x.op = 17 then k.moveIn x.a.toNat (k.rd x.b.toNat x.c.toNat)
  else if x.op = 20 then k.setTop { k.top with pc := x.a.toNat }
  else if x.op = 21 then if (rg k x.a.toNat).1 = 0 then k else k.setTop { k.top with pc := x.b.toNat }
  else if x.op = 22 then k.call x.a.toNat (szF p x.a.toNat)
  else if x.op = 23 then k.leave (szF p k.top.f)
  else if x.op = 24 then ({ k with code := x.imm.toNat } : Mx).stop 1
  else k.plain x
def stepX (p : List Fr) (m : Mx) : Mx := doX p m.next (m.ins p)
def W64x (v : Nat × Nat) : Prop := v.1 < 18446744073709551616 ∧ v.2 < 18446744073709551616
def inV8 (l : List Nat) : List Value := l.map fun (v : Nat) => Value.int .u64 (v : Int)
/-- how the rest of the input lies in memory -/
def InX (w : World) (B : Nat) (iv : Value) (inp : List Nat) : Prop :=
  ∃ Ai ci, iv = .slice Ai inp.length ci ∧ inp.length ≤ ci ∧ inp.length ≤ 1000000 ∧ Rx w 0 B 1 Ai inp.length (inV8 inp)
theorem InX.after {w w' : World} {B : Nat} {iv : Value} {inp : List Nat} (h : InX w B iv inp) (hb : Below B w w') : InX w' B iv inp := by
  obtain ⟨Ai, ci, h1, h2, h3, h4⟩ := h
  exact ⟨Ai, ci, h1, h2, h3, h4.keep fun b _ hn => hb.block b hn⟩
theorem InX.more {w : World} {B B' : Nat} {iv : Value} {inp : List Nat} (h : InX w B iv inp) (hB : B ≤ B') : InX w B' iv inp := by
  obtain ⟨Ai, ci, h1, h2, h3, h4⟩ := h
  exact ⟨Ai, ci, h1, h2, h3, h4.more (Nat.le_refl _) hB⟩
/-- the rest of an input -/
theorem InX.tail {w : World} {B v ci : Nat} {Ai : Option Addr} {inp : List Nat} (hc : (v :: inp).length ≤ ci) (hl : (v :: inp).length ≤ 1000000) (h : Rx w 0 B 1 Ai (v :: inp).length (inV8 (v :: inp))) :
    InX w B (.slice (if ci = 1 then Ai else Ai.map fun x => ⟨x.block, x.off + 1, none⟩) inp.length (ci - 1)) inp := by
  obtain ⟨ad, e, hb, hcl⟩ := h.1.2 (by simp)
  subst e
  have hl' : inp.length + 1 ≤ ci := by simpa using hc
  by_cases h1 : ci = 1
  · subst h1
    obtain rfl : inp = [] := by cases inp with | nil => rfl | cons => simp at hl'
    exact ⟨_, _, rfl, by simp, by simp, ⟨⟨rfl, fun h => absurd h (by simp)⟩, fun ad _ _ => Nat.zero_le _⟩⟩
  · rw [if_neg h1]
    refine ⟨_, _, rfl, by omega, by simp at hl; omega, ⟨⟨by simp [inV8], fun hn => ⟨ad.add 1, by rw [add_pos ad 1 (by omega)]; rfl, by rw [block_of_add]; exact hb, fun j u hu => ?_⟩⟩, fun ad _ _ => Nat.zero_le _⟩⟩
    rw [add_of_add, Nat.add_comm 1 j]
    exact hcl (j + 1) u (by simpa [inV8] using hu)
theorem bitsN_lt (o : BinOp) (a c : Nat) : bitsN o a c < 18446744073709551616 := by
  have h := wf_bits o .u64 a c
  simp [Lit.wf, IntKind.min, IntKind.max, IntKind.signed, IntKind.bits] at h
  unfold bitsN
  omega
theorem apV_w (op : Int) (a b c d : Nat) : W64x (apV op a b c d).1 := by
  unfold apV
  repeat' split
  all_goals unfold W64x
  all_goals dsimp only
  all_goals first
    | exact ⟨loN_lt _, hiN_lt _⟩
    | exact ⟨bitsN_lt _ _ _, bitsN_lt _ _ _⟩
    | exact ⟨bitsN_lt _ _ _, bitsN_lt _ _ _⟩
    | exact ⟨by omega, by omega⟩
    | (unfold eqN; split <;> exact ⟨by omega, by omega⟩)
/-- what a step gives: the world behind holds the machine -/
def StepI (w : World) (B mb : Nat) (L : Pl) (ad : Addr) (pv : Value) (m : Mx) (e : Ending) (w' : World) : Prop :=
  e = .returned (.tuple #[]) ∧ Below B w w' ∧ ∃ iv' As' cs' At' ct', MAt w' B mb L ad pv iv' As' cs' At' ct' m ∧ InX w' B iv' m.inp
def StepD (w : World) (B mb : Nat) (L : Pl) (ad : Addr) (pv iv : Value) (m : Mx) (e : Ending) (w' : World) : Prop :=
  e = .returned (.tuple #[]) ∧ Below B w w' ∧ ∃ As' cs' At' ct', MAt w' B mb L ad pv iv As' cs' At' ct' m
theorem StepI.of {w w' : World} {B mb : Nat} {L : Pl} {ad : Addr} {pv iv : Value} {m : Mx} {e : Ending} (h : StepD w B mb L ad pv iv m e w') (hi : InX w B iv m.inp) : StepI w B mb L ad pv m e w' := by
  obtain ⟨h1, h2, As', cs', At', ct', h3⟩ := h
  exact ⟨h1, h2, _, As', cs', At', ct', h3, hi.after h2⟩
end Go.Proofs.Ytgakphichcihjaa.pm
namespace Go.Proofs.Ytgakphichcihjaa.pm
open Go.RowKit
set_option linter.unusedVariables false
set_option maxRecDepth 10000

/-- a run: fuel F; the first number: how many rounds may be left -/
def runX (p : List Fr) (F : Nat) : Nat → Mx → Mx
  | 0, m => m
  | k + 1, m => if m.ended = true then m else if F ≤ m.steps then m.stop 4 else runX p F k (stepX p m)
/-- n steps, or fewer if the run ends -/
def itX (p : List Fr) : Nat → Mx → Mx
  | 0, m => m
  | n + 1, m => if m.ended = true then m else itX p n (stepX p m)
def Mx.fin (m : Mx) : Mx := if m.ended = true then m else m.stop 4
theorem steps_load (m : Mx) (a : Nat) (r : Option (List Nat)) : (m.load a r).steps = m.steps := by unfold Mx.load; split <;> rfl
theorem steps_moveIn (m : Mx) (a : Nat) (r : Option (List Nat)) : (m.moveIn a r).steps = m.steps := by unfold Mx.moveIn; split <;> rfl
theorem steps_call (m : Mx) (f z : Nat) : (m.call f z).steps = m.steps := by unfold Mx.call; split <;> rfl
theorem steps_leave (m : Mx) (z : Nat) : (m.leave z).steps = m.steps := by unfold Mx.leave; split <;> rfl
theorem steps_stop (m : Mx) (k : Int) : (m.stop k).steps = m.steps := rfl
theorem steps_setTop (m : Mx) (a : Ac) : (m.setTop a).steps = m.steps := rfl
theorem steps_wr (m : Mx) (o : Nat) (b : List Nat) : (m.wr o b).steps = m.steps := rfl
theorem steps_plain (m : Mx) (x : Ins) : (m.plain x).steps = m.steps := by
  unfold Mx.plain
  simp only [apply_ite Mx.steps, steps_stop, ite_self]
theorem steps_stepX (p : List Fr) (m : Mx) : (stepX p m).steps = m.steps + 1 := by
  have hn : m.next.steps = m.steps + 1 := rfl
  unfold stepX doX
  simp only [apply_ite Mx.steps, steps_load, steps_moveIn, steps_call, steps_leave, steps_stop, steps_setTop, steps_wr, steps_plain, hn, ite_self]
theorem trace_stepX (p : List Fr) (m : Mx) : ∃ t, (stepX p m).trace = m.trace ++ t ∧ t.length ≤ 1 := by
  have hn : m.next.trace = m.trace := rfl
  have hp : ∀ x, ∃ t, (m.next.plain x).trace = m.trace ++ t ∧ t.length ≤ 1 := fun x => by
    unfold Mx.plain
    repeat' split
    all_goals first
      | exact ⟨[_], rfl, by simp⟩
      | exact ⟨[], by rw [List.append_nil]; rfl, by simp⟩
  unfold stepX doX Mx.load Mx.moveIn Mx.call Mx.leave
  repeat' split
  all_goals first
    | exact hp _
    | exact ⟨[], by rw [List.append_nil]; rfl, by simp⟩
section
variable {p : List Fr}
theorem itX_succ (n : Nat) (m : Mx) : itX p (n + 1) m = if m.ended = true then m else itX p n (stepX p m) := rfl
theorem itX_end {m : Mx} (h : m.ended = true) (n : Nat) : itX p n m = m := by
  cases n with
  | zero => rfl
  | succ n => unfold itX; rw [if_pos h]
theorem itX_add (a b : Nat) (m : Mx) : itX p (a + b) m = itX p b (itX p a m) := by
  induction a generalizing m with
  | zero => rw [Nat.zero_add]; rfl
  | succ a ih =>
    rw [show a + 1 + b = (a + b) + 1 by omega]
    by_cases h : m.ended = true
    · rw [itX_end h, itX_end h, itX_end h]
    · rw [itX_succ, itX_succ, if_neg h, if_neg h, ih]
theorem itX_trace (n : Nat) (m : Mx) : ∃ t, (itX p n m).trace = m.trace ++ t := by
  induction n generalizing m with
  | zero => exact ⟨[], by rw [List.append_nil]; rfl⟩
  | succ n ih =>
    by_cases h : m.ended = true
    · rw [itX_end h]; exact ⟨[], by rw [List.append_nil]⟩
    · unfold itX
      rw [if_neg h]
      obtain ⟨t, ht⟩ := ih (stepX p m)
      obtain ⟨u, hu, -⟩ := trace_stepX p m
      exact ⟨u ++ t, by rw [ht, hu, List.append_assoc]⟩
theorem itX_steps (n : Nat) (m : Mx) : m.steps ≤ (itX p n m).steps ∧ (itX p n m).steps ≤ m.steps + n ∧ ((itX p n m).ended = false → (itX p n m).steps = m.steps + n) := by
  induction n generalizing m with
  | zero => exact ⟨Nat.le_refl _, Nat.le_refl _, fun _ => rfl⟩
  | succ n ih =>
    by_cases h : m.ended = true
    · rw [itX_end h]; exact ⟨Nat.le_refl _, by omega, fun e => by rw [h] at e; cases e⟩
    · unfold itX
      rw [if_neg h]
      obtain ⟨h1, h2, h3⟩ := ih (stepX p m)
      rw [steps_stepX] at h1 h2 h3
      exact ⟨by omega, by omega, fun e => by rw [h3 e]; omega⟩
theorem runX_it (F n : Nat) (m : Mx) (h : m.steps + n = F) : runX p F (n + 2) m = (itX p n m).fin := by
  induction n generalizing m with
  | zero =>
    show runX p F (1 + 1) m = m.fin
    unfold runX Mx.fin
    by_cases he : m.ended = true
    · rw [if_pos he, if_pos he]
    · rw [if_neg he, if_neg he, if_pos (by omega)]
  | succ n ih =>
    rw [show n + 1 + 2 = (n + 2) + 1 by omega]
    unfold runX
    by_cases he : m.ended = true
    · rw [if_pos he, itX_end he]
      unfold Mx.fin
      rw [if_pos he]
    · rw [if_neg he, if_neg (by omega), ih (stepX p m) (by rw [steps_stepX]; omega)]
      conv => rhs; unfold itX
      rw [if_neg he]
/-- how a run may have ended: not by its fuel, not by a wild access -/
def KX (m : Mx) : Prop := m.ended = false ∨ (m.kind ≠ 4 ∧ m.kind ≠ 6)
theorem KX.stop (m : Mx) {c : Int} (h : c ≠ 4 ∧ c ≠ 6) : KX (m.stop c) := .inr h
theorem ite_kx {c : Prop} [Decidable c] {a b : Mx} (h1 : KX a) (h2 : KX b) : KX (if c then a else b) := by split <;> assumption
theorem kx_load {m : Mx} (h : m.ended = false) (a : Nat) (r : Option (List Nat)) : KX (m.load a r) := by
  unfold Mx.load; split
  · exact .inl h
  · exact KX.stop _ (by decide)
theorem kx_moveIn {m : Mx} (h : m.ended = false) (a : Nat) (r : Option (List Nat)) : KX (m.moveIn a r) := by
  unfold Mx.moveIn; split
  · exact .inl h
  · exact KX.stop _ (by decide)
theorem kx_call {m : Mx} (h : m.ended = false) (f z : Nat) : KX (m.call f z) := by
  unfold Mx.call; split
  · exact KX.stop _ (by decide)
  · exact .inl h
theorem kx_leave {m : Mx} (h : m.ended = false) (z : Nat) : KX (m.leave z) := by
  unfold Mx.leave; split
  · exact KX.stop _ (by decide)
  · exact .inl h
theorem kx_plain {m : Mx} (h : m.ended = false) (x : Ins) : KX (m.plain x) := by
  unfold Mx.plain
  repeat' refine ite_kx ?_ ?_
  all_goals first
    | exact KX.stop _ (by decide)
    | exact .inl h
theorem kx_step {m : Mx} (h : m.ended = false) : KX (stepX p m) := by
  have hn : m.next.ended = false := h
  unfold stepX doX
  exact ite_kx (kx_load hn _ _) (ite_kx (.inl hn) (ite_kx (kx_moveIn hn _ _) (ite_kx (.inl hn) (ite_kx (ite_kx (.inl hn) (.inl hn)) (ite_kx (kx_call hn _ _) (ite_kx (kx_leave hn _) (ite_kx (KX.stop _ (by decide)) (kx_plain hn _))))))))
theorem kx_it (n : Nat) {m : Mx} (h : KX m) : KX (itX p n m) := by
  induction n generalizing m with
  | zero => exact h
  | succ n ih =>
    by_cases he : m.ended = true
    · rw [itX_end he]; exact h
    · unfold itX
      rw [if_neg he]
      exact ih (kx_step (by simpa using he))
/-- the law on fuel -/
theorem fuel_law (m : Mx) (hm : m.ended = false ∨ (m.kind ≠ 4 ∧ m.kind ≠ 6)) (hs : m.steps = 0) (F d : Nat) :
    let a := (itX p F m).fin
    let b := (itX p (F + d) m).fin
    a.steps ≤ b.steps ∧ a.steps ≤ F ∧ (∃ t, b.trace = a.trace ++ t) ∧ (a.kind ≠ 4 → a = b) ∧ (a.kind = 4 → a.steps = F) := by
  dsimp only
  have hk := kx_it (p := p) F (m := m) hm
  have hst := itX_steps (p := p) F m
  rw [itX_add]
  generalize itX p F m = e at *
  have hst2 := itX_steps (p := p) d e
  obtain ⟨t, ht⟩ := itX_trace (p := p) d e
  by_cases he : e.ended = true
  · rw [itX_end he]
    have hf : e.fin = e := by unfold Mx.fin; rw [if_pos he]
    rw [hf]
    refine ⟨Nat.le_refl _, by omega, ⟨[], by simp⟩, fun _ => rfl, fun h4 => ?_⟩
    rcases hk with h | h
    · rw [h] at he; cases he
    · exact absurd h4 h.1
  · have hf : e.fin = e.stop 4 := by unfold Mx.fin; rw [if_neg he]
    have hf2 : ∀ x : Mx, x.fin.steps = x.steps ∧ x.fin.trace = x.trace := fun x => by unfold Mx.fin; split <;> exact ⟨rfl, rfl⟩
    have hse := hst.2.2 (by simpa using he)
    rw [(hf2 _).1, (hf2 _).2, (hf2 _).1, (hf2 _).2, hf]
    exact ⟨hst2.1, by omega, ⟨t, ht⟩, fun h4 => absurd rfl h4, fun _ => by show e.steps = F; omega⟩
/-- a run never ends by a wild access -/
theorem wild_law (m : Mx) (hm : KX m) (F : Nat) : ((itX p F m).fin).kind ≠ 6 := by
  have hk := kx_it (p := p) F (m := m) hm
  generalize itX p F m = e at *
  unfold Mx.fin
  split
  · rcases hk with h | h
    · rename_i h1; rw [h] at h1; cases h1
    · exact h.2
  · show (4 : Int) ≠ 6; decide
end
end Go.Proofs.Ytgakphichcihjaa.pm
namespace Go.Proofs.Ytgakphichcihjaa.pm
open Go.RowKit
set_option linter.unusedVariables false
set_option maxRecDepth 10000

/-- a right frame -/
structure GF (nf : Nat) (al : Int) (f : Fr) : Prop where
  prm : 0 ≤ f.params ∧ f.params ≤ 8
  size : 0 ≤ f.size ∧ f.size < 2147483520
  mult : f.size % al = 0
  nc : 1 ≤ f.code.length ∧ f.code.length ≤ 1024
  ins : ∀ x ∈ f.code, inE nf f.params f.size f.code.length x = 0
  last : termB (f.code.getD (f.code.length - 1) Ins.z).op = true
/-- a right target -/
structure RT (al : Int) (p : List Fr) : Prop where
  len : 1 ≤ p.length ∧ p.length ≤ 80
  pw : powB al = true ∧ 16 ≤ al
  ent : (p.getD 0 Fr.z).params = 0
  fr : ∀ i, i < p.length → GF p.length al (p.getD i Fr.z)
  room : ∀ i, i < p.length → ∀ x ∈ (p.getD i Fr.z).code, roomB p (p.getD i Fr.z).size x = true
  rng : TgR al p
  imm : ∀ i, i < p.length → ∀ x ∈ (p.getD i Fr.z).code, 0 ≤ x.imm ∧ x.imm < 18446744073709551616
theorem tgE_gt {al : Int} {p : List Fr} (h : tgE al p = 0) (hr : TgR al p) (hi : ∀ i, i < p.length → ∀ x ∈ (p.getD i Fr.z).code, 0 ≤ x.imm ∧ x.imm < 18446744073709551616) : RT al p := by
  unfold tgE at h
  split at h
  · omega
  split at h
  · omega
  split at h
  · omega
  split at h
  · omega
  split at h
  · exact absurd h ‹_›
  split at h
  · rename_i h1 h2 h3 h4 h5 h6
    have h5' : firstE (p.map (frE p.length al)) = 0 := by simpa using h5
    have hf : ∀ i, i < p.length → frE p.length al (p.getD i Fr.z) = 0 := fun i hi => firstE_mem h5' _ (List.mem_map_of_mem (getD_mem' hi))
    have h3' := Bool.eq_false_iff.2 h3
    rw [Bool.or_eq_false_iff] at h3'
    refine ⟨by omega, ⟨by simpa using h3'.1, by simpa using h3'.2⟩, by simpa using h4, fun i hi => ?_, fun i hi x hx => ?_, hr, hi⟩
    · obtain ⟨a, b, c, d, e⟩ := frE_ok (hf i hi)
      obtain ⟨-, s1, s2, s3⟩ := shB_ok a
      exact ⟨s1, s2, s3, ⟨by omega, b⟩, c, e⟩
    · exact List.all_eq_true.1 (List.all_eq_true.1 h6 _ (getD_mem' hi)) x hx
  · omega
def rgOk (r : Int) : Prop := 0 ≤ r ∧ r < 8
/-- what the operands of a right instruction are -/
structure GX (nf : Nat) (prm sz : Int) (nc : Nat) (x : Ins) : Prop where
  op : 0 ≤ x.op ∧ x.op < 25 ∧ x.op ≠ 18 ∧ x.op ≠ 19
  ra : (x.op ≤ 15 ∨ x.op = 21) → rgOk x.a
  rb : (x.op = 1 ∨ (2 ≤ x.op ∧ x.op ≤ 12) ∨ x.op = 16) → rgOk x.b
  rc : (2 ≤ x.op ∧ x.op ≤ 11) → rgOk x.c
  sc : (x.op = 15 ∨ x.op = 16 ∨ x.op = 17) → sizeB x.c = true ∧ 1 ≤ x.c ∧ x.c ≤ 16
  rd : (x.op = 15 ∨ x.op = 17) → 0 ≤ x.b ∧ x.b + x.c ≤ sz + 16 * prm
  wr : (x.op = 16 ∨ x.op = 17) → 0 ≤ x.a ∧ x.a + x.c ≤ sz
  ja : x.op = 20 → 0 ≤ x.a ∧ x.a < nc
  jb : x.op = 21 → 0 ≤ x.b ∧ x.b < nc
  ca : x.op = 22 → 0 ≤ x.a ∧ x.a < nf
theorem inE_gx {nf nc : Nat} {prm sz : Int} {x : Ins} (h : inE nf prm sz nc x = 0) : GX nf prm sz nc x := by
  unfold inE at h
  split at h
  · omega
  rename_i g1
  split at h
  · omega
  split at h
  · omega
  rename_i g3
  split at h
  · omega
  rename_i g4
  split at h
  · omega
  rename_i g5
  split at h
  · omega
  rename_i g6
  obtain ⟨op, a, b, c, im⟩ := x
  have e1 := Bool.eq_false_iff.2 g1
  have e3 := Bool.eq_false_iff.2 g3
  have e4 := Bool.eq_false_iff.2 g4
  have e5 := Bool.eq_false_iff.2 g5
  have e6 := Bool.eq_false_iff.2 g6
  simp only [Bool.or_eq_false_iff, Bool.and_eq_false_iff, Bool.not_eq_false', beq_eq_false_iff_ne] at e1 e3
  obtain ⟨⟨o1, o2⟩, o3⟩ := e1
  have o4 := inB_t.1 o1
  obtain ⟨e31, e32⟩ := e3
  unfold outB at e31
  rw [List.any_eq_false] at e31
  have hr : ∀ r ∈ regL ⟨op, a, b, c, im⟩, rgOk r := fun r hr => by
    have := e31 r hr
    simp only [Bool.not_eq_true', Bool.not_eq_false] at this
    have := inB_t.1 this
    exact ⟨this.1, this.2⟩
  have hsz : (op = 15 ∨ op = 16 ∨ op = 17) → sizeB c = true := fun hm => by
    have hb : memB op = true := by unfold memB; simpa [or_assoc] using hm
    rw [hb] at e4
    simpa using e4
  have hc : sizeB c = true → 1 ≤ c ∧ c ≤ 16 := fun h => by have := (sizeB_iff c).1 h; omega
  have hins : ∀ o s z, insB o s z = true → 0 ≤ o ∧ o + s ≤ z := fun o s z h => by
    unfold insB bndB at h
    simp only [Bool.and_eq_true, decide_eq_true_eq] at h
    exact ⟨(inB_t.1 h.1.1.1).1, h.2⟩
  unfold wildB at e5
  rw [Bool.or_eq_false_iff] at e5
  unfold tgtB at e6
  rw [Bool.or_eq_false_iff] at e6
  refine ⟨⟨o4.1, o4.2, o2, o3⟩, fun h => ?_, fun h => ?_, fun h => ?_, fun h => ⟨hsz h, hc (hsz h)⟩, fun h => ?_, fun h => ?_, fun h => ?_, fun h => ?_, fun h => ?_⟩
  · refine hr a ?_
    unfold regL
    dsimp only at h ⊢
    repeat' split
    all_goals first
      | (simp; done)
      | (exfalso; omega)
  · refine hr b ?_
    unfold regL
    dsimp only at h ⊢
    repeat' split
    all_goals first
      | (simp; done)
      | (exfalso; omega)
  · refine hr c ?_
    unfold regL
    dsimp only at h ⊢
    rw [if_pos h]
    simp
  · have hb : rdB op = true := by unfold rdB; simpa using h
    have h5 := e5.1
    rw [hb] at h5
    exact hins b c _ (by simpa using h5)
  · have hb : wrB op = true := by unfold wrB; simpa using h
    have h5 := e5.2
    rw [hb] at h5
    exact hins a c _ (by simpa using h5)
  · have h6 := e6.1
    dsimp only at h
    subst h
    have := inB_t.1 (show inB a nc = true by simpa using h6)
    exact this
  · have h6 := e6.2
    dsimp only at h
    subst h
    have := inB_t.1 (show inB b nc = true by simpa using h6)
    exact this
  · dsimp only at h
    subst h
    have := inB_t.1 (show inB a nf = true by simpa using e32)
    exact this
/-- what holds ahead of each step -/
structure GI (al : Int) (p : List Fr) (m : Mx) : Prop where
  wf : Wf p m
  rgs : ∀ v ∈ m.regs, W64x v
  inp : ∀ v ∈ m.inp, v < 18446744073709551616
  mem : ∀ v ∈ m.mem, v < 256
  len : m.use.length = m.mem.length
  tp : m.tp ≤ m.mem.length
  sum : m.sp + (m.acts.map (fun a => szF p a.f)).sum = m.tp
  chain : ∀ i, i + 1 < m.acts.length → 16 * prF p (m.acts.getD (i + 1) Ac.z).f ≤ szF p (m.acts.getD i Ac.z).f
  ent : prF p (m.acts.getD 0 Ac.z).f = 0
  deep : m.deep ≤ m.tp
theorem sum_ge1 : ∀ (l : List Nat) (t : Nat), t < l.length → l.getD t 0 ≤ l.sum
  | [], t, h => by simp at h
  | x :: r, 0, h => by simp
  | x :: r, t + 1, h => by
    have := sum_ge1 r t (by simpa using h)
    rw [List.getD_cons_succ, List.sum_cons]; omega
theorem sum_ge2 : ∀ (l : List Nat) (t : Nat), t + 1 < l.length → l.getD t 0 + l.getD (t + 1) 0 ≤ l.sum
  | [], t, h => by simp at h
  | x :: r, 0, h => by
    have := sum_ge1 r 0 (by simpa using h)
    rw [List.getD_cons_zero, List.getD_cons_succ, List.sum_cons]; omega
  | x :: r, t + 1, h => by
    have := sum_ge2 r t (by simpa using h)
    rw [List.getD_cons_succ, List.getD_cons_succ, List.sum_cons]; omega
theorem getD_map (g : Ac → Nat) (l : List Ac) (t : Nat) (h : t < l.length) : (l.map g).getD t 0 = g (l.getD t Ac.z) := by
  rw [List.getD_eq_getElem?_getD, List.getD_eq_getElem?_getD, List.getElem?_map, List.getElem?_eq_getElem h]
  rfl
section
variable {al : Int} {p : List Fr} {m : Mx}
/-- the frame and the parameters lie on the stack -/
theorem GI.room (h : GI al p m) : m.sp + szF p m.top.f + 16 * prF p m.top.f ≤ m.tp := by
  have h1 := h.wf.some_
  have hs := h.sum
  unfold Mx.top
  rcases Nat.lt_or_ge 1 m.acts.length with h2 | h2
  · have hc := h.chain (m.acts.length - 2) (by omega)
    have hg := sum_ge2 (m.acts.map (fun a => szF p a.f)) (m.acts.length - 2) (by simp; omega)
    rw [show m.acts.length - 2 + 1 = m.acts.length - 1 by omega] at hc hg
    rw [getD_map _ _ _ (by omega), getD_map _ _ _ (by omega)] at hg
    omega
  · have e1 : m.acts.length - 1 = 0 := by omega
    have he := h.ent
    have hg := sum_ge1 (m.acts.map (fun a => szF p a.f)) 0 (by simp; omega)
    rw [getD_map _ _ _ (by omega)] at hg
    rw [e1]
    omega
theorem top_mem (h : 1 ≤ m.acts.length) : m.top ∈ m.acts := getD_mem' (by omega)
end
end Go.Proofs.Ytgakphichcihjaa.pm
namespace Go.Proofs.Ytgakphichcihjaa.pm
open Go.RowKit
set_option linter.unusedVariables false
set_option maxRecDepth 10000
theorem splice_mem {α : Type} {L cs : List α} {o : Nat} {P : α → Prop} (h1 : ∀ x ∈ L, P x) (h2 : ∀ x ∈ cs, P x) : ∀ x ∈ splice L o cs, P x := by
  intro x hx
  unfold splice at hx
  rcases List.mem_append.1 hx with h | h
  · exact h1 x (List.mem_of_mem_take h)
  · rcases List.mem_append.1 h with h | h
    · exact h2 x h
    · exact h1 x (List.mem_of_mem_drop h)
theorem getD_app_l {α : Type} (l r : List α) (z : α) {i : Nat} (h : i < l.length) : (l ++ r).getD i z = l.getD i z := by
  rw [List.getD_eq_getElem?_getD, List.getD_eq_getElem?_getD, List.getElem?_append_left h]
theorem getD_app_r {α : Type} (l : List α) (x z : α) {i : Nat} (h : i = l.length) : (l ++ [x]).getD i z = x := by
  subst h
  rw [List.getD_eq_getElem?_getD, List.getElem?_append_right (Nat.le_refl _), Nat.sub_self]
  rfl
section
variable {al : Int} {p : List Fr} {m : Mx}
theorem ins_mem (h : Wf p m) : m.ins p ∈ (p.getD m.top.f Fr.z).code := getD_mem' (h.live _ (top_mem h.some_)).2
theorem not_last (hp : RT al p) (h : Wf p m) (ht : termB (m.ins p).op = false) : m.top.pc + 1 < (p.getD m.top.f Fr.z).code.length := by
  have hl := h.live _ (top_mem h.some_)
  rcases Nat.lt_or_ge (m.top.pc + 1) (p.getD m.top.f Fr.z).code.length with h1 | h1
  · exact h1
  · exfalso
    have e : m.top.pc = (p.getD m.top.f Fr.z).code.length - 1 := by omega
    have := (hp.fr _ hl.1).last
    rw [← e] at this
    have h2 : termB (m.ins p).op = true := this
    rw [h2] at ht
    cases ht
theorem next_top (h : 1 ≤ m.acts.length) : m.next.top = { m.top with pc := m.top.pc + 1 } := by
  unfold Mx.next Mx.top Mx.setTop
  simp only [List.length_set]
  rw [List.getD_eq_getElem?_getD, List.getElem?_set_self (by omega)]
  rfl
theorem set_top_f {a : Ac} (ha : a.f = m.top.f) : ∀ i, ((m.setTop a).acts.getD i Ac.z).f = (m.acts.getD i Ac.z).f := fun i => by
  unfold Mx.setTop
  dsimp only
  by_cases hi : i = m.acts.length - 1
  · subst hi
    by_cases hz : m.acts.length - 1 < m.acts.length
    · rw [List.getD_eq_getElem?_getD, List.getElem?_set_self hz]
      exact ha
    · have : m.acts = [] := by rcases h0 : m.acts with _ | ⟨x, r⟩; rfl; rw [h0] at hz; simp at hz
      rw [this]; rfl
  · rw [List.getD_eq_getElem?_getD, List.getElem?_set_ne (fun e => hi e.symm), ← List.getD_eq_getElem?_getD]
theorem map_set_f (g : Nat → Nat) {a : Ac} (ha : a.f = m.top.f) : (m.setTop a).acts.map (fun a => g a.f) = m.acts.map (fun a => g a.f) := by
  have hl : (m.setTop a).acts.length = m.acts.length := by simp [Mx.setTop]
  apply List.ext_getElem (by simp [hl])
  intro i h1 h2
  have := set_top_f (m := m) ha i
  rw [List.getElem_map, List.getElem_map]
  rw [List.getD_eq_getElem?_getD, List.getD_eq_getElem?_getD, List.getElem?_eq_getElem (by simpa using h1), List.getElem?_eq_getElem (by simpa using h2)] at this
  exact congrArg g this
theorem GI.setTop (h : GI al p m) {a : Ac} (ha : a.f = m.top.f) (hl : a.pc < (p.getD a.f Fr.z).code.length) : GI al p (m.setTop a) := by
  have hlen : (m.setTop a).acts.length = m.acts.length := by simp [Mx.setTop]
  refine ⟨⟨h.wf.regs, fun x hx => ?_, by rw [hlen]; exact h.wf.some_⟩, h.rgs, h.inp, h.mem, h.len, h.tp, ?_, fun i hi => ?_, ?_, h.deep⟩
  · rcases List.mem_or_eq_of_mem_set (show x ∈ m.acts.set _ _ from hx) with h1 | h1
    · exact h.wf.live x h1
    · subst h1
      exact ⟨by rw [ha]; exact (h.wf.live _ (top_mem h.wf.some_)).1, hl⟩
  · rw [map_set_f (szF p) ha]; exact h.sum
  · rw [set_top_f ha, set_top_f ha]; rw [hlen] at hi; exact h.chain i hi
  · rw [set_top_f ha]; exact h.ent
theorem GI.step1 (h : GI al p m) (n : Nat) : GI al p { m with steps := n } := ⟨⟨h.wf.regs, h.wf.live, h.wf.some_⟩, h.rgs, h.inp, h.mem, h.len, h.tp, h.sum, h.chain, h.ent, h.deep⟩
theorem GI.next (h : GI al p m) (hl : m.top.pc + 1 < (p.getD m.top.f Fr.z).code.length) : GI al p m.next :=
  (h.setTop (a := { m.top with pc := m.top.pc + 1 }) rfl hl).step1 _
theorem GI.rset (h : GI al p m) (r : Nat) {v : Nat × Nat} (hv : W64x v) : GI al p { m with regs := m.regs.set r v } :=
  ⟨⟨by show (m.regs.set r v).length = 8; rw [List.length_set]; exact h.wf.regs, h.wf.live, h.wf.some_⟩, fun x hx => by
    rcases List.mem_or_eq_of_mem_set (show x ∈ m.regs.set r v from hx) with h1 | h1
    · exact h.rgs x h1
    · rw [h1]; exact hv, h.inp, h.mem, h.len, h.tp, h.sum, h.chain, h.ent, h.deep⟩
theorem GI.rg (h : GI al p m) (r : Nat) : W64x (rg m r) := by
  unfold pm.rg
  rw [List.getD_eq_getElem?_getD]
  rcases Nat.lt_or_ge r m.regs.length with h1 | h1
  · rw [List.getElem?_eq_getElem h1]; exact h.rgs _ (List.getElem_mem h1)
  · rw [List.getElem?_eq_none h1]; exact ⟨by decide, by decide⟩
theorem GI.wr (h : GI al p m) (o : Nat) {b : List Nat} (hb : ∀ v ∈ b, v < 256) (ho : m.sp + o + b.length ≤ m.mem.length) : GI al p (m.wr o b) :=
  ⟨⟨h.wf.regs, h.wf.live, h.wf.some_⟩, h.rgs, h.inp, splice_mem h.mem hb, by
    show (splice m.use _ _).length = (splice m.mem _ _).length
    rw [length_splice _ _ _ (by rw [List.length_replicate, h.len]; exact ho), length_splice _ _ _ ho]
    exact h.len, by show m.tp ≤ (splice m.mem _ _).length; rw [length_splice _ _ _ ho]; exact h.tp, h.sum, h.chain, h.ent, h.deep⟩
def GS (al : Int) (p : List Fr) (m : Mx) : Prop := m.ended = true ∨ GI al p m
theorem szF_def {f : Nat} (hp : RT al p) (hf : f < p.length) : ((szF p f : Nat) : Int) = (p.getD f Fr.z).size := by
  have := (hp.fr f hf).size.1
  unfold szF; omega
theorem prF_def {f : Nat} (hp : RT al p) (hf : f < p.length) : ((prF p f : Nat) : Int) = (p.getD f Fr.z).params := by
  have := (hp.fr f hf).prm.1
  unfold prF; omega
theorem GI.call (hp : RT al p) (h : GI al p m) {f : Nat} (hf : f < p.length) (hr : 16 * prF p f ≤ szF p m.top.f) : GS al p (m.call f (szF p f)) := by
  unfold Mx.call
  split
  · exact .inl rfl
  · rename_i hz
    have h1 := h.wf.some_
    have hsl := h.sum
    have htp := h.tp
    have hlen := h.len
    have hsp : m.sp - szF p f + szF p f = m.sp := by omega
    have hul : (splice m.use (m.sp - szF p f) (List.replicate (szF p f) false)).length = m.use.length := length_splice _ _ _ (by rw [List.length_replicate]; omega)
    refine .inr ⟨⟨h.wf.regs, fun a ha => ?_, by show 1 ≤ (m.acts ++ [_]).length; simp⟩, h.rgs, h.inp, h.mem, by show (splice m.use _ _).length = _; rw [hul]; exact h.len, h.tp, ?_, fun i hi => ?_, ?_, ?_⟩
    · rcases List.mem_append.1 (show a ∈ m.acts ++ [_] from ha) with h2 | h2
      · exact h.wf.live a h2
      · rw [List.mem_singleton.1 h2]
        exact ⟨hf, by have := (hp.fr f hf).nc; show 0 < (p.getD f Fr.z).code.length; omega⟩
    · show m.sp - szF p f + ((m.acts ++ [_]).map _).sum = m.tp
      rw [List.map_append, List.sum_append]
      show m.sp - szF p f + (_ + (szF p f + 0)) = m.tp
      omega
    · have hi' : i + 1 < m.acts.length + 1 := by
        have := hi
        simpa using this
      show 16 * prF p ((m.acts ++ [_]).getD (i + 1) Ac.z).f ≤ szF p ((m.acts ++ [_]).getD i Ac.z).f
      rw [getD_app_l _ _ _ (by omega : i < m.acts.length)]
      rcases Nat.lt_or_ge (i + 1) m.acts.length with h2 | h2
      · rw [getD_app_l _ _ _ h2]
        exact h.chain i h2
      · have e : i = m.acts.length - 1 := by omega
        rw [getD_app_r _ _ _ (by omega), e]
        exact hr
    · show prF p ((m.acts ++ [_]).getD 0 Ac.z).f = 0
      rw [getD_app_l _ _ _ (by omega)]
      exact h.ent
    · show (if m.deep < m.tp - (m.sp - szF p f) then m.tp - (m.sp - szF p f) else m.deep) ≤ m.tp
      have := h.deep
      split <;> omega
theorem sum_take (l : List Ac) (t : Nat) (g : Ac → Nat) (h : l.length = t + 1) : (l.map g).sum = ((l.take t).map g).sum + g (l.getD t Ac.z) := by
  have e : l = l.take t ++ [l.getD t Ac.z] := by
    apply List.ext_getElem?
    intro i
    rcases Nat.lt_or_ge i t with h1 | h1
    · rw [List.getElem?_append_left (by rw [List.length_take]; omega), List.getElem?_take, if_pos h1]
    · rw [List.getElem?_append_right (by rw [List.length_take]; omega), List.length_take, show i - min t l.length = i - t by omega]
      rcases Nat.lt_or_ge t i with h2 | h2
      · rw [List.getElem?_eq_none (by omega), List.getElem?_eq_none (by simp; omega)]
      · obtain rfl : i = t := by omega
        rw [List.getD_eq_getElem?_getD, List.getElem?_eq_getElem (by omega)]
        simp
  conv => lhs; rw [e]
  rw [List.map_append, List.sum_append]
  simp
theorem GI.leave (h : GI al p m) : GS al p (m.leave (szF p m.top.f)) := by
  unfold Mx.leave
  split
  · exact .inl rfl
  · rename_i hl
    have h1 := h.wf.some_
    have hs := h.sum
    rw [sum_take m.acts (m.acts.length - 1) _ (by omega)] at hs
    have hgt : ∀ i, i < m.acts.length - 1 → (m.acts.take (m.acts.length - 1)).getD i Ac.z = m.acts.getD i Ac.z := fun i hi => by
      rw [List.getD_eq_getElem?_getD, List.getElem?_take, if_pos hi, ← List.getD_eq_getElem?_getD]
    refine .inr ⟨⟨h.wf.regs, fun a ha => h.wf.live a (List.mem_of_mem_take ha), by show 1 ≤ (m.acts.take _).length; rw [List.length_take]; omega⟩, h.rgs, h.inp, h.mem, h.len, h.tp, ?_, fun i hi => ?_, ?_, h.deep⟩
    · show m.sp + szF p m.top.f + ((m.acts.take (m.acts.length - 1)).map _).sum = m.tp
      unfold Mx.top
      omega
    · have hi' : i + 1 < m.acts.length - 1 := by
        have hx : i + 1 < (m.acts.take (m.acts.length - 1)).length := hi
        rw [List.length_take] at hx; omega
      show 16 * prF p ((m.acts.take _).getD (i + 1) Ac.z).f ≤ szF p ((m.acts.take _).getD i Ac.z).f
      rw [hgt _ hi', hgt _ (by omega)]
      exact h.chain i (by omega)
    · show prF p ((m.acts.take _).getD 0 Ac.z).f = 0
      rw [hgt _ (by omega)]
      exact h.ent
theorem loV_w {l : List Nat} (h : ∀ v ∈ l, v < 256) : W64x (loV l, hiV l) := ⟨loV_lt l h, hiV_lt l h⟩
theorem GI.rdm (h : GI al p m) {o n : Nat} {l : List Nat} (hl : m.rd o n = some l) (hr : m.sp + o + n ≤ m.mem.length) : (∀ v ∈ l, v < 256) ∧ l.length = n := by
  unfold Mx.rd at hl
  split at hl
  · injection hl with hl
    subst hl
    exact ⟨fun v hv => h.mem v (List.mem_of_mem_drop (List.mem_of_mem_take hv)), by rw [List.length_take, List.length_drop]; omega⟩
  · cases hl
theorem plain_ended (m : Mx) (x : Ins) : True := trivial
theorem GI.plain (h : GI al p m) (x : Ins) (hi : 0 ≤ x.imm ∧ x.imm < 18446744073709551616) : GS al p (m.plain x) := by
  unfold Mx.plain
  split
  · exact .inr (h.rset _ ⟨by show x.imm.toNat < _; omega, by show 0 < _; omega⟩)
  split
  · exact .inr (h.rset _ (h.rg _))
  split
  · exact .inr (h.rset _ ⟨(h.rg _).1, (h.rg _).1⟩)
  split
  · exact .inr (h.rset _ ⟨(h.rg _).2, by show 0 < _; omega⟩)
  split
  · have h1 := h.rset x.a.toNat (v := (m.inp.headD 0, 0)) ⟨by
      show m.inp.headD 0 < _
      rcases hx : m.inp with _ | ⟨v, r⟩
      · simp
      · exact h.inp v (by rw [hx]; simp), by show 0 < _; omega⟩
    exact .inr ⟨⟨h1.wf.regs, h1.wf.live, h1.wf.some_⟩, h1.rgs, fun v hv => h.inp v (List.mem_of_mem_tail hv), h1.mem, h1.len, h1.tp, h1.sum, h1.chain, h1.ent, h1.deep⟩
  split
  · exact .inr ⟨⟨h.wf.regs, h.wf.live, h.wf.some_⟩, h.rgs, h.inp, h.mem, h.len, h.tp, h.sum, h.chain, h.ent, h.deep⟩
  split
  · exact .inr (h.rset _ (apV_w _ _ _ _ _))
  · exact .inl rfl
theorem GI.doX (hp : RT al p) (h : GI al p m) : GS al p (stepX p m) := by
  have hl := h.wf.live _ (top_mem h.wf.some_)
  have hg := hp.fr _ hl.1
  have gx := inE_gx (hg.ins _ (ins_mem h.wf))
  have hroom := hp.room _ hl.1 _ (ins_mem h.wf)
  have him := hp.imm _ hl.1 _ (ins_mem h.wf)
  have hnl := not_last hp h.wf
  have hs := h.wf.some_
  have hrm := h.room
  have htp := h.tp
  have hsz := szF_def hp hl.1
  have hpr := prF_def hp hl.1
  have htop := next_top (m := m) hs
  unfold stepX
  generalize hx : m.ins p = x at *
  have hterm : x.op ≠ 20 → x.op ≠ 23 → x.op ≠ 24 → GI al p m.next := fun a b c => h.next (hnl (by
    unfold termB
    rw [show (x.op == 20) = false by rw [beq_eq_false_iff_ne]; exact a, show (x.op == 23) = false by rw [beq_eq_false_iff_ne]; exact b, show (x.op == 24) = false by rw [beq_eq_false_iff_ne]; exact c]
    rfl))
  have e1 : m.next.mem = m.mem := rfl
  have e2 : m.next.sp = m.sp := rfl
  unfold pm.doX
  split
  · rename_i ho
    have h1 := hterm (by omega) (by omega) (by omega)
    have := gx.rd (.inl ho)
    have := gx.sc (.inl ho)
    unfold Mx.load
    split
    · rename_i l hl'
      exact .inr (h1.rset _ (loV_w (h1.rdm hl' (by rw [e1, e2]; omega)).1))
    · exact .inl rfl
  split
  · rename_i ho
    have h1 := hterm (by omega) (by omega) (by omega)
    have := gx.wr (.inl ho)
    have := gx.sc (.inr (.inl ho))
    exact .inr (h1.wr _ (bytesV_lt _ _ _) (by rw [e1, e2, bytesV_len]; omega))
  split
  · rename_i ho
    have h1 := hterm (by omega) (by omega) (by omega)
    have := gx.rd (.inr ho)
    have := gx.wr (.inr ho)
    have := gx.sc (.inr (.inr ho))
    unfold Mx.moveIn
    split
    · rename_i l hl'
      have hr := h1.rdm hl' (by rw [e1, e2]; omega)
      exact .inr (h1.wr _ hr.1 (by rw [e1, e2, hr.2]; omega))
    · exact .inl rfl
  split
  · rename_i ho
    have hj := gx.ja ho
    rw [htop]
    refine .inr ?_
    have h2 := (h.setTop (a := { m.top with pc := x.a.toNat }) rfl (by show x.a.toNat < (p.getD m.top.f Fr.z).code.length; omega)).step1 (m.steps + 1)
    have e : m.next.setTop { f := m.top.f, pc := x.a.toNat } = { m.setTop { m.top with pc := x.a.toNat } with steps := m.steps + 1 } := by
      unfold Mx.next Mx.setTop
      simp [List.set_set]
    rw [e]
    exact h2
  split
  · rename_i ho
    have hj := gx.jb ho
    split
    · exact .inr (hterm (by omega) (by omega) (by omega))
    · rw [htop]
      refine .inr ?_
      have h2 := (h.setTop (a := { m.top with pc := x.b.toNat }) rfl (by show x.b.toNat < (p.getD m.top.f Fr.z).code.length; omega)).step1 (m.steps + 1)
      have e : m.next.setTop { f := m.top.f, pc := x.b.toNat } = { m.setTop { m.top with pc := x.b.toNat } with steps := m.steps + 1 } := by
        unfold Mx.next Mx.setTop
        simp [List.set_set]
      rw [e]
      exact h2
  split
  · rename_i ho
    have hj := gx.ca ho
    have h1 := hterm (by omega) (by omega) (by omega)
    refine h1.call hp (by omega) ?_
    rw [htop]
    show 16 * prF p x.a.toNat ≤ szF p m.top.f
    have hq := prF_def hp (f := x.a.toNat) (by omega)
    unfold roomB at hroom
    rw [ho, ← hq, ← hsz] at hroom
    generalize prF p x.a.toNat = q at *
    generalize szF p m.top.f = z at *
    simp at hroom
    omega
  split
  · rename_i ho
    -- the last activation is struck: its place does not matter
    have hk : ∀ (n : Mx), n.acts.length = m.acts.length → n.acts.take (m.acts.length - 1) = m.acts.take (m.acts.length - 1) → True := fun _ _ _ => trivial
    have hl2 : m.next.acts.length = m.acts.length := by simp [Mx.next, Mx.setTop]
    have ht2 : m.next.acts.take (m.acts.length - 1) = m.acts.take (m.acts.length - 1) := by
      show (m.acts.set (m.acts.length - 1) _).take _ = _
      rw [List.take_set_of_le (Nat.le_refl _)]
    have e : m.next.leave (szF p m.next.top.f) = (({ m with steps := m.steps + 1 } : Mx)).leave (szF p m.top.f) := by
      rw [htop]
      unfold Mx.leave
      rw [hl2, ht2]
      rfl
    rw [e]
    exact (h.step1 (m.steps + 1)).leave
  split
  · exact .inl rfl
  · rename_i h15 h16 h17 h20 h21 h22 h23 h24
    exact (hterm h20 h23 h24).plain x him
end
end Go.Proofs.Ytgakphichcihjaa.pm
namespace Go.Proofs.Ytgakphichcihjaa.pm
open Go.RowKit
set_option linter.unusedVariables false
set_option maxRecDepth 10000
/-- the machine on a stack with D more bytes -/
def Mx.ext (m : Mx) (D : Nat) (M : List Nat) (U : List Bool) : Mx := { m with mem := M, use := U, sp := m.sp + D, tp := m.tp + D }
/-- the bytes from D on are the same -/
def Up {α : Type} (D n : Nat) (l L : List α) : Prop := n ≤ l.length ∧ n + D ≤ L.length ∧ ∀ i, i < n → L[i + D]? = l[i]?
theorem Up.sub {α : Type} {D n : Nat} {l L : List α} (h : Up D n l L) (k j : Nat) (hk : k + j ≤ n) : (L.drop (k + D)).take j = (l.drop k).take j := by
  apply List.ext_getElem?
  intro i
  rw [List.getElem?_take, List.getElem?_take, List.getElem?_drop, List.getElem?_drop]
  split
  · rw [show k + D + i = k + i + D by omega]
    exact h.2.2 _ (by omega)
  · rfl
theorem Up.spl {α : Type} {D n : Nat} {l L : List α} (h : Up D n l L) (k : Nat) (c : List α) (hk : k + c.length ≤ n) : Up D n (splice l k c) (splice L (k + D) c) := by
  obtain ⟨h1, h2, h3⟩ := h
  refine ⟨by rw [length_splice _ _ _ (by omega)]; exact h1, by rw [length_splice _ _ _ (by omega)]; exact h2, fun i hi => ?_⟩
  rw [spl_get _ _ _ _ (by omega), spl_get _ _ _ _ (by omega)]
  by_cases a : i < k
  · rw [if_pos (by omega), if_pos a]; exact h3 i hi
  · rw [if_neg (by omega), if_neg a]
    by_cases b : i < k + c.length
    · rw [if_pos (by omega), if_pos b, show i + D - (k + D) = i - k by omega]
    · rw [if_neg (by omega), if_neg b]; exact h3 i hi
def Sim (D : Nat) (s b : Mx) : Prop := ∃ M U, b = s.ext D M U ∧ Up D s.tp s.mem M ∧ Up D s.tp s.use U
section
variable {al : Int} {p : List Fr} {s b : Mx} {D : Nat}
theorem ext_rd {M : List Nat} {U : List Bool} (hM : Up D s.tp s.mem M) (hU : Up D s.tp s.use U) {o n : Nat} (h : s.sp + o + n ≤ s.tp) : (s.ext D M U).rd o n = s.rd o n := by
  have e1 := hM.sub (s.sp + o) n h
  have e2 := hU.sub (s.sp + o) n h
  show (if ((U.drop (s.sp + D + o)).take n).all id = true then some ((M.drop (s.sp + D + o)).take n) else none) = _
  rw [show s.sp + D + o = s.sp + o + D by omega, e1, e2]
  rfl
theorem sim_wr {M : List Nat} {U : List Bool} (hM : Up D s.tp s.mem M) (hU : Up D s.tp s.use U) {o : Nat} {l : List Nat} (h : s.sp + o + l.length ≤ s.tp) : Sim D (s.wr o l) ((s.ext D M U).wr o l) := by
  refine ⟨splice M (s.sp + o + D) l, splice U (s.sp + o + D) (List.replicate l.length true), ?_, hM.spl _ _ h, hU.spl _ _ (by rw [List.length_replicate]; exact h)⟩
  show ({ s with mem := splice M (s.sp + D + o) l, use := splice U (s.sp + D + o) (List.replicate l.length true), sp := s.sp + D, tp := s.tp + D } : Mx) = _
  rw [show s.sp + D + o = s.sp + o + D by omega]
  rfl
theorem sim_of {M : List Nat} {U : List Bool} (hM : Up D s.tp s.mem M) (hU : Up D s.tp s.use U) (t : Mx) (h1 : t.mem = s.mem) (h2 : t.use = s.use) (h3 : t.tp = s.tp) : Sim D t (t.ext D M U) := ⟨M, U, rfl, by rw [h1, h3]; exact hM, by rw [h2, h3]; exact hU⟩
theorem sim_call {M : List Nat} {U : List Bool} (hM : Up D s.tp s.mem M) (hU : Up D s.tp s.use U) {f z : Nat} (hz : ¬ s.sp < z) (hs : s.sp ≤ s.tp) : Sim D (s.call f z) ((s.ext D M U).call f z) := by
  have e1 : (s.ext D M U).sp = s.sp + D := rfl
  have e2 : (s.ext D M U).tp = s.tp + D := rfl
  have e3 : (s.ext D M U).deep = s.deep := rfl
  have hz2 : ¬ (s.ext D M U).sp < z := by rw [e1]; omega
  unfold Mx.call
  rw [if_neg hz, if_neg hz2, e1, e2, e3, show s.sp + D - z = s.sp - z + D by omega, show s.tp + D - (s.sp - z + D) = s.tp - (s.sp - z) by omega]
  exact ⟨M, splice U (s.sp - z + D) (List.replicate z false), rfl, hM, hU.spl _ _ (by rw [List.length_replicate]; show s.sp - z + z ≤ s.tp; omega)⟩
theorem sim_plain {M : List Nat} {U : List Bool} (hM : Up D s.tp s.mem M) (hU : Up D s.tp s.use U) (x : Ins) : Sim D (s.plain x) ((s.ext D M U).plain x) := by
  have hr : ∀ r, rg (s.ext D M U) r = rg s r := fun _ => rfl
  have e : (s.ext D M U).plain x = (s.plain x).ext D M U := by
    unfold Mx.plain
    simp only [hr]
    repeat' split
    all_goals rfl
  rw [e]
  refine sim_of hM hU _ ?_ ?_ ?_
  all_goals
    unfold Mx.plain
    repeat' split
    all_goals rfl
theorem sim_leave {M : List Nat} {U : List Bool} (hM : Up D s.tp s.mem M) (hU : Up D s.tp s.use U) (z : Nat) : Sim D (s.leave z) ((s.ext D M U).leave z) := by
  unfold Mx.leave
  have e1 : (s.ext D M U).acts = s.acts := rfl
  have e2 : rg (s.ext D M U) 0 = rg s 0 := rfl
  rw [e1, e2]
  have e : (s.ext D M U).sp + z = s.sp + z + D := by show s.sp + D + z = _; omega
  rw [e]
  split
  · exact ⟨M, U, rfl, hM, hU⟩
  · exact ⟨M, U, rfl, hM, hU⟩
/-- a run that has run out of its stack -/
def Ov (m : Mx) : Prop := m.ended = true ∧ m.kind = 5
theorem sim_step (hp : RT al p) (h : GI al p s) (hs : Sim D s b) (ho : ¬ Ov (stepX p s)) : Sim D (stepX p s) (stepX p b) := by
  obtain ⟨M, U, rfl, hM, hU⟩ := hs
  have hl := h.wf.live _ (top_mem h.wf.some_)
  have hg := hp.fr _ hl.1
  have gx := inE_gx (hg.ins _ (ins_mem h.wf))
  have hrm := h.room
  have hsz := szF_def hp hl.1
  have hpr := prF_def hp hl.1
  have hi : (s.ext D M U).ins p = s.ins p := rfl
  have hn : (s.ext D M U).next = s.next.ext D M U := rfl
  have hM' : Up D s.next.tp s.next.mem M := hM
  have hU' : Up D s.next.tp s.next.use U := hU
  have e1 : s.next.sp = s.sp := rfl
  have e2 : s.next.tp = s.tp := rfl
  unfold stepX at ho ⊢
  rw [hi, hn]
  generalize s.ins p = x at *
  unfold doX at ho ⊢
  split
  · rename_i hop
    rw [if_pos hop] at ho
    have := gx.rd (.inl hop)
    have := gx.sc (.inl hop)
    rw [ext_rd hM' hU' (by rw [e1, e2]; omega)]
    unfold Mx.load
    split
    · exact sim_of hM hU _ rfl rfl rfl
    · exact sim_of hM hU _ rfl rfl rfl
  rename_i h15
  rw [if_neg h15] at ho
  split
  · rename_i hop
    have := gx.wr (.inl hop)
    have := gx.sc (.inr (.inl hop))
    exact sim_wr hM' hU' (by rw [e1, e2, bytesV_len]; omega)
  rename_i h16
  rw [if_neg h16] at ho
  split
  · rename_i hop
    have := gx.rd (.inr hop)
    have := gx.wr (.inr hop)
    have := gx.sc (.inr (.inr hop))
    rw [ext_rd hM' hU' (by rw [e1, e2]; omega)]
    unfold Mx.moveIn
    split
    · rename_i l hl'
      have hlen : l.length ≤ x.c.toNat := by
        unfold Mx.rd at hl'
        split at hl'
        · injection hl' with hl'
          rw [← hl', List.length_take]; omega
        · cases hl'
      exact sim_wr hM' hU' (by rw [e1, e2]; omega)
    · exact sim_of hM hU _ rfl rfl rfl
  rename_i h17
  rw [if_neg h17] at ho
  split
  · exact sim_of hM hU _ rfl rfl rfl
  rename_i h20
  rw [if_neg h20] at ho
  split
  · rename_i hop
    have hr : rg (s.next.ext D M U) x.a.toNat = rg s.next x.a.toNat := rfl
    rw [hr]
    split
    · exact sim_of hM hU _ rfl rfl rfl
    · exact sim_of hM hU _ rfl rfl rfl
  rename_i h21
  rw [if_neg h21] at ho
  split
  · rename_i hop
    rw [if_pos hop] at ho
    refine sim_call hM' hU' (fun hz => ho ?_) (by rw [e1, e2]; omega)
    unfold Mx.call
    rw [if_pos hz]
    exact ⟨rfl, rfl⟩
  rename_i h22
  rw [if_neg h22] at ho
  split
  · exact sim_leave hM' hU' _
  split
  · exact sim_of hM hU _ rfl rfl rfl
  · exact sim_plain hM' hU' x
theorem Ov.it {m : Mx} (h : Ov m) (n : Nat) : Ov (itX p n m) := by rw [itX_end h.1]; exact h
theorem sim_it (hp : RT al p) (n : Nat) {s b : Mx} (h : GS al p s) (hs : Sim D s b) (ho : ¬ Ov (itX p n s)) : Sim D (itX p n s) (itX p n b) := by
  induction n generalizing s b with
  | zero => exact hs
  | succ n ih =>
    have he : b.ended = s.ended := by obtain ⟨M, U, rfl, -⟩ := hs; rfl
    by_cases h1 : s.ended = true
    · rw [itX_end h1, itX_end (he.trans h1)]; exact hs
    · rw [itX_succ, if_neg h1] at ho ⊢
      rw [itX_succ, if_neg (by rw [he]; exact h1)]
      rcases h with h | h
      · exact absurd h h1
      · exact ih (h.doX hp) (sim_step hp h hs (fun hov => ho (hov.it n))) ho
theorem deep_step (p : List Fr) (m : Mx) : m.deep ≤ (stepX p m).deep ∧ (stepX p m).tp = m.tp ∧ (m.deep ≤ m.tp → (stepX p m).deep ≤ m.tp) := by
  have e1 : m.next.deep = m.deep := rfl
  have e2 : m.next.tp = m.tp := rfl
  have hpl : ∀ x, (m.next.plain x).deep = m.deep ∧ (m.next.plain x).tp = m.tp := fun x => by
    unfold Mx.plain
    repeat' split
    all_goals exact ⟨rfl, rfl⟩
  have hself : ∀ k : Mx, k.deep = m.deep → k.tp = m.tp → m.deep ≤ k.deep ∧ k.tp = m.tp ∧ (m.deep ≤ m.tp → k.deep ≤ m.tp) := fun k h1 h2 => by rw [h1]; exact ⟨Nat.le_refl _, h2, id⟩
  unfold stepX doX
  split
  · unfold Mx.load; split <;> exact hself _ rfl rfl
  split
  · exact hself _ rfl rfl
  split
  · unfold Mx.moveIn; split <;> exact hself _ rfl rfl
  split
  · exact hself _ rfl rfl
  split
  · split <;> exact hself _ rfl rfl
  split
  · unfold Mx.call
    split
    · exact hself _ rfl rfl
    · refine ⟨?_, rfl, fun h => ?_⟩
      · show m.deep ≤ (if m.next.deep < _ then _ else m.next.deep)
        rw [e1]
        split <;> omega
      · show (if m.next.deep < m.next.tp - _ then m.next.tp - _ else m.next.deep) ≤ m.tp
        rw [e1, e2]
        split <;> omega
  split
  · unfold Mx.leave; split <;> exact hself _ rfl rfl
  split
  · exact hself _ rfl rfl
  · exact hself _ (hpl _).1 (hpl _).2
theorem deep_it (n : Nat) (m : Mx) : m.deep ≤ (itX p n m).deep ∧ (itX p n m).tp = m.tp ∧ (m.deep ≤ m.tp → (itX p n m).deep ≤ m.tp) := by
  induction n generalizing m with
  | zero => exact ⟨Nat.le_refl _, rfl, id⟩
  | succ n ih =>
    by_cases h1 : m.ended = true
    · rw [itX_end h1]; exact ⟨Nat.le_refl _, rfl, id⟩
    · rw [itX_succ, if_neg h1]
      obtain ⟨a1, a2, a3⟩ := ih (stepX p m)
      obtain ⟨b1, b2, b3⟩ := deep_step p m
      rw [b2] at a2 a3
      exact ⟨by omega, a2, fun h => a3 (b3 h)⟩
/-- where the small stack runs over, the great one goes deeper than the small one is -/
theorem ov_call {M : List Nat} {U : List Bool} {f z : Nat} (h1 : Ov (s.call f z)) (h0 : ¬ Ov s) (h2 : ¬ Ov ((s.ext D M U).call f z)) (hs : s.sp ≤ s.tp) : s.tp < ((s.ext D M U).call f z).deep := by
  have e1 : (s.ext D M U).sp = s.sp + D := rfl
  have e2 : (s.ext D M U).tp = s.tp + D := rfl
  have hz : s.sp < z := by
    rcases Nat.lt_or_ge s.sp z with h | h
    · exact h
    · unfold Mx.call at h1
      rw [if_neg (by omega)] at h1
      exact absurd h1 h0
  have hz2 : ¬ (s.ext D M U).sp < z := fun h => h2 (by unfold Mx.call; rw [if_pos h]; exact ⟨rfl, rfl⟩)
  unfold Mx.call
  rw [if_neg hz2]
  show s.tp < (if (s.ext D M U).deep < _ then _ else _)
  rw [e1] at hz2
  rw [e1, e2]
  split <;> omega
theorem ov_step (hp : RT al p) (h : GI al p s) (he : s.ended = false) (hs : Sim D s b) (ho : Ov (stepX p s)) (hb : ¬ Ov (stepX p b)) : s.tp < (stepX p b).deep := by
  obtain ⟨M, U, rfl, hM, hU⟩ := hs
  have hi : (s.ext D M U).ins p = s.ins p := rfl
  have hn : (s.ext D M U).next = s.next.ext D M U := rfl
  have hrm := h.room
  have hne : ¬ Ov s.next := fun h => by have h1 : s.ended = true := h.1; rw [he] at h1; cases h1
  have nov : ∀ k : Mx, (k.ended = false ∨ k.kind ≠ 5) → ¬ Ov k := fun k hk hov => by
    rcases hk with hk | hk
    · have h1 := hov.1; rw [hk] at h1; cases h1
    · exact hk hov.2
  have hen : s.next.ended = false := he
  have nst : ∀ (k : Mx) (c : Int), c ≠ 5 → ¬ Ov (k.stop c) := fun k c hc => nov _ (.inr hc)
  have hpl : ∀ x, ¬ Ov (s.next.plain x) := fun x => by
    unfold Mx.plain
    repeat' split
    all_goals first
      | exact nov _ (.inl hen)
      | exact nst _ _ (by decide)
  unfold stepX at ho hb ⊢
  rw [hi, hn] at hb ⊢
  generalize s.ins p = x at *
  unfold doX at ho hb ⊢
  by_cases h15 : x.op = 15
  · rw [if_pos h15] at ho
    exfalso
    unfold Mx.load at ho
    split at ho
    · exact nov _ (.inl hen) ho
    · exact nst _ _ (by decide) ho
  rw [if_neg h15] at ho hb ⊢
  by_cases h16 : x.op = 16
  · rw [if_pos h16] at ho
    exact absurd ho (nov _ (.inl hen))
  rw [if_neg h16] at ho hb ⊢
  by_cases h17 : x.op = 17
  · rw [if_pos h17] at ho
    exfalso
    unfold Mx.moveIn at ho
    split at ho
    · exact nov _ (.inl hen) ho
    · exact nst _ _ (by decide) ho
  rw [if_neg h17] at ho hb ⊢
  by_cases h20 : x.op = 20
  · rw [if_pos h20] at ho
    exact absurd ho (nov _ (.inl hen))
  rw [if_neg h20] at ho hb ⊢
  by_cases h21 : x.op = 21
  · rw [if_pos h21] at ho
    exfalso
    split at ho
    · exact nov _ (.inl hen) ho
    · exact nov _ (.inl hen) ho
  rw [if_neg h21] at ho hb ⊢
  by_cases h22 : x.op = 22
  · rw [if_pos h22] at ho hb ⊢
    exact ov_call ho hne hb (by show s.sp ≤ s.tp; omega)
  rw [if_neg h22] at ho hb ⊢
  exfalso
  by_cases h23 : x.op = 23
  · rw [if_pos h23] at ho
    unfold Mx.leave at ho
    split at ho
    · exact nst _ _ (by decide) ho
    · exact nov _ (.inl hen) ho
  rw [if_neg h23] at ho
  by_cases h24 : x.op = 24
  · rw [if_pos h24] at ho
    exact nst _ _ (by decide) ho
  rw [if_neg h24] at ho
  exact hpl x ho
theorem ov_it (hp : RT al p) (n : Nat) {s b : Mx} (h : GS al p s) (h0 : ¬ Ov s) (hs : Sim D s b) (hb : ¬ Ov (itX p n b)) (hd : (itX p n b).deep ≤ s.tp) : ¬ Ov (itX p n s) := by
  induction n generalizing s b with
  | zero => exact h0
  | succ n ih =>
    have he : b.ended = s.ended := by obtain ⟨M, U, rfl, -⟩ := hs; rfl
    by_cases h1 : s.ended = true
    · rw [itX_end h1]; exact h0
    · rw [itX_succ, if_neg (by rw [he]; exact h1)] at hb hd
      rw [itX_succ, if_neg h1]
      rcases h with h | h
      · exact absurd h h1
      · have hb1 : ¬ Ov (stepX p b) := fun hov => hb (hov.it n)
        have hs1 : ¬ Ov (stepX p s) := fun hov => by
          have := ov_step hp h (by simpa using h1) hs hov hb1
          have := (deep_it (p := p) n (stepX p b)).1
          omega
        exact ih (h.doX hp) hs1 (sim_step hp h hs hs1) hb (by rw [(deep_step p s).2.1]; exact hd)
end
end Go.Proofs.Ytgakphichcihjaa.pm
