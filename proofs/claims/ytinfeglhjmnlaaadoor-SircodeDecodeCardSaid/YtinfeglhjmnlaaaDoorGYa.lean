/- Bytes of programs: what is written, what is read, that the one is the other: plain mathematics. -/
import Derived.Test.YtinfeglhjmnlaaaDoorGHp
import Derived.Test.YtinfeglhjmnlaaaDoorGSc
namespace Go.Proofs.YtinfeglhjmnlaaaDoor.pm
open Go.RowKit
set_option linter.unusedVariables false
set_option maxRecDepth 10000

/-- the bytes bs stand in l at p, and end at q -/
def At (l : List Nat) (p : Nat) (bs : List Nat) (q : Nat) : Prop := p ≤ l.length ∧ (∃ r, l.drop p = bs ++ r) ∧ q = p + bs.length
section
variable {l a b bs : List Nat} {p q m : Nat}
theorem At.le (h : At l p bs q) : p ≤ q ∧ q ≤ l.length := by
  obtain ⟨h1, ⟨r, h2⟩, rfl⟩ := h
  have := congrArg List.length h2
  simp only [List.length_drop, List.length_append] at this
  omega
theorem at_nil : At l p [] q ↔ p ≤ l.length ∧ q = p := ⟨fun h => ⟨h.1, by simpa using h.2.2⟩, fun h => ⟨h.1, ⟨_, rfl⟩, by simpa using h.2⟩⟩
theorem at_app : At l p (a ++ b) q ↔ ∃ m, At l p a m ∧ At l m b q := by
  constructor
  · rintro ⟨h1, ⟨r, h2⟩, rfl⟩
    have hl := congrArg List.length h2
    simp only [List.length_drop, List.length_append] at hl
    refine ⟨p + a.length, ⟨h1, ⟨b ++ r, by rw [h2, List.append_assoc]⟩, rfl⟩, by omega, ⟨r, ?_⟩, by simp [Nat.add_assoc]⟩
    rw [← List.drop_drop, h2, List.append_assoc, List.drop_left]
  · rintro ⟨m, ⟨h1, ⟨r1, h2⟩, rfl⟩, h3, ⟨r2, h4⟩, rfl⟩
    refine ⟨h1, ⟨r2, ?_⟩, by simp [Nat.add_assoc]⟩
    rw [← List.drop_drop, h2, List.drop_left] at h4
    rw [h2, h4, List.append_assoc]
theorem at_cons {x : Nat} : At l p (x :: b) q ↔ (p < l.length ∧ l.getD p 0 = x) ∧ At l (p + 1) b q := by
  constructor
  · intro h
    have hle := h.le
    have h' : At l p ([x] ++ b) q := h
    obtain ⟨m, ⟨h1, ⟨r, h2⟩, rfl⟩, h3⟩ := at_app.1 h'
    have hl := congrArg List.length h2
    simp only [List.length_drop, List.length_append, List.length_cons, List.length_nil] at hl
    have hp : p < l.length := by omega
    rw [drop_cons_getD l p hp] at h2
    have : l.getD p 0 = x := by injection h2
    exact ⟨⟨hp, this⟩, h3⟩
  · rintro ⟨⟨hp, rfl⟩, h3⟩
    have : At l p ([l.getD p 0] ++ b) q := at_app.2 ⟨p + 1, ⟨by omega, ⟨l.drop (p + 1), by rw [drop_cons_getD l p hp]; rfl⟩, rfl⟩, h3⟩
    exact this
theorem At.det (h : At l p bs q) : bs = (l.drop p).take (q - p) := by
  obtain ⟨h1, ⟨r, h2⟩, rfl⟩ := h
  rw [h2, show p + bs.length - p = bs.length by omega, List.take_left]
theorem at_full (h : At l p bs l.length) : l.drop p = bs := by
  rw [h.det, List.take_of_length_le (by simp)]
theorem at_full_iff : At l p bs l.length ↔ p ≤ l.length ∧ l.drop p = bs := by
  constructor
  · intro h; exact ⟨h.1, at_full h⟩
  · rintro ⟨h1, h2⟩
    refine ⟨h1, ⟨[], by simpa using h2⟩, ?_⟩
    rw [← h2, List.length_drop]; omega
theorem at_take (hm : m ≤ l.length) (hp : p ≤ m) : At (l.take m) p bs m ↔ At l p bs m := by
  have hlm : (l.take m).length = m := by simp; omega
  constructor
  · intro h
    have h' : At (l.take m) p bs (l.take m).length := by rw [hlm]; exact h
    have h2 := at_full h'
    refine ⟨by omega, ⟨l.drop m, ?_⟩, h.2.2⟩
    rw [← h2, ← List.drop_append_of_le_length (by omega), List.take_append_drop]
  · rintro ⟨h1, ⟨r, h2⟩, h3⟩
    have : (l.take m).drop p = bs := by rw [List.drop_take, h2, show m - p = bs.length by omega, List.take_left]
    exact ⟨by omega, ⟨[], by rw [this]; simp⟩, h3⟩
theorem rdU_iff {v : Nat} (hl : ∀ x ∈ l, x < 256) (hp : p ≤ l.length) : rdU l (p : Int) = (v, q, 0) ↔ v < 18446744073709551616 ∧ At l p (put v) q := by
  constructor
  · intro h
    have hv : v < 18446744073709551616 := by have := rdU_lt l (p : Int); rw [h] at this; exact this
    unfold rdU at h
    rw [if_pos ⟨by omega, by omega⟩] at h
    obtain ⟨hi, hr, h1, h2, h3, -⟩ := rdF_put 10 l p 0 0 v q rfl hl (by simpa using h)
    have hh : hi = v := by simpa using hr.symm
    subst hh
    refine ⟨hv, hp, ⟨(l.drop p).drop (q - p), ?_⟩, ?_⟩
    · show l.drop p = putF 9 hi ++ _
      rw [show (9 : Nat) - 0 = 9 from rfl] at h3
      rw [h3, List.take_append_drop]
    · show q = p + (putF 9 hi).length
      rw [show (9 : Nat) - 0 = 9 from rfl] at h3
      rw [h3, List.length_take, List.length_drop]
      omega
  · rintro ⟨hv, -, ⟨r, h2⟩, rfl⟩
    have e : l = l.take p ++ put v ++ r := by rw [List.append_assoc, ← h2, List.take_append_drop]
    have hlp : (l.take p).length = p := by simp; omega
    have := rdU_of_put (l.take p) r v hv
    rw [← e, hlp] at this
    exact this
end

/-- a number, where the reader goes on, its error -/
def anyS (l : List Nat) (p e : Nat) : Nat × Nat × Nat := if e ≠ 0 then (0, p, e) else if (rdU l (p : Int)).2.2 ≠ 0 then (0, p, (rdU l (p : Int)).2.2) else ((rdU l (p : Int)).1, (rdU l (p : Int)).2.1, 0)
def upS (l : List Nat) (lim er p e : Nat) : Nat × Nat × Nat := if 2147483647 < (anyS l p e).1 then (0, (anyS l p e).2.1, 4) else if lim < (anyS l p e).1 then (0, (anyS l p e).2.1, er) else anyS l p e
def opX (l : List Nat) (p e : Nat) : Nat × Nat × Nat := if e ≠ 0 then (0, p, e) else if l.length ≤ p then (0, p, 1) else if 25 ≤ l.getD p 0 then (0, p, 4) else (l.getD p 0, p + 1, 0)
/-- how many operands sircode writes and reads -/
def opS (op : Int) : Nat := if op = 0 ∨ op = 13 ∨ op = 14 ∨ op = 20 ∨ op = 22 then 1 else if op = 23 ∨ op = 24 then 0 else if 2 ≤ op ∧ op ≤ 11 then 3 else 2
theorem opS_le (o : Int) : opS o ≤ 3 := by
  unfold opS
  repeat' split
  all_goals omega
def opsS (l : List Nat) : Nat → Nat → Nat → List Nat × Nat × Nat
  | 0, p, e => ([], p, e)
  | k + 1, p, e => ((opsS l k p e).1 ++ [(upS l M31 4 (opsS l k p e).2.1 (opsS l k p e).2.2).1], (upS l M31 4 (opsS l k p e).2.1 (opsS l k p e).2.2).2)
def immS (l : List Nat) (q : Bool) (p e : Nat) : Nat × Nat × Nat := if q then anyS l p e else (0, p, e)
def mkI (o : Nat) (v : List Nat) (im : Nat) : Ins := ⟨(o : Int), ((v.getD 0 0 : Nat) : Int), ((v.getD 1 0 : Nat) : Int), ((v.getD 2 0 : Nat) : Int), (im : Int)⟩
def insR6 (l : List Nat) (o : Nat × Nat × Nat) : Ins × Nat × Nat :=
  (mkI o.1 (opsS l (opS (o.1 : Int)) o.2.1 o.2.2).1 (immS l (immB (o.1 : Int)) (opsS l (opS (o.1 : Int)) o.2.1 o.2.2).2.1 (opsS l (opS (o.1 : Int)) o.2.1 o.2.2).2.2).1,
   (immS l (immB (o.1 : Int)) (opsS l (opS (o.1 : Int)) o.2.1 o.2.2).2.1 (opsS l (opS (o.1 : Int)) o.2.1 o.2.2).2.2).2)
def insS (l : List Nat) (p e : Nat) : Ins × Nat × Nat := insR6 l (opX l p e)
/-- the same, several times -/
def manyS {α : Type} (f : Nat → Nat → α × Nat × Nat) : Nat → Nat → Nat → List α × Nat × Nat
  | 0, p, e => ([], p, e)
  | n + 1, p, e => if e ≠ 0 then ([], p, e) else ((f p 0).1 :: (manyS f n (f p 0).2.1 (f p 0).2.2).1, (manyS f n (f p 0).2.1 (f p 0).2.2).2)
def slotS (l : List Nat) (p e : Nat) : (Int × Int) × Nat × Nat :=
  ((((upS l M31 4 p e).1 : Int), ((2 ^ (upS l 24 4 (upS l M31 4 p e).2.1 (upS l M31 4 p e).2.2).1 : Nat) : Int)), (upS l 24 4 (upS l M31 4 p e).2.1 (upS l M31 4 p e).2.2).2)
def endR (l : List Nat) (p e : Nat) : Nat := if e = 0 ∧ p < l.length then 2 else e
/-- a function's description, from p to the end -/
def funS (l : List Nat) (p : Nat) : Fn × Nat × Nat :=
  let a := upS l M31 4 p 0
  let n := upS l 512 3 a.2.1 a.2.2
  let s := manyS (slotS l) n.1 n.2.1 n.2.2
  let m := upS l 1024 3 s.2.1 s.2.2
  let c := manyS (insS l) m.1 m.2.1 m.2.2
  (⟨(a.1 : Int), s.1, c.1⟩, c.2.1, endR l c.2.1 c.2.2)
/-- a function with the length of its description ahead -/
def sizeS (l : List Nat) (p e : Nat) : Nat × Nat × Nat := ((upS l l.length 1 p e).1, (upS l l.length 1 p e).2.1, if (upS l l.length 1 p e).2.2 = 0 ∧ l.length - (upS l l.length 1 p e).2.1 < (upS l l.length 1 p e).1 then 1 else (upS l l.length 1 p e).2.2)
def partS (l : List Nat) (z : Nat × Nat × Nat) : (Fn × List Nat) × Nat × Nat :=
  if z.2.2 ≠ 0 then ((Fn.z, []), z.2.1, z.2.2) else (((funS (l.take (z.2.1 + z.1)) z.2.1).1, (l.drop z.2.1).take z.1), z.2.1 + z.1, (funS (l.take (z.2.1 + z.1)) z.2.1).2.2)
def fsS (l : List Nat) (p e : Nat) : (Fn × List Nat) × Nat × Nat := partS l (sizeS l p e)
def progS (l : List Nat) : List (Fn × List Nat) × Nat :=
  let z := upS l 80 3 4 0
  let m := manyS (fsS l) z.1 z.2.1 z.2.2
  (m.1, endR l m.2.1 m.2.2)
def mgS : List Nat := [83, 73, 82, 49]
def parE (b : List Nat) : Nat := if 1048576 < b.length then 3 else if b.length < 9 then 1 else if b.take 4 = mgS ∧ sealL (b.take (b.length - 4)) = b then (progS (b.take (b.length - 4))).2 else 2
def parP (b : List Nat) : List (Fn × List Nat) := if parE b = 0 then (progS (b.take (b.length - 4))).1 else []
def parF (b : List Nat) : List Fn := (parP b).map Prod.fst
def parD (b : List Nat) : List (List Nat) := (parP b).map Prod.snd

/-- what is written -/
def encIS (x : Ins) : List Nat := x.op.toNat :: ((([x.a, x.b, x.c].take (opS x.op)).map Int.toNat).flatMap put ++ (if immB x.op then put x.imm.toNat else []))
def encSl (s : Int × Int) : List Nat := put s.1.toNat ++ put (Nat.log2 s.2.toNat)
def descS (f : Fn) : List Nat := put f.params.toNat ++ (put f.slots.length ++ (f.slots.flatMap encSl ++ (put f.code.length ++ f.code.flatMap encIS)))
def encFS (d : List Nat) : List Nat := put d.length ++ d
def bodyS (p : List Fn) : List Nat := mgS ++ (put p.length ++ p.flatMap (fun f => encFS (descS f)))
def senE (p : List Fn) : Int := if progE p ≠ 0 then progE p else if 1048576 < (bodyS p).length + 4 then 3 else 0
def senB (p : List Fn) : List Nat := if senE p = 0 then sealL (bodyS p) else []
def decS (b : List Nat) : Int := if parE b ≠ 0 then (parE b : Int) else progE (parF b)

structure EIS (x : Ins) : Prop where
  op : 0 ≤ x.op ∧ x.op < 25
  a : 0 ≤ x.a ∧ x.a ≤ 2147483647
  b : 0 ≤ x.b ∧ x.b ≤ 2147483647
  c : 0 ≤ x.c ∧ x.c ≤ 2147483647
  im : 0 ≤ x.imm ∧ x.imm < 18446744073709551616
  za : opS x.op < 1 → x.a = 0
  zb : opS x.op < 2 → x.b = 0
  zc : opS x.op < 3 → x.c = 0
  zi : immB x.op = false → x.imm = 0
def ESl (s : Int × Int) : Prop := (0 ≤ s.1 ∧ s.1 ≤ 2147483647) ∧ ∃ k, k ≤ 24 ∧ s.2 = ((2 ^ k : Nat) : Int)
structure EFS (f : Fn) : Prop where
  prm : 0 ≤ f.params ∧ f.params ≤ 2147483647
  ns : f.slots.length ≤ 512
  sl : ∀ s ∈ f.slots, ESl s
  nc : f.code.length ≤ 1024
  ins : ∀ x ∈ f.code, EIS x
section
variable {l : List Nat} {p q v lim er e : Nat}
theorem anyS_err (h : e ≠ 0) : anyS l p e = (0, p, e) := by unfold anyS; rw [if_pos h]
theorem upS_err (h : e ≠ 0) : upS l lim er p e = (0, p, e) := by unfold upS; rw [anyS_err h]; simp
theorem anyS_iff (hl : ∀ x ∈ l, x < 256) (hp : p ≤ l.length) : anyS l p 0 = (v, q, 0) ↔ v < 18446744073709551616 ∧ At l p (put v) q := by
  rw [← rdU_iff hl hp]
  unfold anyS
  rw [if_neg (by simp)]
  by_cases h : (rdU l (p : Int)).2.2 = 0
  · rw [if_neg (by simpa using h)]
    constructor
    · intro h2
      simp only [Prod.mk.injEq] at h2
      exact Prod.ext h2.1 (Prod.ext h2.2.1 h)
    · intro h2; rw [h2]
  · rw [if_pos h]
    constructor
    · intro h2
      simp only [Prod.mk.injEq] at h2
      exact absurd h2.2.2 h
    · intro h2; rw [h2] at h; exact absurd rfl h
theorem upS_iff (hl : ∀ x ∈ l, x < 256) (hp : p ≤ l.length) (he : er ≠ 0) : upS l lim er p 0 = (v, q, 0) ↔ (v ≤ lim ∧ v ≤ 2147483647) ∧ At l p (put v) q := by
  unfold upS
  constructor
  · intro h
    split at h
    · simp at h
    split at h
    · simp only [Prod.mk.injEq] at h; exact absurd h.2.2 he
    · rename_i g1 g2
      have := (anyS_iff hl hp).1 h
      rw [h] at g1 g2
      simp only at g1 g2
      exact ⟨⟨by omega, by omega⟩, this.2⟩
  · rintro ⟨⟨h1, h2⟩, h3⟩
    have := (anyS_iff (v := v) (q := q) hl hp).2 ⟨by omega, h3⟩
    rw [this]
    simp only
    rw [if_neg (by omega), if_neg (by omega)]
theorem opX_err (h : e ≠ 0) : opX l p e = (0, p, e) := by unfold opX; rw [if_pos h]
theorem opsS_err (h : e ≠ 0) (k : Nat) : (opsS l k p e).2 = (p, e) := by
  induction k with
  | zero => rfl
  | succ k ih => unfold opsS; rw [ih, upS_err h]
theorem immS_err (h : e ≠ 0) (b : Bool) : immS l b p e = (0, p, e) := by unfold immS; rw [anyS_err h]; simp
theorem insR6_err (h : e ≠ 0) (o : Nat) : (insR6 l (o, p, e)).2 = (p, e) := by unfold insR6; simp only; rw [opsS_err h, immS_err h]
theorem opsS_iff (hl : ∀ x ∈ l, x < 256) (hp : p ≤ l.length) (k : Nat) {vs : List Nat} : opsS l k p 0 = (vs, q, 0) ↔ (vs.length = k ∧ ∀ v ∈ vs, v ≤ 2147483647) ∧ At l p (vs.flatMap put) q := by
  induction k generalizing vs q with
  | zero =>
    unfold opsS
    constructor
    · intro h
      simp only [Prod.mk.injEq] at h
      obtain ⟨rfl, rfl, -⟩ := h
      exact ⟨⟨rfl, fun v hv => by cases hv⟩, at_nil.2 ⟨hp, rfl⟩⟩
    · rintro ⟨⟨h1, -⟩, h2⟩
      obtain rfl := List.eq_nil_of_length_eq_zero h1
      rw [(at_nil.1 h2).2]
  | succ k ih =>
    unfold opsS
    obtain ⟨us, p1, e1, h1⟩ : ∃ us p1 e1, opsS l k p 0 = (us, p1, e1) := ⟨_, _, _, rfl⟩
    rw [h1]
    simp only
    constructor
    · intro h
      simp only [Prod.mk.injEq] at h
      obtain ⟨h2, h3⟩ := h
      by_cases he : e1 = 0
      · subst he
        have hu := ih.1 h1
        obtain ⟨v2, p2, e2, h4⟩ : ∃ v' p' e', upS l M31 4 p1 0 = (v', p', e') := ⟨_, _, _, rfl⟩
        rw [h4] at h2 h3
        simp only [Prod.mk.injEq] at h3
        obtain ⟨rfl, rfl⟩ := h3
        have h5 := (upS_iff hl hu.2.le.2 (by decide)).1 h4
        subst h2
        refine ⟨⟨by simp [hu.1.1], fun v hv => ?_⟩, ?_⟩
        · rcases List.mem_append.1 hv with h | h
          · exact hu.1.2 v h
          · rw [List.mem_singleton.1 h]; exact h5.1.2
        · rw [List.flatMap_append, List.flatMap_singleton]
          exact at_app.2 ⟨_, hu.2, h5.2⟩
      · rw [upS_err he] at h3
        simp only [Prod.mk.injEq] at h3
        exact absurd h3.2 he
    · rintro ⟨⟨h2, h3⟩, h4⟩
      obtain ⟨ws, v, rfl⟩ : ∃ ws v, vs = ws ++ [v] := by
        rcases List.eq_nil_or_concat vs with rfl | ⟨ws, v, rfl⟩
        · simp at h2
        · exact ⟨ws, v, List.concat_eq_append⟩
      rw [List.flatMap_append, List.flatMap_singleton] at h4
      obtain ⟨m, h5, h6⟩ := at_app.1 h4
      have h7 := ih.2 ⟨⟨by simpa using h2, fun v hv => h3 v (List.mem_append.2 (.inl hv))⟩, h5⟩
      rw [h1] at h7
      simp only [Prod.mk.injEq] at h7
      obtain ⟨rfl, rfl, rfl⟩ := h7
      have h8 := (upS_iff (lim := M31) (er := 4) hl h5.le.2 (by decide)).2 ⟨⟨h3 v (by simp), h3 v (by simp)⟩, h6⟩
      rw [h8]
theorem immS_iff (hl : ∀ x ∈ l, x < 256) (hp : p ≤ l.length) (b : Bool) : immS l b p 0 = (v, q, 0) ↔ (v < 18446744073709551616 ∧ (b = false → v = 0)) ∧ At l p (if b then put v else []) q := by
  unfold immS
  cases b with
  | true => simp only [if_true]; rw [anyS_iff hl hp]; simp
  | false =>
    simp only [Bool.false_eq_true, if_false]
    rw [at_nil]
    constructor
    · intro h
      simp only [Prod.mk.injEq] at h
      obtain ⟨rfl, rfl, -⟩ := h
      exact ⟨⟨by decide, fun _ => rfl⟩, hp, rfl⟩
    · rintro ⟨⟨-, h⟩, -, rfl⟩
      rw [h trivial]
theorem mkI_take (o m : Nat) (vs : List Nat) (h : vs.length ≤ 3) (k : Nat) (hk : vs.length = k) : ([(mkI o vs m).a, (mkI o vs m).b, (mkI o vs m).c].take k).map Int.toNat = vs := by
  subst hk
  match vs, h with
  | [], _ => rfl
  | [a], _ => simp [mkI]
  | [a, b], _ => simp [mkI]
  | [a, b, c], _ => simp [mkI]
theorem getD_le' {vs : List Nat} {m : Nat} (h : ∀ v ∈ vs, v ≤ m) (j : Nat) : vs.getD j 0 ≤ m := by
  rw [List.getD_eq_getElem?_getD]
  rcases hq : vs[j]? with _ | v
  · simp
  · exact h v (List.mem_of_getElem? hq)
theorem getD_z {vs : List Nat} {j : Nat} (h : vs.length ≤ j) : vs.getD j 0 = 0 := by rw [List.getD_eq_getElem?_getD, List.getElem?_eq_none h]; rfl
theorem insS_iff (hl : ∀ x ∈ l, x < 256) (hp : p ≤ l.length) {x : Ins} : insS l p 0 = (x, q, 0) ↔ EIS x ∧ At l p (encIS x) q := by
  unfold insS
  constructor
  · intro h
    by_cases h1 : l.length ≤ p
    · have : opX l p 0 = (0, p, 1) := by unfold opX; simp [h1]
      rw [this] at h
      have h2 := insR6_err (l := l) (p := p) (e := 1) (by decide) 0
      rw [h] at h2
      simp at h2
    by_cases h2 : 25 ≤ l.getD p 0
    · have : opX l p 0 = (0, p, 4) := by unfold opX; rw [if_neg (by simp), if_neg h1, if_pos h2]
      rw [this] at h
      have h2 := insR6_err (l := l) (p := p) (e := 4) (by decide) 0
      rw [h] at h2
      simp at h2
    have ho : opX l p 0 = (l.getD p 0, p + 1, 0) := by unfold opX; rw [if_neg (by simp), if_neg h1, if_neg h2]
    rw [ho] at h
    have hat : p < l.length ∧ l.getD p 0 = l.getD p 0 := ⟨by omega, rfl⟩
    have hq : At l p [l.getD p 0] (p + 1) := at_cons.2 ⟨hat, at_nil.2 ⟨by omega, rfl⟩⟩
    generalize hog : l.getD p 0 = o at *
    unfold insR6 at h
    simp only at h
    obtain ⟨us, p1, e1, h3⟩ : ∃ us p1 e1, opsS l (opS (o : Int)) (p + 1) 0 = (us, p1, e1) := ⟨_, _, _, rfl⟩
    rw [h3] at h
    simp only at h
    obtain ⟨m, p2, e2, h4⟩ : ∃ m p2 e2, immS l (immB (o : Int)) p1 e1 = (m, p2, e2) := ⟨_, _, _, rfl⟩
    rw [h4] at h
    simp only [Prod.mk.injEq] at h
    obtain ⟨rfl, rfl, rfl⟩ := h
    have he : e1 = 0 := by
      by_cases he : e1 = 0
      · exact he
      · rw [immS_err he] at h4
        simp only [Prod.mk.injEq] at h4
        exact absurd h4.2.2 he
    subst he
    have h5 := (opsS_iff hl (by omega) _).1 h3
    have h6 := (immS_iff hl h5.2.le.2 _).1 h4
    have hk := opS_le (o : Int)
    refine ⟨⟨⟨by simp [mkI], by simp only [mkI]; omega⟩, ?_, ?_, ?_, ⟨by simp [mkI], by simp only [mkI]; omega⟩, ?_, ?_, ?_, ?_⟩, ?_⟩
    · have := getD_le' h5.1.2 0; simp only [mkI]; omega
    · have := getD_le' h5.1.2 1; simp only [mkI]; omega
    · have := getD_le' h5.1.2 2; simp only [mkI]; omega
    · intro hz
      have := getD_z (vs := us) (j := 0) (by rw [h5.1.1]; simpa [mkI] using hz)
      simp only [mkI]; omega
    · intro hz
      have := getD_z (vs := us) (j := 1) (by rw [h5.1.1]; have : opS (o : Int) < 2 := hz; omega)
      simp only [mkI]; omega
    · intro hz
      have := getD_z (vs := us) (j := 2) (by rw [h5.1.1]; have : opS (o : Int) < 3 := hz; omega)
      simp only [mkI]; omega
    · intro hz
      have := h6.1.2 hz
      simp only [mkI]; omega
    · unfold encIS
      have e0 : (mkI o us m).op = (o : Int) := rfl
      have e1 : (mkI o us m).imm = (m : Int) := rfl
      rw [e0, mkI_take o m us (by omega) _ h5.1.1, e1, Int.toNat_natCast, Int.toNat_natCast]
      exact at_cons.2 ⟨⟨hat.1, hog⟩, at_app.2 ⟨_, h5.2, h6.2⟩⟩
  · rintro ⟨hx, hat⟩
    obtain ⟨op, a, b, c, im⟩ := x
    obtain ⟨ho, ha, hb, hc, him, za, zb, zc, zi⟩ := hx
    simp only at *
    obtain ⟨o, rfl⟩ := Int.eq_ofNat_of_zero_le ho.1
    unfold encIS at hat
    simp only [Int.toNat_natCast] at hat
    obtain ⟨⟨h1, h2⟩, h3⟩ := at_cons.1 hat
    obtain ⟨m, h4, h5⟩ := at_app.1 h3
    have hX : opX l p 0 = (o, p + 1, 0) := by unfold opX; rw [if_neg (by simp), if_neg (by omega), if_neg (by omega), h2]
    have hk := opS_le (o : Int)
    have h6 := (opsS_iff hl (by omega) (opS (o : Int))).2 ⟨⟨by simp; omega, fun v hv => by
      obtain ⟨y, hy, rfl⟩ := List.mem_map.1 hv
      have := List.mem_of_mem_take hy
      simp only [List.mem_cons, List.not_mem_nil, or_false] at this
      omega⟩, h4⟩
    have h7 := (immS_iff hl h4.le.2 (immB (o : Int))).2 ⟨⟨by omega, fun h => by rw [zi h]; rfl⟩, h5⟩
    rw [hX]
    unfold insR6
    simp only
    rw [h6]
    simp only
    rw [h7]
    simp only [Prod.mk.injEq, and_true]
    unfold mkI
    have : opS (o : Int) = 0 ∨ opS (o : Int) = 1 ∨ opS (o : Int) = 2 ∨ opS (o : Int) = 3 := by omega
    rcases this with h | h | h | h <;> rw [h] at za zb zc ⊢ <;> simp <;> omega
end
section
variable {α : Type} {f : Nat → Nat → α × Nat × Nat} {p q e n : Nat} {xs : List α}
theorem manyS_stop (h : n = 0 ∨ e ≠ 0) : manyS f n p e = ([], p, e) := by
  rcases h with rfl | h
  · rfl
  · cases n with
    | zero => rfl
    | succ n => unfold manyS; rw [if_pos h]
theorem manyS_succ : manyS f (n + 1) p 0 = ((f p 0).1 :: (manyS f n (f p 0).2.1 (f p 0).2.2).1, (manyS f n (f p 0).2.1 (f p 0).2.2).2) := if_neg (by simp)
theorem manyS_iff {l : List Nat} {P : α → Prop} {enc : α → List Nat} (hf : ∀ p q x, p ≤ l.length → (f p 0 = (x, q, 0) ↔ P x ∧ At l p (enc x) q)) (hp : p ≤ l.length) :
    manyS f n p 0 = (xs, q, 0) ↔ (xs.length = n ∧ ∀ x ∈ xs, P x) ∧ At l p (xs.flatMap enc) q := by
  induction n generalizing p xs with
  | zero =>
    unfold manyS
    constructor
    · intro h
      simp only [Prod.mk.injEq] at h
      obtain ⟨rfl, rfl, -⟩ := h
      exact ⟨⟨rfl, fun v hv => by cases hv⟩, at_nil.2 ⟨hp, rfl⟩⟩
    · rintro ⟨⟨h1, -⟩, h2⟩
      obtain rfl := List.eq_nil_of_length_eq_zero h1
      rw [(at_nil.1 h2).2]
  | succ n ih =>
    rw [manyS_succ]
    obtain ⟨x, p1, e1, h1⟩ : ∃ x p1 e1, f p 0 = (x, p1, e1) := ⟨_, _, _, rfl⟩
    rw [h1]
    simp only
    constructor
    · intro h
      simp only [Prod.mk.injEq] at h
      obtain ⟨h2, h3⟩ := h
      by_cases he : e1 = 0
      · subst he
        have hx := (hf p p1 x hp).1 h1
        obtain ⟨ys, p2, e2, h4⟩ : ∃ ys p2 e2, manyS f n p1 0 = (ys, p2, e2) := ⟨_, _, _, rfl⟩
        rw [h4] at h2 h3
        simp only [Prod.mk.injEq] at h3
        obtain ⟨rfl, rfl⟩ := h3
        have h5 := (ih hx.2.le.2).1 h4
        subst h2
        refine ⟨⟨by simp [h5.1.1], fun y hy => ?_⟩, ?_⟩
        · rcases List.mem_cons.1 hy with rfl | h
          · exact hx.1
          · exact h5.1.2 y h
        · rw [List.flatMap_cons]
          exact at_app.2 ⟨_, hx.2, h5.2⟩
      · rw [manyS_stop (.inr he)] at h3
        simp only [Prod.mk.injEq] at h3
        exact absurd h3.2 he
    · rintro ⟨⟨h2, h3⟩, h4⟩
      obtain ⟨y, ys, rfl⟩ : ∃ y ys, xs = y :: ys := by
        cases xs with
        | nil => simp at h2
        | cons y ys => exact ⟨y, ys, rfl⟩
      rw [List.flatMap_cons] at h4
      obtain ⟨m, h5, h6⟩ := at_app.1 h4
      have h7 := (hf p m y hp).2 ⟨h3 y (by simp), h5⟩
      rw [h1] at h7
      simp only [Prod.mk.injEq] at h7
      obtain ⟨rfl, rfl, rfl⟩ := h7
      have h8 := (ih h5.le.2).2 ⟨⟨by simpa using h2, fun z hz => h3 z (by simp [hz])⟩, h6⟩
      rw [h8]
end
section
variable {l : List Nat} {p q v lim er e : Nat}
theorem slotS_err (h : e ≠ 0) : (slotS l p e).2 = (p, e) := by unfold slotS; rw [upS_err h]; simp only; rw [upS_err h]
theorem slotS_iff (hl : ∀ x ∈ l, x < 256) (hp : p ≤ l.length) {s : Int × Int} : slotS l p 0 = (s, q, 0) ↔ ESl s ∧ At l p (encSl s) q := by
  unfold slotS
  obtain ⟨v1, p1, e1, h1⟩ : ∃ v1 p1 e1, upS l M31 4 p 0 = (v1, p1, e1) := ⟨_, _, _, rfl⟩
  rw [h1]
  simp only
  obtain ⟨v2, p2, e2, h2⟩ : ∃ v2 p2 e2, upS l 24 4 p1 e1 = (v2, p2, e2) := ⟨_, _, _, rfl⟩
  rw [h2]
  simp only
  constructor
  · intro h
    simp only [Prod.mk.injEq] at h
    obtain ⟨rfl, rfl, rfl⟩ := h
    have he : e1 = 0 := by
      by_cases he : e1 = 0
      · exact he
      · rw [upS_err he] at h2
        simp only [Prod.mk.injEq] at h2
        exact absurd h2.2.2 he
    subst he
    have h3 := (upS_iff hl hp (by decide)).1 h1
    have h4 := (upS_iff hl h3.2.le.2 (by decide)).1 h2
    refine ⟨⟨by simp only; omega, v2, h4.1.1, rfl⟩, ?_⟩
    unfold encSl
    simp only [Int.toNat_natCast, Nat.log2_two_pow]
    exact at_app.2 ⟨_, h3.2, h4.2⟩
  · rintro ⟨⟨h3, k, hk, h4⟩, h5⟩
    obtain ⟨s1, s2⟩ := s
    simp only at h3 h4
    subst h4
    unfold encSl at h5
    simp only [Int.toNat_natCast, Nat.log2_two_pow] at h5
    obtain ⟨m, h6, h7⟩ := at_app.1 h5
    have h8 := (upS_iff (lim := M31) (er := 4) hl hp (by decide)).2 ⟨⟨by unfold M31; omega, by omega⟩, h6⟩
    rw [h1] at h8
    simp only [Prod.mk.injEq] at h8
    obtain ⟨rfl, rfl, rfl⟩ := h8
    have h9 := (upS_iff (lim := 24) (er := 4) hl h6.le.2 (by decide)).2 ⟨⟨hk, by omega⟩, h7⟩
    rw [h2] at h9
    simp only [Prod.mk.injEq] at h9
    obtain ⟨rfl, rfl, rfl⟩ := h9
    rw [Int.toNat_of_nonneg h3.1]
theorem endR_iff : endR l p e = 0 ↔ e = 0 ∧ l.length ≤ p := by
  unfold endR
  by_cases h : e = 0 ∧ p < l.length
  · rw [if_pos h]; omega
  · rw [if_neg h]; omega
theorem funS_iff (hl : ∀ x ∈ l, x < 256) (hp : p ≤ l.length) {f : Fn} : funS l p = (f, q, 0) ↔ EFS f ∧ At l p (descS f) q ∧ q = l.length := by
  unfold funS
  obtain ⟨v1, p1, e1, h1⟩ : ∃ v' p' e', upS l M31 4 p 0 = (v', p', e') := ⟨_, _, _, rfl⟩
  rw [h1]; simp only
  obtain ⟨v2, p2, e2, h2⟩ : ∃ v' p' e', upS l 512 3 p1 e1 = (v', p', e') := ⟨_, _, _, rfl⟩
  rw [h2]; simp only
  obtain ⟨v3, p3, e3, h3⟩ : ∃ v q e, manyS (slotS l) v2 p2 e2 = (v, q, e) := ⟨_, _, _, rfl⟩
  rw [h3]; simp only
  obtain ⟨v4, p4, e4, h4⟩ : ∃ v' p' e', upS l 1024 3 p3 e3 = (v', p', e') := ⟨_, _, _, rfl⟩
  rw [h4]; simp only
  obtain ⟨v5, p5, e5, h5⟩ : ∃ v q e, manyS (insS l) v4 p4 e4 = (v, q, e) := ⟨_, _, _, rfl⟩
  rw [h5]; simp only
  constructor
  · intro h
    simp only [Prod.mk.injEq] at h
    obtain ⟨rfl, rfl, h6⟩ := h
    obtain ⟨rfl, h7⟩ := endR_iff.1 h6
    have he4 : e4 = 0 := by
      by_cases he : e4 = 0
      · exact he
      · rw [manyS_stop (.inr he)] at h5; simp only [Prod.mk.injEq] at h5; exact absurd h5.2.2 he
    subst he4
    have he3 : e3 = 0 := by
      by_cases he : e3 = 0
      · exact he
      · rw [upS_err he] at h4; simp only [Prod.mk.injEq] at h4; exact absurd h4.2.2 he
    subst he3
    have he2 : e2 = 0 := by
      by_cases he : e2 = 0
      · exact he
      · rw [manyS_stop (.inr he)] at h3; simp only [Prod.mk.injEq] at h3; exact absurd h3.2.2 he
    subst he2
    have he1 : e1 = 0 := by
      by_cases he : e1 = 0
      · exact he
      · rw [upS_err he] at h2; simp only [Prod.mk.injEq] at h2; exact absurd h2.2.2 he
    subst he1
    have g1 := (upS_iff hl hp (by decide)).1 h1
    have g2 := (upS_iff hl g1.2.le.2 (by decide)).1 h2
    have g3 := (manyS_iff (fun p q x hp => slotS_iff hl hp) g2.2.le.2).1 h3
    have g4 := (upS_iff hl g3.2.le.2 (by decide)).1 h4
    have g5 := (manyS_iff (fun p q x hp => insS_iff hl hp) g4.2.le.2).1 h5
    refine ⟨⟨by simp only; omega, by simp only [g3.1.1]; exact g2.1.1, g3.1.2, by simp only [g5.1.1]; exact g4.1.1, g5.1.2⟩, ?_, ?_⟩
    · unfold descS
      simp only [Int.toNat_natCast, g3.1.1, g5.1.1]
      exact at_app.2 ⟨_, g1.2, at_app.2 ⟨_, g2.2, at_app.2 ⟨_, g3.2, at_app.2 ⟨_, g4.2, g5.2⟩⟩⟩⟩
    · have := g5.2.le.2; omega
  · rintro ⟨⟨x1, x2, x3, x4, x5⟩, hat, rfl⟩
    obtain ⟨prm, sl, co⟩ := f
    unfold descS at hat
    simp only at *
    obtain ⟨m1, a1, hat⟩ := at_app.1 hat
    obtain ⟨m2, a2, hat⟩ := at_app.1 hat
    obtain ⟨m3, a3, hat⟩ := at_app.1 hat
    obtain ⟨m4, a4, a5⟩ := at_app.1 hat
    have g1 := (upS_iff (lim := M31) (er := 4) hl hp (by decide)).2 ⟨⟨by unfold M31; omega, by omega⟩, a1⟩
    rw [h1] at g1; simp only [Prod.mk.injEq] at g1; obtain ⟨rfl, rfl, rfl⟩ := g1
    have g2 := (upS_iff (lim := 512) (er := 3) hl a1.le.2 (by decide)).2 ⟨⟨x2, by omega⟩, a2⟩
    rw [h2] at g2; simp only [Prod.mk.injEq] at g2; obtain ⟨rfl, rfl, rfl⟩ := g2
    have g3 := (manyS_iff (n := sl.length) (fun p q x hp => slotS_iff hl hp) a2.le.2).2 ⟨⟨rfl, x3⟩, a3⟩
    rw [h3] at g3; simp only [Prod.mk.injEq] at g3; obtain ⟨rfl, rfl, rfl⟩ := g3
    have g4 := (upS_iff (lim := 1024) (er := 3) hl a3.le.2 (by decide)).2 ⟨⟨x4, by omega⟩, a4⟩
    rw [h4] at g4; simp only [Prod.mk.injEq] at g4; obtain ⟨rfl, rfl, rfl⟩ := g4
    have g5 := (manyS_iff (n := co.length) (fun p q x hp => insS_iff hl hp) a4.le.2).2 ⟨⟨rfl, x5⟩, a5⟩
    rw [h5] at g5; simp only [Prod.mk.injEq] at g5; obtain ⟨rfl, rfl, rfl⟩ := g5
    rw [Int.toNat_of_nonneg x1.1]
    simp only [Prod.mk.injEq, true_and]
    exact endR_iff.2 ⟨rfl, Nat.le_refl _⟩
theorem fsS_err (h : e ≠ 0) : (fsS l p e).2 = (p, e) := by
  unfold fsS partS sizeS
  rw [upS_err h]
  have e1 : (if e = 0 ∧ l.length - p < 0 then 1 else e) = e := if_neg (fun hh => h hh.1)
  simp only [e1]
  rw [if_pos h]
theorem at_len {d : List Nat} (h : At l p d q) : d.length = q - p := by have := h.2.2; omega
theorem fsS_iff (hl : ∀ x ∈ l, x < 256) (hm : l.length ≤ 1048576) (hp : p ≤ l.length) {fd : Fn × List Nat} : fsS l p 0 = (fd, q, 0) ↔ (EFS fd.1 ∧ fd.2 = descS fd.1) ∧ At l p (encFS fd.2) q := by
  obtain ⟨f, d⟩ := fd
  simp only
  unfold fsS sizeS
  obtain ⟨v1, p1, e1, h1⟩ : ∃ v' p' e', upS l l.length 1 p 0 = (v', p', e') := ⟨_, _, _, rfl⟩
  rw [h1]
  simp only
  constructor
  · intro h
    unfold partS at h
    simp only at h
    by_cases hz : (if e1 = 0 ∧ l.length - p1 < v1 then 1 else e1) = 0
    · rw [hz, if_neg (by simp)] at h
      have he1 : e1 = 0 := by split at hz <;> omega
      subst he1
      have hv : ¬ l.length - p1 < v1 := by intro hh; rw [if_pos ⟨rfl, hh⟩] at hz; cases hz
      have g1 := (upS_iff hl hp (by decide)).1 h1
      have hle := g1.2.le
      simp only [Prod.mk.injEq] at h
      obtain ⟨⟨hf, hd⟩, hq, he⟩ := h
      have hle2 : p1 + v1 ≤ l.length := by omega
      have hlt : (l.take (p1 + v1)).length = p1 + v1 := by simp; omega
      obtain ⟨f', q', e', hff⟩ : ∃ f q e, funS (l.take (p1 + v1)) p1 = (f, q, e) := ⟨_, _, _, rfl⟩
      rw [hff] at hf he
      simp only at hf he
      subst hf
      subst he
      have g2 := (funS_iff (fun x hx => hl x (List.mem_of_mem_take hx)) (by omega)).1 hff
      rw [hlt] at g2
      obtain ⟨g3, g4, rfl⟩ := g2
      have g5 := (at_take hle2 (by omega)).1 g4
      have hdd : d = descS f' := by rw [g5.det, ← hd, show p1 + v1 - p1 = v1 by omega]
      have hdl : d.length = v1 := by rw [hdd, at_len g5]; omega
      refine ⟨⟨g3, hdd⟩, ?_⟩
      unfold encFS
      rw [hdl]
      refine at_app.2 ⟨_, g1.2, ?_⟩
      rw [hdd, ← hq]
      exact g5
    · rw [if_pos hz] at h
      simp only [Prod.mk.injEq] at h
      exact absurd h.2.2 hz
  · rintro ⟨⟨h2, rfl⟩, h3⟩
    unfold encFS at h3
    obtain ⟨m, h4, h5⟩ := at_app.1 h3
    have h5l := h5.le
    have hdl := at_len h5
    have g1 := (upS_iff (lim := l.length) (er := 1) hl hp (by decide)).2 ⟨⟨by omega, by omega⟩, h4⟩
    rw [h1] at g1; simp only [Prod.mk.injEq] at g1; obtain ⟨rfl, rfl, rfl⟩ := g1
    rw [if_neg (by omega)]
    unfold partS
    simp only
    rw [if_neg (by simp)]
    have hq : p1 + (descS f).length = q := by omega
    rw [hq]
    have hlt : (l.take q).length = q := by simp; omega
    have g2 := (funS_iff (l := l.take q) (p := p1) (q := q) (f := f) (fun x hx => hl x (List.mem_of_mem_take hx)) (by omega)).2 ⟨h2, (at_take (by omega) (by omega)).2 h5, hlt.symm⟩
    rw [g2]
    simp only [Prod.mk.injEq, and_true, true_and]
    rw [hdl, ← h5.det]
end
theorem progS_iff {l : List Nat} (hl : ∀ x ∈ l, x < 256) (hm : l.length ≤ 1048576) (h4 : 4 ≤ l.length) {fs : List (Fn × List Nat)} :
    progS l = (fs, 0) ↔ (fs.length ≤ 80 ∧ ∀ fd ∈ fs, EFS fd.1 ∧ fd.2 = descS fd.1) ∧ l.drop 4 = put fs.length ++ fs.flatMap (fun fd => encFS fd.2) := by
  unfold progS
  obtain ⟨v1, p1, e1, h1⟩ : ∃ v' p' e', upS l 80 3 4 0 = (v', p', e') := ⟨_, _, _, rfl⟩
  rw [h1]; simp only
  obtain ⟨v2, p2, e2, h2⟩ : ∃ v q e, manyS (fsS l) v1 p1 e1 = (v, q, e) := ⟨_, _, _, rfl⟩
  rw [h2]; simp only
  constructor
  · intro h
    simp only [Prod.mk.injEq] at h
    obtain ⟨rfl, h3⟩ := h
    obtain ⟨rfl, h5⟩ := endR_iff.1 h3
    have he1 : e1 = 0 := by
      by_cases he : e1 = 0
      · exact he
      · rw [manyS_stop (.inr he)] at h2; simp only [Prod.mk.injEq] at h2; exact absurd h2.2.2 he
    subst he1
    have g1 := (upS_iff hl h4 (by decide)).1 h1
    have g2 := (manyS_iff (fun p q x hp => fsS_iff hl hm hp) g1.2.le.2).1 h2
    have hp2 : p2 = l.length := by have := g2.2.le.2; omega
    subst hp2
    refine ⟨⟨by rw [g2.1.1]; exact g1.1.1, g2.1.2⟩, ?_⟩
    exact at_full (at_app.2 ⟨_, by rw [g2.1.1]; exact g1.2, g2.2⟩)
  · rintro ⟨⟨h3, h5⟩, h6⟩
    obtain ⟨m, a1, a2⟩ := at_app.1 (at_full_iff.2 ⟨h4, h6⟩)
    have g1 := (upS_iff (lim := 80) (er := 3) hl h4 (by decide)).2 ⟨⟨h3, by omega⟩, a1⟩
    rw [h1] at g1; simp only [Prod.mk.injEq] at g1; obtain ⟨rfl, rfl, rfl⟩ := g1
    have g2 := (manyS_iff (n := fs.length) (fun p q x hp => fsS_iff hl hm hp) a1.le.2).2 ⟨⟨rfl, h5⟩, a2⟩
    rw [h2] at g2; simp only [Prod.mk.injEq] at g2; obtain ⟨rfl, rfl, rfl⟩ := g2
    simp only [Prod.mk.injEq, true_and]
    exact endR_iff.2 ⟨rfl, Nat.le_refl _⟩
theorem fst_map {ps : List Fn} {fs : List (Fn × List Nat)} (h : ∀ fd ∈ fs, EFS fd.1 ∧ fd.2 = descS fd.1) (hp : fs.map Prod.fst = ps) : fs = ps.map (fun f => (f, descS f)) := by
  subst hp
  rw [List.map_map]
  conv => lhs; rw [← List.map_id fs]
  refine List.map_congr_left (fun fd hfd => ?_)
  obtain ⟨f, d⟩ := fd
  have := (h _ hfd).2
  simp only [id, Function.comp] at this ⊢
  rw [this]
theorem bodyS_ge (p : List Fn) : 5 ≤ (bodyS p).length := by
  have := (put_len p.length).1
  simp only [bodyS, mgS, List.length_append, List.length_cons, List.length_nil]
  omega
/-- bytes are a program: exactly if they are the program's bytes -/
theorem par_iff {b : List Nat} (hb : ∀ x ∈ b, x < 256) {p : List Fn} :
    (parE b = 0 ∧ parF b = p ∧ parD b = p.map descS) ↔ (p.length ≤ 80 ∧ ∀ f ∈ p, EFS f) ∧ b = sealL (bodyS p) ∧ b.length ≤ 1048576 := by
  constructor
  · rintro ⟨h0, h1, h2⟩
    have hP : parP b = (progS (b.take (b.length - 4))).1 := by unfold parP; rw [if_pos h0]
    unfold parE at h0
    split at h0
    · cases h0
    split at h0
    · cases h0
    split at h0
    · rename_i q1 q2 q3
      have hlt : (b.take (b.length - 4)).length = b.length - 4 := by simp
      have hps : progS (b.take (b.length - 4)) = ((progS (b.take (b.length - 4))).1, 0) := Prod.ext rfl h0
      have g := (progS_iff (fun x hx => hb x (List.mem_of_mem_take hx)) (by omega) (by omega)).1 hps
      rw [← hP] at g
      have g2 := fst_map g.1.2 h1
      rw [g2] at g
      have hbody : b.take (b.length - 4) = bodyS p := by
        have h5 := List.take_append_drop 4 (b.take (b.length - 4))
        rw [g.2, List.take_take, show min 4 (b.length - 4) = 4 by omega, q3.1] at h5
        rw [← h5]
        unfold bodyS
        rw [List.length_map, List.flatMap_map]
      refine ⟨⟨by simpa using g.1.1, fun f hf => (g.1.2 (f, descS f) (List.mem_map.2 ⟨f, hf, rfl⟩)).1⟩, ?_, by omega⟩
      rw [← hbody, q3.2]
    · cases h0
  · rintro ⟨⟨h1, h2⟩, h3, h4⟩
    have hlen : b.length = (bodyS p).length + 4 := by rw [h3, sealL_len]
    have hge := bodyS_ge p
    have htk : b.take (b.length - 4) = bodyS p := by rw [h3]; exact sealL_take _
    have hbb : ∀ x ∈ bodyS p, x < 256 := by rw [← htk]; exact fun x hx => hb x (List.mem_of_mem_take hx)
    have hpr : progS (bodyS p) = (p.map (fun f => (f, descS f)), 0) := by
      refine (progS_iff hbb (by omega) (by omega)).2 ⟨⟨by simpa using h1, fun fd hfd => ?_⟩, ?_⟩
      · obtain ⟨f, hf, rfl⟩ := List.mem_map.1 hfd
        exact ⟨h2 f hf, rfl⟩
      · rw [List.length_map, List.flatMap_map]
        rfl
    have hmg : b.take 4 = mgS := by
      have : (b.take (b.length - 4)).take 4 = mgS := by rw [htk]; rfl
      rw [List.take_take, show min 4 (b.length - 4) = 4 by omega] at this
      exact this
    have h0 : parE b = 0 := by
      unfold parE
      rw [if_neg (by omega), if_neg (by omega), htk, if_pos ⟨hmg, h3.symm⟩, hpr]
    have hP : parP b = p.map (fun f => (f, descS f)) := by unfold parP; rw [if_pos h0, htk, hpr]
    refine ⟨h0, ?_, ?_⟩
    · unfold parF; rw [hP, List.map_map]; exact List.map_id' p
    · unfold parD; rw [hP, List.map_map]; rfl
end Go.Proofs.YtinfeglhjmnlaaaDoor.pm
namespace Go.Proofs.YtinfeglhjmnlaaaDoor.pm
open Go.RowKit
set_option linter.unusedVariables false
set_option maxRecDepth 10000

theorem shp_opS : ∀ o : Nat, o < 25 → (opS (o : Int) < 1 → (shp o).1 = 0) ∧ (opS (o : Int) < 2 → (shp o).2.1 = 0) ∧ (opS (o : Int) < 3 → (shp o).2.2.1 = 0) ∧ immB (o : Int) = (shp o).2.2.2 := by decide
/-- the immediates are words -/
def PrI (p : List Fn) : Prop := ∀ f ∈ p, ∀ x ∈ f.code, 0 ≤ x.imm ∧ x.imm < 18446744073709551616
theorem opd_rng {nf ns nc k : Nat} {prm n : Int} (hk : k < 7) (hb : badK k n = false) (ho : outK nf prm ns nc k n = false) (ht : tgtK nf prm ns nc k n = false) (h1 : nf ≤ 80) (h2 : prm ≤ 8) (h3 : ns ≤ 512) (h4 : nc ≤ 1024) : 0 ≤ n ∧ n ≤ 2147483647 := by
  have : k = 0 ∨ k = 1 ∨ k = 2 ∨ k = 3 ∨ k = 4 ∨ k = 5 ∨ k = 6 := by omega
  rcases this with rfl | rfl | rfl | rfl | rfl | rfl | rfl
  · have hz : n = 0 := by simpa [badK] using hb
    omega
  all_goals
    clear hb
    simp [outK, tgtK, lim, lims, inB] at ho ht
    omega
theorem instr_eis {nf nc : Nat} {prm : Int} {sl : List (Int × Int)} {x : Ins} (h : instrE nf prm sl nc x = 0) (hi : 0 ≤ x.imm ∧ x.imm < 18446744073709551616) (h1 : nf ≤ 80) (h2 : prm ≤ 8) (h3 : sl.length ≤ 512) (h4 : nc ≤ 1024) : EIS x := by
  unfold instrE at h
  split at h
  · cases h
  rename_i g0
  split at h
  · cases h
  rename_i g1
  split at h
  · cases h
  rename_i g2
  split at h
  · cases h
  rename_i g3
  split at h
  · cases h
  rename_i g4
  split at h
  · cases h
  rename_i g5
  have hop := inB_t.1 (by simpa using g0)
  obtain ⟨op, a, b, c, im⟩ := x
  simp only at *
  obtain ⟨o, rfl⟩ := Int.eq_ofNat_of_zero_le hop.1
  have ho : o < 25 := by omega
  have hs := shp_opS o ho
  have hl := shp_lt o
  simp only [Int.toNat_natCast, Bool.or_eq_true, not_or, Bool.not_eq_true] at g1 g2 g3 g5
  obtain ⟨⟨b1, b2⟩, b3⟩ := g1
  obtain ⟨⟨o1, o2⟩, o3⟩ := g3
  obtain ⟨⟨t1, t2⟩, t3⟩ := g5
  have z : ∀ {k : Nat} {n : Int}, badK k n = false → k = 0 → n = 0 := fun {k n} h hk => by subst hk; simpa [badK] using h
  refine ⟨hop, opd_rng hl.1 b1 o1 t1 h1 h2 h3 h4, opd_rng hl.2.1 b2 o2 t2 h1 h2 h3 h4, opd_rng hl.2.2 b3 o3 t3 h1 h2 h3 h4, hi, fun k => z b1 (hs.1 k), fun k => z b2 (hs.2.1 k), fun k => z b3 (hs.2.2.1 k), fun k => ?_⟩
  have hk : immB (o : Int) = false := k
  rw [hs.2.2.2] at hk
  rw [hk] at g2
  simpa using g2
theorem powS_ex {al : Int} (h : powB al = true) : ∃ k, k ≤ 24 ∧ al = ((2 ^ k : Nat) : Int) := powB_ex h
theorem func_efs {nf : Nat} {f : Fn} (h : funcE nf f = 0) (hi : ∀ x ∈ f.code, 0 ≤ x.imm ∧ x.imm < 18446744073709551616) (hn : nf ≤ 80) : EFS f := by
  unfold funcE at h
  split at h
  · cases h
  rename_i g0
  split at h
  · rename_i g1; exact absurd h g1
  rename_i g1
  split at h
  · cases h
  rename_i g2
  split at h
  · rename_i g3; exact absurd h g3
  rename_i g3
  have g1' : slotsE f.slots = 0 := by simpa using g1
  unfold slotsE at g1'
  split at g1'
  · cases g1'
  rename_i s0
  split at g1'
  · rename_i s1
    have hp := inB_t.1 (by simpa using g2)
    have g3' : firstE (f.code.map (instrE nf f.params f.slots f.code.length)) = 0 := by simpa using g3
    refine ⟨by omega, by omega, fun s hs => ?_, by omega, fun x hx => ?_⟩
    · have := List.all_eq_true.1 s1 s hs
      rw [Bool.and_eq_true] at this
      have h1 := (sizeB_iff s.1).1 this.1
      exact ⟨by omega, powS_ex this.2⟩
    · exact instr_eis (firstE_mem g3' _ (List.mem_map.2 ⟨x, hx, rfl⟩)) (hi x hx) hn (by omega) (by omega) (by omega)
  · cases g1'
theorem prog_efs {p : List Fn} (h : progE p = 0) (hi : PrI p) : p.length ≤ 80 ∧ ∀ f ∈ p, EFS f := by
  unfold progE at h
  split at h
  · cases h
  rename_i g0
  split at h
  · cases h
  split at h
  · cases h
  refine ⟨by omega, fun f hf => func_efs (firstE_mem h _ (List.mem_map.2 ⟨f, hf, rfl⟩)) (hi f hf) (by omega)⟩
section
variable {p : List Fn} {f : Fn} {x : Ins} {b : List Nat}
theorem mem_take3 {a b c v : Int} {k : Nat} (h : v ∈ ([a, b, c].take k)) : v = a ∨ v = b ∨ v = c := by
  have := List.mem_of_mem_take h
  simpa using this
theorem encIS_bytes (h : EIS x) : ∀ y ∈ encIS x, y < 256 := by
  intro y hy
  have h1 := h.op
  have h2 := h.a
  have h3 := h.b
  have h4 := h.c
  have h5 := h.im
  unfold encIS at hy
  rcases List.mem_cons.1 hy with h | hy
  · omega
  rcases List.mem_append.1 hy with hy | hy
  · obtain ⟨v, hv, hy⟩ := List.mem_flatMap.1 hy
    obtain ⟨u, hu, rfl⟩ := List.mem_map.1 hv
    have := mem_take3 hu
    exact put_lt _ (by omega) y hy
  · split at hy
    · exact put_lt _ (by omega) y hy
    · cases hy
theorem encSl_bytes {s : Int × Int} (h : ESl s) : ∀ y ∈ encSl s, y < 256 := by
  intro y hy
  obtain ⟨h1, k, hk, h2⟩ := h
  unfold encSl at hy
  rw [h2, Int.toNat_natCast, Nat.log2_two_pow] at hy
  rcases List.mem_append.1 hy with hy | hy
  · exact put_lt _ (by omega) y hy
  · exact put_lt _ (by omega) y hy
theorem descS_bytes (h : EFS f) : ∀ y ∈ descS f, y < 256 := by
  intro y hy
  obtain ⟨h1, h2, h3, h4, h5⟩ := h
  unfold descS at hy
  simp only [List.mem_append, List.mem_flatMap] at hy
  rcases hy with hy | hy | ⟨s, hs, hy⟩ | hy | ⟨x, hx, hy⟩
  · exact put_lt _ (by omega) y hy
  · exact put_lt _ (by omega) y hy
  · exact encSl_bytes (h3 s hs) y hy
  · exact put_lt _ (by omega) y hy
  · exact encIS_bytes (h5 x hx) y hy
theorem encIS_len (x : Ins) : 1 ≤ (encIS x).length ∧ (encIS x).length ≤ 41 := by
  unfold encIS
  have h2 : (if immB x.op = true then put x.imm.toNat else []).length ≤ 10 := by
    split
    · exact (put_len _).2
    · simp
  have h1 : ∀ l : List Nat, l.length ≤ 3 → (l.flatMap put).length ≤ 30 := by
    intro l hl
    match l, hl with
    | [], _ => simp
    | [a], _ => have := (put_len a).2; simp; omega
    | [a, b], _ => have := (put_len a).2; have := (put_len b).2; simp; omega
    | [a, b, c], _ => have := (put_len a).2; have := (put_len b).2; have := (put_len c).2; simp; omega
  have h3 := h1 (([x.a, x.b, x.c].take (opS x.op)).map Int.toNat) (by simp; omega)
  simp only [List.length_cons, List.length_append]
  omega
theorem flat_le {α : Type} {g : α → List Nat} {k : Nat} (l : List α) (h : ∀ x ∈ l, (g x).length ≤ k) : (l.flatMap g).length ≤ k * l.length := by
  induction l with
  | nil => simp
  | cons x l ih =>
    have h1 := h x (by simp)
    have h2 := ih (fun y hy => h y (by simp [hy]))
    simp only [List.flatMap_cons, List.length_append, List.length_cons, Nat.mul_succ]
    omega
theorem encSl_len (s : Int × Int) : (encSl s).length ≤ 20 := by
  have h1 := (put_len s.1.toNat).2
  have h2 := (put_len (Nat.log2 s.2.toNat)).2
  unfold encSl
  simp only [List.length_append]
  omega
theorem descS_len {m s : Nat} (hs : f.slots.length ≤ s) (hm : f.code.length ≤ m) : (descS f).length ≤ 30 + 20 * s + 41 * m := by
  have h1 := (put_len f.params.toNat).2
  have h2 := (put_len f.slots.length).2
  have h3 := (put_len f.code.length).2
  have h4 := flat_le f.slots (fun s _ => encSl_len s)
  have h5 := flat_le f.code (fun x _ => (encIS_len x).2)
  have h6 := Nat.mul_le_mul_left 20 hs
  have h7 := Nat.mul_le_mul_left 41 hm
  unfold descS
  simp only [List.length_append]
  omega
theorem encFS_len {m s : Nat} (hs : f.slots.length ≤ s) (hm : f.code.length ≤ m) : (encFS (descS f)).length ≤ 40 + 20 * s + 41 * m := by
  have h1 := descS_len hs hm
  have h2 := (put_len (descS f).length).2
  unfold encFS
  simp only [List.length_append]
  omega
theorem bodyS_len {m s : Nat} (h : ∀ f ∈ p, f.slots.length ≤ s ∧ f.code.length ≤ m) : (bodyS p).length ≤ 14 + (40 + 20 * s + 41 * m) * p.length := by
  have h1 := (put_len p.length).2
  have h2 := flat_le (g := fun f => encFS (descS f)) (k := 40 + 20 * s + 41 * m) p (fun f hf => encFS_len (h f hf).1 (h f hf).2)
  unfold bodyS mgS
  simp only [List.length_append, List.length_cons, List.length_nil]
  omega
theorem bodyS_bytes (h1 : p.length ≤ 80) (h : ∀ f ∈ p, EFS f) : ∀ y ∈ bodyS p, y < 256 := by
  intro y hy
  unfold bodyS at hy
  simp only [List.mem_append, List.mem_flatMap] at hy
  rcases hy with hy | hy | ⟨f, hf, hy⟩
  · simp [mgS] at hy; omega
  · exact put_lt _ (by omega) y hy
  · unfold encFS at hy
    have hd := descS_len (h f hf).ns (h f hf).nc
    rcases List.mem_append.1 hy with hy | hy
    · exact put_lt _ (by omega) y hy
    · exact descS_bytes (h f hf) y hy
theorem senE_zero (h : senE p = 0) : progE p = 0 ∧ (bodyS p).length + 4 ≤ 1048576 := by
  unfold senE at h
  split at h
  · exact absurd h ‹_›
  rename_i h1
  split at h
  · cases h
  exact ⟨by simpa using h1, by omega⟩
theorem senE_ok (h : progE p = 0) (hl : (bodyS p).length + 4 ≤ 1048576) : senE p = 0 := by unfold senE; rw [if_neg (by simpa using h), if_neg (by omega)]
theorem senB_eq (h : senE p = 0) : senB p = sealL (bodyS p) := by unfold senB; rw [if_pos h]
theorem sen_bytes (hi : PrI p) : ∀ y ∈ senB p, y < 256 := by
  intro y hy
  by_cases h : senE p = 0
  · have hz := senE_zero h
    have he := prog_efs hz.1 hi
    rw [senB_eq h] at hy
    exact sealL_bytes (bodyS_bytes he.1 he.2) y hy
  · unfold senB at hy; rw [if_neg h] at hy; cases hy
theorem par_desc (hb : ∀ x ∈ b, x < 256) (h0 : parE b = 0) : parD b = (parF b).map descS := by
  have hP : parP b = (progS (b.take (b.length - 4))).1 := by unfold parP; rw [if_pos h0]
  have h0' := h0
  unfold parE at h0'
  split at h0'
  · cases h0'
  split at h0'
  · cases h0'
  split at h0'
  · have hps : progS (b.take (b.length - 4)) = ((progS (b.take (b.length - 4))).1, 0) := Prod.ext rfl h0'
    have hlt : (b.take (b.length - 4)).length = b.length - 4 := by simp
    have g := (progS_iff (fun x hx => hb x (List.mem_of_mem_take hx)) (by omega) (by omega)).1 hps
    rw [← hP] at g
    unfold parD parF
    rw [List.map_map]
    exact List.map_congr_left (fun fd hfd => (g.1.2 fd hfd).2)
  · cases h0'
/-- a program comes back from its bytes -/
theorem dec_sen (hi : PrI p) (h : senE p = 0) : parE (senB p) = 0 ∧ parF (senB p) = p ∧ parD (senB p) = p.map descS ∧ decS (senB p) = 0 := by
  have hz := senE_zero h
  have he := prog_efs hz.1 hi
  have := (par_iff (p := p) (sen_bytes hi)).2 ⟨he, senB_eq h, by rw [senB_eq h, sealL_len]; omega⟩
  refine ⟨this.1, this.2.1, this.2.2, ?_⟩
  unfold decS
  rw [if_neg (by simpa using this.1), this.2.1, hz.1]
/-- bytes that decode are the program's bytes -/
theorem sen_dec (hb : ∀ x ∈ b, x < 256) (h : decS b = 0) : PrI (parF b) ∧ senE (parF b) = 0 ∧ senB (parF b) = b := by
  have h0 : parE b = 0 := by
    unfold decS at h
    split at h
    · rename_i g; exact absurd (by exact_mod_cast h) g
    · rename_i g; simpa using g
  have h1 : progE (parF b) = 0 := by unfold decS at h; rw [if_neg (by simpa using h0)] at h; exact h
  have := (par_iff (p := parF b) hb).1 ⟨h0, rfl, par_desc hb h0⟩
  obtain ⟨h2, h3, h4⟩ := this
  have h5 : senE (parF b) = 0 := senE_ok h1 (by have := congrArg List.length h3; rw [sealL_len] at this; omega)
  exact ⟨fun f hf x hx => ((h2.2 f hf).ins x hx).im, h5, by rw [senB_eq h5, ← h3]⟩
/-- a changed byte is found -/
theorem sen_changed (hi : PrI p) (h : senE p = 0) {k y : Nat} (hk : k < (senB p).length) (hy : y < 256) (hne : y ≠ (senB p)[k]) : parE ((senB p).set k y) = 2 ∧ decS ((senB p).set k y) = 2 := by
  have hz := senE_zero h
  have he := prog_efs hz.1 hi
  have hb := bodyS_bytes he.1 he.2
  have hge := bodyS_ge p
  have hp : parE ((senB p).set k y) = 2 := by
    revert hk hne
    rw [senB_eq h]
    intro hk hne
    have hl := sealL_len (bodyS p)
    unfold parE
    rw [List.length_set, if_neg (by omega), if_neg (by omega), if_neg]
    rintro ⟨-, h2⟩
    exact set_seal hb hk hy hne h2.symm
  exact ⟨hp, by unfold decS; rw [if_pos (by rw [hp]; decide), hp]; rfl⟩
theorem pr_pri {most : Nat} (h : PrOk most p) : PrI p := fun f hf x hx => by
  obtain ⟨-, -, -, h4⟩ := h
  have hv := (h4 f hf).2.2.2.2.2.2.1 x hx
  rcases hv with ⟨_, hv⟩ | ⟨a, b0, b1⟩ | ⟨a, c, b0, b1, b2, b3⟩
  · cases hv <;> simp <;> omega
  · simp
  · simp
/-- what is drawn can be written -/
theorem drawn_sen {most : Nat} (h : PrOk most p) (hm : most ≤ 12) : senE p = 0 ∧ PrI p ∧ (senB p).length ≤ 600000 ∧ 9 ≤ (senB p).length := by
  have h0 := pr_okE h (by omega)
  have hi := pr_pri h
  obtain ⟨h1, h2, h3, h4⟩ := h
  have hl := bodyS_len (p := p) (s := 6) (m := 200) (fun f hf => ⟨(h4 f hf).2.2.1, (h4 f hf).2.2.2.2.2.1⟩)
  have hle : (40 + 20 * 6 + 41 * 200) * p.length ≤ 8360 * 12 := Nat.mul_le_mul (by decide) (by omega)
  have hs := senE_ok h0 (by omega)
  have hge := bodyS_ge p
  refine ⟨hs, hi, ?_, ?_⟩
  · rw [senB_eq hs, sealL_len]; omega
  · rw [senB_eq hs, sealL_len]; omega
end
end Go.Proofs.YtinfeglhjmnlaaaDoor.pm
