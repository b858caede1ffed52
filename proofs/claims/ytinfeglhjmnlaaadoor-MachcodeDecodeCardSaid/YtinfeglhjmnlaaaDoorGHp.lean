/- Reading a varint, as a plain function on lists of numbers below 256. -/
import Derived.Test.YtinfeglhjmnlaaaDoorGPu
import Derived.Test.YtinfeglhjmnlaaaDoorGKa
import Derived.Test.YtinfeglhjmnlaaaDoorGCr
import Derived.Test.YtinfeglhjmnlaaaDoorGKe
namespace Go.Proofs.YtinfeglhjmnlaaaDoor

def rdF : Nat → List Nat → Nat → Nat → Nat → Nat × Nat × Nat
  | 0, _, _, _, _ => (0, 0, 2)
  | f + 1, l, p, k, v =>
    if p < l.length then
      if 128 ≤ l.getD p 0 then rdF f l (p + 1) (k + 1) (v + l.getD p 0 % 128 * 128 ^ k)
      else if (k = 9 ∧ 1 < l.getD p 0) ∨ (0 < k ∧ l.getD p 0 = 0) then (0, 0, 2) else (v + l.getD p 0 * 128 ^ k, p + 1, 0)
    else (0, 0, 1)
def rdU (l : List Nat) (x : Int) : Nat × Nat × Nat := if 0 ≤ x ∧ x ≤ l.length then rdF 10 l x.toNat 0 0 else (0, 0, 1)
/-- the int of a zigzag number -/
def uz (v : Nat) : Int := if v % 2 = 0 then ((v / 2 : Nat) : Int) else -((v / 2 : Nat) : Int) - 1

theorem and127 : ∀ x, x < 256 → x &&& 127 = x % 128 := by decide +kernel

section
variable {f : Nat} {l : List Nat} {p k v c : Nat}
theorem rdF_short (hp : ¬ p < l.length) : rdF (f + 1) l p k v = (0, 0, 1) := by simp [rdF, hp]
theorem rdF_big (hp : p < l.length) (hc : l.getD p 0 = c) (h : 128 ≤ c) : rdF (f + 1) l p k v = rdF f l (p + 1) (k + 1) (v + c % 128 * 128 ^ k) := by
  subst hc
  simp only [rdF]
  rw [if_pos hp, if_pos h]
theorem rdF_bad (hp : p < l.length) (hc : l.getD p 0 = c) (h : ¬ 128 ≤ c) (hb : (k = 9 ∧ 1 < c) ∨ (0 < k ∧ c = 0)) : rdF (f + 1) l p k v = (0, 0, 2) := by
  subst hc
  simp only [rdF]
  rw [if_pos hp, if_neg h, if_pos hb]
theorem rdF_ok (hp : p < l.length) (hc : l.getD p 0 = c) (h : ¬ 128 ≤ c) (hb : ¬ ((k = 9 ∧ 1 < c) ∨ (0 < k ∧ c = 0))) : rdF (f + 1) l p k v = (v + c * 128 ^ k, p + 1, 0) := by
  subst hc
  simp only [rdF]
  rw [if_pos hp, if_neg h, if_neg hb]
end
theorem pow_128 (k : Nat) : 2 ^ (7 * k) = 128 ^ k := by rw [Nat.pow_mul]
theorem pow_128_le {k m : Nat} (h : k ≤ m) : 128 ^ k ≤ 128 ^ m := Nat.pow_le_pow_right (by decide) h
theorem or_shift (u k c : Nat) (hu : u < 128 ^ k) (h : c * 128 ^ k < 18446744073709551616) (hu64 : u < 18446744073709551616) :
    bits .or .u64 (u : Int) (IntKind.u64.wrap ((c : Int) * 2 ^ (7 * k))) = ((u + c * 128 ^ k : Nat) : Int) := by
  have e : (c : Int) * 2 ^ (7 * k) = ((c * 128 ^ k : Nat) : Int) := by
    rw [← pow_128]
    simp
  have e2 : IntKind.u64.wrap ((c : Int) * 2 ^ (7 * k)) = ((c * 128 ^ k : Nat) : Int) := by
    rw [e, IntKind.wrap_u64]
    omega
  rw [e2, u64_or_nat _ _ hu64 h, Nat.or_comm, nat_join (7 * k) (c * 128 ^ k) u (by rw [pow_128]; simp) (by rw [pow_128]; exact hu)]
  congr 1
  omega

theorem rdF_lt (f : Nat) (l : List Nat) (p k v : Nat) (hf : k + f = 10) (hv : k ≤ 9 → v < 128 ^ k) : (rdF f l p k v).1 < 18446744073709551616 := by
  induction f generalizing p k v with
  | zero => simp [rdF]
  | succ f ih =>
    have hk : k ≤ 9 := by omega
    have hv := hv hk
    by_cases hp : p < l.length
    · by_cases hc : 128 ≤ l.getD p 0
      · rw [rdF_big hp rfl hc]
        refine ih _ _ _ (by omega) fun h => ?_
        rw [Nat.pow_succ]
        have h2 : l.getD p 0 % 128 * 128 ^ k ≤ 127 * 128 ^ k := Nat.mul_le_mul_right _ (by omega)
        omega
      · by_cases hb : (k = 9 ∧ 1 < l.getD p 0) ∨ (0 < k ∧ l.getD p 0 = 0)
        · rw [rdF_bad hp rfl hc hb]; decide
        · rw [rdF_ok hp rfl hc hb]
          show v + l.getD p 0 * 128 ^ k < 18446744073709551616
          rcases Nat.lt_or_ge k 9 with h9 | h9
          · have h1 := pow_128_le (show k ≤ 8 by omega)
            have h2 : l.getD p 0 * 128 ^ k ≤ 127 * 128 ^ k := Nat.mul_le_mul_right _ (by omega)
            have h3 : 128 ^ 8 = 72057594037927936 := by decide
            omega
          · have hk9 : k = 9 := by omega
            subst hk9
            have h2 : l.getD p 0 * 128 ^ 9 ≤ 1 * 128 ^ 9 := Nat.mul_le_mul_right _ (by omega)
            have h3 : 128 ^ 9 = 9223372036854775808 := by decide
            omega
    · rw [rdF_short hp]; decide
theorem rdU_lt (l : List Nat) (x : Int) : (rdU l x).1 < 18446744073709551616 := by
  unfold rdU
  split
  · exact rdF_lt 10 l _ 0 0 (by omega) (by simp)
  · decide
theorem xor_m1 (a : Nat) (h : a < 9223372036854775808) : bits .xor .i64 (a : Int) (-1) = -(a : Int) - 1 := by
  show IntKind.i64.wrap ((BitVec.ofInt 64 (a : Int) ^^^ BitVec.ofInt 64 (-1)).toNat : Int) = _
  have e1 : (BitVec.ofInt 64 (a : Int)).toNat = a := by
    rw [BitVec.ofInt_natCast, BitVec.toNat_ofNat]; exact Nat.mod_eq_of_lt (by omega)
  have e2 : (BitVec.ofInt 64 (-1)).toNat = 18446744073709551615 := by decide
  rw [BitVec.toNat_xor, e1, e2, Nat.xor_comm, not_nat64 _ (by omega), IntKind.wrap_i64]
  omega
theorem xor_0 (a : Nat) (h : a < 9223372036854775808) : bits .xor .i64 (a : Int) 0 = (a : Int) := by
  show IntKind.i64.wrap ((BitVec.ofInt 64 (a : Int) ^^^ BitVec.ofInt 64 0).toNat : Int) = _
  have e1 : (BitVec.ofInt 64 (a : Int)).toNat = a := by
    rw [BitVec.ofInt_natCast, BitVec.toNat_ofNat]; exact Nat.mod_eq_of_lt (by omega)
  have e2 : (BitVec.ofInt 64 0).toNat = 0 := by decide
  rw [BitVec.toNat_xor, e1, e2, Nat.xor_zero, IntKind.wrap_i64]
  omega
theorem u64_and1 (c : Nat) (h : c < 18446744073709551616) : bits .and .u64 (c : Int) 1 = ((c % 2 : Nat) : Int) := by
  have := u64_and_nat c 1 h (by decide)
  rw [nat_mask1] at this
  exact this
theorem uz_zz (v : Int) : uz (zz v) = v := by
  unfold uz zz
  by_cases h : 0 ≤ v
  · rw [if_pos h, if_pos (by omega)]; omega
  · rw [if_neg h, if_neg (by omega)]; omega
end Go.Proofs.YtinfeglhjmnlaaaDoor
namespace Go.Proofs.YtinfeglhjmnlaaaDoor

theorem rdF_err (f : Nat) (l : List Nat) (p k v : Nat) (h : (rdF f l p k v).2.2 ≠ 0) : (rdF f l p k v).1 = 0 ∧ (rdF f l p k v).2.1 = 0 := by
  induction f generalizing p k v with
  | zero => simp [rdF]
  | succ f ih =>
    by_cases hp : p < l.length
    · by_cases hc : 128 ≤ l.getD p 0
      · rw [rdF_big hp rfl hc] at h ⊢
        exact ih _ _ _ h
      · by_cases hb : (k = 9 ∧ 1 < l.getD p 0) ∨ (0 < k ∧ l.getD p 0 = 0)
        · rw [rdF_bad hp rfl hc hb]; simp
        · rw [rdF_ok hp rfl hc hb] at h
          simp at h
    · rw [rdF_short hp]; simp
theorem rdU_err (l : List Nat) (x : Int) (h : (rdU l x).2.2 ≠ 0) : (rdU l x).1 = 0 ∧ (rdU l x).2.1 = 0 := by
  unfold rdU at h ⊢
  by_cases hx : 0 ≤ x ∧ x ≤ l.length
  · rw [if_pos hx] at h ⊢; exact rdF_err _ _ _ _ _ h
  · rw [if_neg hx]; simp
theorem drop_cons_getD (l : List Nat) (p : Nat) (h : p < l.length) : l.drop p = l.getD p 0 :: l.drop (p + 1) := by
  rw [List.drop_eq_getElem_cons h, List.getD_eq_getElem?_getD, List.getElem?_eq_getElem h]; rfl
theorem rdF_put (f : Nat) (l : List Nat) (p k v r q : Nat) (hf : k + f = 10) (hl : ∀ x ∈ l, x < 256) (h : rdF f l p k v = (r, q, 0)) :
    ∃ hi, r = v + hi * 128 ^ k ∧ p < q ∧ q ≤ l.length ∧ putF (9 - k) hi = (l.drop p).take (q - p) ∧ (0 < k → hi ≠ 0) := by
  induction f generalizing p k v with
  | zero => simp [rdF] at h
  | succ f ih =>
    by_cases hp : p < l.length
    · have hd := drop_cons_getD l p hp
      have hc256 : l.getD p 0 < 256 := by
        rw [List.getD_eq_getElem?_getD, List.getElem?_eq_getElem hp]
        exact hl _ (List.getElem_mem hp)
      by_cases hc : 128 ≤ l.getD p 0
      · rw [rdF_big hp rfl hc] at h
        have hf0 : f ≠ 0 := by rintro rfl; simp [rdF] at h
        obtain ⟨hi, hr, hpq, hql, hput, hnz⟩ := ih (p + 1) (k + 1) _ (by omega) h
        have hnz := hnz (by omega)
        refine ⟨l.getD p 0 % 128 + 128 * hi, ?_, by omega, hql, ?_, fun _ => by omega⟩
        · rw [hr, Nat.pow_succ, Nat.add_mul, Nat.add_assoc]
          congr 2
          rw [Nat.mul_comm 128 hi, Nat.mul_assoc, Nat.mul_comm 128]
        · obtain ⟨g, hg⟩ : ∃ g, 9 - k = g + 1 := ⟨8 - k, by omega⟩
          rw [hg, putF_big g _ (by omega), show (l.getD p 0 % 128 + 128 * hi) / 128 = hi by omega, show (l.getD p 0 % 128 + 128 * hi) % 128 + 128 = l.getD p 0 by omega]
          rw [show 9 - (k + 1) = g by omega] at hput
          rw [hput, hd, show q - p = (q - (p + 1)) + 1 by omega, List.take_succ_cons]
      · by_cases hb : (k = 9 ∧ 1 < l.getD p 0) ∨ (0 < k ∧ l.getD p 0 = 0)
        · rw [rdF_bad hp rfl hc hb] at h; simp at h
        · rw [rdF_ok hp rfl hc hb] at h
          simp only [Prod.mk.injEq, and_true] at h
          obtain ⟨rfl, rfl⟩ := h
          refine ⟨l.getD p 0, rfl, by omega, by omega, ?_, fun h0 hz => hb (.inr ⟨h0, hz⟩)⟩
          rw [putF_small _ _ (by omega), hd, show p + 1 - p = 1 by omega]
          simp
    · rw [rdF_short hp] at h; simp at h
/-- what is read is the shortest -/
theorem rdU_put (l : List Nat) (hl : ∀ x ∈ l, x < 256) (r q : Nat) (h : rdU l 0 = (r, q, 0)) : 1 ≤ q ∧ q ≤ l.length ∧ put r = l.take q := by
  unfold rdU at h
  rw [if_pos (by omega)] at h
  obtain ⟨hi, hr, h1, h2, h3, _⟩ := rdF_put 10 l 0 0 0 r q rfl hl (by simpa using h)
  simp at hr h3
  subst hr
  exact ⟨by omega, h2, h3⟩
theorem rdF_of_put (g : Nat) (l rest : List Nat) (p k v hi : Nat) (hk : k + g = 9) (hh : hi < 2 * 128 ^ g) (hnz : 0 < k → hi ≠ 0) (hd : l.drop p = putF g hi ++ rest) :
    rdF (g + 1) l p k v = (v + hi * 128 ^ k, p + (putF g hi).length, 0) := by
  induction g generalizing p k v hi with
  | zero =>
    simp only [putF] at hd ⊢
    have hp : p < l.length := by
      rcases Nat.lt_or_ge p l.length with h | h
      · exact h
      · rw [List.drop_eq_nil_of_le h] at hd; simp at hd
    rw [drop_cons_getD l p hp] at hd
    simp at hd hh
    have hz := hnz (by omega)
    rw [rdF_ok hp hd.1 (by omega) (by omega)]
    simp
  | succ g ih =>
    have hp : p < l.length := by
      rcases Nat.lt_or_ge p l.length with h | h
      · exact h
      · rw [List.drop_eq_nil_of_le h] at hd
        have := (putF_len (g + 1) hi).1
        have h2 := congrArg List.length hd
        simp at h2
        omega
    by_cases hlt : hi < 128
    · rw [putF_small _ _ hlt] at hd ⊢
      rw [drop_cons_getD l p hp] at hd
      simp at hd
      rw [rdF_ok hp hd.1 (by omega) (by rintro (⟨h, _⟩ | ⟨h, hz⟩); omega; exact hnz h hz)]
      simp
    · rw [putF_big _ _ hlt] at hd ⊢
      rw [drop_cons_getD l p hp] at hd
      simp only [List.cons_append, List.cons.injEq] at hd
      rw [rdF_big hp hd.1 (by omega), ih (p + 1) (k + 1) _ (hi / 128) (by omega) (by rw [Nat.pow_succ] at hh; omega) (fun _ => by omega) hd.2]
      simp only [List.length_cons, Prod.mk.injEq, and_true]
      refine ⟨?_, by omega⟩
      rw [show (hi % 128 + 128) % 128 = hi % 128 by omega, Nat.pow_succ, Nat.add_assoc]
      congr 1
      have e : hi / 128 * (128 ^ k * 128) = 128 * (hi / 128) * 128 ^ k := by rw [Nat.mul_comm (128 ^ k) 128, ← Nat.mul_assoc, Nat.mul_comm (hi / 128) 128]
      rw [e, ← Nat.add_mul]
      congr 1
      omega
/-- a number comes back from its bytes -/
theorem rdU_of_put (l rest : List Nat) (v : Nat) (hv : v < 18446744073709551616) : rdU (l ++ put v ++ rest) (l.length : Nat) = (v, l.length + (put v).length, 0) := by
  unfold rdU
  rw [if_pos ⟨by omega, by simp; omega⟩]
  have h := rdF_of_put 9 (l ++ put v ++ rest) rest l.length 0 0 v rfl (by omega) (fun h => absurd h (by omega)) (by rw [List.append_assoc, List.drop_left]; rfl)
  simpa [put] using h
end Go.Proofs.YtinfeglhjmnlaaaDoor
namespace Go.Proofs.YtinfeglhjmnlaaaDoor.pm
open Go.RowKit
set_option linter.unusedVariables false
set_option maxRecDepth 10000

def M31 : Nat := 2147483647
def W64m : Nat := 18446744073709551615
def immB (op : Int) : Bool := op == 0 || op == 24
/-- how many operands machcode reads and writes -/
def opM (op : Int) : Nat := if op = 0 ∨ op = 13 ∨ op = 14 ∨ op = 20 ∨ op = 22 then 1 else if op = 23 ∨ op = 24 then 0 else if op = 1 ∨ op = 12 ∨ op = 21 then 2 else 3
def opF (st : Bool) (op : Int) : Nat := if st then opN op else opM op
theorem opM_eq {op : Int} (h : 0 ≤ op ∧ op < 25 ∧ op ≠ 18 ∧ op ≠ 19) : opM op = opN op := by
  unfold opM opN
  repeat' split
  all_goals omega
theorem opF_eq {op : Int} (st : Bool) (h : 0 ≤ op ∧ op < 25 ∧ op ≠ 18 ∧ op ≠ 19) : opF st op = opN op := by
  unfold opF
  cases st
  · exact opM_eq h
  · rfl
/-- the bytes of an instruction -/
def encI (x : Ins) : List Nat := x.op.toNat :: ((if 1 ≤ opN x.op then put x.a.toNat else []) ++ ((if 2 ≤ opN x.op then put x.b.toNat else []) ++ ((if 3 ≤ opN x.op then put x.c.toNat else []) ++ (if immB x.op then put x.imm.toNat else []))))
def encC (c : List Ins) : List Nat := c.flatMap encI
def headF (al : Int) (f : Fr) : List Nat := put f.params.toNat ++ put (f.size / al).toNat ++ put f.code.length
def encF (al : Int) (f : Fr) : List Nat := headF al f ++ encC f.code
def mgT : List Nat := [70, 82, 77, 49]
def headT (al bd : Int) (n : Nat) : List Nat := mgT ++ put (Nat.log2 al.toNat) ++ put bd.toNat ++ put n
def bodyT (al bd : Int) (t : List Fr) : List Nat := headT al bd t.length ++ t.flatMap (encF al)
def crc4 (l : List Nat) : List Nat := [crc l / 16777216 % 256, crc l / 65536 % 256, crc l / 256 % 256, crc l % 256]
def sealL (l : List Nat) : List Nat := l ++ crc4 l
/-- the error of an encoding -/
def encE (al bd : Int) (t : List Fr) : Int := if tgE al t ≠ 0 then tgE al t else if bd < 0 ∨ 2147483647 < bd then 4 else if 1048576 < (bodyT al bd t).length + 4 then 3 else 0
def encB (al bd : Int) (t : List Fr) : List Nat := if encE al bd t = 0 then sealL (bodyT al bd t) else []

/-- a number up to a limit -/
def pU (l : List Nat) (lim p : Nat) : Option (Nat × Nat) := if (rdU l (p : Int)).2.2 = 0 ∧ (rdU l (p : Int)).1 ≤ lim then some ((rdU l (p : Int)).1, (rdU l (p : Int)).2.1) else none
def pA (l : List Nat) (q : Bool) (lim p : Nat) : Option (Nat × Nat) := if q then pU l lim p else some (0, p)
def pB (l : List Nat) (k o p : Nat) : Option (Ins × Nat) :=
  (pA l (decide (1 ≤ k)) M31 p).bind fun r1 => (pA l (decide (2 ≤ k)) M31 r1.2).bind fun r2 => (pA l (decide (3 ≤ k)) M31 r2.2).bind fun r3 =>
    (pA l (immB (o : Int)) W64m r3.2).bind fun r4 => some (⟨(o : Int), (r1.1 : Int), (r2.1 : Int), (r3.1 : Int), (r4.1 : Int)⟩, r4.2)
/-- an instruction; st: an operation that is not one is an error at once -/
def pI (st : Bool) (l : List Nat) (p : Nat) : Option (Ins × Nat) :=
  if p < l.length ∧ (st = true → l.getD p 0 < 25) then pB l (opF st ((l.getD p 0 : Nat) : Int)) (l.getD p 0) (p + 1) else none
def pC (st : Bool) (l : List Nat) : Nat → Nat → Option (List Ins × Nat)
  | 0, p => some ([], p)
  | n + 1, p => (pI st l p).bind fun r => (pC st l n r.2).bind fun q => some (r.1 :: q.1, q.2)
def pF (st : Bool) (l : List Nat) (al : Int) (p : Nat) : Option (Fr × Nat) :=
  (pU l 8 p).bind fun r1 => (pU l M31 r1.2).bind fun r2 => (pU l 1024 r2.2).bind fun r3 => (pC st l r3.1 r3.2).bind fun q => some (⟨(r1.1 : Int), al * (r2.1 : Int), q.1⟩, q.2)
def pFs (st : Bool) (l : List Nat) (al : Int) : Nat → Nat → Option (List Fr × Nat)
  | 0, p => some ([], p)
  | n + 1, p => (pF st l al p).bind fun r => (pFs st l al n r.2).bind fun q => some (r.1 :: q.1, q.2)
def pT (st : Bool) (l : List Nat) : Option (Int × Int × List Fr) :=
  (pU l 24 4).bind fun r1 => (pU l M31 r1.2).bind fun r2 => (pU l 80 r2.2).bind fun r3 => (pFs st l ((2 ^ r1.1 : Nat) : Int) r3.1 r3.2).bind fun q => some (((2 ^ r1.1 : Nat) : Int), (r2.1 : Int), q.1)
/-- what bytes stand for -/
def isT (l : List Nat) (al bd : Int) (t : List Fr) : Prop := pT false (l.take (l.length - 4)) = some (al, bd, t) ∧ encE al bd t = 0 ∧ encB al bd t = l

section
variable {al bd : Int} {t : List Fr} {l pre rest : List Nat} {v lim p o : Nat}
theorem pU_put (hv : v < 18446744073709551616) (hl : v ≤ lim) (hp : l = pre ++ put v ++ rest) (e : pre.length = p) : pU l lim p = some (v, p + (put v).length) := by
  subst hp
  subst e
  unfold pU
  rw [rdU_of_put pre rest v hv]
  rw [if_pos ⟨rfl, hl⟩]
theorem pA_put {q : Bool} (hv : v < 18446744073709551616) (hl : v ≤ lim) (hz : q = false → v = 0) (hp : l = pre ++ (if q then put v else []) ++ rest) (e : pre.length = p) : pA l q lim p = some (v, p + (if q then put v else []).length) := by
  unfold pA
  cases q with
  | false => simp [hz rfl]
  | true => exact pU_put (rest := rest) hv hl hp e
end
/-- the operands of an instruction that can be written -/
structure EI (x : Ins) : Prop where
  op : 0 ≤ x.op ∧ x.op < 25 ∧ x.op ≠ 18 ∧ x.op ≠ 19
  a : 0 ≤ x.a ∧ x.a ≤ 2147483647
  b : 0 ≤ x.b ∧ x.b ≤ 2147483647
  c : 0 ≤ x.c ∧ x.c ≤ 2147483647
  im : 0 ≤ x.imm ∧ x.imm < 18446744073709551616
  za : opN x.op < 1 → x.a = 0
  zb : opN x.op < 2 → x.b = 0
  zc : opN x.op < 3 → x.c = 0
  zi : immB x.op = false → x.imm = 0
theorem unB_ei {x : Ins} (h : unB x = false) : (opN x.op < 1 → x.a = 0) ∧ (opN x.op < 2 → x.b = 0) ∧ (opN x.op < 3 → x.c = 0) ∧ (immB x.op = false → x.imm = 0) := by
  unfold unB at h
  simp only [Bool.or_eq_false_iff, Bool.and_eq_false_iff, Bool.not_eq_false', decide_eq_false_iff_not, bne_eq_false_iff_eq] at h
  obtain ⟨⟨⟨h1, h2⟩, h3⟩, h4⟩ := h
  refine ⟨fun k => h4.resolve_left (fun q => q k), fun k => h3.resolve_left (fun q => q k), fun k => h2.resolve_left (fun q => q k), fun k => ?_⟩
  refine h1.resolve_right (fun q => ?_)
  unfold immB at k
  rw [k] at q
  cases q
end Go.Proofs.YtinfeglhjmnlaaaDoor.pm
namespace Go.Proofs.YtinfeglhjmnlaaaDoor.pm
open Go.RowKit
set_option linter.unusedVariables false
set_option maxRecDepth 10000

theorem lim_of {a n : Int} (h : 0 ≤ a ∧ a < n) (hn : n ≤ 2147483648) : 0 ≤ a ∧ a ≤ 2147483647 := by omega
theorem lim_of2 {a c sz : Int} (h : 0 ≤ a ∧ a + c ≤ sz) (h2 : 1 ≤ c) (hs : sz ≤ 2147483648) : 0 ≤ a ∧ a ≤ 2147483647 := by omega
theorem lim_of3 {a : Int} (h : a = 0) : 0 ≤ a ∧ a ≤ 2147483647 := by omega
theorem lim_of4 {c : Int} (h : 1 ≤ c ∧ c ≤ 16) : 0 ≤ c ∧ c ≤ 2147483647 := by omega
theorem opN_1 {op : Int} (g : 0 ≤ op ∧ op < 25 ∧ op ≠ 18 ∧ op ≠ 19) (h1 : ¬ (op ≤ 15 ∨ op = 21)) (h2 : ¬ (op = 16 ∨ op = 17)) (h3 : op ≠ 20) (h4 : op ≠ 22) : opN op < 1 := by
  have : op = 23 ∨ op = 24 := by omega
  rcases this with rfl | rfl <;> decide
theorem opN_2 {op : Int} (g : 0 ≤ op ∧ op < 25 ∧ op ≠ 18 ∧ op ≠ 19) (h1 : ¬ (op = 1 ∨ (2 ≤ op ∧ op ≤ 12) ∨ op = 16)) (h2 : ¬ (op = 15 ∨ op = 17)) (h3 : op ≠ 21) : opN op < 2 := by
  have : op = 0 ∨ op = 13 ∨ op = 14 ∨ op = 20 ∨ op = 22 ∨ op = 23 ∨ op = 24 := by omega
  rcases this with rfl | rfl | rfl | rfl | rfl | rfl | rfl <;> decide
theorem opN_3 {op : Int} (h1 : ¬ (2 ≤ op ∧ op ≤ 11)) (h2 : ¬ (op = 15 ∨ op = 16 ∨ op = 17)) : opN op < 3 := by
  unfold opN
  rw [if_neg (by omega)]
  repeat' split
  all_goals omega
theorem ei_of {nf nc : Nat} {prm sz : Int} {x : Ins} (h : inE nf prm sz nc x = 0) (hi : 0 ≤ x.imm ∧ x.imm < 18446744073709551616) (hp : prm ≤ 8) (hs : sz < 2147483520) (hn : nc ≤ 1024) (hf : nf ≤ 80) : EI x := by
  have g := inE_gx h
  have hu : unB x = false := by
    unfold inE at h
    split at h
    · cases h
    split at h
    · cases h
    · exact Bool.eq_false_iff.2 ‹_›
  obtain ⟨u1, u2, u3, u4⟩ := unB_ei hu
  clear h hu
  obtain ⟨op, a, b, c, im⟩ := x
  obtain ⟨go, gra, grb, grc, gsc, grd, gwr, gja, gjb, gca⟩ := g
  have hsz1 : sz ≤ 2147483648 := by clear gra grb grc gsc grd gwr gja gjb gca u1 u2 u3 u4; omega
  have hsz2 : sz + 16 * prm ≤ 2147483648 := by clear gra grb grc gsc grd gwr gja gjb gca u1 u2 u3 u4; omega
  have hnc : (nc : Int) ≤ 2147483648 := by clear gra grb grc gsc grd gwr gja gjb gca u1 u2 u3 u4; omega
  have hnf : (nf : Int) ≤ 2147483648 := by clear gra grb grc gsc grd gwr gja gjb gca u1 u2 u3 u4; omega
  refine ⟨go, ?_, ?_, ?_, hi, u1, u2, u3, u4⟩ <;> simp only at *
  · by_cases h1 : op ≤ 15 ∨ op = 21
    · exact lim_of (gra h1) (by decide)
    by_cases h2 : op = 16 ∨ op = 17
    · exact lim_of2 (gwr h2) (gsc (.inr h2)).2.1 hsz1
    by_cases h3 : op = 20
    · exact lim_of (gja h3) hnc
    by_cases h4 : op = 22
    · exact lim_of (gca h4) hnf
    · exact lim_of3 (u1 (opN_1 go h1 h2 h3 h4))
  · by_cases h1 : op = 1 ∨ (2 ≤ op ∧ op ≤ 12) ∨ op = 16
    · exact lim_of (grb h1) (by decide)
    by_cases h2 : op = 15 ∨ op = 17
    · exact lim_of2 (grd h2) (gsc (h2.elim .inl (fun h => .inr (.inr h)))).2.1 hsz2
    by_cases h3 : op = 21
    · exact lim_of (gjb h3) hnc
    · exact lim_of3 (u2 (opN_2 go h1 h2 h3))
  · by_cases h1 : 2 ≤ op ∧ op ≤ 11
    · exact lim_of (grc h1) (by decide)
    by_cases h2 : op = 15 ∨ op = 16 ∨ op = 17
    · exact lim_of4 (gsc h2).2
    · exact lim_of3 (u3 (opN_3 h1 h2))
section
variable {al bd : Int} {t : List Fr} {l pre rest : List Nat} {v lim p o : Nat} {x : Ins}
theorem nat_of {a : Int} {m : Nat} (h : 0 ≤ a ∧ a ≤ (m : Int)) : a.toNat ≤ m := by omega
theorem ite_dec (n : Nat) (k : Nat) (A B : List Nat) : (if n ≤ k then A else B) = (if decide (n ≤ k) = true then A else B) := by by_cases h : n ≤ k <;> simp [h]
theorem pI_enc (st : Bool) (h : EI x) (hl : l = pre ++ encI x ++ rest) (e : pre.length = p) : pI st l p = some (x, p + (encI x).length) := by
  obtain ⟨ho, ha, hb, hc, him, za, zb, zc, zi⟩ := h
  obtain ⟨op, a, b, c, im⟩ := x
  simp only at *
  obtain ⟨o, rfl⟩ := Int.eq_ofNat_of_zero_le ho.1
  have hF := opF_eq st ho
  have hl' : l = pre ++ (o :: ((if decide (1 ≤ opN (o : Int)) = true then put a.toNat else []) ++ ((if decide (2 ≤ opN (o : Int)) = true then put b.toNat else []) ++ ((if decide (3 ≤ opN (o : Int)) = true then put c.toNat else []) ++ (if immB (o : Int) = true then put im.toNat else []))))) ++ rest := by
    rw [hl]
    unfold encI
    simp only [ite_dec, Int.toNat_natCast]
  have hlen : (encI ⟨(o : Int), a, b, c, im⟩).length = 1 + ((if decide (1 ≤ opN (o : Int)) = true then put a.toNat else []).length + ((if decide (2 ≤ opN (o : Int)) = true then put b.toNat else []).length + ((if decide (3 ≤ opN (o : Int)) = true then put c.toNat else []).length + (if immB (o : Int) = true then put im.toNat else []).length))) := by
    unfold encI
    simp only [ite_dec, Int.toNat_natCast, List.length_cons, List.length_append]
    omega
  rw [hlen]
  clear hlen hl
  generalize hA : (if decide (1 ≤ opN (o : Int)) = true then put a.toNat else []) = A at *
  generalize hB : (if decide (2 ≤ opN (o : Int)) = true then put b.toNat else []) = B at *
  generalize hC : (if decide (3 ≤ opN (o : Int)) = true then put c.toNat else []) = C at *
  generalize hI : (if immB (o : Int) = true then put im.toNat else []) = I at *
  have hg : l.getD p 0 = o := by rw [hl', ← e]; simp [List.getD]
  have hp : p < l.length := by rw [hl', ← e]; simp
  unfold pI
  rw [if_pos ⟨hp, fun _ => by rw [hg]; omega⟩, hg, hF]
  unfold pB
  have e1 : pA l (decide (1 ≤ opN (o : Int))) M31 (p + 1) = some (a.toNat, p + 1 + A.length) := by
    rw [← hA]
    refine pA_put (pre := pre ++ [o]) (rest := B ++ (C ++ I) ++ rest) (by omega) (by unfold M31; omega) (fun q => ?_) ?_ (by simp [e] <;> omega)
    · have := za (by have := of_decide_eq_false q; omega)
      omega
    · rw [hA, hl']; simp
  rw [e1, Option.bind_some]
  have e2 : pA l (decide (2 ≤ opN (o : Int))) M31 (p + 1 + A.length) = some (b.toNat, p + 1 + A.length + B.length) := by
    rw [← hB]
    refine pA_put (pre := pre ++ [o] ++ A) (rest := C ++ I ++ rest) (by omega) (by unfold M31; omega) (fun q => ?_) ?_ (by simp [e] <;> omega)
    · have := zb (by have := of_decide_eq_false q; omega)
      omega
    · rw [hB, hl']; simp
  simp only
  rw [e2, Option.bind_some]
  have e3 : pA l (decide (3 ≤ opN (o : Int))) M31 (p + 1 + A.length + B.length) = some (c.toNat, p + 1 + A.length + B.length + C.length) := by
    rw [← hC]
    refine pA_put (pre := pre ++ [o] ++ A ++ B) (rest := I ++ rest) (by omega) (by unfold M31; omega) (fun q => ?_) ?_ (by simp [e] <;> omega)
    · have := zc (by have := of_decide_eq_false q; omega)
      omega
    · rw [hC, hl']; simp
  simp only
  rw [e3, Option.bind_some]
  have e4 : pA l (immB (o : Int)) W64m (p + 1 + A.length + B.length + C.length) = some (im.toNat, p + 1 + A.length + B.length + C.length + I.length) := by
    rw [← hI]
    refine pA_put (pre := pre ++ [o] ++ A ++ B ++ C) (rest := rest) (by omega) (by unfold W64m; omega) (fun q => ?_) ?_ (by simp [e] <;> omega)
    · have := zi q
      omega
    · rw [hI, hl']; simp
  simp only
  rw [e4, Option.bind_some]
  simp only
  rw [Int.toNat_of_nonneg ha.1, Int.toNat_of_nonneg hb.1, Int.toNat_of_nonneg hc.1, Int.toNat_of_nonneg him.1]
  refine congrArg some (Prod.ext rfl ?_)
  show _ = p + (1 + _)
  omega
theorem pC_enc (st : Bool) (c : List Ins) (h : ∀ x ∈ c, EI x) : ∀ (pre : List Nat) (p : Nat), l = pre ++ encC c ++ rest → pre.length = p → pC st l c.length p = some (c, p + (encC c).length) := by
  induction c with
  | nil => intro pre p hl e; simp [pC, encC]
  | cons x c ih =>
    intro pre p hl e
    have e1 := pI_enc (l := l) (pre := pre) (rest := encC c ++ rest) (p := p) st (h x (by simp)) (by rw [hl]; simp [encC]) e
    have e2 := ih (fun y hy => h y (by simp [hy])) (pre ++ encI x) (p + (encI x).length) (by rw [hl]; simp [encC]) (by simp [e] <;> omega)
    simp only [List.length_cons, pC, e1, Option.bind_some, e2]
    simp [encC, List.length_append, Nat.add_assoc]
/-- a frame that can be written -/
structure EF (al : Int) (f : Fr) : Prop where
  prm : 0 ≤ f.params ∧ f.params ≤ 8
  size : 0 ≤ f.size ∧ f.size ≤ 2147483647
  mult : f.size % al = 0
  nc : f.code.length ≤ 1024
  ins : ∀ x ∈ f.code, EI x
theorem div_le' {n m : Int} (hm : 1 ≤ m) (h0 : 0 ≤ n) : 0 ≤ n / m ∧ n / m ≤ n := ⟨Int.ediv_nonneg h0 (by omega), Int.ediv_le_self _ h0⟩
theorem pF_enc (st : Bool) {f : Fr} (hal : 1 ≤ al) (h : EF al f) (hl : l = pre ++ encF al f ++ rest) (e : pre.length = p) : pF st l al p = some (f, p + (encF al f).length) := by
  obtain ⟨h1, h2, h3, h4, h5⟩ := h
  have hd := div_le' hal h2.1
  have e1 : pU l 8 p = some (f.params.toNat, p + (put f.params.toNat).length) := pU_put (pre := pre) (rest := put (f.size / al).toNat ++ put f.code.length ++ encC f.code ++ rest) (by omega) (by omega) (by rw [hl]; simp [encF, headF]) e
  have e2 : pU l M31 (p + (put f.params.toNat).length) = some ((f.size / al).toNat, p + (put f.params.toNat).length + (put (f.size / al).toNat).length) := pU_put (pre := pre ++ put f.params.toNat) (rest := put f.code.length ++ encC f.code ++ rest) (by omega) (by unfold M31; omega) (by rw [hl]; simp [encF, headF]) (by simp [e] <;> omega)
  have e3 : pU l 1024 (p + (put f.params.toNat).length + (put (f.size / al).toNat).length) = some (f.code.length, p + (put f.params.toNat).length + (put (f.size / al).toNat).length + (put f.code.length).length) := pU_put (pre := pre ++ put f.params.toNat ++ put (f.size / al).toNat) (rest := encC f.code ++ rest) (by omega) (by omega) (by rw [hl]; simp [encF, headF]) (by simp [e] <;> omega)
  have e4 := pC_enc (l := l) (rest := rest) st f.code h5 (pre ++ put f.params.toNat ++ put (f.size / al).toNat ++ put f.code.length) _ (by rw [hl]; simp [encF, headF]) rfl
  have e5 : (pre ++ put f.params.toNat ++ put (f.size / al).toNat ++ put f.code.length).length = p + (put f.params.toNat).length + (put (f.size / al).toNat).length + (put f.code.length).length := by simp [e] <;> omega
  rw [e5] at e4
  unfold pF
  simp only [e1, e2, e3, e4, Option.bind_some]
  have hm : al * ((f.size / al).toNat : Int) = f.size := by
    rw [Int.toNat_of_nonneg hd.1]
    exact Int.mul_ediv_cancel' (Int.dvd_of_emod_eq_zero h3)
  obtain ⟨prm, sz, code⟩ := f
  simp only at *
  have hp : ((prm.toNat : Nat) : Int) = prm := by omega
  rw [hm, hp]
  simp [encF, headF, Nat.add_assoc]
theorem pFs_enc (st : Bool) (hal : 1 ≤ al) (t : List Fr) (h : ∀ f ∈ t, EF al f) : ∀ (pre : List Nat) (p : Nat), l = pre ++ t.flatMap (encF al) ++ rest → pre.length = p → pFs st l al t.length p = some (t, p + (t.flatMap (encF al)).length) := by
  induction t with
  | nil => intro pre p hl e; simp [pFs]
  | cons x c ih =>
    intro pre p hl e
    have e1 := pF_enc (l := l) (pre := pre) (rest := c.flatMap (encF al) ++ rest) (p := p) st hal (h x (by simp)) (by rw [hl]; simp) e
    have e2 := ih (fun y hy => h y (by simp [hy])) (pre ++ encF al x) (p + (encF al x).length) (by rw [hl]; simp) (by simp [e] <;> omega)
    simp only [List.length_cons, pFs, e1, Option.bind_some, e2]
    simp [List.length_append, Nat.add_assoc]
end
/-- a target that can be written -/
structure ET (al : Int) (t : List Fr) : Prop where
  pw : ∃ k, k ≤ 24 ∧ al = ((2 ^ k : Nat) : Int)
  len : t.length ≤ 80
  fr : ∀ f ∈ t, EF al f
theorem powB_ex {al : Int} (h : powB al = true) : ∃ k, k ≤ 24 ∧ al = ((2 ^ k : Nat) : Int) := by
  unfold powB at h
  obtain ⟨k, hk, he⟩ := List.any_eq_true.1 h
  have := List.mem_range.1 hk
  exact ⟨k, by omega, by simpa using he⟩
theorem et_of {al : Int} {t : List Fr} (h : RT al t) : ET al t := by
  refine ⟨powB_ex h.pw.1, h.len.2, fun f hf => ?_⟩
  obtain ⟨i, hi, rfl⟩ := List.mem_iff_getElem.1 hf
  have hg : t.getD i Fr.z = t[i] := by simp [List.getD, hi]
  have g := h.fr i hi
  have gi := h.imm i hi
  rw [hg] at g gi
  have g1 := g.prm
  have g2 := g.size
  have g3 := g.nc
  have g4 := h.len
  exact ⟨g.prm, ⟨g.size.1, by omega⟩, g.mult, g.nc.2, fun x hx => ei_of (g.ins x hx) (gi x hx) (by omega) (by omega) (by omega) (by omega)⟩
section
variable {al bd : Int} {t : List Fr} {l : List Nat}
theorem pT_enc (st : Bool) (h : ET al t) (hb : 0 ≤ bd ∧ bd ≤ 2147483647) : pT st (bodyT al bd t) = some (al, bd, t) := by
  obtain ⟨⟨k, hk, hal⟩, hl, hf⟩ := h
  have hlog : Nat.log2 al.toNat = k := by rw [hal, Int.toNat_natCast, Nat.log2_two_pow]
  have hal1 : 1 ≤ al := by rw [hal]; have := Nat.two_pow_pos k; omega
  have e0 : bodyT al bd t = mgT ++ put k ++ put bd.toNat ++ put t.length ++ t.flatMap (encF al) := by unfold bodyT headT; rw [hlog]
  generalize bodyT al bd t = l at *
  have e1 : pU l 24 4 = some (k, 4 + (put k).length) := pU_put (pre := mgT) (rest := put bd.toNat ++ put t.length ++ t.flatMap (encF al)) (by omega) (by omega) (by rw [e0]; simp) rfl
  have e2 : pU l M31 (4 + (put k).length) = some (bd.toNat, 4 + (put k).length + (put bd.toNat).length) := pU_put (pre := mgT ++ put k) (rest := put t.length ++ t.flatMap (encF al)) (by omega) (by unfold M31; omega) (by rw [e0]; simp) (by simp [mgT] <;> omega)
  have e3 : pU l 80 (4 + (put k).length + (put bd.toNat).length) = some (t.length, 4 + (put k).length + (put bd.toNat).length + (put t.length).length) := pU_put (pre := mgT ++ put k ++ put bd.toNat) (rest := t.flatMap (encF al)) (by omega) (by omega) e0 (by simp [mgT] <;> omega)
  have e4 := pFs_enc (l := l) (rest := []) st hal1 t hf (mgT ++ put k ++ put bd.toNat ++ put t.length) _ (by rw [e0]; simp) rfl
  have e5 : (mgT ++ put k ++ put bd.toNat ++ put t.length).length = 4 + (put k).length + (put bd.toNat).length + (put t.length).length := by simp [mgT] <;> omega
  rw [e5] at e4
  unfold pT
  have hb2 : ((bd.toNat : Nat) : Int) = bd := by omega
  rw [hal] at e4 ⊢
  simp only [e1, e2, e3, e4, Option.bind_some, hb2]
end
end Go.Proofs.YtinfeglhjmnlaaaDoor.pm
namespace Go.Proofs.YtinfeglhjmnlaaaDoor.pm
open Go.RowKit
set_option linter.unusedVariables false
set_option maxRecDepth 10000

theorem crc4_inj {l m : List Nat} (h : crc4 l = crc4 m) : crc l = crc m := by
  have h1 := crc_lt l
  have h2 := crc_lt m
  unfold crc4 at h
  simp only [List.cons.injEq, and_true] at h
  omega
theorem crc4_len (l : List Nat) : (crc4 l).length = 4 := rfl
theorem crc4_bytes (l : List Nat) : ∀ x ∈ crc4 l, x < 256 := by
  intro x hx
  simp only [crc4, List.mem_cons, List.not_mem_nil, or_false] at hx
  omega
theorem sealL_len (l : List Nat) : (sealL l).length = l.length + 4 := by simp [sealL, crc4]
theorem sealL_take (l : List Nat) : (sealL l).take ((sealL l).length - 4) = l := by rw [sealL_len]; simp [sealL]
theorem sealL_bytes {l : List Nat} (h : ∀ x ∈ l, x < 256) : ∀ x ∈ sealL l, x < 256 := by
  intro x hx
  rcases List.mem_append.1 hx with k | k
  · exact h x k
  · exact crc4_bytes l x k
/-- a changed byte is found -/
theorem set_seal {b b' : List Nat} (hb : ∀ x ∈ b, x < 256) {k y : Nat} (hk : k < (sealL b).length) (hy : y < 256) (hne : y ≠ (sealL b)[k]) : (sealL b).set k y ≠ sealL b' := by
  intro he
  have hlen : b'.length = b.length := by
    have := congrArg List.length he
    rw [List.length_set, sealL_len, sealL_len] at this
    omega
  have ht : ((sealL b).set k y).take b.length = b' := by rw [he, ← hlen]; simp [sealL]
  have hd : ((sealL b).set k y).drop b.length = crc4 b' := by rw [he, ← hlen]; simp [sealL]
  by_cases h : k < b.length
  · have e1 : ((sealL b).set k y).take b.length = b.set k y := by
      unfold sealL
      rw [List.set_append, if_pos h]
      have : (b.set k y).length = b.length := by simp
      rw [← this]
      simp
    have e2 : ((sealL b).set k y).drop b.length = crc4 b := by
      unfold sealL
      rw [List.set_append, if_pos h]
      have : (b.set k y).length = b.length := by simp
      rw [← this]
      simp
    rw [e1] at ht
    rw [e2, ← ht] at hd
    have hg : (sealL b)[k] = b[k] := List.getElem_append_left h
    exact crc_set hb h hy (by rw [← hg]; exact hne) (crc4_inj hd).symm
  · have e1 : ((sealL b).set k y).take b.length = b := by
      rw [List.take_set_of_le (by omega)]
      simp [sealL]
    rw [e1] at ht
    rw [← ht] at he
    have := congrArg (fun l => l[k]?) he
    simp only [List.getElem?_set_self hk, List.getElem?_eq_getElem hk, Option.some.injEq] at this
    exact hne this

section
variable {al bd : Int} {t : List Fr} {l : List Nat} {x : Ins} {st : Bool}
theorem mem_ite {p : Prop} [Decidable p] {A : List Nat} {y : Nat} (h : y ∈ (if p then A else [])) : y ∈ A := by
  by_cases hp : p
  · rwa [if_pos hp] at h
  · rw [if_neg hp] at h; cases h
theorem encI_bytes (h : EI x) : ∀ y ∈ encI x, y < 256 := by
  intro y hy
  have h1 := h.op
  have h2 := h.a
  have h3 := h.b
  have h4 := h.c
  have h5 := h.im
  unfold encI at hy
  rcases List.mem_cons.1 hy with k | k
  · omega
  rcases List.mem_append.1 k with k | k
  · exact put_lt _ (by omega) y (mem_ite k)
  rcases List.mem_append.1 k with k | k
  · exact put_lt _ (by omega) y (mem_ite k)
  rcases List.mem_append.1 k with k | k
  · exact put_lt _ (by omega) y (mem_ite k)
  · exact put_lt _ (by omega) y (mem_ite k)
theorem ite_len {p : Prop} [Decidable p] (v : Nat) : (if p then put v else []).length ≤ 10 := by
  have := (put_len v).2
  by_cases hp : p
  · rw [if_pos hp]; exact this
  · rw [if_neg hp]; simp
theorem encI_len (x : Ins) : 1 ≤ (encI x).length ∧ (encI x).length ≤ 41 := by
  unfold encI
  have h1 := ite_len (p := 1 ≤ opN x.op) x.a.toNat
  have h2 := ite_len (p := 2 ≤ opN x.op) x.b.toNat
  have h3 := ite_len (p := 3 ≤ opN x.op) x.c.toNat
  have h4 := ite_len (p := (immB x.op) = true) x.imm.toNat
  simp only [List.length_cons, List.length_append]
  omega
theorem encC_len (c : List Ins) : (encC c).length ≤ 41 * c.length := by
  induction c with
  | nil => simp [encC]
  | cons x c ih =>
    have := (encI_len x).2
    simp only [encC, List.flatMap_cons, List.length_append, List.length_cons] at ih ⊢
    omega
theorem headF_len (al : Int) (f : Fr) : (headF al f).length ≤ 30 := by
  have h1 := (put_len f.params.toNat).2
  have h2 := (put_len (f.size / al).toNat).2
  have h3 := (put_len f.code.length).2
  simp only [headF, List.length_append]
  omega
theorem encF_len (al : Int) (f : Fr) (h : f.code.length ≤ 1024) : (encF al f).length ≤ 42014 := by
  have h1 := headF_len al f
  have h2 := encC_len f.code
  simp only [encF, List.length_append]
  omega
theorem encFs_len (al : Int) (t : List Fr) (h : ∀ f ∈ t, f.code.length ≤ 1024) : (t.flatMap (encF al)).length ≤ 42014 * t.length := by
  induction t with
  | nil => simp
  | cons f t ih =>
    have h1 := encF_len al f (h f (by simp))
    have h2 := ih (fun g hg => h g (by simp [hg]))
    simp only [List.flatMap_cons, List.length_append, List.length_cons]
    omega
theorem headT_len (al bd : Int) (n : Nat) : 4 ≤ (headT al bd n).length ∧ (headT al bd n).length ≤ 34 := by
  have h1 := (put_len (Nat.log2 al.toNat)).2
  have h2 := (put_len bd.toNat).2
  have h3 := (put_len n).2
  simp only [headT, mgT, List.length_append, List.length_cons, List.length_nil]
  omega
theorem bodyT_len (al bd : Int) (t : List Fr) (h : ∀ f ∈ t, f.code.length ≤ 1024) : (bodyT al bd t).length ≤ 34 + 42014 * t.length := by
  have h1 := (headT_len al bd t.length).2
  have h2 := encFs_len al t h
  simp only [bodyT, List.length_append]
  omega
theorem encF_bytes {f : Fr} (hal : 1 ≤ al) (h : EF al f) : ∀ y ∈ encF al f, y < 256 := by
  intro y hy
  obtain ⟨h1, h2, h3, h4, h5⟩ := h
  have hd := div_le' hal h2.1
  simp only [encF, headF, List.mem_append] at hy
  rcases hy with ((k | k) | k) | k
  · exact put_lt _ (by omega) y k
  · exact put_lt _ (by omega) y k
  · exact put_lt _ (by omega) y k
  · obtain ⟨x, hx, hk⟩ := List.mem_flatMap.1 k
    exact encI_bytes (h5 x hx) y hk
theorem ET.pos (h : ET al t) : 1 ≤ al := by
  obtain ⟨k, hk, e⟩ := h.pw
  have := Nat.two_pow_pos k
  omega
theorem bodyT_bytes (h : ET al t) (hb : 0 ≤ bd ∧ bd ≤ 2147483647) : ∀ y ∈ bodyT al bd t, y < 256 := by
  intro y hy
  have hl := h.len
  obtain ⟨k, hk, e⟩ := h.pw
  have hlog : Nat.log2 al.toNat = k := by rw [e, Int.toNat_natCast, Nat.log2_two_pow]
  simp only [bodyT, headT, List.mem_append] at hy
  rcases hy with (((k' | k') | k') | k') | k'
  · simp only [mgT, List.mem_cons, List.not_mem_nil, or_false] at k'; omega
  · rw [hlog] at k'; exact put_lt _ (by omega) y k'
  · exact put_lt _ (by omega) y k'
  · exact put_lt _ (by omega) y k'
  · obtain ⟨f, hf, hk'⟩ := List.mem_flatMap.1 k'
    exact encF_bytes h.pos (h.fr f hf) y hk'

/-- numbers in range -/
def RgT (al : Int) (t : List Fr) : Prop := TgR al t ∧ ∀ f ∈ t, ∀ x ∈ f.code, 0 ≤ x.imm ∧ x.imm < 18446744073709551616
theorem RgT.rt (h : RgT al t) (he : tgE al t = 0) : RT al t := tgE_gt he h.1 (fun i hi x hx => h.2 _ (getD_mem' hi) x hx)
theorem encE_zero (h : encE al bd t = 0) : tgE al t = 0 ∧ (0 ≤ bd ∧ bd ≤ 2147483647) ∧ (bodyT al bd t).length + 4 ≤ 1048576 := by
  unfold encE at h
  split at h
  · exact absurd h ‹_›
  rename_i h1
  have h1' : tgE al t = 0 := by omega
  split at h
  · omega
  split at h
  · omega
  · exact ⟨h1', by omega, by omega⟩
theorem encE_ok (h : tgE al t = 0) (hb : 0 ≤ bd ∧ bd ≤ 2147483647) (hl : (bodyT al bd t).length + 4 ≤ 1048576) : encE al bd t = 0 := by
  unfold encE
  rw [if_neg (by omega), if_neg (by omega), if_neg (by omega)]
theorem pU_le {l : List Nat} {lim p : Nat} {r : Nat × Nat} (h : pU l lim p = some r) : r.1 ≤ lim := by
  unfold pU at h
  split at h
  · rename_i h1
    injection h with h
    rw [← h]
    exact h1.2
  · cases h
theorem pA_le {l : List Nat} {q : Bool} {lim p : Nat} {r : Nat × Nat} (h : pA l q lim p = some r) : r.1 ≤ lim := by
  unfold pA at h
  cases q with
  | true => exact pU_le h
  | false => injection h with h; rw [← h]; exact Nat.zero_le _
theorem pB_rng {k o p : Nat} {r : Ins × Nat} (ho : o < 256) (h : pB l k o p = some r) : InR r.1 ∧ 0 ≤ r.1.imm ∧ r.1.imm < 18446744073709551616 := by
  unfold pB at h
  obtain ⟨r1, h1, h⟩ := Option.bind_eq_some_iff.1 h
  obtain ⟨r2, h2, h⟩ := Option.bind_eq_some_iff.1 h
  obtain ⟨r3, h3, h⟩ := Option.bind_eq_some_iff.1 h
  obtain ⟨r4, h4, h⟩ := Option.bind_eq_some_iff.1 h
  have g1 := pA_le h1
  have g2 := pA_le h2
  have g3 := pA_le h3
  have g4 := pA_le h4
  injection h with h
  rw [← h]
  unfold M31 at g1 g2 g3
  unfold W64m at g4
  unfold InR I64
  simp only
  omega
theorem pI_rng (hl : ∀ x ∈ l, x < 256) {p : Nat} {r : Ins × Nat} (h : pI st l p = some r) : InR r.1 ∧ 0 ≤ r.1.imm ∧ r.1.imm < 18446744073709551616 := by
  unfold pI at h
  split at h
  · rename_i hp
    exact pB_rng (hl _ (getD_mem' hp.1)) h
  · cases h
theorem pC_rng (hl : ∀ x ∈ l, x < 256) : ∀ {n p : Nat} {r : List Ins × Nat}, pC st l n p = some r → r.1.length = n ∧ ∀ x ∈ r.1, InR x ∧ 0 ≤ x.imm ∧ x.imm < 18446744073709551616
  | 0, p, r, h => by injection h with h; rw [← h]; simp
  | n + 1, p, r, h => by
    unfold pC at h
    obtain ⟨r1, h1, h⟩ := Option.bind_eq_some_iff.1 h
    obtain ⟨r2, h2, h⟩ := Option.bind_eq_some_iff.1 h
    have g := pC_rng hl h2
    have g1 := pI_rng hl h1
    injection h with h
    rw [← h]
    refine ⟨by simp [g.1], fun x hx => ?_⟩
    rcases List.mem_cons.1 hx with k | k
    · rw [k]; exact g1
    · exact g.2 x k
theorem mul_rng {al : Int} {k s : Nat} (hal : al = ((2 ^ k : Nat) : Int)) (hk : k ≤ 24) (hs : s ≤ 2147483647) : 0 ≤ al * (s : Int) ∧ al * (s : Int) ≤ 36028797002186752 := by
  have h1 : 2 ^ k ≤ 2 ^ 24 := Nat.pow_le_pow_right (by decide) hk
  have h2 : 2 ^ k * s ≤ 2 ^ 24 * 2147483647 := Nat.mul_le_mul h1 hs
  rw [hal]
  have h3 : (((2 ^ k : Nat) : Int) * (s : Int)) = ((2 ^ k * s : Nat) : Int) := by simp
  rw [h3]
  omega
theorem pF_rng (hl : ∀ x ∈ l, x < 256) {k : Nat} (hal : al = ((2 ^ k : Nat) : Int)) (hk : k ≤ 24) {p : Nat} {r : Fr × Nat} (h : pF st l al p = some r) : FrR r.1 ∧ (∀ x ∈ r.1.code, 0 ≤ x.imm ∧ x.imm < 18446744073709551616) ∧ r.1.code.length ≤ 1024 := by
  unfold pF at h
  obtain ⟨r1, h1, h⟩ := Option.bind_eq_some_iff.1 h
  obtain ⟨r2, h2, h⟩ := Option.bind_eq_some_iff.1 h
  obtain ⟨r3, h3, h⟩ := Option.bind_eq_some_iff.1 h
  obtain ⟨r4, h4, h⟩ := Option.bind_eq_some_iff.1 h
  have g1 := pU_le h1
  have g2 := pU_le h2
  have g3 := pU_le h3
  have g4 := pC_rng hl h4
  unfold M31 at g2
  have g5 := mul_rng hal hk g2
  injection h with h
  rw [← h]
  refine ⟨⟨?_, ?_, fun x hx => (g4.2 x hx).1⟩, fun x hx => (g4.2 x hx).2, by simp only; omega⟩
  · unfold I64; simp only; omega
  · unfold I64; simp only; omega
theorem pFs_rng (hl : ∀ x ∈ l, x < 256) {k : Nat} (hal : al = ((2 ^ k : Nat) : Int)) (hk : k ≤ 24) : ∀ {n p : Nat} {r : List Fr × Nat}, pFs st l al n p = some r → r.1.length = n ∧ ∀ f ∈ r.1, FrR f ∧ (∀ x ∈ f.code, 0 ≤ x.imm ∧ x.imm < 18446744073709551616) ∧ f.code.length ≤ 1024
  | 0, p, r, h => by injection h with h; rw [← h]; simp
  | n + 1, p, r, h => by
    unfold pFs at h
    obtain ⟨r1, h1, h⟩ := Option.bind_eq_some_iff.1 h
    obtain ⟨r2, h2, h⟩ := Option.bind_eq_some_iff.1 h
    have g := pFs_rng hl hal hk h2
    have g1 := pF_rng hl hal hk h1
    injection h with h
    rw [← h]
    refine ⟨by simp [g.1], fun x hx => ?_⟩
    rcases List.mem_cons.1 hx with k | k
    · rw [k]; exact g1
    · exact g.2 x k
theorem pT_rng (hl : ∀ x ∈ l, x < 256) (h : pT st l = some (al, bd, t)) : RgT al t ∧ (∀ f ∈ t, f.code.length ≤ 1024) ∧ t.length ≤ 80 ∧ (0 ≤ bd ∧ bd ≤ 2147483647) := by
  unfold pT at h
  obtain ⟨r1, h1, h⟩ := Option.bind_eq_some_iff.1 h
  obtain ⟨r2, h2, h⟩ := Option.bind_eq_some_iff.1 h
  obtain ⟨r3, h3, h⟩ := Option.bind_eq_some_iff.1 h
  obtain ⟨r4, h4, h⟩ := Option.bind_eq_some_iff.1 h
  have g1 := pU_le h1
  have g2 := pU_le h2
  have g3 := pU_le h3
  have g4 := pFs_rng hl rfl g1 h4
  unfold M31 at g2
  injection h with h
  simp only [Prod.mk.injEq] at h
  obtain ⟨rfl, rfl, rfl⟩ := h
  have hp : 2 ^ r1.1 ≤ 2 ^ 24 := Nat.pow_le_pow_right (by decide) g1
  have hi : I64 ((2 ^ r1.1 : Nat) : Int) := by
    generalize 2 ^ r1.1 = P at hp
    unfold I64
    omega
  refine ⟨⟨⟨hi, fun f hf => (g4.2 f hf).1⟩, fun f hf => (g4.2 f hf).2.1⟩, fun f hf => (g4.2 f hf).2.2, by omega, by omega⟩

/-- what bytes decode to -/
def decT (st : Bool) (l : List Nat) : Option (Int × Int × List Fr) :=
  if l.length ≤ 1048576 ∧ 10 ≤ l.length then
    (pT st (l.take (l.length - 4))).bind fun r => if encE r.1 r.2.1 r.2.2 = 0 ∧ encB r.1 r.2.1 r.2.2 = l then some r else none
  else none
def decE (l : List Nat) : Int := if 1048576 < l.length then 3 else if l.length < 10 then 1 else if (decT false l).isSome then 0 else 2
theorem put_pos (v : Nat) : 1 ≤ (put v).length := (put_len v).1
theorem body_least (al bd : Int) (t : List Fr) : 7 ≤ (bodyT al bd t).length := by
  have h1 := put_pos (Nat.log2 al.toNat)
  have h2 := put_pos bd.toNat
  have h3 := put_pos t.length
  simp only [bodyT, headT, mgT, List.length_append, List.length_cons, List.length_nil]
  omega
theorem encB_eq (h : encE al bd t = 0) : encB al bd t = sealL (bodyT al bd t) := by unfold encB; rw [if_pos h]
theorem decT_iff (hl : ∀ x ∈ l, x < 256) : decT st l = some (al, bd, t) ↔ RgT al t ∧ encE al bd t = 0 ∧ encB al bd t = l := by
  constructor
  · intro h
    unfold decT at h
    split at h
    · obtain ⟨r, h1, h⟩ := Option.bind_eq_some_iff.1 h
      obtain ⟨al', bd', t'⟩ := r
      simp only at h
      split at h
      · injection h with h
        simp only [Prod.mk.injEq] at h
        obtain ⟨rfl, rfl, rfl⟩ := h
        exact ⟨(pT_rng (fun x hx => hl x (List.mem_of_mem_take hx)) h1).1, ‹_›⟩
      · cases h
    · cases h
  · rintro ⟨hr, he, hb⟩
    have hz := encE_zero he
    have het := et_of (hr.rt hz.1)
    have hl1 := body_least al bd t
    rw [encB_eq he] at hb
    unfold decT
    have hlen : l.length = (bodyT al bd t).length + 4 := by rw [← hb, sealL_len]
    rw [if_pos ⟨by omega, by omega⟩]
    have htk : l.take (l.length - 4) = bodyT al bd t := by rw [← hb, sealL_take]
    rw [htk, pT_enc st het hz.2.1, Option.bind_some]
    simp only
    rw [if_pos ⟨he, by rw [encB_eq he, hb]⟩]
theorem decT_st (hl : ∀ x ∈ l, x < 256) : decT true l = decT false l := by
  cases h : decT false l with
  | some r => obtain ⟨al, bd, t⟩ := r; exact (decT_iff hl).2 ((decT_iff hl).1 h)
  | none =>
    cases h' : decT true l with
    | none => rfl
    | some r => obtain ⟨al, bd, t⟩ := r; rw [(decT_iff hl).2 ((decT_iff hl).1 h')] at h; cases h
theorem decE_some {r : Int × Int × List Fr} (h : decT false l = some r) : decE l = 0 := by
  have h' := h
  unfold decT at h'
  split at h'
  · unfold decE
    rw [if_neg (by omega), if_neg (by omega), h]
    rfl
  · cases h'
theorem decE_enc (hr : RgT al t) (he : encE al bd t = 0) : decE (encB al bd t) = 0 ∧ decT false (encB al bd t) = some (al, bd, t) := by
  have hz := encE_zero he
  have het := et_of (hr.rt hz.1)
  have hb : ∀ x ∈ encB al bd t, x < 256 := by rw [encB_eq he]; exact sealL_bytes (bodyT_bytes het hz.2.1)
  have := (decT_iff (st := false) hb).2 ⟨hr, he, rfl⟩
  exact ⟨decE_some this, this⟩
/-- a changed byte of an encoding does not decode -/
theorem dec_changed (hr : RgT al t) (he : encE al bd t = 0) {k y : Nat} (hk : k < (encB al bd t).length) (hy : y < 256) (hne : y ≠ (encB al bd t)[k]) : decE ((encB al bd t).set k y) = 2 := by
  have hz := encE_zero he
  have het := et_of (hr.rt hz.1)
  have hb := bodyT_bytes het hz.2.1
  have hs := sealL_bytes hb
  have hl1 := body_least al bd t
  have hn : decT false ((encB al bd t).set k y) = none := by
    cases h : decT false ((encB al bd t).set k y) with
    | none => rfl
    | some r =>
      obtain ⟨al', bd', t'⟩ := r
      exfalso
      have hbytes : ∀ x ∈ (encB al bd t).set k y, x < 256 := by
        intro x hx
        rcases List.mem_or_eq_of_mem_set hx with g | g
        · rw [encB_eq he] at g; exact hs x g
        · omega
      have h2 := (decT_iff hbytes).1 h
      have h3 := h2.2.2
      rw [encB_eq h2.2.1] at h3
      simp only [encB_eq he] at h3 hk hne
      exact set_seal hb hk hy hne h3.symm
  unfold decE
  rw [hn, List.length_set, encB_eq he, sealL_len]
  rw [if_neg (by omega), if_neg (by omega)]
  rfl
end
end Go.Proofs.YtinfeglhjmnlaaaDoor.pm
