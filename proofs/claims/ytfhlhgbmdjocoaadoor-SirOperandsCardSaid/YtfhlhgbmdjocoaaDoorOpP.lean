/- SirOperands: plain mathematics. -/
import Derived.Test.YtfhlhgbmdjocoaaDoorSc4
import Derived.Test.YtfhlhgbmdjocoaaDoorSm1
import Derived.Test.YtfhlhgbmdjocoaaDoorPd5
namespace Go.Proofs.YtfhlhgbmdjocoaaDoor.pm
open Go.RowKit
set_option linter.unusedVariables false
set_option maxRecDepth 10000

def chg : Nat → Ins → Ins
  | 0, x => ⟨x.op, x.a + 1048576, x.b, x.c, x.imm⟩
  | 1, x => ⟨x.op, x.a, x.b + 1048576, x.c, x.imm⟩
  | 2, x => ⟨x.op, x.a, x.b, x.c + 1048576, x.imm⟩
  | _, x => ⟨x.op + 25, x.a, x.b, x.c, x.imm⟩
theorem chg_ne (n : Nat) (x : Ins) : inEq x (chg n x) = false := by
  unfold chg inEq
  split <;> simp <;> omega
theorem vi_bound {nf : Nat} {prm : Int} {sl : List (Int × Int)} {nc : Nat} {x : Ins} (h : Vi nf prm sl nc x) (h1 : nf ≤ 3) (h2 : prm ≤ 3) (h3 : sl.length ≤ 6) (h4 : nc ≤ 200) : (0 ≤ x.op ∧ x.op < 25) ∧ (0 ≤ x.a ∧ x.a ≤ 1000) ∧ (0 ≤ x.b ∧ x.b ≤ 1000) ∧ (0 ≤ x.c ∧ x.c ≤ 1000) := by
  rcases h with ⟨_, h⟩ | ⟨a, h0, h1⟩ | ⟨a, b, h0, h1, h2, h3⟩
  · cases h <;> simp <;> omega
  · simp; omega
  · simp; omega
set_option maxHeartbeats 1000000 in
theorem chg_bad {nf : Nat} {prm : Int} {sl : List (Int × Int)} {nc : Nat} {x : Ins} (h : Vi nf prm sl nc x) (h1 : nf ≤ 3) (h2 : prm ≤ 3) (h3 : sl.length ≤ 6) (h4 : nc ≤ 200) (n : Nat) : instrE nf prm sl nc (chg n x) ≠ 0 := by
  have hb := vi_bound h h1 h2 h3 h4
  have key : ∀ y : Ins, inB y.op 25 = false ∨ (badK (shp y.op.toNat).1 y.a || badK (shp y.op.toNat).2.1 y.b || badK (shp y.op.toNat).2.2.1 y.c) = true ∨ inB y.a (lim nf prm sl.length nc (shp y.op.toNat).1) = false ∨ inB y.b (lim nf prm sl.length nc (shp y.op.toNat).2.1) = false ∨ inB y.c (lim nf prm sl.length nc (shp y.op.toNat).2.2.1) = false → instrE nf prm sl nc y ≠ 0 := by
    intro y hy
    unfold instrE
    by_cases g0 : inB y.op 25 = false
    · rw [if_pos g0]; omega
    · rw [if_neg g0]
      by_cases g1 : (badK (shp y.op.toNat).1 y.a || badK (shp y.op.toNat).2.1 y.b || badK (shp y.op.toNat).2.2.1 y.c) = true
      · rw [if_pos g1]; omega
      · rw [if_neg g1]
        by_cases g2 : (!(shp y.op.toNat).2.2.2 && y.imm != 0) = true
        · rw [if_pos g2]; omega
        · rw [if_neg g2]
          by_cases g3 : (outK nf prm sl.length nc (shp y.op.toNat).1 y.a || outK nf prm sl.length nc (shp y.op.toNat).2.1 y.b || outK nf prm sl.length nc (shp y.op.toNat).2.2.1 y.c) = true
          · rw [if_pos g3]; omega
          · rw [if_neg g3]
            by_cases g4 : (y.op == 17 && (sl.getD y.a.toNat (0, 0)).1 != (sl.getD y.b.toNat (0, 0)).1) = true
            · rw [if_pos g4]; omega
            · rw [if_neg g4]
              have g5 : (tgtK nf prm sl.length nc (shp y.op.toNat).1 y.a || tgtK nf prm sl.length nc (shp y.op.toNat).2.1 y.b || tgtK nf prm sl.length nc (shp y.op.toNat).2.2.1 y.c) = true := by
                rcases hy with hy | hy | hy | hy | hy
                · exact absurd hy g0
                · exact absurd hy g1
                all_goals
                  simp only [Bool.or_eq_true, not_or, outK, tgtK, Bool.and_eq_true, Bool.not_eq_true', not_and, bne_iff_ne, ne_eq, Decidable.not_not, beq_iff_eq] at g3 ⊢
                  simp [hy] at g3 ⊢
                  simp [g3]
              rw [if_pos g5]; omega
  apply key
  have hl : ∀ k, lim nf prm sl.length nc k ≤ 1000 := by
    intro k
    unfold lim lims
    rcases k with _ | _ | _ | _ | _ | _ | _ | k <;> simp <;> omega
  rcases n with _ | _ | _ | n
  · exact .inr (.inr (.inl (inB_f.2 (by show ¬ (0 ≤ x.a + 1048576 ∧ x.a + 1048576 < _); have := hl (shp x.op.toNat).1; simp only [chg]; omega))))
  · exact .inr (.inr (.inr (.inl (inB_f.2 (by have := hl (shp x.op.toNat).2.1; simp only [chg]; omega)))))
  · exact .inr (.inr (.inr (.inr (inB_f.2 (by have := hl (shp x.op.toNat).2.2.1; simp only [chg]; omega)))))
  · exact .inl (inB_f.2 (by simp only [chg]; omega))
theorem funcE_zero {nf : Nat} {f : Fn} (h : funcE nf f = 0) : ∀ x ∈ f.code, instrE nf f.params f.slots f.code.length x = 0 := by
  unfold funcE at h
  split at h
  · omega
  · split at h
    · exact absurd h ‹_›
    · split at h
      · omega
      · split at h
        · exact absurd h ‹_›
        · rename_i h4
          intro x hx
          exact firstE_mem (by simpa using h4) _ (List.mem_map.2 ⟨x, hx, rfl⟩)
theorem progE_zero {p : List Fn} (h : progE p = 0) : ∀ f ∈ p, funcE p.length f = 0 := by
  unfold progE at h
  split at h
  · omega
  · split at h
    · omega
    · split at h
      · omega
      · intro f hf
        exact firstE_mem h _ (List.mem_map.2 ⟨f, hf, rfl⟩)
/-- the program with one instruction changed -/
def opq (p : List Fn) (i k n : Nat) : List Fn := p.set i ⟨(p.getD i Fn.z).params, (p.getD i Fn.z).slots, (p.getD i Fn.z).code.set k (chg n ((p.getD i Fn.z).code.getD k Ins.z))⟩
theorem opq_len (p : List Fn) (i k n : Nat) : (opq p i k n).length = p.length := by simp [opq]
theorem opq_at {p : List Fn} {i k n : Nat} (hi : i < p.length) : (opq p i k n).getD i Fn.z = ⟨(p.getD i Fn.z).params, (p.getD i Fn.z).slots, (p.getD i Fn.z).code.set k (chg n ((p.getD i Fn.z).code.getD k Ins.z))⟩ := by
  simp [opq, List.getD_eq_getElem?_getD, hi]
theorem opq_ne {p : List Fn} {i j k n : Nat} (h : j ≠ i) : (opq p i k n).getD j Fn.z = p.getD j Fn.z := by
  unfold opq
  rw [List.getD_eq_getElem?_getD, List.getElem?_set_ne (Ne.symm h), ← List.getD_eq_getElem?_getD]
section
variable {p : List Fn} {i k n : Nat}
theorem op_vi (h : PrOk 3 p) (hi : i < p.length) (hk : k < (p.getD i Fn.z).code.length) : p.length ≤ 3 ∧ FnOk p.length (p.getD i Fn.z) ∧ Vi p.length (p.getD i Fn.z).params (p.getD i Fn.z).slots (p.getD i Fn.z).code.length ((p.getD i Fn.z).code.getD k Ins.z) := by
  have hf := h.2.2.2 _ (mem_getD (z := Fn.z) hi)
  exact ⟨h.2.1, hf, hf.2.2.2.2.2.2.1 _ (mem_getD hk)⟩
theorem op_instr (h : PrOk 3 p) (hi : i < p.length) (hk : k < (p.getD i Fn.z).code.length) :
    instrE (opq p i k n).length ((opq p i k n).getD i Fn.z).params ((opq p i k n).getD i Fn.z).slots ((opq p i k n).getD i Fn.z).code.length (((opq p i k n).getD i Fn.z).code.getD k Ins.z) ≠ 0 := by
  obtain ⟨h1, h2, h3⟩ := op_vi h hi hk
  rw [opq_len, opq_at hi]
  simp only [List.length_set]
  rw [getD_set_same hk]
  exact chg_bad h3 h1 h2.2.1 h2.2.2.1 h2.2.2.2.2.2.1 n
theorem op_prog (h : PrOk 3 p) (hi : i < p.length) (hk : k < (p.getD i Fn.z).code.length) : progE (opq p i k n) ≠ 0 := by
  intro hz
  have h1 := progE_zero hz _ (mem_getD (z := Fn.z) (k := i) (by rw [opq_len]; exact hi))
  refine op_instr (n := n) h hi hk (funcE_zero h1 _ (mem_getD ?_))
  rw [opq_at hi]
  simpa using hk
theorem op_same (hi : i < p.length) (hk : k < (p.getD i Fn.z).code.length) : eqL sameFn p (opq p i k n) = false := by
  refine eqL_one (z := Fn.z) hi (by rw [opq_len]; exact hi) ?_
  rw [opq_at hi]
  unfold sameFn
  have : eqL inEq (p.getD i Fn.z).code ((p.getD i Fn.z).code.set k (chg n ((p.getD i Fn.z).code.getD k Ins.z))) = false :=
    eqL_one (z := Ins.z) hk (by simpa using hk) (by rw [getD_set_same hk]; exact chg_ne _ _)
  simp only
  rw [this, Bool.and_false]
theorem op_r (h : PrOk 3 p) : ∀ j, j < (opq p i k n).length → FnR ((opq p i k n).getD j Fn.z) := by
  have hb : ∀ f ∈ p, FnR f := fun f hf s hs => by
    have := (h.2.2.2 f hf).2.2.2.1 s hs
    unfold SlotOk at this
    unfold I64
    omega
  intro j hj
  rw [opq_len] at hj
  by_cases e : j = i
  · subst e
    rw [opq_at hj]
    exact fun s hs => hb _ (mem_getD (z := Fn.z) hj) s hs
  · rw [opq_ne e]
    exact hb _ (mem_getD hj)
theorem pr_r {most : Nat} (h : PrOk most p) : ∀ j, j < p.length → FnR (p.getD j Fn.z) := fun j hj s hs => by
  have := (h.2.2.2 _ (mem_getD (z := Fn.z) hj)).2.2.2.1 s hs
  unfold SlotOk at this
  unfold I64
  omega
end
theorem Vx.setCode {w : World} {lo hi : Nat} {vs : List Value} {p : List Fn} {i : Nat} (h : Vx w lo hi vs p) (hl : vs.length = p.length * 3) (hi' : i < p.length) {Ai : Option Addr} {ci : Nat} {code : List Ins} (hn : Nx w lo hi Ai code) (hc : code.length ≤ maxLen ∧ code.length ≤ ci) :
    Vx w lo hi (vs.set (i * 3 + 2) (.slice Ai code.length ci)) (p.set i ⟨(p.getD i Fn.z).params, (p.getD i Fn.z).slots, code⟩) := fun j hj => by
  rw [List.length_set] at hj
  by_cases e : j = i
  · subst e
    obtain ⟨As, cs, Ai', ci', h1, h2, h3, h4, h5, h6, h7⟩ := h j hj
    have e : (p.set j ⟨(p.getD j Fn.z).params, (p.getD j Fn.z).slots, code⟩).getD j Fn.z = ⟨(p.getD j Fn.z).params, (p.getD j Fn.z).slots, code⟩ := by simp [List.getD_eq_getElem?_getD, hj]
    rw [e]
    refine ⟨As, cs, Ai, ci, by rw [List.getElem?_set_ne (by omega)]; exact h1, by rw [List.getElem?_set_ne (by omega)]; exact h2, ?_, h4, hn, h6, hc⟩
    rw [List.getElem?_set_self (by omega)]
  · obtain ⟨As, cs, Ai', ci', h1, h2, h3, h4, h5, h6, h7⟩ := h j hj
    have e' : (p.set i ⟨(p.getD i Fn.z).params, (p.getD i Fn.z).slots, code⟩).getD j Fn.z = p.getD j Fn.z := by rw [List.getD_eq_getElem?_getD, List.getElem?_set_ne (Ne.symm e), ← List.getD_eq_getElem?_getD]
    rw [e']
    exact ⟨As, cs, Ai', ci', by rw [List.getElem?_set_ne (by omega)]; exact h1, by rw [List.getElem?_set_ne (by omega)]; exact h2, by rw [List.getElem?_set_ne (by omega)]; exact h3, h4, h5, h6, h7⟩
theorem inV_set0 (l : List Ins) (k : Nat) (v : Int) (h : k < l.length) : (inV l).set (k * 5) (.int .i64 v) = inV (l.set k ((fun x => ⟨v, x.a, x.b, x.c, x.imm⟩ : Ins → Ins) (l.getD k Ins.z))) := flat_set (j := 0) (g := (fun x => ⟨v, x.a, x.b, x.c, x.imm⟩ : Ins → Ins)) icells_len (by omega) (fun x => rfl) Ins.z l k h
theorem inV_set3 (l : List Ins) (k : Nat) (v : Int) (h : k < l.length) : (inV l).set (k * 5 + 3) (.int .i64 v) = inV (l.set k ((fun x => ⟨x.op, x.a, x.b, v, x.imm⟩ : Ins → Ins) (l.getD k Ins.z))) := flat_set (j := 3) (g := (fun x => ⟨x.op, x.a, x.b, v, x.imm⟩ : Ins → Ins)) icells_len (by omega) (fun x => rfl) Ins.z l k h
end Go.Proofs.YtfhlhgbmdjocoaaDoor.pm
