/- Bytes of targets: what ref11's reader reads, as total functions; that it is what bytes decode to: plain mathematics. Printed by mkig.py. -/
import Derived.Test.YtinfeglhjmnlaaaDoorIc
namespace Go.Proofs.YtinfeglhjmnlaaaDoor.pm
open Go.RowKit
set_option linter.unusedVariables false
set_option maxRecDepth 10000

/-- a number, where the reader goes on, and whether it is bad -/
def anyPQ (l : List Nat) (p : Nat) (bad : Bool) : Nat × Nat × Bool := if bad = true ∧ (rdU l (p : Int)).2.2 = 0 then ((rdU l (p : Int)).1, (rdU l (p : Int)).2.1, true) else (0, p, false)
def upPQ (l : List Nat) (lim p : Nat) (bad : Bool) : Nat × Nat × Bool := if (anyPQ l p bad).1 ≤ lim then anyPQ l p bad else (0, (anyPQ l p bad).2.1, false)
theorem anyP_badQ (l : List Nat) (p : Nat) : anyPQ l p false = (0, p, false) := by simp [anyPQ]
theorem upP_badQ (l : List Nat) (lim p : Nat) : upPQ l lim p false = (0, p, false) := by simp [upPQ, anyP_badQ]
theorem anyP_ltQ (l : List Nat) (p : Nat) (bad : Bool) : (anyPQ l p bad).1 < 18446744073709551616 := by
  unfold anyPQ
  split
  · exact rdU_lt l p
  · simp
theorem upP_leQ (l : List Nat) (lim p : Nat) (bad : Bool) : (upPQ l lim p bad).1 ≤ lim := by
  unfold upPQ
  split
  · assumption
  · simp
/-- what is read where nothing is bad -/
theorem upP_someQ {l : List Nat} {lim p v q : Nat} (h : pU l lim p = some (v, q)) : upPQ l lim p true = (v, q, true) := by
  unfold pU at h
  split at h
  · rename_i h1
    injection h with h
    simp only [Prod.mk.injEq] at h
    have ha : anyPQ l p true = (v, q, true) := by unfold anyPQ; rw [if_pos ⟨rfl, h1.1⟩, h.1, h.2]
    unfold upPQ
    rw [ha]
    rw [if_pos (by rw [← h.1]; exact h1.2)]
  · cases h
theorem upP_noneQ {l : List Nat} {lim p : Nat} (h : pU l lim p = none) : (upPQ l lim p true).2.2 = false := by
  unfold pU at h
  split at h
  · cases h
  · rename_i h1
    by_cases h2 : (rdU l (p : Int)).2.2 = 0
    · have ha : anyPQ l p true = ((rdU l (p : Int)).1, (rdU l (p : Int)).2.1, true) := by unfold anyPQ; rw [if_pos ⟨rfl, h2⟩]
      have h3 : ¬ (rdU l (p : Int)).1 ≤ lim := fun h => h1 ⟨h2, h⟩
      unfold upPQ
      rw [ha, if_neg h3]
    · have ha : anyPQ l p true = (0, p, false) := by unfold anyPQ; rw [if_neg (fun h => h2 h.2)]
      unfold upPQ
      rw [ha, if_pos (Nat.zero_le _)]
/-- the operands of an instruction -/
def opsPQ (l : List Nat) : Nat → Nat → Bool → List Nat × Nat × Bool
  | 0, p, b => ([], p, b)
  | k + 1, p, b => ((opsPQ l k p b).1 ++ [(upPQ l M31 (opsPQ l k p b).2.1 (opsPQ l k p b).2.2).1], (upPQ l M31 (opsPQ l k p b).2.1 (opsPQ l k p b).2.2).2.1, (upPQ l M31 (opsPQ l k p b).2.1 (opsPQ l k p b).2.2).2.2)
/-- the immediate -/
def immPQ (l : List Nat) (q : Bool) (p : Nat) (b : Bool) : Nat × Nat × Bool := if q then anyPQ l p b else (0, p, b)
def insRQ (l : List Nat) (o : Nat × Nat × Bool) : Ins × Nat × Bool :=
  (insO o.1 (opsPQ l (opN (o.1 : Int)) o.2.1 o.2.2).1 (immPQ l (immB (o.1 : Int)) (opsPQ l (opN (o.1 : Int)) o.2.1 o.2.2).2.1 (opsPQ l (opN (o.1 : Int)) o.2.1 o.2.2).2.2).1,
   (immPQ l (immB (o.1 : Int)) (opsPQ l (opN (o.1 : Int)) o.2.1 o.2.2).2.1 (opsPQ l (opN (o.1 : Int)) o.2.1 o.2.2).2.2).2)
def insPQ (l : List Nat) (p : Nat) (b : Bool) : Ins × Nat × Bool := if b = false ∨ l.length ≤ p ∨ 25 ≤ l.getD p 0 then (Ins.z, p, false) else insRQ l (l.getD p 0, p + 1, true)
def codePQ (l : List Nat) : Nat → Nat → Bool → List Ins × Nat × Bool
  | 0, p, b => ([], p, b)
  | n + 1, p, false => ([], p, false)
  | n + 1, p, true => ((insPQ l p true).1 :: (codePQ l n (insPQ l p true).2.1 (insPQ l p true).2.2).1, (codePQ l n (insPQ l p true).2.1 (insPQ l p true).2.2).2)
def framePQ (l : List Nat) (al : Int) (p : Nat) (b : Bool) : Fr × Nat × Bool :=
  let a := upPQ l 8 p b
  let s := upPQ l M31 a.2.1 a.2.2
  let n := upPQ l 1024 s.2.1 s.2.2
  let c := codePQ l n.1 n.2.1 n.2.2
  (⟨(a.1 : Int), al * (s.1 : Int), c.1⟩, c.2)
def framesPQ (l : List Nat) (al : Int) : Nat → Nat → Bool → List Fr × Nat × Bool
  | 0, p, b => ([], p, b)
  | n + 1, p, false => ([], p, false)
  | n + 1, p, true => ((framePQ l al p true).1 :: (framesPQ l al n (framePQ l al p true).2.1 (framePQ l al p true).2.2).1, (framesPQ l al n (framePQ l al p true).2.1 (framePQ l al p true).2.2).2)
/-- the alignment, the bound, the frames, and whether something was bad -/
def targPQ (l : List Nat) : Int × Int × List Fr × Bool :=
  let k := upPQ l 24 4 true
  let b := upPQ l M31 k.2.1 k.2.2
  let n := upPQ l 80 b.2.1 b.2.2
  let f := framesPQ l ((2 ^ k.1 : Nat) : Int) n.1 n.2.1 n.2.2
  (((2 ^ k.1 : Nat) : Int), (b.1 : Int), f.1, f.2.2)

/-- the total function goes as the partial one -/
def SimQ {α : Type} (o : Option (α × Nat)) (r : α × Nat × Bool) : Prop := match o with
  | some x => r = (x.1, x.2, true)
  | none => r.2.2 = false
section
variable {l : List Nat} {lim p k n : Nat} {al : Int}
theorem sim_upQ (l : List Nat) (lim p : Nat) : SimQ (pU l lim p) (upPQ l lim p true) := by
  unfold SimQ
  split
  · exact upP_someQ (by assumption)
  · exact upP_noneQ (by assumption)
theorem up_badQ (l : List Nat) (lim p : Nat) : (upPQ l lim p false).2.2 = false := by rw [upP_badQ]
theorem sim_anyQ (l : List Nat) (p : Nat) : SimQ (pU l W64m p) (anyPQ l p true) := by
  have h := sim_upQ l W64m p
  have : upPQ l W64m p true = anyPQ l p true := by
    unfold upPQ
    rw [if_pos (by have := anyP_ltQ l p true; unfold W64m; omega)]
  rwa [this] at h
theorem any_badQ (l : List Nat) (p : Nat) : (anyPQ l p false).2.2 = false := by rw [anyP_badQ]
theorem ops_badQ (l : List Nat) (k p : Nat) : (opsPQ l k p false).2.2 = false := by
  induction k with
  | zero => rfl
  | succ k ih => unfold opsPQ; simp only; rw [ih, up_badQ]
theorem sim_opsQ (l : List Nat) (k p : Nat) : SimQ (pOps l k p) (opsPQ l k p true) := by
  induction k with
  | zero => rfl
  | succ k ih =>
    unfold pOps opsPQ
    cases h : pOps l k p with
    | none =>
      rw [h] at ih
      have ih' : (opsPQ l k p true).2.2 = false := ih
      show _ = false
      simp only [ih', up_badQ]
    | some r =>
      rw [h] at ih
      have ih' : opsPQ l k p true = (r.1, r.2, true) := ih
      rw [ih']
      simp only [Option.bind_some]
      have hu := sim_upQ l M31 r.2
      cases h2 : pU l M31 r.2 with
      | none => rw [h2] at hu; exact hu
      | some q => rw [h2] at hu; have hu' : upPQ l M31 r.2 true = (q.1, q.2, true) := hu; rw [hu']; rfl
theorem imm_badQ (l : List Nat) (q : Bool) (p : Nat) : (immPQ l q p false).2.2 = false := by
  unfold immPQ
  cases q
  · rfl
  · exact any_badQ l p
theorem sim_immQ (l : List Nat) (q : Bool) (p : Nat) : SimQ (pA l q W64m p) (immPQ l q p true) := by
  unfold pA immPQ
  cases q
  · rfl
  · exact sim_anyQ l p
theorem opN_leQ (o : Int) : opN o ≤ 3 := by
  unfold opN
  repeat' split
  all_goals omega
theorem sim_insRQ (l : List Nat) (o p : Nat) : SimQ (pB l (opN (o : Int)) o p) (insRQ l (o, p, true)) := by
  rw [pB_ops l _ o p (opN_leQ _)]
  unfold insRQ
  simp only
  have h1 := sim_opsQ l (opN (o : Int)) p
  cases h : pOps l (opN (o : Int)) p with
  | none =>
    rw [h] at h1
    have h1' : (opsPQ l (opN (o : Int)) p true).2.2 = false := h1
    show _ = false
    simp only [h1', imm_badQ]
  | some r =>
    rw [h] at h1
    have h1' : opsPQ l (opN (o : Int)) p true = (r.1, r.2, true) := h1
    rw [h1']
    simp only [Option.bind_some]
    have h2 := sim_immQ l (immB (o : Int)) r.2
    cases h3 : pA l (immB (o : Int)) W64m r.2 with
    | none => rw [h3] at h2; exact h2
    | some m => rw [h3] at h2; have h2' : immPQ l (immB (o : Int)) r.2 true = (m.1, m.2, true) := h2; rw [h2']; rfl
theorem insR_badQ (l : List Nat) (o p : Nat) : (insRQ l (o, p, false)).2.2 = false := by
  unfold insRQ
  simp only
  rw [ops_badQ, imm_badQ]
theorem sim_insQ (l : List Nat) (p : Nat) : SimQ (pI true l p) (insPQ l p true) := by
  unfold pI insPQ
  by_cases h : p < l.length ∧ l.getD p 0 < 25
  · rw [if_pos ⟨h.1, fun _ => h.2⟩, if_neg (fun hh => hh.elim (fun hh => by cases hh) (fun hh => by omega))]
    exact sim_insRQ l _ _
  · rw [if_neg (fun hh => h ⟨hh.1, hh.2 rfl⟩), if_pos (.inr (by omega))]
    rfl
theorem code_badQ (l : List Nat) (n p : Nat) : (codePQ l n p false).2.2 = false := by cases n <;> rfl
theorem sim_codeQ (l : List Nat) : ∀ n p, SimQ (pC true l n p) (codePQ l n p true)
  | 0, p => rfl
  | n + 1, p => by
    unfold pC codePQ
    have h1 := sim_insQ l p
    cases h : pI true l p with
    | none =>
      rw [h] at h1
      have h1' : (insPQ l p true).2.2 = false := h1
      show _ = false
      simp only [h1', code_badQ]
    | some r =>
      rw [h] at h1
      have h1' : insPQ l p true = (r.1, r.2, true) := h1
      rw [h1']
      simp only [Option.bind_some]
      have h2 := sim_codeQ l n r.2
      cases h3 : pC true l n r.2 with
      | none => rw [h3] at h2; exact h2
      | some m => rw [h3] at h2; have h2' : codePQ l n r.2 true = (m.1, m.2, true) := h2; rw [h2']; rfl
theorem frame_badQ (l : List Nat) (al : Int) (p : Nat) : (framePQ l al p false).2.2 = false := by
  unfold framePQ
  simp only [up_badQ, code_badQ]
theorem sim_frameQ (l : List Nat) (al : Int) (p : Nat) : SimQ (pF true l al p) (framePQ l al p true) := by
  unfold pF framePQ
  have h1 := sim_upQ l 8 p
  cases e1 : pU l 8 p with
  | none =>
    rw [e1] at h1
    have h1' : (upPQ l 8 p true).2.2 = false := h1
    show _ = false
    simp only [h1', up_badQ, code_badQ]
  | some r1 =>
    rw [e1] at h1
    have h1' : upPQ l 8 p true = (r1.1, r1.2, true) := h1
    rw [h1']
    simp only [Option.bind_some]
    have h2 := sim_upQ l M31 r1.2
    cases e2 : pU l M31 r1.2 with
    | none =>
      rw [e2] at h2
      have h2' : (upPQ l M31 r1.2 true).2.2 = false := h2
      show _ = false
      simp only [h2', up_badQ, code_badQ]
    | some r2 =>
      rw [e2] at h2
      have h2' : upPQ l M31 r1.2 true = (r2.1, r2.2, true) := h2
      rw [h2']
      simp only [Option.bind_some]
      have h3 := sim_upQ l 1024 r2.2
      cases e3 : pU l 1024 r2.2 with
      | none =>
        rw [e3] at h3
        have h3' : (upPQ l 1024 r2.2 true).2.2 = false := h3
        show _ = false
        simp only [h3', code_badQ]
      | some r3 =>
        rw [e3] at h3
        have h3' : upPQ l 1024 r2.2 true = (r3.1, r3.2, true) := h3
        rw [h3']
        simp only [Option.bind_some]
        have h4 := sim_codeQ l r3.1 r3.2
        cases e4 : pC true l r3.1 r3.2 with
        | none => rw [e4] at h4; exact h4
        | some m => rw [e4] at h4; have h4' : codePQ l r3.1 r3.2 true = (m.1, m.2, true) := h4; rw [h4']; rfl
theorem frames_badQ (l : List Nat) (al : Int) (n p : Nat) : (framesPQ l al n p false).2.2 = false := by cases n <;> rfl
theorem sim_framesQ (l : List Nat) (al : Int) : ∀ n p, SimQ (pFs true l al n p) (framesPQ l al n p true)
  | 0, p => rfl
  | n + 1, p => by
    unfold pFs framesPQ
    have h1 := sim_frameQ l al p
    cases h : pF true l al p with
    | none =>
      rw [h] at h1
      have h1' : (framePQ l al p true).2.2 = false := h1
      show _ = false
      simp only [h1', frames_badQ]
    | some r =>
      rw [h] at h1
      have h1' : framePQ l al p true = (r.1, r.2, true) := h1
      rw [h1']
      simp only [Option.bind_some]
      have h2 := sim_framesQ l al n r.2
      cases h3 : pFs true l al n r.2 with
      | none => rw [h3] at h2; exact h2
      | some m => rw [h3] at h2; have h2' : framesPQ l al n r.2 true = (m.1, m.2, true) := h2; rw [h2']; rfl
/-- what is read is what the bytes stand for -/
theorem targ_someQ (l : List Nat) : match pT true l with
    | some r => targPQ l = (r.1, r.2.1, r.2.2, true)
    | none => (targPQ l).2.2.2 = false := by
  unfold pT targPQ
  have h1 := sim_upQ l 24 4
  cases e1 : pU l 24 4 with
  | none =>
    rw [e1] at h1
    have h1' : (upPQ l 24 4 true).2.2 = false := h1
    show _ = false
    simp only [h1', up_badQ, frames_badQ]
  | some r1 =>
    rw [e1] at h1
    have h1' : upPQ l 24 4 true = (r1.1, r1.2, true) := h1
    rw [h1']
    simp only [Option.bind_some]
    have h2 := sim_upQ l M31 r1.2
    cases e2 : pU l M31 r1.2 with
    | none =>
      rw [e2] at h2
      have h2' : (upPQ l M31 r1.2 true).2.2 = false := h2
      show _ = false
      simp only [h2', up_badQ, frames_badQ]
    | some r2 =>
      rw [e2] at h2
      have h2' : upPQ l M31 r1.2 true = (r2.1, r2.2, true) := h2
      rw [h2']
      simp only [Option.bind_some]
      have h3 := sim_upQ l 80 r2.2
      cases e3 : pU l 80 r2.2 with
      | none =>
        rw [e3] at h3
        have h3' : (upPQ l 80 r2.2 true).2.2 = false := h3
        show _ = false
        simp only [h3', frames_badQ]
      | some r3 =>
        rw [e3] at h3
        have h3' : upPQ l 80 r2.2 true = (r3.1, r3.2, true) := h3
        rw [h3']
        simp only [Option.bind_some]
        have h4 := sim_framesQ l ((2 ^ r1.1 : Nat) : Int) r3.1 r3.2
        cases e4 : pFs true l ((2 ^ r1.1 : Nat) : Int) r3.1 r3.2 with
        | none => rw [e4] at h4; exact h4
        | some m => rw [e4] at h4; have h4' : framesPQ l ((2 ^ r1.1 : Nat) : Int) r3.1 r3.2 true = (m.1, m.2, true) := h4; simp only [Option.bind_some]; rw [h4']
end
section
variable {l : List Nat} {M p : Nat} {b : Bool}
theorem any_posQ (hp : p ≤ M) (hl : l.length ≤ M) : (anyPQ l p b).2.1 ≤ M := by
  unfold anyPQ
  split
  · exact Nat.le_trans (rdU_le _ _) hl
  · exact hp
theorem up_posQ {lim : Nat} (hp : p ≤ M) (hl : l.length ≤ M) : (upPQ l lim p b).2.1 ≤ M := by
  unfold upPQ
  split
  · exact any_posQ hp hl
  · exact any_posQ hp hl
theorem ops_posQ {k : Nat} (hp : p ≤ M) (hl : l.length ≤ M) : (opsPQ l k p b).2.1 ≤ M := by
  induction k with
  | zero => exact hp
  | succ k ih => exact up_posQ ih hl
theorem ops_lenQ (l : List Nat) (k p : Nat) (b : Bool) : (opsPQ l k p b).1.length = k := by
  induction k with
  | zero => rfl
  | succ k ih => unfold opsPQ; simp [ih]
theorem ops_leQ (l : List Nat) (k p : Nat) (b : Bool) : ∀ v ∈ (opsPQ l k p b).1, v ≤ 2147483647 := by
  induction k with
  | zero => intro v hv; cases hv
  | succ k ih =>
    intro v hv
    unfold opsPQ at hv
    rcases List.mem_append.1 hv with h | h
    · exact ih v h
    · rw [List.mem_singleton.1 h]; exact upP_leQ _ _ _ _
theorem imm_posQ {q : Bool} (hp : p ≤ M) (hl : l.length ≤ M) : (immPQ l q p b).2.1 ≤ M := by
  unfold immPQ
  cases q
  · exact hp
  · exact any_posQ hp hl
end
theorem ins_posQ {l : List Nat} {M p : Nat} {b : Bool} (hp : p ≤ M) (hl : l.length ≤ M) : (insPQ l p b).2.1 ≤ M := by
  unfold insPQ
  split
  · exact hp
  · rename_i h
    exact imm_posQ (ops_posQ (show p + 1 ≤ M by have : ¬ l.length ≤ p := fun h' => h (.inr (.inl h')); omega) hl) hl
theorem code_stopQ (l : List Nat) (m p : Nat) (b : Bool) (h : m = 0 ∨ b = false) : codePQ l m p b = ([], p, b) := by
  rcases h with rfl | rfl
  · rfl
  · cases m <;> rfl
theorem imm_ltQ (l : List Nat) (q : Bool) (p : Nat) (b : Bool) : (immPQ l q p b).1 < 18446744073709551616 := by
  unfold immPQ
  cases q
  · simp
  · exact anyP_ltQ l p b
theorem ins_rngQ {l : List Nat} (hl : ∀ x ∈ l, x < 256) (p : Nat) (b : Bool) : InR (insPQ l p b).1 ∧ 0 ≤ (insPQ l p b).1.imm ∧ (insPQ l p b).1.imm < 18446744073709551616 := by
  unfold insPQ
  split
  · unfold InR I64 Ins.z; simp only; omega
  rename_i h
  have h1 : l.getD p 0 < 25 := by
    have : ¬ 25 ≤ l.getD p 0 := fun h' => h (.inr (.inr h'))
    omega
  unfold insRQ insO
  simp only
  generalize l.getD p 0 = o at *
  have h2 := ops_leQ l (opN (o : Int)) (p + 1) true
  have h3 := getD_le h2 0
  have h4 := getD_le h2 1
  have h5 := getD_le h2 2
  have h6 := imm_ltQ l (immB (o : Int)) (opsPQ l (opN (o : Int)) (p + 1) true).2.1 (opsPQ l (opN (o : Int)) (p + 1) true).2.2
  unfold InR I64
  simp only
  omega
theorem code_rngQ {l : List Nat} (hl : ∀ x ∈ l, x < 256) : ∀ (n p : Nat) (b : Bool), ∀ x ∈ (codePQ l n p b).1, InR x ∧ 0 ≤ x.imm ∧ x.imm < 18446744073709551616
  | 0, p, b, x, hx => by cases hx
  | n + 1, p, false, x, hx => by cases hx
  | n + 1, p, true, x, hx => by
    unfold codePQ at hx
    rcases List.mem_cons.1 hx with h | h
    · rw [h]; exact ins_rngQ hl p true
    · exact code_rngQ hl n _ _ x h
theorem frame_rngQ {l : List Nat} (hl : ∀ x ∈ l, x < 256) {al : Int} {k : Nat} (hal : al = ((2 ^ k : Nat) : Int)) (hk : k ≤ 24) (p : Nat) (b : Bool) : FrR (framePQ l al p b).1 ∧ ∀ x ∈ (framePQ l al p b).1.code, 0 ≤ x.imm ∧ x.imm < 18446744073709551616 := by
  unfold framePQ
  simp only
  have h1 := upP_leQ l 8 p b
  have h2 := upP_leQ l M31 (upPQ l 8 p b).2.1 (upPQ l 8 p b).2.2
  have h3 := mul_rng hal hk (show (upPQ l M31 (upPQ l 8 p b).2.1 (upPQ l 8 p b).2.2).1 ≤ 2147483647 from h2)
  refine ⟨⟨by unfold I64; simp only; omega, by unfold I64; simp only; omega, fun x hx => (code_rngQ hl _ _ _ x hx).1⟩, fun x hx => (code_rngQ hl _ _ _ x hx).2⟩
theorem code_posQ {l : List Nat} {M : Nat} (hl : l.length ≤ M) : ∀ (n p : Nat) (b : Bool), p ≤ M → (codePQ l n p b).2.1 ≤ M
  | 0, p, b, hp => hp
  | n + 1, p, false, hp => hp
  | n + 1, p, true, hp => by unfold codePQ; exact code_posQ hl n _ _ (ins_posQ hp hl)
theorem frame_posQ {l : List Nat} {M : Nat} (hl : l.length ≤ M) (al : Int) (p : Nat) (b : Bool) (hp : p ≤ M) : (framePQ l al p b).2.1 ≤ M := by
  unfold framePQ
  simp only
  exact code_posQ hl _ _ _ (up_posQ (up_posQ (up_posQ hp hl) hl) hl)
theorem frames_stopQ (l : List Nat) (al : Int) (m p : Nat) (b : Bool) (h : m = 0 ∨ b = false) : framesPQ l al m p b = ([], p, b) := by
  rcases h with rfl | rfl
  · rfl
  · cases m <;> rfl
theorem dec_ofQ {l : List Nat} {k : Nat} {al bd : Int} {ts : List Fr} {b : Bool} (hl : l.length = k + 4) (h1 : l.length ≤ 1048576) (h2 : 10 ≤ l.length) (h : targPQ (l.take k) = (al, bd, ts, b)) :
    decT true l = if b = true ∧ encE al bd ts = 0 ∧ encB al bd ts = l then some (al, bd, ts) else none := by
  unfold decT
  rw [if_pos ⟨h1, h2⟩, show l.length - 4 = k by omega]
  have ht := targ_someQ (l.take k)
  cases hp : pT true (l.take k) with
  | none =>
    rw [hp] at ht
    have ht' : (targPQ (l.take k)).2.2.2 = false := ht
    rw [h] at ht'
    have hb : b = false := ht'
    subst hb
    simp
  | some r =>
    rw [hp] at ht
    have ht' : targPQ (l.take k) = (r.1, r.2.1, r.2.2, true) := ht
    rw [h] at ht'
    simp only [Prod.mk.injEq] at ht'
    obtain ⟨rfl, rfl, rfl, rfl⟩ := ht'
    simp
/-- where the first bytes or the checksum are wrong, nothing is there -/
theorem dec_seal {l : List Nat} {r : Int × Int × List Fr} (hl : ∀ x ∈ l, x < 256) (h : decT false l = some r) : l.take 4 = mgT ∧ sealL (l.take (l.length - 4)) = l := by
  obtain ⟨al, bd, t⟩ := r
  obtain ⟨h1, h2, h3⟩ := (decT_iff hl).1 h
  rw [encB_eq h2] at h3
  have h4 : l.take (l.length - 4) = bodyT al bd t := by rw [← h3]; exact sealL_take _
  refine ⟨?_, by rw [h4, h3]⟩
  rw [← h3]
  rfl
end Go.Proofs.YtinfeglhjmnlaaaDoor.pm
