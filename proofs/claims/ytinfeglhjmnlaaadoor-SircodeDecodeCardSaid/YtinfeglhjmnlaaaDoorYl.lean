/- Bytes of programs: how far the reader goes, and in which bounds the numbers lie: plain mathematics. -/
import Derived.Test.YtinfeglhjmnlaaaDoorGYa
import Derived.Test.YtinfeglhjmnlaaaDoorGSc
namespace Go.Proofs.YtinfeglhjmnlaaaDoor.pm
open Go.RowKit
set_option linter.unusedVariables false
set_option maxRecDepth 10000

theorem rdF_le6 (f : Nat) (l : List Nat) : ∀ p k v, (rdF f l p k v).2.1 ≤ l.length := by
  induction f with
  | zero => intro p k v; simp [rdF]
  | succ f ih =>
    intro p k v
    by_cases hp : p < l.length
    · by_cases h : 128 ≤ l.getD p 0
      · rw [rdF_big hp rfl h]; exact ih _ _ _
      · by_cases hb : (k = 9 ∧ 1 < l.getD p 0) ∨ (0 < k ∧ l.getD p 0 = 0)
        · rw [rdF_bad hp rfl h hb]; exact Nat.zero_le _
        · rw [rdF_ok hp rfl h hb]; show p + 1 ≤ _; omega
    · rw [rdF_short hp]; exact Nat.zero_le _
theorem rdU_le6 (l : List Nat) (x : Int) : (rdU l x).2.1 ≤ l.length := by
  unfold rdU
  split
  · exact rdF_le6 _ _ _ _ _
  · exact Nat.zero_le _
section
variable {l : List Nat} {M p e lim er : Nat}
theorem anyS_lt (l : List Nat) (p e : Nat) : (anyS l p e).1 < 18446744073709551616 := by
  unfold anyS
  split
  · simp
  split
  · simp
  · exact rdU_lt l p
theorem upS_le (l : List Nat) (lim er p e : Nat) : (upS l lim er p e).1 ≤ lim ∧ (upS l lim er p e).1 ≤ 2147483647 := by
  unfold upS
  split
  · simp
  split
  · simp
  · omega
theorem anyS_pos (hp : p ≤ M) (hl : l.length ≤ M) : (anyS l p e).2.1 ≤ M := by
  unfold anyS
  split
  · exact hp
  split
  · exact hp
  · exact Nat.le_trans (rdU_le6 _ _) hl
theorem upS_pos (hp : p ≤ M) (hl : l.length ≤ M) : (upS l lim er p e).2.1 ≤ M := by
  unfold upS
  split
  · exact anyS_pos hp hl
  split
  · exact anyS_pos hp hl
  · exact anyS_pos hp hl
theorem opX_pos (hp : p ≤ M) (hl : l.length ≤ M) : (opX l p e).2.1 ≤ M := by
  unfold opX
  split
  · exact hp
  split
  · exact hp
  split
  · exact hp
  · show p + 1 ≤ M
    omega
theorem opX_lt (l : List Nat) (p e : Nat) : (opX l p e).1 < 25 := by
  unfold opX
  split
  · simp
  split
  · simp
  split
  · simp
  · show l.getD p 0 < 25
    omega
theorem opsS_pos {k : Nat} (hp : p ≤ M) (hl : l.length ≤ M) : (opsS l k p e).2.1 ≤ M := by
  induction k with
  | zero => exact hp
  | succ k ih => exact upS_pos ih hl
theorem opsS_len (l : List Nat) (k p e : Nat) : (opsS l k p e).1.length = k := by
  induction k with
  | zero => rfl
  | succ k ih => unfold opsS; simp [ih]
theorem opsS_le (l : List Nat) (k p e : Nat) : ∀ v ∈ (opsS l k p e).1, v ≤ 2147483647 := by
  induction k with
  | zero => intro v hv; cases hv
  | succ k ih =>
    intro v hv
    unfold opsS at hv
    rcases List.mem_append.1 hv with h | h
    · exact ih v h
    · rw [List.mem_singleton.1 h]; exact (upS_le _ _ _ _ _).2
theorem immS_pos {q : Bool} (hp : p ≤ M) (hl : l.length ≤ M) : (immS l q p e).2.1 ≤ M := by
  unfold immS
  cases q
  · exact hp
  · exact anyS_pos hp hl
theorem immS_lt (l : List Nat) (q : Bool) (p e : Nat) : (immS l q p e).1 < 18446744073709551616 := by
  unfold immS
  cases q
  · simp
  · exact anyS_lt l p e
theorem insS_pos (hp : p ≤ M) (hl : l.length ≤ M) : (insS l p e).2.1 ≤ M := immS_pos (opsS_pos (opX_pos hp hl) hl) hl
theorem slotS_pos (hp : p ≤ M) (hl : l.length ≤ M) : (slotS l p e).2.1 ≤ M := upS_pos (upS_pos hp hl) hl
theorem manyS_pos {α : Type} {f : Nat → Nat → α × Nat × Nat} (hf : ∀ q, q ≤ M → (f q 0).2.1 ≤ M) : ∀ (n p e : Nat), p ≤ M → (manyS f n p e).2.1 ≤ M
  | 0, p, e, hp => hp
  | n + 1, p, e, hp => by
    unfold manyS
    split
    · exact hp
    · exact manyS_pos hf n _ _ (hf p hp)
theorem manyS_len {α : Type} (f : Nat → Nat → α × Nat × Nat) : ∀ (n p e : Nat), (manyS f n p e).1.length ≤ n
  | 0, p, e => Nat.le_refl _
  | n + 1, p, e => by
    unfold manyS
    split
    · exact Nat.zero_le _
    · have := manyS_len f n (f p 0).2.1 (f p 0).2.2
      simp only [List.length_cons]
      omega
theorem manyS_all {α : Type} {f : Nat → Nat → α × Nat × Nat} {P : α → Prop} (hf : ∀ q, P (f q 0).1) : ∀ (n p e : Nat), ∀ x ∈ (manyS f n p e).1, P x
  | 0, p, e, x, hx => by cases hx
  | n + 1, p, e, x, hx => by
    unfold manyS at hx
    split at hx
    · cases hx
    · rcases List.mem_cons.1 hx with h | h
      · rw [h]; exact hf p
      · exact manyS_all hf n _ _ x h
theorem insS_imm (l : List Nat) (p e : Nat) : 0 ≤ (insS l p e).1.imm ∧ (insS l p e).1.imm < 18446744073709551616 := by
  have := immS_lt l (immB ((opX l p e).1 : Int)) (opsS l (opS ((opX l p e).1 : Int)) (opX l p e).2.1 (opX l p e).2.2).2.1 (opsS l (opS ((opX l p e).1 : Int)) (opX l p e).2.1 (opX l p e).2.2).2.2
  unfold insS insR6 mkI
  simp only
  omega
theorem slotS_rng (l : List Nat) (p e : Nat) : I64 (slotS l p e).1.1 ∧ I64 (slotS l p e).1.2 := by
  unfold slotS I64
  obtain ⟨v1, p1, e1, h1⟩ : ∃ v p' e', upS l M31 4 p e = (v, p', e') := ⟨_, _, _, rfl⟩
  have g1 := (upS_le l M31 4 p e).2
  rw [h1] at g1
  rw [h1]
  simp only at g1 ⊢
  obtain ⟨v2, p2, e2, h2⟩ : ∃ v p' e', upS l 24 4 p1 e1 = (v, p', e') := ⟨_, _, _, rfl⟩
  have g2 := (upS_le l 24 4 p1 e1).1
  rw [h2] at g2
  rw [h2]
  simp only at g2 ⊢
  have h3 : 2 ^ v2 ≤ 2 ^ 24 := Nat.pow_le_pow_right (by decide) g2
  have h4 : (2 : Nat) ^ 24 = 16777216 := by decide
  generalize 2 ^ v2 = z at *
  omega
/-- what holds of a function that was read -/
structure FnX (f : Fn) : Prop where
  fnr : FnR f
  imm : ∀ x ∈ f.code, 0 ≤ x.imm ∧ x.imm < 18446744073709551616
  ns : f.slots.length ≤ 512
  nc : f.code.length ≤ 1024
theorem fnX_z : FnX Fn.z := ⟨(fun s hs => by cases hs), (fun x hx => by cases hx), by decide, by decide⟩
theorem funS_eq (l : List Nat) (p : Nat) : ∃ a n p1 e1 m p2 e2 : Nat, n ≤ 512 ∧ m ≤ 1024 ∧ funS l p = (⟨(a : Int), (manyS (slotS l) n p1 e1).1, (manyS (insS l) m p2 e2).1⟩, (manyS (insS l) m p2 e2).2.1, endR l (manyS (insS l) m p2 e2).2.1 (manyS (insS l) m p2 e2).2.2) ∧ (∀ M, p ≤ M → l.length ≤ M → p2 ≤ M) := by
  obtain ⟨a, pa, ea, h1⟩ : ∃ v p' e', upS l M31 4 p 0 = (v, p', e') := ⟨_, _, _, rfl⟩
  obtain ⟨n, pn, en, h2⟩ : ∃ v p' e', upS l 512 3 pa ea = (v, p', e') := ⟨_, _, _, rfl⟩
  obtain ⟨s, ps, es, h3⟩ : ∃ v q e, manyS (slotS l) n pn en = (v, q, e) := ⟨_, _, _, rfl⟩
  obtain ⟨m, pm, em, h4⟩ : ∃ v p' e', upS l 1024 3 ps es = (v, p', e') := ⟨_, _, _, rfl⟩
  have g2 := (upS_le l 512 3 pa ea).1
  rw [h2] at g2
  have g4 := (upS_le l 1024 3 ps es).1
  rw [h4] at g4
  refine ⟨a, n, pn, en, m, pm, em, g2, g4, ?_, fun M hp hl => ?_⟩
  · unfold funS
    simp only [h1, h2, h3, h4]
  · have k1 := upS_pos (lim := M31) (er := 4) (e := 0) hp hl
    rw [h1] at k1
    have k2 := upS_pos (lim := 512) (er := 3) (e := ea) k1 hl
    rw [h2] at k2
    have k3 := manyS_pos (M := M) (f := slotS l) (fun q hq => slotS_pos hq hl) n pn en k2
    rw [h3] at k3
    have k4 := upS_pos (lim := 1024) (er := 3) (e := es) k3 hl
    rw [h4] at k4
    exact k4
theorem funS_x (l : List Nat) (p : Nat) : FnX (funS l p).1 := by
  obtain ⟨a, n, p1, e1, m, p2, e2, h1, h2, h3, -⟩ := funS_eq l p
  rw [h3]
  exact ⟨fun s hs => manyS_all (P := fun s => I64 s.1 ∧ I64 s.2) (fun q => slotS_rng l q 0) _ _ _ s hs, fun x hx => manyS_all (P := fun x => 0 ≤ x.imm ∧ x.imm < 18446744073709551616) (fun q => insS_imm l q 0) _ _ _ x hx, Nat.le_trans (manyS_len (slotS l) n p1 e1) h1, Nat.le_trans (manyS_len (insS l) m p2 e2) h2⟩
theorem funS_pos (hp : p ≤ M) (hl : l.length ≤ M) : (funS l p).2.1 ≤ M := by
  obtain ⟨a, n, p1, e1, m, p2, e2, h1, h2, h3, h4⟩ := funS_eq l p
  rw [h3]
  exact manyS_pos (M := M) (f := insS l) (fun q hq => insS_pos hq hl) m p2 e2 (h4 M hp hl)
theorem fsS_x (l : List Nat) (p e : Nat) : FnX (fsS l p e).1.1 := by
  unfold fsS partS
  split
  · exact fnX_z
  · exact funS_x _ _
theorem fsS_pos (hp : p ≤ l.length) : (fsS l p e).2.1 ≤ l.length := by
  unfold fsS sizeS
  obtain ⟨v1, p1, e1, h1⟩ : ∃ v p' e', upS l l.length 1 p e = (v, p', e') := ⟨_, _, _, rfl⟩
  have k1 := upS_pos (lim := l.length) (er := 1) (e := e) hp (Nat.le_refl l.length)
  rw [h1] at k1
  rw [h1]
  simp only at k1 ⊢
  unfold partS
  simp only
  by_cases h2 : e1 = 0 ∧ l.length - p1 < v1
  · rw [if_pos h2, if_pos (by decide)]
    exact k1
  · rw [if_neg h2]
    by_cases h3 : e1 = 0
    · subst h3
      rw [if_neg (by simp)]
      show p1 + v1 ≤ l.length
      omega
    · rw [if_pos h3]
      exact k1
/-- what holds of programs that were read -/
theorem parF_x (b : List Nat) : ∀ f ∈ parF b, FnX f := by
  intro f hf
  unfold parF parP at hf
  split at hf
  · obtain ⟨fd, hfd, rfl⟩ := List.mem_map.1 hf
    unfold progS at hfd
    exact manyS_all (P := fun fd : Fn × List Nat => FnX fd.1) (fun q => fsS_x _ q 0) _ _ _ fd hfd
  · cases hf
theorem parP_len (b : List Nat) : (parP b).length ≤ 80 := by
  unfold parP
  split
  · unfold progS
    exact Nat.le_trans (manyS_len _ _ _ _) (upS_le _ _ _ _ _).1
  · exact Nat.zero_le _
theorem parF_len (b : List Nat) : (parF b).length ≤ 80 := by unfold parF; rw [List.length_map]; exact parP_len b
theorem parD_len (b : List Nat) : (parD b).length = (parF b).length := by unfold parD parF; rw [List.length_map, List.length_map]
theorem parF_fnr (b : List Nat) : ∀ i, i < (parF b).length → FnR ((parF b).getD i Fn.z) := fun i hi => (parF_x b _ (getD_mem' (z := Fn.z) hi)).fnr
theorem parF_pri (b : List Nat) : PrI (parF b) := fun f hf x hx => (parF_x b f hf).imm x hx
theorem par_err {b : List Nat} (h : parE b ≠ 0) : parP b = [] ∧ parF b = [] ∧ parD b = [] := by
  have : parP b = [] := by unfold parP; rw [if_neg h]
  exact ⟨this, by unfold parF; rw [this]; rfl, by unfold parD; rw [this]; rfl⟩
end
end Go.Proofs.YtinfeglhjmnlaaaDoor.pm
