/- Bytes of programs: what the reference's reader reads, as total functions; that it is what the program reads: plain mathematics. -/
import Derived.Test.YtinfeglhjmnlaaaDoorYl
namespace Go.Proofs.YtinfeglhjmnlaaaDoor.pm
open Go.RowKit
set_option linter.unusedVariables false
set_option maxRecDepth 10000

section
variable {l : List Nat} {p e lim : Nat}
/-- a number with its limit, as the reference reads it -/
theorem upS_count (l : List Nat) (lim p e : Nat) (h : lim ≤ 2147483647) : upS l lim 3 p e = if lim < (upS l M31 4 p e).1 then (0, (upS l M31 4 p e).2.1, 3) else upS l M31 4 p e := by
  have hm : M31 = 2147483647 := rfl
  unfold upS
  rw [hm]
  by_cases h1 : 2147483647 < (anyS l p e).1
  · simp only [if_pos h1]
    rw [if_neg (by simp)]
  · simp only [if_neg h1]
theorem upS_two (l : List Nat) (p e : Nat) : upS l 24 4 p e = if 24 < (upS l M31 4 p e).1 then (0, (upS l M31 4 p e).2.1, 4) else upS l M31 4 p e := by
  have hm : M31 = 2147483647 := rfl
  unfold upS
  rw [hm]
  by_cases h1 : 2147483647 < (anyS l p e).1
  · simp only [if_pos h1]
    rw [if_neg (by simp)]
  · simp only [if_neg h1]
/-- a slot, as the reference reads it -/
def slotR (l : List Nat) (p e : Nat) : (Int × Int) × Nat × Nat :=
  let a := upS l M31 4 p e
  let b := upS l M31 4 a.2.1 a.2.2
  if 24 < b.1 then ((0, 0), b.2.1, 4) else (((a.1 : Int), ((2 ^ b.1 : Nat) : Int)), b.2)
theorem slotR_snd (l : List Nat) (p e : Nat) : (slotR l p e).2 = (slotS l p e).2 := by
  unfold slotR slotS
  obtain ⟨v, p1, e1, h1⟩ : ∃ v p' e', upS l M31 4 p e = (v, p', e') := ⟨_, _, _, rfl⟩
  simp only [h1]
  rw [upS_two]
  obtain ⟨v2, p2, e2, h2⟩ : ∃ v p' e', upS l M31 4 p1 e1 = (v, p', e') := ⟨_, _, _, rfl⟩
  simp only [h2]
  by_cases h : 24 < v2
  · simp only [if_pos h]
  · simp only [if_neg h]
theorem upS_pos_ok {er : Nat} (h : 0 < (upS l lim er p e).1) : (upS l lim er p e).2.2 = 0 := by
  unfold upS at h ⊢
  split at h
  · simp at h
  split at h
  · simp at h
  · rename_i h1 h2
    rw [if_neg h1, if_neg h2]
    unfold anyS at h ⊢
    split at h
    · simp at h
    split at h
    · simp at h
    · rename_i h3 h4
      rw [if_neg h3, if_neg h4]
theorem slotR_eq (h : (slotS l p e).2.2 = 0) : slotR l p e = slotS l p e := by
  have hs := slotR_snd l p e
  refine Prod.ext ?_ hs
  unfold slotR slotS at *
  obtain ⟨v, p1, e1, h1⟩ : ∃ v p' e', upS l M31 4 p e = (v, p', e') := ⟨_, _, _, rfl⟩
  simp only [h1] at *
  rw [upS_two] at *
  obtain ⟨v2, p2, e2, h2⟩ : ∃ v p' e', upS l M31 4 p1 e1 = (v, p', e') := ⟨_, _, _, rfl⟩
  simp only [h2] at *
  by_cases hh : 24 < v2
  · simp only [if_pos hh] at h
    cases h
  · simp only [if_neg hh]
theorem slotR_pos {M : Nat} (hp : p ≤ M) (hl : l.length ≤ M) : (slotR l p e).2.1 ≤ M := by rw [slotR_snd]; exact slotS_pos hp hl
theorem manyS_snd {α : Type} {f g : Nat → Nat → α × Nat × Nat} (h : ∀ q, (g q 0).2 = (f q 0).2) : ∀ n p e, (manyS g n p e).2 = (manyS f n p e).2
  | 0, p, e => rfl
  | n + 1, p, e => by
    by_cases he : e = 0
    · subst he
      rw [manyS_succ, manyS_succ]
      show (manyS g n (g p 0).2.1 (g p 0).2.2).2 = (manyS f n (f p 0).2.1 (f p 0).2.2).2
      rw [h p]
      exact manyS_snd h n _ _
    · rw [manyS_stop (.inr he), manyS_stop (.inr he)]
theorem manyS_eq {α : Type} {f g : Nat → Nat → α × Nat × Nat} (h : ∀ q, (f q 0).2.2 = 0 → g q 0 = f q 0) : ∀ n p e, (manyS f n p e).2.2 = 0 → manyS g n p e = manyS f n p e
  | 0, p, e, _ => rfl
  | n + 1, p, e, he => by
    unfold manyS at he ⊢
    split
    · rfl
    · rename_i h0
      rw [if_neg h0] at he
      have h1 : (f p 0).2.2 = 0 := by
        by_cases h2 : (f p 0).2.2 = 0
        · exact h2
        · rw [manyS_stop (.inr h2)] at he
          exact absurd he h2
      rw [h p h1]
      rw [manyS_eq h n _ _ he]
/-- a function's description, as the reference reads it -/
def funR (l : List Nat) (p : Nat) : Fn × Nat × Nat :=
  let a := upS l M31 4 p 0
  let n := upS l 512 3 a.2.1 a.2.2
  let s := manyS (slotR l) n.1 n.2.1 n.2.2
  let m := upS l 1024 3 s.2.1 s.2.2
  let c := manyS (insS l) m.1 m.2.1 m.2.2
  (⟨(a.1 : Int), s.1, c.1⟩, c.2.1, endR l c.2.1 c.2.2)
theorem funR_snd (l : List Nat) (p : Nat) : (funR l p).2 = (funS l p).2 := by
  unfold funR funS
  simp only [manyS_snd (f := slotS l) (g := slotR l) (fun q => slotR_snd l q 0)]
theorem endR_zero {q : Nat} (h : endR l q e = 0) : e = 0 := by
  unfold endR at h
  split at h
  · cases h
  · exact h
theorem funR_eq (h : (funS l p).2.2 = 0) : funR l p = funS l p := by
  unfold funS at h
  obtain ⟨v1, p1, e1, h1⟩ : ∃ v' p' e', upS l M31 4 p 0 = (v', p', e') := ⟨_, _, _, rfl⟩
  obtain ⟨v2, p2, e2, h2⟩ : ∃ v' p' e', upS l 512 3 p1 e1 = (v', p', e') := ⟨_, _, _, rfl⟩
  simp only [h1, h2] at h
  have he := endR_zero h
  have hs : (manyS (slotS l) v2 p2 e2).2.2 = 0 := by
    by_cases h3 : (manyS (slotS l) v2 p2 e2).2.2 = 0
    · exact h3
    · rw [upS_err h3] at he
      rw [manyS_stop (.inr h3)] at he
      exact absurd he h3
  unfold funR funS
  simp only [h1, h2]
  rw [manyS_eq (f := slotS l) (g := slotR l) (fun q hq => slotR_eq hq) _ _ _ hs]
theorem funS_end (h : (funS l p).2.2 = 0) : l.length ≤ (funS l p).2.1 := by
  obtain ⟨a, n, p1, e1, m, p2, e2, -, -, h3, -⟩ := funS_eq l p
  rw [h3] at h ⊢
  exact (endR_iff.1 h).2
/-- a function with its length ahead, as the reference reads it -/
def sizeQ (l : List Nat) (p e : Nat) : Nat × Nat × Nat := ((upS l M31 4 p e).1, (upS l M31 4 p e).2.1, if (upS l M31 4 p e).2.2 = 0 ∧ l.length - (upS l M31 4 p e).2.1 < (upS l M31 4 p e).1 then 1 else (upS l M31 4 p e).2.2)
def partR (l : List Nat) (z : Nat × Nat × Nat) : (Fn × List Nat) × Nat × Nat :=
  if z.2.2 ≠ 0 then ((Fn.z, []), z.2.1, z.2.2) else (((funR (l.take (z.2.1 + z.1)) z.2.1).1, (l.drop z.2.1).take z.1), (funR (l.take (z.2.1 + z.1)) z.2.1).2)
def fsR (l : List Nat) (p e : Nat) : (Fn × List Nat) × Nat × Nat := partR l (sizeQ l p e)
def Agree {α : Type} (x y : α × Nat × Nat) : Prop := x.2.2 = y.2.2 ∧ (y.2.2 = 0 → x = y)
theorem size_same (hm : l.length ≤ 2147483647) : (sizeS l p e).2 = (sizeQ l p e).2 ∧ ((sizeS l p e).2.2 = 0 → sizeS l p e = sizeQ l p e) := by
  have hM : M31 = 2147483647 := rfl
  obtain ⟨a, q, b, hr⟩ : ∃ v q b, anyS l p e = (v, q, b) := ⟨_, _, _, rfl⟩
  have hz : 0 < a → b = 0 := fun h => by
    unfold anyS at hr
    split at hr
    · simp only [Prod.mk.injEq] at hr; omega
    split at hr
    · simp only [Prod.mk.injEq] at hr; omega
    · simp only [Prod.mk.injEq] at hr; omega
  unfold sizeS sizeQ upS
  rw [hr, hM]
  simp only
  by_cases h1 : 2147483647 < a
  · simp [if_pos h1]
  · simp only [if_neg h1]
    by_cases h2 : l.length < a
    · simp only [if_pos h2]
      have hb := hz (by omega)
      rw [if_neg (by omega), if_pos ⟨hb, by omega⟩]
      simp
    · simp [if_neg h2]
theorem fsR_agree (hm : l.length ≤ 2147483647) (hp : p ≤ l.length) : Agree (fsR l p e) (fsS l p e) := by
  obtain ⟨h1, h2⟩ := size_same (p := p) (e := e) hm
  have hq : (sizeS l p e).2.1 ≤ l.length := upS_pos hp (Nat.le_refl _)
  unfold fsR fsS
  by_cases h0 : (sizeS l p e).2.2 = 0
  · rw [← h2 h0]
    have hfit : (sizeS l p e).2.1 + (sizeS l p e).1 ≤ l.length := by
      unfold sizeS at h0 hq ⊢
      simp only at h0 hq ⊢
      by_cases h3 : (upS l l.length 1 p e).2.2 = 0 ∧ l.length - (upS l l.length 1 p e).2.1 < (upS l l.length 1 p e).1
      · rw [if_pos h3] at h0; cases h0
      · rw [if_neg h3] at h0
        omega
    unfold partR partS
    rw [if_neg (by simpa using h0), if_neg (by simpa using h0)]
    generalize (sizeS l p e).2.1 = p1 at *
    generalize (sizeS l p e).1 = v1 at *
    have hs := funR_snd (l.take (p1 + v1)) p1
    refine ⟨by simp only [hs], fun h3 => ?_⟩
    simp only at h3
    have h4 := funR_eq h3
    have hlen : (l.take (p1 + v1)).length = p1 + v1 := by rw [List.length_take]; omega
    have h5 : (funS (l.take (p1 + v1)) p1).2.1 = p1 + v1 := by
      have hle := funS_pos (l := l.take (p1 + v1)) (p := p1) (M := p1 + v1) (by omega) (by omega)
      have h6 := funS_end h3
      omega
    rw [h4]
    generalize funS (l.take (p1 + v1)) p1 = r at h5 ⊢
    obtain ⟨a, b, c⟩ := r
    simp only at h5 ⊢
    rw [h5]
  · have h3 : (sizeQ l p e).2.2 ≠ 0 := by rw [← h1]; exact h0
    unfold partR partS
    rw [if_pos h3, if_pos h0]
    refine ⟨by simp only [h1], fun h => absurd h h0⟩
theorem manyS_agree {α : Type} {f g : Nat → Nat → α × Nat × Nat} {M : Nat} (h : ∀ q, q ≤ M → Agree (g q 0) (f q 0)) (hM : ∀ q, q ≤ M → (f q 0).2.1 ≤ M) : ∀ n p e, p ≤ M → Agree (manyS g n p e) (manyS f n p e)
  | 0, p, e, _ => ⟨rfl, fun _ => rfl⟩
  | n + 1, p, e, hp => by
    by_cases he : e = 0
    · subst he
      rw [manyS_succ, manyS_succ]
      obtain ⟨h1, h2⟩ := h p hp
      by_cases h3 : (f p 0).2.2 = 0
      · rw [h2 h3]
        obtain ⟨h4, h5⟩ := manyS_agree h hM n (f p 0).2.1 (f p 0).2.2 (hM p hp)
        exact ⟨h4, fun h6 => by rw [h5 h6]⟩
      · have h4 : (g p 0).2.2 ≠ 0 := by rw [h1]; exact h3
        rw [manyS_stop (.inr h3), manyS_stop (.inr h4)]
        exact ⟨h1, fun h6 => absurd h6 h3⟩
    · rw [manyS_stop (.inr he), manyS_stop (.inr he)]
      exact ⟨rfl, fun h => absurd h he⟩
/-- all functions, as the reference reads them -/
def progR (l : List Nat) : List (Fn × List Nat) × Nat :=
  let z := upS l 80 3 4 0
  let m := manyS (fsR l) z.1 z.2.1 z.2.2
  (m.1, endR l m.2.1 m.2.2)
theorem progR_same (hm : l.length ≤ 2147483647) (h4 : 4 ≤ l.length) : (progR l).2 = (progS l).2 ∧ ((progS l).2 = 0 → (progR l).1 = (progS l).1) := by
  unfold progR progS
  obtain ⟨N, p1, e1, h1⟩ : ∃ v' p' e', upS l 80 3 4 0 = (v', p', e') := ⟨_, _, _, rfl⟩
  have hp1 := upS_pos (l := l) (lim := 80) (er := 3) (p := 4) (e := 0) h4 (Nat.le_refl _)
  rw [h1] at hp1 ⊢
  simp only at hp1 ⊢
  obtain ⟨h2, h3⟩ := manyS_agree (f := fsS l) (g := fsR l) (M := l.length) (fun q hq => fsR_agree hm hq) (fun q hq => fsS_pos hq) N p1 e1 hp1
  by_cases h : (manyS (fsS l) N p1 e1).2.2 = 0
  · rw [h3 h]
    exact ⟨rfl, fun _ => rfl⟩
  · have h5 : (manyS (fsR l) N p1 e1).2.2 ≠ 0 := by rw [h2]; exact h
    have e1 : ∀ q e, e ≠ 0 → endR l q e = e := fun q e he => by unfold endR; rw [if_neg (fun hh => he hh.1)]
    rw [e1 _ _ h, e1 _ _ h5]
    exact ⟨h2, fun h6 => absurd h6 h⟩
end
end Go.Proofs.YtinfeglhjmnlaaaDoor.pm
