/- SirrunUndef: the runs, in plain words. -/
import Derived.Test.YtillopkcmpcokaaDoorMa
namespace Go.Proofs.YtillopkcmpcokaaDoor.pm
open Go.RowKit
set_option linter.unusedVariables false
set_option maxRecDepth 10000
/-- the called function of the law -/
def udC : Fn := ⟨1, [(8, 8)], [⟨19, 1, 0, 0, 0⟩, ⟨21, 1, 3, 0, 0⟩, ⟨15, 0, 0, 0, 0⟩, ⟨16, 0, 1, 0, 0⟩, ⟨15, 0, 0, 0, 0⟩, ⟨23, 0, 0, 0, 0⟩]⟩
def ud1 (v : Nat) : List Fn := [⟨0, [], [⟨0, 2, 0, 0, v⟩, ⟨18, 0, 2, 0, 0⟩, ⟨22, 1, 0, 0, 0⟩, ⟨23, 0, 0, 0, 0⟩]⟩, udC]
def ud2 (v : Nat) : List Fn := [⟨0, [], [⟨0, 2, 0, 0, v⟩, ⟨18, 0, 2, 0, 0⟩, ⟨22, 1, 0, 0, 0⟩, ⟨0, 3, 0, 0, 0⟩, ⟨18, 0, 3, 0, 0⟩, ⟨22, 1, 0, 0, 0⟩, ⟨23, 0, 0, 0, 0⟩]⟩, udC]
def ud3 : List Fn := [⟨0, [], [⟨22, 1, 0, 0, 0⟩, ⟨23, 0, 0, 0, 0⟩]⟩, udC]
/-- the k-th state of a run -/
def stK (p : List Fn) : Nat → Mx
  | 0 => (Mx.start []).call 0
  | k + 1 => stepM p (stK p k)
/-- what must hold ahead of a step, less the registers' bound, as it is reckoned -/
def okB (p : List Fn) (m : Mx) : Bool :=
  (m.regs.length == 8) && (m.acts.all fun a => decide (a.f < p.length) && decide (a.pc < (p.getD a.f Fn.z).code.length) && decide (a.pc ≤ 1000000) && (match a.ms with | none => true | some i => decide (i < m.hp.length)) && (match a.ma with | none => true | some i => decide (i < m.hp.length))) &&
  decide (1 ≤ m.acts.length) && decide (m.acts.length ≤ 1000000)
theorem okB_wf {p : List Fn} {m : Mx} (h : okB p m = true) : Wf p m ∧ m.acts.length ≤ 1000000 ∧ ∀ a ∈ m.acts, a.pc ≤ 1000000 := by
  unfold okB at h
  simp only [Bool.and_eq_true, decide_eq_true_eq, beq_iff_eq, List.all_eq_true] at h
  obtain ⟨⟨⟨h1, h2⟩, h3⟩, h4⟩ := h
  refine ⟨⟨h1, fun a ha => ?_, h3⟩, h4, fun a ha => (h2 a ha).1.1.2⟩
  obtain ⟨⟨⟨⟨g1, g2⟩, g3⟩, g4⟩, g5⟩ := h2 a ha
  refine ⟨g1, g2, fun i hi => ?_, fun i hi => ?_⟩
  · rw [hi] at g4; simpa using g4
  · rw [hi] at g5; simpa using g5
theorem ud3_0 : stK ud3 1 = ⟨List.replicate 8 (0, 0), [⟨0, 1, none, none⟩, ⟨1, 0, none, none⟩], [], 2, [], 0, 0, (0, 0), 1, [], false⟩ := rfl
theorem ud3_run : runM ud3 100 (100 + 2) ((Mx.start []).call 0) = ⟨List.replicate 8 (0, 0), [⟨0, 1, none, none⟩, ⟨1, 1, none, none⟩], [], 2, [], 3, 0, (0, 0), 2, [], true⟩ := rfl
theorem ud1z_run : (runM (ud1 0) 100 (100 + 2) ((Mx.start []).call 0)).kind = 3 := rfl
theorem ud2z_run : (runM (ud2 0) 100 (100 + 2) ((Mx.start []).call 0)).kind = 3 := rfl
theorem ud1_run (n : Nat) : (runM (ud1 (n + 1)) 100 (100 + 2) ((Mx.start []).call 0)).kind = 0 ∧ (runM (ud1 (n + 1)) 100 (100 + 2) ((Mx.start []).call 0)).res = vcut (n + 1, 0) 8 := ⟨by kernel_rfl, by kernel_rfl⟩
theorem ud2_run (n : Nat) : (runM (ud2 (n + 1)) 100 (100 + 2) ((Mx.start []).call 0)).kind = 3 := by kernel_rfl
theorem vcut_8 (v : Nat) (h : v < 18446744073709551616) : (vcut (v, 0) 8).1 = v := by
  unfold vcut truncS
  rw [show szOf 8 = 8 by decide]
  unfold truncV
  show v % 256 ^ (min 8 8) = v
  rw [show min 8 8 = 8 from rfl, pow256_8, Nat.mod_eq_of_lt h]
theorem ud_prog1 (v : Nat) : progE (ud1 v) = 0 := by rfl
theorem ud_prog2 (v : Nat) : progE (ud2 v) = 0 := by rfl
theorem ud_prog3 : progE ud3 = 0 := by rfl
def opB (p : List Fn) (m : Mx) : Bool :=
  let x := m.ins p
  if x.op = 0 then decide (0 ≤ x.a) && decide (x.a < 8) && decide (0 ≤ x.imm)
  else if x.op = 22 then decide (0 ≤ x.a) && decide (x.a < p.length)
  else if x.op = 23 then true
  else if x.op = 15 then decide (0 ≤ x.a) && decide (x.a < 8) && decide (0 ≤ x.b) && decide (x.b ≤ 1000000)
  else if x.op = 16 then decide (0 ≤ x.a) && decide (x.a < (p.getD m.top.f Fn.z).slots.length) && decide (x.a ≤ 1000000) && decide (0 ≤ x.b) && decide (x.b < 8) && decide (-9223372036854775808 ≤ szOf8 p m x) && decide (szOf8 p m x ≤ 9223372036854775807)
  else if x.op = 18 then decide (0 ≤ x.a) && decide (x.a ≤ 1000000) && decide (0 ≤ x.b) && decide (x.b < 8)
  else if x.op = 19 then decide (0 ≤ x.a) && decide (x.a < 8) && decide (0 ≤ x.b) && decide (x.b ≤ 1000000) && decide (2 ≤ m.acts.length)
  else if x.op = 21 then decide (0 ≤ x.a) && decide (x.a < 8) && decide (0 ≤ x.b)
  else false
theorem opB_ok {p : List Fn} {m : Mx} (h : opB p m = true) (hv : (m.ins p).op = 16 → (rg m (m.ins p).b.toNat).1 < 18446744073709551616 ∧ (rg m (m.ins p).b.toNat).2 < 18446744073709551616) : OpOk p m (m.ins p) := by
  unfold opB at h
  simp only [] at h
  unfold OpOk
  split at h
  · simp only [Bool.and_eq_true, decide_eq_true_eq] at h; exact .inl ⟨‹_›, h.1, h.2⟩
  split at h
  · simp only [Bool.and_eq_true, decide_eq_true_eq] at h; exact .inr (.inl ⟨‹_›, h.1, h.2⟩)
  split at h
  · exact .inr (.inr (.inl ‹_›))
  split at h
  · simp only [Bool.and_eq_true, decide_eq_true_eq] at h; exact .inr (.inr (.inr (.inl ⟨‹_›, h.1.1, h.1.2, h.2⟩)))
  split at h
  · simp only [Bool.and_eq_true, decide_eq_true_eq] at h; obtain ⟨⟨⟨⟨⟨⟨a1, a2⟩, a3⟩, a4⟩, a5⟩, a6⟩, a7⟩ := h; exact .inr (.inr (.inr (.inr (.inl ⟨‹_›, ⟨a1, a2, a3⟩, ⟨a4, a5⟩, hv ‹_›, a6, a7⟩))))
  split at h
  · simp only [Bool.and_eq_true, decide_eq_true_eq] at h; exact .inr (.inr (.inr (.inr (.inr (.inl ⟨‹_›, h.1.1, h.1.2, h.2⟩)))))
  split at h
  · simp only [Bool.and_eq_true, decide_eq_true_eq] at h; obtain ⟨⟨⟨⟨a1, a2⟩, a3⟩, a4⟩, a5⟩ := h; exact .inr (.inr (.inr (.inr (.inr (.inr (.inl ⟨‹_›, ⟨a1, a2⟩, ⟨a3, a4⟩, a5⟩))))))
  split at h
  · simp only [Bool.and_eq_true, decide_eq_true_eq] at h; exact .inr (.inr (.inr (.inr (.inr (.inr (.inr ⟨‹_›, h.1, h.2⟩))))))
  · cases h
theorem good_of {p : List Fn} {N : Nat} (h1 : ∀ k, k < N → okB p (stK p k) = true ∧ opB p (stK p k) = true ∧ (((stK p k).ins p).op = 16 → (rg (stK p k) ((stK p k).ins p).b.toNat).1 < 18446744073709551616 ∧ (rg (stK p k) ((stK p k).ins p).b.toNat).2 < 18446744073709551616)) (h2 : (stK p N).ended = true) :
    ∀ m, (∃ k, k ≤ N ∧ m = stK p k) → m.ended = false → m.steps < 100 → Fit8 p m ∧ ∃ k, k ≤ N ∧ stepM p m = stK p k := by
  rintro m ⟨k, hk, rfl⟩ he _
  rcases Nat.lt_or_ge k N with hlt | hge
  · obtain ⟨a1, a2, a3⟩ := h1 k hlt
    obtain ⟨b1, b2, b3⟩ := okB_wf a1
    exact ⟨⟨b1, opB_ok a2 a3, b2, b3⟩, k + 1, hlt, rfl⟩
  · obtain rfl : k = N := by omega
    rw [h2] at he
    cases he
theorem ud3_good : ∀ k, k < 2 → okB ud3 (stK ud3 k) = true ∧ opB ud3 (stK ud3 k) = true ∧ (((stK ud3 k).ins ud3).op = 16 → (rg (stK ud3 k) ((stK ud3 k).ins ud3).b.toNat).1 < 18446744073709551616 ∧ (rg (stK ud3 k) ((stK ud3 k).ins ud3).b.toNat).2 < 18446744073709551616) := fun k hk => by
  have e : k = 0 ∨ k = 1 := by omega
  rcases e with rfl | rfl
  · exact ⟨by kernel_rfl, by kernel_rfl, fun h => absurd h (by rw [show ((stK ud3 0).ins ud3).op = 22 by kernel_rfl]; decide)⟩
  · exact ⟨by kernel_rfl, by kernel_rfl, fun h => absurd h (by rw [show ((stK ud3 1).ins ud3).op = 19 by kernel_rfl]; decide)⟩
theorem ud1z_good : ∀ k, k < 6 → okB (ud1 0) (stK (ud1 0) k) = true ∧ opB (ud1 0) (stK (ud1 0) k) = true ∧ (((stK (ud1 0) k).ins (ud1 0)).op = 16 → (rg (stK (ud1 0) k) ((stK (ud1 0) k).ins (ud1 0)).b.toNat).1 < 18446744073709551616 ∧ (rg (stK (ud1 0) k) ((stK (ud1 0) k).ins (ud1 0)).b.toNat).2 < 18446744073709551616) := fun k hk => by
  have e : k = 0 ∨ k = 1 ∨ k = 2 ∨ k = 3 ∨ k = 4 ∨ k = 5 := by omega
  rcases e with rfl | rfl | rfl | rfl | rfl | rfl
  · exact ⟨by kernel_rfl, by kernel_rfl, fun h => absurd h (by rw [show ((stK (ud1 0) 0).ins (ud1 0)).op = 0 by kernel_rfl]; decide)⟩
  · exact ⟨by kernel_rfl, by kernel_rfl, fun h => absurd h (by rw [show ((stK (ud1 0) 1).ins (ud1 0)).op = 18 by kernel_rfl]; decide)⟩
  · exact ⟨by kernel_rfl, by kernel_rfl, fun h => absurd h (by rw [show ((stK (ud1 0) 2).ins (ud1 0)).op = 22 by kernel_rfl]; decide)⟩
  · exact ⟨by kernel_rfl, by kernel_rfl, fun h => absurd h (by rw [show ((stK (ud1 0) 3).ins (ud1 0)).op = 19 by kernel_rfl]; decide)⟩
  · exact ⟨by kernel_rfl, by kernel_rfl, fun h => absurd h (by rw [show ((stK (ud1 0) 4).ins (ud1 0)).op = 21 by kernel_rfl]; decide)⟩
  · exact ⟨by kernel_rfl, by kernel_rfl, fun h => absurd h (by rw [show ((stK (ud1 0) 5).ins (ud1 0)).op = 15 by kernel_rfl]; decide)⟩
theorem ud2z_good : ∀ k, k < 6 → okB (ud2 0) (stK (ud2 0) k) = true ∧ opB (ud2 0) (stK (ud2 0) k) = true ∧ (((stK (ud2 0) k).ins (ud2 0)).op = 16 → (rg (stK (ud2 0) k) ((stK (ud2 0) k).ins (ud2 0)).b.toNat).1 < 18446744073709551616 ∧ (rg (stK (ud2 0) k) ((stK (ud2 0) k).ins (ud2 0)).b.toNat).2 < 18446744073709551616) := fun k hk => by
  have e : k = 0 ∨ k = 1 ∨ k = 2 ∨ k = 3 ∨ k = 4 ∨ k = 5 := by omega
  rcases e with rfl | rfl | rfl | rfl | rfl | rfl
  · exact ⟨by kernel_rfl, by kernel_rfl, fun h => absurd h (by rw [show ((stK (ud2 0) 0).ins (ud2 0)).op = 0 by kernel_rfl]; decide)⟩
  · exact ⟨by kernel_rfl, by kernel_rfl, fun h => absurd h (by rw [show ((stK (ud2 0) 1).ins (ud2 0)).op = 18 by kernel_rfl]; decide)⟩
  · exact ⟨by kernel_rfl, by kernel_rfl, fun h => absurd h (by rw [show ((stK (ud2 0) 2).ins (ud2 0)).op = 22 by kernel_rfl]; decide)⟩
  · exact ⟨by kernel_rfl, by kernel_rfl, fun h => absurd h (by rw [show ((stK (ud2 0) 3).ins (ud2 0)).op = 19 by kernel_rfl]; decide)⟩
  · exact ⟨by kernel_rfl, by kernel_rfl, fun h => absurd h (by rw [show ((stK (ud2 0) 4).ins (ud2 0)).op = 21 by kernel_rfl]; decide)⟩
  · exact ⟨by kernel_rfl, by kernel_rfl, fun h => absurd h (by rw [show ((stK (ud2 0) 5).ins (ud2 0)).op = 15 by kernel_rfl]; decide)⟩
theorem ud1_good (n : Nat) (hn : n + 1 < 18446744073709551616) : ∀ k, k < 9 → okB (ud1 (n + 1)) (stK (ud1 (n + 1)) k) = true ∧ opB (ud1 (n + 1)) (stK (ud1 (n + 1)) k) = true ∧ (((stK (ud1 (n + 1)) k).ins (ud1 (n + 1))).op = 16 → (rg (stK (ud1 (n + 1)) k) ((stK (ud1 (n + 1)) k).ins (ud1 (n + 1))).b.toNat).1 < 18446744073709551616 ∧ (rg (stK (ud1 (n + 1)) k) ((stK (ud1 (n + 1)) k).ins (ud1 (n + 1))).b.toNat).2 < 18446744073709551616) := fun k hk => by
  have e : k = 0 ∨ k = 1 ∨ k = 2 ∨ k = 3 ∨ k = 4 ∨ k = 5 ∨ k = 6 ∨ k = 7 ∨ k = 8 := by omega
  rcases e with rfl | rfl | rfl | rfl | rfl | rfl | rfl | rfl | rfl
  · exact ⟨by kernel_rfl, by kernel_rfl, fun h => absurd h (by rw [show ((stK (ud1 (n + 1)) 0).ins (ud1 (n + 1))).op = 0 by kernel_rfl]; decide)⟩
  · exact ⟨by kernel_rfl, by kernel_rfl, fun h => absurd h (by rw [show ((stK (ud1 (n + 1)) 1).ins (ud1 (n + 1))).op = 18 by kernel_rfl]; decide)⟩
  · exact ⟨by kernel_rfl, by kernel_rfl, fun h => absurd h (by rw [show ((stK (ud1 (n + 1)) 2).ins (ud1 (n + 1))).op = 22 by kernel_rfl]; decide)⟩
  · exact ⟨by kernel_rfl, by kernel_rfl, fun h => absurd h (by rw [show ((stK (ud1 (n + 1)) 3).ins (ud1 (n + 1))).op = 19 by kernel_rfl]; decide)⟩
  · exact ⟨by kernel_rfl, by kernel_rfl, fun h => absurd h (by rw [show ((stK (ud1 (n + 1)) 4).ins (ud1 (n + 1))).op = 21 by kernel_rfl]; decide)⟩
  · refine ⟨by kernel_rfl, by kernel_rfl, fun _ => ?_⟩
    rw [show rg (stK (ud1 (n + 1)) 5) ((stK (ud1 (n + 1)) 5).ins (ud1 (n + 1))).b.toNat = (n + 1, 0) by kernel_rfl]
    exact ⟨hn, by show (0 : Nat) < _; omega⟩
  · exact ⟨by kernel_rfl, by kernel_rfl, fun h => absurd h (by rw [show ((stK (ud1 (n + 1)) 6).ins (ud1 (n + 1))).op = 15 by kernel_rfl]; decide)⟩
  · exact ⟨by kernel_rfl, by kernel_rfl, fun h => absurd h (by rw [show ((stK (ud1 (n + 1)) 7).ins (ud1 (n + 1))).op = 23 by kernel_rfl]; decide)⟩
  · exact ⟨by kernel_rfl, by kernel_rfl, fun h => absurd h (by rw [show ((stK (ud1 (n + 1)) 8).ins (ud1 (n + 1))).op = 23 by kernel_rfl]; decide)⟩
theorem ud2_good (n : Nat) (hn : n + 1 < 18446744073709551616) : ∀ k, k < 14 → okB (ud2 (n + 1)) (stK (ud2 (n + 1)) k) = true ∧ opB (ud2 (n + 1)) (stK (ud2 (n + 1)) k) = true ∧ (((stK (ud2 (n + 1)) k).ins (ud2 (n + 1))).op = 16 → (rg (stK (ud2 (n + 1)) k) ((stK (ud2 (n + 1)) k).ins (ud2 (n + 1))).b.toNat).1 < 18446744073709551616 ∧ (rg (stK (ud2 (n + 1)) k) ((stK (ud2 (n + 1)) k).ins (ud2 (n + 1))).b.toNat).2 < 18446744073709551616) := fun k hk => by
  have e : k = 0 ∨ k = 1 ∨ k = 2 ∨ k = 3 ∨ k = 4 ∨ k = 5 ∨ k = 6 ∨ k = 7 ∨ k = 8 ∨ k = 9 ∨ k = 10 ∨ k = 11 ∨ k = 12 ∨ k = 13 := by omega
  rcases e with rfl | rfl | rfl | rfl | rfl | rfl | rfl | rfl | rfl | rfl | rfl | rfl | rfl | rfl
  · exact ⟨by kernel_rfl, by kernel_rfl, fun h => absurd h (by rw [show ((stK (ud2 (n + 1)) 0).ins (ud2 (n + 1))).op = 0 by kernel_rfl]; decide)⟩
  · exact ⟨by kernel_rfl, by kernel_rfl, fun h => absurd h (by rw [show ((stK (ud2 (n + 1)) 1).ins (ud2 (n + 1))).op = 18 by kernel_rfl]; decide)⟩
  · exact ⟨by kernel_rfl, by kernel_rfl, fun h => absurd h (by rw [show ((stK (ud2 (n + 1)) 2).ins (ud2 (n + 1))).op = 22 by kernel_rfl]; decide)⟩
  · exact ⟨by kernel_rfl, by kernel_rfl, fun h => absurd h (by rw [show ((stK (ud2 (n + 1)) 3).ins (ud2 (n + 1))).op = 19 by kernel_rfl]; decide)⟩
  · exact ⟨by kernel_rfl, by kernel_rfl, fun h => absurd h (by rw [show ((stK (ud2 (n + 1)) 4).ins (ud2 (n + 1))).op = 21 by kernel_rfl]; decide)⟩
  · refine ⟨by kernel_rfl, by kernel_rfl, fun _ => ?_⟩
    rw [show rg (stK (ud2 (n + 1)) 5) ((stK (ud2 (n + 1)) 5).ins (ud2 (n + 1))).b.toNat = (n + 1, 0) by kernel_rfl]
    exact ⟨hn, by show (0 : Nat) < _; omega⟩
  · exact ⟨by kernel_rfl, by kernel_rfl, fun h => absurd h (by rw [show ((stK (ud2 (n + 1)) 6).ins (ud2 (n + 1))).op = 15 by kernel_rfl]; decide)⟩
  · exact ⟨by kernel_rfl, by kernel_rfl, fun h => absurd h (by rw [show ((stK (ud2 (n + 1)) 7).ins (ud2 (n + 1))).op = 23 by kernel_rfl]; decide)⟩
  · exact ⟨by kernel_rfl, by kernel_rfl, fun h => absurd h (by rw [show ((stK (ud2 (n + 1)) 8).ins (ud2 (n + 1))).op = 0 by kernel_rfl]; decide)⟩
  · exact ⟨by kernel_rfl, by kernel_rfl, fun h => absurd h (by rw [show ((stK (ud2 (n + 1)) 9).ins (ud2 (n + 1))).op = 18 by kernel_rfl]; decide)⟩
  · exact ⟨by kernel_rfl, by kernel_rfl, fun h => absurd h (by rw [show ((stK (ud2 (n + 1)) 10).ins (ud2 (n + 1))).op = 22 by kernel_rfl]; decide)⟩
  · exact ⟨by kernel_rfl, by kernel_rfl, fun h => absurd h (by rw [show ((stK (ud2 (n + 1)) 11).ins (ud2 (n + 1))).op = 19 by kernel_rfl]; decide)⟩
  · exact ⟨by kernel_rfl, by kernel_rfl, fun h => absurd h (by rw [show ((stK (ud2 (n + 1)) 12).ins (ud2 (n + 1))).op = 21 by kernel_rfl]; decide)⟩
  · exact ⟨by kernel_rfl, by kernel_rfl, fun h => absurd h (by rw [show ((stK (ud2 (n + 1)) 13).ins (ud2 (n + 1))).op = 15 by kernel_rfl]; decide)⟩
theorem ud3_end : (stK ud3 2).ended = true := by kernel_rfl
theorem ud1z_end : (stK (ud1 0) 6).ended = true := by kernel_rfl
theorem ud2z_end : (stK (ud2 0) 6).ended = true := by kernel_rfl
theorem ud1_end (n : Nat) : (stK (ud1 (n + 1)) 9).ended = true := by kernel_rfl
theorem ud2_end (n : Nat) : (stK (ud2 (n + 1)) 14).ended = true := by kernel_rfl
def udP (v : Nat) (again : Bool) : List Fn := if again = true then ud2 v else ud1 v
theorem udc_r : ∀ s ∈ udC.slots, I64 s.1 ∧ I64 s.2 := fun s hs => by
  simp [udC] at hs
  subst hs
  exact ⟨by unfold I64; omega, by unfold I64; omega⟩
theorem fnr_of {p : List Fn} {f : Fn} (hp : p = [f, udC]) (hf : f.slots = []) : ∀ i, i < p.length → FnR (p.getD i Fn.z) := fun i hi => by
  subst hp
  have e : i = 0 ∨ i = 1 := by simp at hi; omega
  rcases e with rfl | rfl
  · intro s hs
    have hs' : s ∈ f.slots := hs
    rw [hf] at hs'
    cases hs'
  · exact udc_r
theorem ud_run_any (v : Nat) (hv : v < 18446744073709551616) (again : Bool) : ∃ M : Mx, (v = 0 ∨ again = true → M.kind = 3) ∧ (v ≠ 0 → again = false → M.kind = 0 ∧ M.res.1 = v) ∧
    ∀ (ga : Addr) (cp : Nat) (W : World), Tb W → Fx W 0 W.heap.size (some ga) (udP v again) → Calls Tryd.prog 11 #[.agg #[.slice (some ga) 2 cp], .slice none 0 0, .int .i64 100] W (OutD M W) := by
  cases again with
  | true =>
    cases v with
    | zero => exact ⟨_, fun _ => ud2z_run, fun h => absurd rfl h, fun ga cp W hT hf => out_any ga (ud2 0) cp none 0 0 [] 100 (by omega) (fun m => ∃ k, k ≤ 6 ∧ m = stK (ud2 0) k) W hT hf (by simp [ud2, maxLen]) (fnr_of rfl rfl) (ud_prog2 0) (by simp [ud2]) ⟨0, by omega, rfl⟩ (good_of ud2z_good ud2z_end)⟩
    | succ n => exact ⟨_, fun _ => ud2_run n, fun _ h => (by cases h), fun ga cp W hT hf => out_any ga (ud2 (n + 1)) cp none 0 0 [] 100 (by omega) (fun m => ∃ k, k ≤ 14 ∧ m = stK (ud2 (n + 1)) k) W hT hf (by simp [ud2, maxLen]) (fnr_of rfl rfl) (ud_prog2 _) (by simp [ud2]) ⟨0, by omega, rfl⟩ (good_of (ud2_good n hv) (ud2_end n))⟩
  | false =>
    cases v with
    | zero => exact ⟨_, fun _ => ud1z_run, fun h => absurd rfl h, fun ga cp W hT hf => out_any ga (ud1 0) cp none 0 0 [] 100 (by omega) (fun m => ∃ k, k ≤ 6 ∧ m = stK (ud1 0) k) W hT hf (by simp [ud1, maxLen]) (fnr_of rfl rfl) (ud_prog1 0) (by simp [ud1]) ⟨0, by omega, rfl⟩ (good_of ud1z_good ud1z_end)⟩
    | succ n => exact ⟨_, fun h => (by rcases h with h | h <;> cases h), fun _ _ => ⟨(ud1_run n).1, by rw [(ud1_run n).2]; exact vcut_8 (n + 1) hv⟩, fun ga cp W hT hf => out_any ga (ud1 (n + 1)) cp none 0 0 [] 100 (by omega) (fun m => ∃ k, k ≤ 9 ∧ m = stK (ud1 (n + 1)) k) W hT hf (by simp [ud1, maxLen]) (fnr_of rfl rfl) (ud_prog1 _) (by simp [ud1]) ⟨0, by omega, rfl⟩ (good_of (ud1_good n hv) (ud1_end n))⟩
theorem ud3_out (ga : Addr) (cp : Nat) (W : World) (hT : Tb W) (hf : Fx W 0 W.heap.size (some ga) ud3) : Calls Tryd.prog 11 #[.agg #[.slice (some ga) 2 cp], .slice none 0 0, .int .i64 100] W (OutD ⟨List.replicate 8 (0, 0), [⟨0, 1, none, none⟩, ⟨1, 1, none, none⟩], [], 2, [], 3, 0, (0, 0), 2, [], true⟩ W) := by
  have h := out_any ga ud3 cp none 0 0 [] 100 (by omega) (fun m => ∃ k, k ≤ 2 ∧ m = stK ud3 k) W hT hf (by simp [ud3, maxLen]) (fnr_of rfl rfl) ud_prog3 (by simp [ud3]) ⟨0, by omega, rfl⟩ (good_of ud3_good ud3_end)
  rw [ud3_run] at h
  exact h
/-- a program of a function and the called function -/
theorem fx_two {w : World} {g2 gs gc c0 : Nat} {A0 : Option Addr} {code : List Ins} (hn : Nx w 0 w.heap.size A0 code) (hl : code.length ≤ maxLen) (hc : code.length ≤ c0)
    (h2 : Blk w g2 51 #[.int .i64 0, .slice none 0 0, .slice A0 code.length c0, .int .i64 1, .slice (some ⟨gs, 0, none⟩) 1 1, .slice (some ⟨gc, 0, none⟩) 6 6])
    (h3 : Blk w gs 45 #[.int .i64 8, .int .i64 8]) (h4 : Blk w gc 48 (inV udC.code).toArray) : Fx w 0 w.heap.size (some ⟨g2, 0, none⟩) [⟨0, [], code⟩, udC] := by
  have hr := reads_of_blk (n := 2) (size := 3) h2 rfl
  have hs : Sx w 0 w.heap.size (some ⟨gs, 0, none⟩) udC.slots := Rx.of_reads (reads_of_blk (n := 1) (size := 2) h3 rfl)
  have hcc : Nx w 0 w.heap.size (some ⟨gc, 0, none⟩) udC.code := by
    have h5 := reads_of_blk (n := 6) (size := 5) h4 (by rw [List.size_toArray]; exact flat_len icells_len udC.code)
    have h6 : Reads w w.heap.size 5 (some ⟨gc, 0, none⟩) 6 (inV udC.code) := by simpa using h5
    exact Rx.of_reads h6
  refine ⟨_, Rx.of_reads hr, fun i hi => ?_⟩
  have e : i = 0 ∨ i = 1 := by simp at hi; omega
  rcases e with rfl | rfl
  · exact ⟨none, 0, A0, c0, rfl, rfl, rfl, Rx.nil _ _ _ _, hn, ⟨by simp, by simp⟩, hl, hc⟩
  · exact ⟨some ⟨gs, 0, none⟩, 1, some ⟨gc, 0, none⟩, 6, rfl, rfl, rfl, hs, hcc, ⟨by simp [udC, maxLen], by simp [udC]⟩, by simp [udC, maxLen], by simp [udC]⟩
end Go.Proofs.YtillopkcmpcokaaDoor.pm
