/- The reference's Plain: words. -/
import Derived.Test.YtcnndoefgjbmiaaGreatGRd
import Derived.Test.YtcnndoefgjbmiaaGreatGJl
set_option linter.unusedVariables false
set_option maxRecDepth 10000
namespace Go.Proofs.YtcnndoefgjbmiaaGreat.pm
open Go.RowKit
def rl (l : List (Nat × Nat)) (i : Nat) : Nat × Nat := l.getD i (0, 0)
def rga (l : List (Nat × Nat)) : Array Value := #[.int .u64 (rl l 0).1, .int .u64 (rl l 0).2, .int .u64 (rl l 1).1, .int .u64 (rl l 1).2, .int .u64 (rl l 2).1, .int .u64 (rl l 2).2, .int .u64 (rl l 3).1, .int .u64 (rl l 3).2, .int .u64 (rl l 4).1, .int .u64 (rl l 4).2, .int .u64 (rl l 5).1, .int .u64 (rl l 5).2, .int .u64 (rl l 6).1, .int .u64 (rl l 6).2, .int .u64 (rl l 7).1, .int .u64 (rl l 7).2]
def rgv (l : List (Nat × Nat)) : Value := .agg (rga l)
def PlD (B lo : Nat) (k : Mx) (w : World) (e : Ending) (w' : World) : Prop :=
 ∃ iv' At' ct', e = .returned (.tuple #[rgv k.regs, iv', .slice At' k.trace.length ct', .bool k.ended]) ∧ InX w' B iv' k.inp ∧ Rx w' lo w'.heap.size 2 At' k.trace.length (k.trace.flatMap vcl) ∧ k.trace.length ≤ ct' ∧ Below w.heap.size w w'
section
variable {w : World} {B lo g ct : Nat} {iv : Value} {At : Option Addr} {k : Mx} {l : List (Nat × Nat)}
theorem rga_cell {t : TypeId} (h : Blk w g t (rga l)) {r : Nat} (hr : r < 8) : w.cell? ⟨g, r * 2, none⟩ = some (.int .u64 (rl l r).1) ∧ w.cell? ⟨g, r * 2 + 1, none⟩ = some (.int .u64 (rl l r).2) := by
 have e : r = 0 ∨ r = 1 ∨ r = 2 ∨ r = 3 ∨ r = 4 ∨ r = 5 ∨ r = 6 ∨ r = 7 := by omega
 rcases e with rfl | rfl | rfl | rfl | rfl | rfl | rfl | rfl
 · exact ⟨h.cell 0, h.cell 1⟩
 · exact ⟨h.cell 2, h.cell 3⟩
 · exact ⟨h.cell 4, h.cell 5⟩
 · exact ⟨h.cell 6, h.cell 7⟩
 · exact ⟨h.cell 8, h.cell 9⟩
 · exact ⟨h.cell 10, h.cell 11⟩
 · exact ⟨h.cell 12, h.cell 13⟩
 · exact ⟨h.cell 14, h.cell 15⟩
theorem vcl_one (l : List (Nat × Nat)) : ∀ u ∈ l.flatMap vcl, u.oneCell' = true := fun u hu => by
 obtain ⟨x, -, hx⟩ := List.mem_flatMap.1 hu
 simp [vcl] at hx
 rcases hx with rfl | rfl <;> rfl
theorem rga_set {t : TypeId} (h : Blk w g t (rga l)) (hr8 : l.length = 8) {r : Nat} (hr : r < 8) (v : Nat × Nat) : Blk ((w.setCell ⟨g, r * 2, none⟩ (.int .u64 v.1)).setCell ⟨g, r * 2 + 1, none⟩ (.int .u64 v.2)) g t (rga (l.set r v)) := by
 have h1 := (h.set_ (r * 2) (.int .u64 v.1)).set_ (r * 2 + 1) (.int .u64 v.2)
 have e : ((rga l).setIfInBounds (r * 2) (.int .u64 v.1)).setIfInBounds (r * 2 + 1) (.int .u64 v.2) = rga (l.set r v) := by
  match l, hr8 with
  | [r0, r1, r2, r3, r4, r5, r6, r7], _ =>
   have e : r = 0 ∨ r = 1 ∨ r = 2 ∨ r = 3 ∨ r = 4 ∨ r = 5 ∨ r = 6 ∨ r = 7 := by omega
   rcases e with rfl | rfl | rfl | rfl | rfl | rfl | rfl | rfl <;> rfl
 rw [e] at h1
 exact h1
theorem rga_16 {t : TypeId} (h : Blk w g t (rga l)) : w.cell? ⟨g, 0, none⟩ = some (.int .u64 (rl l 0).1) ∧ w.cell? ⟨g, 1, none⟩ = some (.int .u64 (rl l 0).2) ∧ w.cell? ⟨g, 2, none⟩ = some (.int .u64 (rl l 1).1) ∧ w.cell? ⟨g, 3, none⟩ = some (.int .u64 (rl l 1).2) ∧ w.cell? ⟨g, 4, none⟩ = some (.int .u64 (rl l 2).1) ∧ w.cell? ⟨g, 5, none⟩ = some (.int .u64 (rl l 2).2) ∧ w.cell? ⟨g, 6, none⟩ = some (.int .u64 (rl l 3).1) ∧ w.cell? ⟨g, 7, none⟩ = some (.int .u64 (rl l 3).2) ∧ w.cell? ⟨g, 8, none⟩ = some (.int .u64 (rl l 4).1) ∧ w.cell? ⟨g, 9, none⟩ = some (.int .u64 (rl l 4).2) ∧ w.cell? ⟨g, 10, none⟩ = some (.int .u64 (rl l 5).1) ∧ w.cell? ⟨g, 11, none⟩ = some (.int .u64 (rl l 5).2) ∧ w.cell? ⟨g, 12, none⟩ = some (.int .u64 (rl l 6).1) ∧ w.cell? ⟨g, 13, none⟩ = some (.int .u64 (rl l 6).2) ∧ w.cell? ⟨g, 14, none⟩ = some (.int .u64 (rl l 7).1) ∧ w.cell? ⟨g, 15, none⟩ = some (.int .u64 (rl l 7).2) ∧ (∀ j, w.frozen? ⟨g, j, none⟩ = false) ∧ g < w.heap.size :=
 ⟨h.cell 0, h.cell 1, h.cell 2, h.cell 3, h.cell 4, h.cell 5, h.cell 6, h.cell 7, h.cell 8, h.cell 9, h.cell 10, h.cell 11, h.cell 12, h.cell 13, h.cell 14, h.cell 15, fun j => h.frozen j, h.lt⟩
theorem rga_put {t : TypeId} {z : List (Nat × Nat)} (h : Blk w g t (rga z)) (l : List (Nat × Nat)) : Blk ((((((((((((((((w.setCell ⟨g, 0, none⟩ (.int .u64 (rl l 0).1)).setCell ⟨g, 1, none⟩ (.int .u64 (rl l 0).2)).setCell ⟨g, 2, none⟩ (.int .u64 (rl l 1).1)).setCell ⟨g, 3, none⟩ (.int .u64 (rl l 1).2)).setCell ⟨g, 4, none⟩ (.int .u64 (rl l 2).1)).setCell ⟨g, 5, none⟩ (.int .u64 (rl l 2).2)).setCell ⟨g, 6, none⟩ (.int .u64 (rl l 3).1)).setCell ⟨g, 7, none⟩ (.int .u64 (rl l 3).2)).setCell ⟨g, 8, none⟩ (.int .u64 (rl l 4).1)).setCell ⟨g, 9, none⟩ (.int .u64 (rl l 4).2)).setCell ⟨g, 10, none⟩ (.int .u64 (rl l 5).1)).setCell ⟨g, 11, none⟩ (.int .u64 (rl l 5).2)).setCell ⟨g, 12, none⟩ (.int .u64 (rl l 6).1)).setCell ⟨g, 13, none⟩ (.int .u64 (rl l 6).2)).setCell ⟨g, 14, none⟩ (.int .u64 (rl l 7).1)).setCell ⟨g, 15, none⟩ (.int .u64 (rl l 7).2)) g t (rga l) := by
 have h1 := ((((((((((((((((h.set_ 0 (.int .u64 (rl l 0).1)).set_ 1 (.int .u64 (rl l 0).2)).set_ 2 (.int .u64 (rl l 1).1)).set_ 3 (.int .u64 (rl l 1).2)).set_ 4 (.int .u64 (rl l 2).1)).set_ 5 (.int .u64 (rl l 2).2)).set_ 6 (.int .u64 (rl l 3).1)).set_ 7 (.int .u64 (rl l 3).2)).set_ 8 (.int .u64 (rl l 4).1)).set_ 9 (.int .u64 (rl l 4).2)).set_ 10 (.int .u64 (rl l 5).1)).set_ 11 (.int .u64 (rl l 5).2)).set_ 12 (.int .u64 (rl l 6).1)).set_ 13 (.int .u64 (rl l 6).2)).set_ 14 (.int .u64 (rl l 7).1)).set_ 15 (.int .u64 (rl l 7).2))
 have e : (((((((((((((((((rga z).setIfInBounds 0 (.int .u64 (rl l 0).1)).setIfInBounds 1 (.int .u64 (rl l 0).2)).setIfInBounds 2 (.int .u64 (rl l 1).1)).setIfInBounds 3 (.int .u64 (rl l 1).2)).setIfInBounds 4 (.int .u64 (rl l 2).1)).setIfInBounds 5 (.int .u64 (rl l 2).2)).setIfInBounds 6 (.int .u64 (rl l 3).1)).setIfInBounds 7 (.int .u64 (rl l 3).2)).setIfInBounds 8 (.int .u64 (rl l 4).1)).setIfInBounds 9 (.int .u64 (rl l 4).2)).setIfInBounds 10 (.int .u64 (rl l 5).1)).setIfInBounds 11 (.int .u64 (rl l 5).2)).setIfInBounds 12 (.int .u64 (rl l 6).1)).setIfInBounds 13 (.int .u64 (rl l 6).2)).setIfInBounds 14 (.int .u64 (rl l 7).1)).setIfInBounds 15 (.int .u64 (rl l 7).2)) = rga l := by kernel_rfl
 rw [e] at h1
 exact h1
theorem rga_below {b : Nat} (hb : b ≤ g) (l : List (Nat × Nat)) : Below b w ((((((((((((((((w.setCell ⟨g, 0, none⟩ (.int .u64 (rl l 0).1)).setCell ⟨g, 1, none⟩ (.int .u64 (rl l 0).2)).setCell ⟨g, 2, none⟩ (.int .u64 (rl l 1).1)).setCell ⟨g, 3, none⟩ (.int .u64 (rl l 1).2)).setCell ⟨g, 4, none⟩ (.int .u64 (rl l 2).1)).setCell ⟨g, 5, none⟩ (.int .u64 (rl l 2).2)).setCell ⟨g, 6, none⟩ (.int .u64 (rl l 3).1)).setCell ⟨g, 7, none⟩ (.int .u64 (rl l 3).2)).setCell ⟨g, 8, none⟩ (.int .u64 (rl l 4).1)).setCell ⟨g, 9, none⟩ (.int .u64 (rl l 4).2)).setCell ⟨g, 10, none⟩ (.int .u64 (rl l 5).1)).setCell ⟨g, 11, none⟩ (.int .u64 (rl l 5).2)).setCell ⟨g, 12, none⟩ (.int .u64 (rl l 6).1)).setCell ⟨g, 13, none⟩ (.int .u64 (rl l 6).2)).setCell ⟨g, 14, none⟩ (.int .u64 (rl l 7).1)).setCell ⟨g, 15, none⟩ (.int .u64 (rl l 7).2)) :=
 (((((((((((((((((Below.refl b w).setCell hb _).setCell hb _).setCell hb _).setCell hb _).setCell hb _).setCell hb _).setCell hb _).setCell hb _).setCell hb _).setCell hb _).setCell hb _).setCell hb _).setCell hb _).setCell hb _).setCell hb _).setCell hb _)
theorem rga_kp {lo hi : Nat} (hb : g < lo) (l : List (Nat × Nat)) : Kp lo hi w ((((((((((((((((w.setCell ⟨g, 0, none⟩ (.int .u64 (rl l 0).1)).setCell ⟨g, 1, none⟩ (.int .u64 (rl l 0).2)).setCell ⟨g, 2, none⟩ (.int .u64 (rl l 1).1)).setCell ⟨g, 3, none⟩ (.int .u64 (rl l 1).2)).setCell ⟨g, 4, none⟩ (.int .u64 (rl l 2).1)).setCell ⟨g, 5, none⟩ (.int .u64 (rl l 2).2)).setCell ⟨g, 6, none⟩ (.int .u64 (rl l 3).1)).setCell ⟨g, 7, none⟩ (.int .u64 (rl l 3).2)).setCell ⟨g, 8, none⟩ (.int .u64 (rl l 4).1)).setCell ⟨g, 9, none⟩ (.int .u64 (rl l 4).2)).setCell ⟨g, 10, none⟩ (.int .u64 (rl l 5).1)).setCell ⟨g, 11, none⟩ (.int .u64 (rl l 5).2)).setCell ⟨g, 12, none⟩ (.int .u64 (rl l 6).1)).setCell ⟨g, 13, none⟩ (.int .u64 (rl l 6).2)).setCell ⟨g, 14, none⟩ (.int .u64 (rl l 7).1)).setCell ⟨g, 15, none⟩ (.int .u64 (rl l 7).2)) :=
 (((((((((((((((((Kp.refl lo hi w).set (.inl hb) _).set (.inl hb) _).set (.inl hb) _).set (.inl hb) _).set (.inl hb) _).set (.inl hb) _).set (.inl hb) _).set (.inl hb) _).set (.inl hb) _).set (.inl hb) _).set (.inl hb) _).set (.inl hb) _).set (.inl hb) _).set (.inl hb) _).set (.inl hb) _).set (.inl hb) _)
end
end Go.Proofs.YtcnndoefgjbmiaaGreat.pm
