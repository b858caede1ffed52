/- Contracts of the package sir: within, Terminator, limits, instr. -/
import Derived.Test.YtmeoabpigibaoaaSp
import Derived.Deep.RegionHeld3
import Derived.BigQuiet
import Derived.Deep.QuietTactic
namespace Go.Proofs.Ytmeoabpigibaoaa.pm
open Go.RowKit
set_option linter.unusedVariables false
set_option maxRecDepth 10000
attribute [local go_sem ↓] Go.wp_at_zero Go.wp_at_succ

theorem term_any (op : Int) (w : World) :
    Calls Try.prog 33 #[.int .i64 op] w fun e w' => e = .returned (.bool (termB op)) ∧ w = w' := by
  by_cases h1 : op = 20
  · subst h1
    go_enter Try.func33, Try.ntmps33
    go_wp2
    go_ret
    exact ⟨rfl, rfl⟩
  · by_cases h2 : op = 23
    · subst h2
      go_enter Try.func33, Try.ntmps33
      go_wp2
      go_ret
      exact ⟨rfl, rfl⟩
    · have b1 : (op == 20) = false := by simpa using h1
      have b2 : (op == 23) = false := by simpa using h2
      have HT : Hid (termB op = (op == 24)) := Lib.hid (by unfold termB; rw [b1, b2]; simp)
      clear h1 h2
      go_enter Try.func33, Try.ntmps33
      go_wp2
      go_ret
      exact ⟨ret_bool (by rw [HT.out]), rfl⟩
/-- the table of the shapes lies in block 0 -/
def Tb (w : World) : Prop := 0 < w.heap.size ∧ ∀ k, k < 25 → w.cell? ⟨0, k * 4, none⟩ = some (.int .i64 ((shp k).1 : Int)) ∧ w.cell? ⟨0, k * 4 + 1, none⟩ = some (.int .i64 ((shp k).2.1 : Int)) ∧ w.cell? ⟨0, k * 4 + 2, none⟩ = some (.int .i64 ((shp k).2.2.1 : Int)) ∧ w.cell? ⟨0, k * 4 + 3, none⟩ = some (.bool (shp k).2.2.2)
theorem Tb.keep {w w' : World} (h : Tb w) (hk : Kp 0 1 w w') (hs : w.heap.size ≤ w'.heap.size) : Tb w' := ⟨by have := h.1; omega, fun k hk' => by
  have e : ∀ o, w'.cell? ⟨0, o, none⟩ = w.cell? ⟨0, o, none⟩ := fun o => World.cell?_of_block (a := ⟨0, o, none⟩) (hk 0 (Nat.le_refl _) (by omega))
  rw [e, e, e, e]
  exact h.2 k hk'⟩
theorem Tb.below {w w' : World} (h : Tb w) (hb : Below w.heap.size w w') : Tb w' := h.keep (Kp.of_below hb h.1) hb.size
def bads (j ka kb kc : Nat) (a b c : Int) : Bool := (decide (0 < j) && badK ka a) || (decide (1 < j) && badK kb b) || (decide (2 < j) && badK kc c)
def outs (nf : Nat) (prm : Int) (ns nc j ka kb kc : Nat) (a b c : Int) : Bool := (decide (0 < j) && outK nf prm ns nc ka a) || (decide (1 < j) && outK nf prm ns nc kb b) || (decide (2 < j) && outK nf prm ns nc kc c)
def tgts (nf : Nat) (prm : Int) (ns nc j ka kb kc : Nat) (a b c : Int) : Bool := (decide (0 < j) && tgtK nf prm ns nc ka a) || (decide (1 < j) && tgtK nf prm ns nc kb b) || (decide (2 < j) && tgtK nf prm ns nc kc c)
theorem bads_0 (ka kb kc : Nat) (a b c : Int) : bads 0 ka kb kc a b c = false := by simp [bads]
theorem bads_1 (ka kb kc : Nat) (a b c : Int) : bads 1 ka kb kc a b c = (bads 0 ka kb kc a b c || badK ka a) := by simp [bads]
theorem bads_2 (ka kb kc : Nat) (a b c : Int) : bads 2 ka kb kc a b c = (bads 1 ka kb kc a b c || badK kb b) := by simp [bads]
theorem bads_3 (ka kb kc : Nat) (a b c : Int) : bads 3 ka kb kc a b c = (bads 2 ka kb kc a b c || badK kc c) := by simp [bads]
theorem outs_1 (nf : Nat) (prm : Int) (ns nc ka kb kc : Nat) (a b c : Int) : outs nf prm ns nc 1 ka kb kc a b c = (outs nf prm ns nc 0 ka kb kc a b c || outK nf prm ns nc ka a) := by simp [outs]
theorem outs_2 (nf : Nat) (prm : Int) (ns nc ka kb kc : Nat) (a b c : Int) : outs nf prm ns nc 2 ka kb kc a b c = (outs nf prm ns nc 1 ka kb kc a b c || outK nf prm ns nc kb b) := by simp [outs]
theorem outs_3 (nf : Nat) (prm : Int) (ns nc ka kb kc : Nat) (a b c : Int) : outs nf prm ns nc 3 ka kb kc a b c = (outs nf prm ns nc 2 ka kb kc a b c || outK nf prm ns nc kc c) := by simp [outs]
theorem tgts_1 (nf : Nat) (prm : Int) (ns nc ka kb kc : Nat) (a b c : Int) : tgts nf prm ns nc 1 ka kb kc a b c = (tgts nf prm ns nc 0 ka kb kc a b c || tgtK nf prm ns nc ka a) := by simp [tgts]
theorem tgts_2 (nf : Nat) (prm : Int) (ns nc ka kb kc : Nat) (a b c : Int) : tgts nf prm ns nc 2 ka kb kc a b c = (tgts nf prm ns nc 1 ka kb kc a b c || tgtK nf prm ns nc kb b) := by simp [tgts]
theorem tgts_3 (nf : Nat) (prm : Int) (ns nc ka kb kc : Nat) (a b c : Int) : tgts nf prm ns nc 3 ka kb kc a b c = (tgts nf prm ns nc 2 ka kb kc a b c || tgtK nf prm ns nc kc c) := by simp [tgts]
theorem lim_cell (nf : Nat) (prm : Int) (ns nc k : Nat) (h : k < 7) : (#[Value.int .i64 1, .int .i64 8, .int .i64 (ns : Int), .int .i64 (nf : Int), .int .i64 8, .int .i64 prm, .int .i64 (nc : Int)] : Array Value)[k]? = some (.int .i64 (lim nf prm ns nc k)) := by
  have : k = 0 ∨ k = 1 ∨ k = 2 ∨ k = 3 ∨ k = 4 ∨ k = 5 ∨ k = 6 := by omega
  rcases this with rfl | rfl | rfl | rfl | rfl | rfl | rfl <;> rfl
section
variable {nf : Nat} {prm : Int} {sl : List (Int × Int)} {nc o : Nat} {a b c im : Int}
theorem instrE_bad (h : inB (o : Int) 25 = true) (h2 : (badK (shp o).1 a || badK (shp o).2.1 b || badK (shp o).2.2.1 c) = true) : instrE nf prm sl nc ⟨(o : Int), a, b, c, im⟩ = 2 := by
  simp only [instrE, Int.toNat_natCast]
  rw [if_neg (by rw [h]; simp), if_pos h2]
theorem instrE_imm (h : inB (o : Int) 25 = true) (h2 : (badK (shp o).1 a || badK (shp o).2.1 b || badK (shp o).2.2.1 c) = false) (h3 : (!(shp o).2.2.2 && im != 0) = true) : instrE nf prm sl nc ⟨(o : Int), a, b, c, im⟩ = 2 := by
  simp only [instrE, Int.toNat_natCast]
  rw [if_neg (by rw [h]; simp), if_neg (by rw [h2]; simp), if_pos h3]
theorem instrE_out (h : inB (o : Int) 25 = true) (h2 : (badK (shp o).1 a || badK (shp o).2.1 b || badK (shp o).2.2.1 c) = false) (h3 : (!(shp o).2.2.2 && im != 0) = false) (h4 : (outK nf prm sl.length nc (shp o).1 a || outK nf prm sl.length nc (shp o).2.1 b || outK nf prm sl.length nc (shp o).2.2.1 c) = true) : instrE nf prm sl nc ⟨(o : Int), a, b, c, im⟩ = 4 := by
  simp only [instrE, Int.toNat_natCast]
  rw [if_neg (by rw [h]; simp), if_neg (by rw [h2]; simp), if_neg (by rw [h3]; simp), if_pos h4]
theorem instrE_end (h : inB (o : Int) 25 = true) (h2 : (badK (shp o).1 a || badK (shp o).2.1 b || badK (shp o).2.2.1 c) = false) (h3 : (!(shp o).2.2.2 && im != 0) = false) (h4 : (outK nf prm sl.length nc (shp o).1 a || outK nf prm sl.length nc (shp o).2.1 b || outK nf prm sl.length nc (shp o).2.2.1 c) = false) :
    instrE nf prm sl nc ⟨(o : Int), a, b, c, im⟩ = if ((o : Int) == 17 && (sl.getD a.toNat (0, 0)).1 != (sl.getD b.toNat (0, 0)).1) = true then 5 else if (tgtK nf prm sl.length nc (shp o).1 a || tgtK nf prm sl.length nc (shp o).2.1 b || tgtK nf prm sl.length nc (shp o).2.2.1 c) = true then 6 else 0 := by
  simp only [instrE, Int.toNat_natCast]
  rw [if_neg (by rw [h]; simp), if_neg (by rw [h2]; simp), if_neg (by rw [h3]; simp), if_neg (by rw [h4]; simp)]
end
theorem quiet_left' {P : Program} {f : FuncId} {args : Array Value} {w : World} {n : Nat} {v : Value} (h : Calls P f args (w.drewN n) fun e w' => e = .returned v ∧ w.drewN n = w') : Calls P f args (w.drewN n) fun e w'' => e = .returned v ∧ ∃ m, w'' = w.drewN m :=
  h.mono fun _ _ ⟨he, hm⟩ => ⟨he, n, hm.symm⟩
end Go.Proofs.Ytmeoabpigibaoaa.pm
