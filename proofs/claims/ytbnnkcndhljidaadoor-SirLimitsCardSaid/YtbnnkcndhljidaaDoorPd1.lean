/- The draws Slot and Slots. -/
import Derived.Test.YtbnnkcndhljidaaDoorPv
import Derived.Deep.DrawnRows
import Derived.Deep.RegionWith
import Derived.Deep.CutBlock
namespace Go.Proofs.YtbnnkcndhljidaaDoor.pm
open Go.RowKit
set_option linter.unusedVariables false
set_option maxRecDepth 10000
attribute [local go_sem ↓] Go.wp_at_zero Go.wp_at_succ

theorem gcell {W W' : World} {g : Nat} (hg : W.grownBy W' (some g)) : (∀ b o, b < W.heap.size → ¬ (b = g) → W'.cell? ⟨b, o, none⟩ = W.cell? ⟨b, o, none⟩) ∧ (∀ b o, b < W.heap.size → ¬ (b = g) → W'.frozen? ⟨b, o, none⟩ = W.frozen? ⟨b, o, none⟩) :=
  ⟨fun b o h hn => World.cell?_of_block (hg.block b h (fun e => hn (by injection e))), fun b o h hn => World.frozen?_of_block (hg.block b h (fun e => hn (by injection e)))⟩
theorem grownBy_dr {a b : World} {g : Nat} (h : a.grownBy b (some g)) : a.grownBy b.drew (some g) := grownBy_trans h (grownBy_drewN' b 1 _)
theorem some_ne {a b : Nat} (h : ¬ a = b) : some a ≠ some b := fun e => h (by injection e)
theorem slot7 (k : Nat) (hk : k < 7) : ∃ s : Int, (#[Value.int .i64 8, Value.int .i64 4, Value.int .i64 8, Value.int .i64 1, Value.int .i64 2, Value.int .i64 16, Value.int .i64 8] : Array Value)[k]? = some (.int .i64 s) ∧ (s = 8 ∨ s = 4 ∨ s = 1 ∨ s = 2 ∨ s = 16) := by
  have h : k = 0 ∨ k = 1 ∨ k = 2 ∨ k = 3 ∨ k = 4 ∨ k = 5 ∨ k = 6 := by omega
  rcases h with rfl | rfl | rfl | rfl | rfl | rfl | rfl <;> exact ⟨_, rfl, by omega⟩
theorem slot8 (k : Nat) (hk : k < 8) : ∃ s : Int, (#[Value.int .i64 8, Value.int .i64 4, Value.int .i64 1, Value.int .i64 8, Value.int .i64 16, Value.int .i64 2, Value.int .i64 32, Value.int .i64 64] : Array Value)[k]? = some (.int .i64 s) ∧ (s = 8 ∨ s = 4 ∨ s = 1 ∨ s = 16 ∨ s = 2 ∨ s = 32 ∨ s = 64) := by
  have h : k = 0 ∨ k = 1 ∨ k = 2 ∨ k = 3 ∨ k = 4 ∨ k = 5 ∨ k = 6 ∨ k = 7 := by omega
  rcases h with rfl | rfl | rfl | rfl | rfl | rfl | rfl | rfl <;> exact ⟨_, rfl, by omega⟩
end Go.Proofs.YtbnnkcndhljidaaDoor.pm
