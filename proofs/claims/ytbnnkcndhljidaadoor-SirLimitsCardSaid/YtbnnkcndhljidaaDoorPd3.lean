/- The draw body: instructions without jumps. -/
import Derived.Test.YtbnnkcndhljidaaDoorPd2
namespace Go.Proofs.YtbnnkcndhljidaaDoor.pm
open Go.RowKit
set_option linter.unusedVariables false
set_option maxRecDepth 10000

theorem own_draw2 {w w' : World} {b0 g n : Nat} {e : TypeId} {size : Nat} {v : Value} {xs : List Value} (h : w.ownsRow b0 e size v n xs) (hg : w.grownBy w' (some g)) (hlt : g < b0) : w'.ownsRow b0 e size v n xs :=
  h.kept hg (by
    rcases hq : v.ownBlock with _ | k
    · exact .inl rfl
    · exact .inr (fun e => by injection e with e; have := (h.lt k hq).1; omega))
theorem own_int_at {w : World} {base nb m cn : Nat} {L : List Int} (h : w.ownsRow base 3 1 (.slice (some ⟨nb, 0, none⟩) m cn) m (L.map (Value.int .i64))) {i : Nat} (hi : i < m) : w.cell? ⟨nb, i, none⟩ = some (.int .i64 (L.getD i 0)) := by
  refine (h.cellAt i (by omega)).trans ?_
  have hl : L.length = m := by have := h.1; simpa using this
  rw [List.getElem?_map, List.getD_eq_getElem?_getD, List.getElem?_eq_getElem (by omega)]
  rfl
theorem three_ex (k : Nat) (hk : k < 3) : ∃ s : Int, (#[Value.int .i64 13, Value.int .i64 12, Value.int .i64 1] : Array Value)[k]? = some (.int .i64 s) ∧ (s = 13 ∨ s = 12 ∨ s = 1) := by
  have h : k = 0 ∨ k = 1 ∨ k = 2 := by omega
  rcases h with rfl | rfl | rfl <;> exact ⟨_, rfl, by omega⟩
end Go.Proofs.YtbnnkcndhljidaaDoor.pm
