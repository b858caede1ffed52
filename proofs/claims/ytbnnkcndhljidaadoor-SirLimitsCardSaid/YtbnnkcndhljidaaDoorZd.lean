/- Draws: the list of choices carried along; the draw Int. -/
import Derived.Test.YtbnnkcndhljidaaDoorZo
namespace Go.Proofs.YtbnnkcndhljidaaDoor
open Go.RowKit
set_option linter.unusedVariables false
set_option maxRecDepth 10000

theorem grownBy_step {a b c : World} {g : Nat} {row : Option Nat} (h : a.grownBy b (some g)) (k : b.grownBy c row) (hr : ∀ j, row = some j → a.heap.size ≤ j ∨ j = g) : a.grownBy c (some g) :=
  ⟨k.os.trans h.os, k.tape.trans h.tape, k.output.trans h.output, Nat.le_trans h.size k.size, fun j hj hn => (k.block j (Nat.lt_of_lt_of_le hj h.size) (fun e => by
    rcases hr j e.symm with h1 | h1
    · omega
    · exact hn (by rw [h1]))).trans (h.block j hj hn)⟩
theorem grownBy_al {a b : World} {g : Nat} (h : a.grownBy b (some g)) (o : Obj) : a.grownBy (b.alloc o) (some g) := grownBy_step h (World.grownBy_alloc b o none) (fun j e => by cases e)
/-- a row of the call's own across a draw -/
theorem own_draw {w0 w w' : World} {g n : Nat} {e : TypeId} {size : Nat} {v : Value} {xs : List Value} (h : w.ownsRow w0.heap.size e size v n xs) (hg : w.grownBy w' (some g)) (hlt : g < w0.heap.size) : w'.ownsRow w0.heap.size e size v n xs :=
  h.kept hg (by
    rcases hq : v.ownBlock with _ | k
    · exact .inl rfl
    · exact .inr (fun e => by injection e with e; have := (h.lt k hq).1; omega))
theorem own_ne_codes {w0 w : World} {g n : Nat} {e : TypeId} {size : Nat} {v : Value} {xs : List Value} (h : w.ownsRow w0.heap.size e size v n xs) (hlt : g < w0.heap.size) : v.ownBlock ≠ some g := fun e => by have := (h.lt g e).1; omega
theorem ten_ex (k : Nat) (hk : k < 10) : ∃ x : Int, (#[Value.int .i64 9223372036854775807, Value.int .i64 (-9223372036854775808), Value.int .i64 2147483648, Value.int .i64 2147483647, Value.int .i64 (-1), Value.int .i64 16777216, Value.int .i64 33554432, Value.int .i64 1048577, Value.int .i64 512, Value.int .i64 80] : Array Value)[k]? = some (.int .i64 x) := by
  have h : k = 0 ∨ k = 1 ∨ k = 2 ∨ k = 3 ∨ k = 4 ∨ k = 5 ∨ k = 6 ∨ k = 7 ∨ k = 8 ∨ k = 9 := by omega
  rcases h with rfl | rfl | rfl | rfl | rfl | rfl | rfl | rfl | rfl | rfl <;> exact ⟨_, rfl⟩
end Go.Proofs.YtbnnkcndhljidaaDoor
