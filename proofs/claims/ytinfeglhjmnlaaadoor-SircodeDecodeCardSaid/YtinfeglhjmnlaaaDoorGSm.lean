/- Contracts: slices.Equal of slots and of instructions. -/
import Derived.Test.YtinfeglhjmnlaaaDoorGPm
import Derived.BigQuiet
import Derived.Deep.QuietTactic
import Derived.Laws.StructEq
import Derived.Laws.Tables
namespace Go.Proofs.YtinfeglhjmnlaaaDoor.pm
open Go.RowKit
set_option linter.unusedVariables false
set_option maxRecDepth 10000

def eqL {α : Type} (eq : α → α → Bool) : List α → List α → Bool
  | [], [] => true
  | x :: r, y :: s => eq x y && eqL eq r s
  | _, _ => false
theorem eqL_len {α : Type} {eq : α → α → Bool} : ∀ {l m : List α}, l.length ≠ m.length → eqL eq l m = false
  | [], [], h => absurd rfl h
  | [], _ :: _, _ => rfl
  | _ :: _, [], _ => rfl
  | x :: r, y :: s, h => by
    unfold eqL
    rw [eqL_len (l := r) (m := s) (by simpa using h), Bool.and_false]
theorem eqL_all {α : Type} {eq : α → α → Bool} {z : α} : ∀ {l m : List α}, l.length = m.length → (∀ j, j < l.length → eq (l.getD j z) (m.getD j z) = true) → eqL eq l m = true
  | [], [], _, _ => rfl
  | [], _ :: _, h, _ => by simp at h
  | _ :: _, [], h, _ => by simp at h
  | x :: r, y :: s, h, ha => by
    unfold eqL
    rw [eqL_all (z := z) (l := r) (m := s) (by simpa using h) (fun j hj => by simpa using ha (j + 1) (by simpa using hj)), Bool.and_true]
    simpa using ha 0 (by simp)
theorem eqL_one {α : Type} {eq : α → α → Bool} {z : α} : ∀ {l m : List α} {k : Nat}, k < l.length → k < m.length → eq (l.getD k z) (m.getD k z) = false → eqL eq l m = false
  | [], _, _, h, _, _ => by simp at h
  | _ :: _, [], _, _, h, _ => by simp at h
  | x :: r, y :: s, 0, _, _, h => by
    unfold eqL
    have : eq x y = false := by simpa using h
    rw [this, Bool.false_and]
  | x :: r, y :: s, k + 1, h1, h2, h => by
    unfold eqL
    rw [eqL_one (z := z) (l := r) (m := s) (k := k) (by simpa using h1) (by simpa using h2) (by simpa using h), Bool.and_false]
def slEq (a b : Int × Int) : Bool := a.1 == b.1 && a.2 == b.2
def inEq (a b : Ins) : Bool := a.op == b.op && a.a == b.a && a.b == b.b && a.c == b.c && a.imm == b.imm
theorem eq_slot (a b c d : Int) (w : World) : (Op.equalIn 10000 103 (.agg #[.int .i64 a, .int .i64 b]) (.agg #[.int .i64 c, .int .i64 d])).run Tryd.prog w = .ok (a == c && b == d) w := by
  have u3 := Tryd.underlying3
  have a3 := Tryd.isAgg3
  have z3 := Tryd.sizeOf3
  have hS : Tryd.prog.underlying 103 = some (.struct (Tryd.prog.fieldsOf 103)) := by kernel_rfl
  have hp : Tryd.prog.stoodInHeld 103 = false := by kernel_rfl
  rw [show (10000 : Nat) = 9999 + 1 from rfl, run_equalIn_agg w 9999 103 _ _ hS hp]
  simp only [Program.fieldsOf, Tryd.underlying103]
  go_simp
  by_cases h1 : a = c <;> by_cases h2 : b = d <;> simp [h1, h2]
theorem neq_slot (a b c d : Int) (w : World) : (binOp .neq 103 (.agg #[.int .i64 a, .int .i64 b]) (.agg #[.int .i64 c, .int .i64 d])).run Tryd.prog w = .ok (.bool (!(a == c && b == d))) w := by
  rw [run_neq_struct, eq_slot]; rfl
theorem eq_ins (a b c d i a' b' c' d' i' : Int) (w : World) : (Op.equalIn 10000 58 (.agg #[.int .i64 a, .int .i64 b, .int .i64 c, .int .i64 d, .int .u64 i]) (.agg #[.int .i64 a', .int .i64 b', .int .i64 c', .int .i64 d', .int .u64 i'])).run Tryd.prog w = .ok (a == a' && b == b' && c == c' && d == d' && i == i') w := by
  have u3 := Tryd.underlying3
  have a3 := Tryd.isAgg3
  have z3 := Tryd.sizeOf3
  have u4 := Tryd.underlying56
  have a4 := Tryd.isAgg56
  have z4 := Tryd.sizeOf56
  have hS : Tryd.prog.underlying 58 = some (.struct (Tryd.prog.fieldsOf 58)) := by kernel_rfl
  have hp : Tryd.prog.stoodInHeld 58 = false := by kernel_rfl
  rw [show (10000 : Nat) = 9999 + 1 from rfl, run_equalIn_agg w 9999 58 _ _ hS hp]
  simp only [Program.fieldsOf, Tryd.underlying58]
  go_simp
  by_cases h1 : a = a' <;> by_cases h2 : b = b' <;> by_cases h3 : c = c' <;> by_cases h4 : d = d' <;> by_cases h5 : i = i' <;> simp [h1, h2, h3, h4, h5]
theorem neq_ins (a b c d i a' b' c' d' i' : Int) (w : World) : (binOp .neq 58 (.agg #[.int .i64 a, .int .i64 b, .int .i64 c, .int .i64 d, .int .u64 i]) (.agg #[.int .i64 a', .int .i64 b', .int .i64 c', .int .i64 d', .int .u64 i'])).run Tryd.prog w = .ok (.bool (!(a == a' && b == b' && c == c' && d == d' && i == i'))) w := by
  rw [run_neq_struct, eq_ins]; rfl
def sameFn (f g : Fn) : Bool := f.params == g.params && eqL slEq f.slots g.slots && eqL inEq f.code g.code
/-- a function as a value -/
def FvV (prm : Int) (As : Option Addr) (ns cs : Nat) (Ai : Option Addr) (ni ci : Nat) : Value := .agg #[.int .i64 prm, .slice As ns cs, .slice Ai ni ci]
end Go.Proofs.YtinfeglhjmnlaaaDoor.pm
