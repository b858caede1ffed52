/- What the intervals of an instruction are: contracts of Reads and Writes of the program and of the reference. -/
import Derived.Test.YtcpmlcdeddmdmaaBase
namespace Go.Proofs.Ytcpmlcdeddmdmaa.mi
open Go.RowKit
set_option linter.unusedVariables false

def rdV (op a b c : Int) : Int × Int × Bool := if op = 15 ∨ op = 17 then (b, c, true) else (0, 0, false)
def wrV (op a b c : Int) : Int × Int × Bool := if op = 16 ∨ op = 17 then (a, c, true) else (0, 0, false)
abbrev ret (r : Int × Int × Bool) : Ending := .returned (.tuple #[.agg #[.int .i64 r.1, .int .i64 r.2.1], .bool r.2.2])
def ins (op a b c im : Int) : Value := .agg #[.int .i64 op, .int .i64 a, .int .i64 b, .int .i64 c, .int .u64 im]

theorem mach_reads (fp fs fc : Value) (op a b c im : Int) (w : World) :
    Calls Try.prog 24 #[.agg #[fp, fs, fc], .agg #[.int .i64 op, .int .i64 a, .int .i64 b, .int .i64 c, .int .u64 im]] w fun e w' =>
      e = ret (rdV op a b c) ∧ Below w.heap.size w w' := by
  have R : Hid (rdV op a b c = if op = 15 ∨ op = 17 then (b, c, true) else (0, 0, false)) := rfl
  go_enter Try.func24, Try.ntmps24
  go_wp2
  all_goals go_returns
  all_goals (refine ⟨?_, by go_grown⟩; rw [R.out]; simp_all [ret])

theorem ref_reads (fp fs fc : Value) (op a b c im : Int) (w : World) :
    Calls Try.prog 25 #[.agg #[fp, fs, fc], .agg #[.int .i64 op, .int .i64 a, .int .i64 b, .int .i64 c, .int .u64 im]] w fun e w' =>
      e = ret (rdV op a b c) ∧ Below w.heap.size w w' := by
  have R : Hid (rdV op a b c = if op = 15 ∨ op = 17 then (b, c, true) else (0, 0, false)) := rfl
  go_enter Try.func25, Try.ntmps25
  go_wp2
  all_goals go_returns
  all_goals (refine ⟨?_, by go_grown⟩; rw [R.out]; simp_all [ret])

theorem mach_writes (fp fs fc : Value) (op a b c im : Int) (w : World) :
    Calls Try.prog 26 #[.agg #[fp, fs, fc], .agg #[.int .i64 op, .int .i64 a, .int .i64 b, .int .i64 c, .int .u64 im]] w fun e w' =>
      e = ret (wrV op a b c) ∧ Below w.heap.size w w' := by
  have R : Hid (wrV op a b c = if op = 16 ∨ op = 17 then (a, c, true) else (0, 0, false)) := rfl
  go_enter Try.func26, Try.ntmps26
  go_wp2
  all_goals go_returns
  all_goals (refine ⟨?_, by go_grown⟩; rw [R.out]; simp_all [ret])

theorem ref_writes (fp fs fc : Value) (op a b c im : Int) (w : World) :
    Calls Try.prog 27 #[.agg #[fp, fs, fc], .agg #[.int .i64 op, .int .i64 a, .int .i64 b, .int .i64 c, .int .u64 im]] w fun e w' =>
      e = ret (wrV op a b c) ∧ Below w.heap.size w w' := by
  have R : Hid (wrV op a b c = if op = 16 ∨ op = 17 then (a, c, true) else (0, 0, false)) := rfl
  go_enter Try.func27, Try.ntmps27
  go_wp2
  all_goals go_returns
  all_goals (refine ⟨?_, by go_grown⟩; rw [R.out]; simp_all [ret])

theorem awake (w : World) : Calls Try.prog 23 #[] w fun e w' => e = .returned (.bool true) ∧ Below w.heap.size w w' := by
  go_enter Try.func23, Try.ntmps23
  go_wp2
  go_ret
  exact ⟨rfl, by go_grown⟩
end Go.Proofs.Ytcpmlcdeddmdmaa.mi
