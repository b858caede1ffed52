/- The contract of Check of stacks. -/
import Derived.Test.YtgamodmenlhedaaSl
namespace Go.Proofs.Ytgamodmenlhedaa
open Go.RowKit
set_option linter.unusedVariables false

def chkV (n1 n2 : Nat) (sp : Int) : Bool := decide (n1 = n2 ∧ n1 ≤ 1048576 ∧ 0 ≤ sp ∧ sp ≤ n1)
set_option maxHeartbeats 1000000 in
theorem check_any (A1 A2 : Option Addr) (n1 c1 n2 c2 : Nat) (sp : Int) (w : World) :
    Calls Try.prog 44 #[.agg #[.slice A1 n1 c1, .slice A2 n2 c2, .int .i64 sp]] w fun e w' => e = .returned (.bool (chkV n1 n2 sp)) ∧ Below w.heap.size w w' := by
  have HC : Hid (chkV n1 n2 sp = decide (n1 = n2 ∧ n1 ≤ 1048576 ∧ 0 ≤ sp ∧ sp ≤ n1)) := rfl
  go_enter Try.func44, Try.ntmps44
  go_wp2
  all_goals
    go_ret
    refine ⟨ret_bool ?_, by go_grown⟩
    rw [HC.out, Bool.eq_iff_iff]
    simp
    try omega
end Go.Proofs.Ytgamodmenlhedaa
