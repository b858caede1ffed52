/- The sanity check of chapter 10's statements. -/
import Derived.Test.YtgakphichcihjaaBase
namespace Go.Proofs.Ytgakphichcihjaa.pm
open Go.RowKit
set_option linter.unusedVariables false
theorem awake10_reads (w : World) :
    Calls Try.prog 19 #[.agg #[.int .i64 0, .int .i64 0, .slice none 0 0], .agg #[.int .i64 15, .int .i64 0, .int .i64 8, .int .i64 4, .int .u64 0]] w fun e w' =>
      e = .returned (.tuple #[.agg #[.int .i64 8, .int .i64 4], .bool true]) ∧ Below w.heap.size w w' := by
  go_enter Try.func19, Try.ntmps19
  go_wp2
  all_goals go_returns
  all_goals exact ⟨rfl, by go_grown⟩
theorem awake10 (w : World) : Calls Try.prog 10 #[] w fun e w' => e = .returned (.bool true) ∧ Below w.heap.size w w' := by
  go_enter Try.func10, Try.ntmps10
  go_wp2
  go_ret
  exact ⟨rfl, by go_grown⟩
end Go.Proofs.Ytgakphichcihjaa.pm
