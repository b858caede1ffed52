/- The leaves of chapter 10's reference: memory, within, Reads, Writes, Operands, named, shape. -/
import Derived.Test.YtmeoabpigibaoaaKc
import Derived.Test.YtmeoabpigibaoaaRc1
namespace Go.Proofs.Ytmeoabpigibaoaa.pm
open Go.RowKit
set_option linter.unusedVariables false
set_option maxRecDepth 10000

theorem refwithin10_any (n l : Int) (w : World) :
    Calls Try.prog 37 #[.int .i64 n, .int .i64 l] w fun e w' => e = .returned (.bool (inB n l)) ∧ w = w' := by
  rcases hb : inB n l with _ | _
  · have h := inB_f.1 hb
    clear hb
    by_cases h0 : 0 ≤ n
    · have h1 : l ≤ n := by omega
      clear h
      go_enter Try.func37, Try.ntmps37
      go_wp2
      go_ret
      exact ⟨ret_bool (by simp; omega), rfl⟩
    · clear h
      go_enter Try.func37, Try.ntmps37
      go_wp2
      go_ret
      exact ⟨rfl, rfl⟩
  · obtain ⟨h0, h1⟩ := inB_t.1 hb
    clear hb
    go_enter Try.func37, Try.ntmps37
    go_wp2
    go_ret
    exact ⟨rfl, rfl⟩
theorem refmem10_any (op : Int) (w : World) :
    Calls Try.prog 58 #[.int .i64 op] w fun e w' => e = .returned (.bool (memB op)) ∧ w = w' := by
  by_cases h1 : op = 15
  · subst h1
    go_enter Try.func58, Try.ntmps58
    go_wp2
    go_ret
    exact ⟨rfl, rfl⟩
  · by_cases h2 : op = 16
    · subst h2
      go_enter Try.func58, Try.ntmps58
      go_wp2
      go_ret
      exact ⟨rfl, rfl⟩
    · have b1 : (op == 15) = false := by simpa using h1
      have b2 : (op == 16) = false := by simpa using h2
      have HT : Hid (memB op = (op == 17)) := Lib.hid (by unfold memB; rw [b1, b2]; simp)
      clear h1 h2
      go_enter Try.func58, Try.ntmps58
      go_wp2
      go_ret
      exact ⟨ret_bool (by rw [HT.out]), rfl⟩
theorem refreads10_any (fp fs fc : Value) (x : Ins) (w : World) :
    Calls Try.prog 60 #[.agg #[fp, fs, fc], insV x] w fun e w' => e = retP (rdP x) ∧ Below w.heap.size w w' := by
  obtain ⟨op, a, b, c, im⟩ := x
  have R : Hid (rdP ⟨op, a, b, c, im⟩ = if op = 15 ∨ op = 17 then (b, c, true) else (0, 0, false)) := Lib.hid rfl
  unfold insV
  go_enter Try.func60, Try.ntmps60
  go_wp2
  all_goals go_returns
  all_goals (refine ⟨?_, by go_grown⟩; rw [R.out]; simp_all [retP])
theorem refwrites10_any (fp fs fc : Value) (x : Ins) (w : World) :
    Calls Try.prog 61 #[.agg #[fp, fs, fc], insV x] w fun e w' => e = retP (wrP x) ∧ Below w.heap.size w w' := by
  obtain ⟨op, a, b, c, im⟩ := x
  have R : Hid (wrP ⟨op, a, b, c, im⟩ = if op = 16 ∨ op = 17 then (a, c, true) else (0, 0, false)) := Lib.hid rfl
  unfold insV
  go_enter Try.func61, Try.ntmps61
  go_wp2
  all_goals go_returns
  all_goals (refine ⟨?_, by go_grown⟩; rw [R.out]; simp_all [retP])
/-- which operands an operation of the target uses -/
def useT (op : Int) : Bool × Bool × Bool × Bool := (decide (1 ≤ opN op), decide (2 ≤ opN op), decide (3 ≤ opN op), op == 0 || op == 24)
theorem refoperands10_any (o : Nat) (h : o < 25) (h8 : o ≠ 18) (h9 : o ≠ 19) (w : World) :
    Calls Try.prog 56 #[.int .i64 (o : Int)] w fun e w' => e = .returned (.tuple #[.bool (useT o).1, .bool (useT o).2.1, .bool (useT o).2.2.1, .bool (useT o).2.2.2]) ∧ w = w' := by
  have HM := Lib.hid (fun W => refmem10_any (o : Int) W)
  rcases hb : memB (o : Int) with _ | _
  · have HO := Lib.hid (fun W => operands_any o h W)
    have HE : Hid (useA o = (useT o).1 ∧ useB o = (useT o).2.1 ∧ useC o = (useT o).2.2.1 ∧ useI o = (useT o).2.2.2) := Lib.hid (by
      have h' : o = 0 ∨ o = 1 ∨ o = 2 ∨ o = 3 ∨ o = 4 ∨ o = 5 ∨ o = 6 ∨ o = 7 ∨ o = 8 ∨ o = 9 ∨ o = 10 ∨ o = 11 ∨ o = 12 ∨ o = 13 ∨ o = 14 ∨ o = 15 ∨ o = 16 ∨ o = 17 ∨ o = 20 ∨ o = 21 ∨ o = 22 ∨ o = 23 ∨ o = 24 := by omega
      rcases h' with rfl | rfl | rfl | rfl | rfl | rfl | rfl | rfl | rfl | rfl | rfl | rfl | rfl | rfl | rfl | rfl | rfl | rfl | rfl | rfl | rfl | rfl | rfl <;> first | exact absurd hb (by decide) | decide)
    rw [hb] at HM
    clear hb h h8 h9
    go_enter Try.func56, Try.ntmps56
    go_wp2_with fail
    refine (HM.out _).mono ?_
    rintro e w1 ⟨rfl, rfl⟩
    go_wp2_with fail
    refine (HO.out _).mono ?_
    rintro e w1 ⟨rfl, rfl⟩
    go_wp2
    refine bodyPost_ret (results_tmp4 Try.results56 _ _ _) rfl ⟨?_, rfl⟩
    simp [HE.out.1, HE.out.2.1, HE.out.2.2.1, HE.out.2.2.2]
  · have HE : Hid (useT o = (true, true, true, false)) := Lib.hid (by
      have h' : o = 15 ∨ o = 16 ∨ o = 17 := by unfold memB at hb; simp at hb; omega
      rcases h' with rfl | rfl | rfl <;> decide)
    rw [hb] at HM
    rw [HE.out]
    clear hb h h8 h9
    go_enter Try.func56, Try.ntmps56
    go_wp2_with fail
    refine (HM.out _).mono ?_
    rintro e w1 ⟨rfl, rfl⟩
    go_wp2
    refine bodyPost_ret (results_tmp4 Try.results56 _ _ _) rfl ⟨?_, rfl⟩
    simp
end Go.Proofs.Ytmeoabpigibaoaa.pm
