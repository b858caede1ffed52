/- Contracts of the reference of chapter 5: within, register, Terminator, Operands, operands. -/
import Derived.Test.YtmeoabpigibaoaaSc1
import Derived.Test.YtmeoabpigibaoaaVal
import Derived.Test.YtmeoabpigibaoaaSt
namespace Go.Proofs.Ytmeoabpigibaoaa.pm
open Go.RowKit
set_option linter.unusedVariables false
set_option maxRecDepth 10000

theorem results_tmp4 {fn : Func} {t u v x : Tmp} (h : fn.results = #[.tmp t, .tmp u, .tmp v, .tmp x]) (tmps : Array Value) (P : Program) (w : World) :
    (results fn tmps).run P w = .ok (.tuple #[tmps.getD t undef, tmps.getD u undef, tmps.getD v undef, tmps.getD x undef]) w := by simp [results, h]
theorem refterm_any (op : Int) (w : World) :
    Calls Try.prog 40 #[.int .i64 op] w fun e w' => e = .returned (.bool (termB op)) ∧ w = w' := by
  by_cases h1 : op = 20
  · subst h1
    go_enter Try.func40, Try.ntmps40
    go_wp2
    go_ret
    exact ⟨rfl, rfl⟩
  · by_cases h2 : op = 23
    · subst h2
      go_enter Try.func40, Try.ntmps40
      go_wp2
      go_ret
      exact ⟨rfl, rfl⟩
    · have b1 : (op == 20) = false := by simpa using h1
      have b2 : (op == 23) = false := by simpa using h2
      have HT : Hid (termB op = (op == 24)) := Lib.hid (by unfold termB; rw [b1, b2]; simp)
      clear h1 h2
      go_enter Try.func40, Try.ntmps40
      go_wp2
      go_ret
      exact ⟨ret_bool (by rw [HT.out]), rfl⟩
/-- which operands are used -/
def useA (o : Nat) : Bool := (shp o).1 != 0
def useB (o : Nat) : Bool := (shp o).2.1 != 0
def useC (o : Nat) : Bool := (shp o).2.2.1 != 0
def useI (o : Nat) : Bool := (shp o).2.2.2
theorem operands_0 (w : World) : Calls Try.prog 68 #[.int .i64 0] w fun e w' => e = .returned (.tuple #[.bool (useA 0), .bool (useB 0), .bool (useC 0), .bool (useI 0)]) ∧ w = w' := by
  go_enter Try.func68, Try.ntmps68
  go_wp2
  exact bodyPost_ret (results_tmp4 rfl _ _ _) rfl ⟨rfl, rfl⟩
theorem operands_1 (w : World) : Calls Try.prog 68 #[.int .i64 1] w fun e w' => e = .returned (.tuple #[.bool (useA 1), .bool (useB 1), .bool (useC 1), .bool (useI 1)]) ∧ w = w' := by
  go_enter Try.func68, Try.ntmps68
  go_wp2
  exact bodyPost_ret (results_tmp4 rfl _ _ _) rfl ⟨rfl, rfl⟩
theorem operands_2 (w : World) : Calls Try.prog 68 #[.int .i64 2] w fun e w' => e = .returned (.tuple #[.bool (useA 2), .bool (useB 2), .bool (useC 2), .bool (useI 2)]) ∧ w = w' := by
  go_enter Try.func68, Try.ntmps68
  go_wp2
  exact bodyPost_ret (results_tmp4 rfl _ _ _) rfl ⟨rfl, rfl⟩
theorem operands_3 (w : World) : Calls Try.prog 68 #[.int .i64 3] w fun e w' => e = .returned (.tuple #[.bool (useA 3), .bool (useB 3), .bool (useC 3), .bool (useI 3)]) ∧ w = w' := by
  go_enter Try.func68, Try.ntmps68
  go_wp2
  exact bodyPost_ret (results_tmp4 rfl _ _ _) rfl ⟨rfl, rfl⟩
theorem operands_4 (w : World) : Calls Try.prog 68 #[.int .i64 4] w fun e w' => e = .returned (.tuple #[.bool (useA 4), .bool (useB 4), .bool (useC 4), .bool (useI 4)]) ∧ w = w' := by
  go_enter Try.func68, Try.ntmps68
  go_wp2
  exact bodyPost_ret (results_tmp4 rfl _ _ _) rfl ⟨rfl, rfl⟩
theorem operands_5 (w : World) : Calls Try.prog 68 #[.int .i64 5] w fun e w' => e = .returned (.tuple #[.bool (useA 5), .bool (useB 5), .bool (useC 5), .bool (useI 5)]) ∧ w = w' := by
  go_enter Try.func68, Try.ntmps68
  go_wp2
  exact bodyPost_ret (results_tmp4 rfl _ _ _) rfl ⟨rfl, rfl⟩
theorem operands_6 (w : World) : Calls Try.prog 68 #[.int .i64 6] w fun e w' => e = .returned (.tuple #[.bool (useA 6), .bool (useB 6), .bool (useC 6), .bool (useI 6)]) ∧ w = w' := by
  go_enter Try.func68, Try.ntmps68
  go_wp2
  exact bodyPost_ret (results_tmp4 rfl _ _ _) rfl ⟨rfl, rfl⟩
theorem operands_7 (w : World) : Calls Try.prog 68 #[.int .i64 7] w fun e w' => e = .returned (.tuple #[.bool (useA 7), .bool (useB 7), .bool (useC 7), .bool (useI 7)]) ∧ w = w' := by
  go_enter Try.func68, Try.ntmps68
  go_wp2
  exact bodyPost_ret (results_tmp4 rfl _ _ _) rfl ⟨rfl, rfl⟩
theorem operands_8 (w : World) : Calls Try.prog 68 #[.int .i64 8] w fun e w' => e = .returned (.tuple #[.bool (useA 8), .bool (useB 8), .bool (useC 8), .bool (useI 8)]) ∧ w = w' := by
  go_enter Try.func68, Try.ntmps68
  go_wp2
  exact bodyPost_ret (results_tmp4 rfl _ _ _) rfl ⟨rfl, rfl⟩
theorem operands_9 (w : World) : Calls Try.prog 68 #[.int .i64 9] w fun e w' => e = .returned (.tuple #[.bool (useA 9), .bool (useB 9), .bool (useC 9), .bool (useI 9)]) ∧ w = w' := by
  go_enter Try.func68, Try.ntmps68
  go_wp2
  exact bodyPost_ret (results_tmp4 rfl _ _ _) rfl ⟨rfl, rfl⟩
theorem operands_10 (w : World) : Calls Try.prog 68 #[.int .i64 10] w fun e w' => e = .returned (.tuple #[.bool (useA 10), .bool (useB 10), .bool (useC 10), .bool (useI 10)]) ∧ w = w' := by
  go_enter Try.func68, Try.ntmps68
  go_wp2
  exact bodyPost_ret (results_tmp4 rfl _ _ _) rfl ⟨rfl, rfl⟩
theorem operands_11 (w : World) : Calls Try.prog 68 #[.int .i64 11] w fun e w' => e = .returned (.tuple #[.bool (useA 11), .bool (useB 11), .bool (useC 11), .bool (useI 11)]) ∧ w = w' := by
  go_enter Try.func68, Try.ntmps68
  go_wp2
  exact bodyPost_ret (results_tmp4 rfl _ _ _) rfl ⟨rfl, rfl⟩
theorem operands_12 (w : World) : Calls Try.prog 68 #[.int .i64 12] w fun e w' => e = .returned (.tuple #[.bool (useA 12), .bool (useB 12), .bool (useC 12), .bool (useI 12)]) ∧ w = w' := by
  go_enter Try.func68, Try.ntmps68
  go_wp2
  exact bodyPost_ret (results_tmp4 rfl _ _ _) rfl ⟨rfl, rfl⟩
theorem operands_13 (w : World) : Calls Try.prog 68 #[.int .i64 13] w fun e w' => e = .returned (.tuple #[.bool (useA 13), .bool (useB 13), .bool (useC 13), .bool (useI 13)]) ∧ w = w' := by
  go_enter Try.func68, Try.ntmps68
  go_wp2
  exact bodyPost_ret (results_tmp4 rfl _ _ _) rfl ⟨rfl, rfl⟩
theorem operands_14 (w : World) : Calls Try.prog 68 #[.int .i64 14] w fun e w' => e = .returned (.tuple #[.bool (useA 14), .bool (useB 14), .bool (useC 14), .bool (useI 14)]) ∧ w = w' := by
  go_enter Try.func68, Try.ntmps68
  go_wp2
  exact bodyPost_ret (results_tmp4 rfl _ _ _) rfl ⟨rfl, rfl⟩
theorem operands_15 (w : World) : Calls Try.prog 68 #[.int .i64 15] w fun e w' => e = .returned (.tuple #[.bool (useA 15), .bool (useB 15), .bool (useC 15), .bool (useI 15)]) ∧ w = w' := by
  go_enter Try.func68, Try.ntmps68
  go_wp2
  exact bodyPost_ret (results_tmp4 rfl _ _ _) rfl ⟨rfl, rfl⟩
theorem operands_16 (w : World) : Calls Try.prog 68 #[.int .i64 16] w fun e w' => e = .returned (.tuple #[.bool (useA 16), .bool (useB 16), .bool (useC 16), .bool (useI 16)]) ∧ w = w' := by
  go_enter Try.func68, Try.ntmps68
  go_wp2
  exact bodyPost_ret (results_tmp4 rfl _ _ _) rfl ⟨rfl, rfl⟩
theorem operands_17 (w : World) : Calls Try.prog 68 #[.int .i64 17] w fun e w' => e = .returned (.tuple #[.bool (useA 17), .bool (useB 17), .bool (useC 17), .bool (useI 17)]) ∧ w = w' := by
  go_enter Try.func68, Try.ntmps68
  go_wp2
  exact bodyPost_ret (results_tmp4 rfl _ _ _) rfl ⟨rfl, rfl⟩
theorem operands_18 (w : World) : Calls Try.prog 68 #[.int .i64 18] w fun e w' => e = .returned (.tuple #[.bool (useA 18), .bool (useB 18), .bool (useC 18), .bool (useI 18)]) ∧ w = w' := by
  go_enter Try.func68, Try.ntmps68
  go_wp2
  exact bodyPost_ret (results_tmp4 rfl _ _ _) rfl ⟨rfl, rfl⟩
theorem operands_19 (w : World) : Calls Try.prog 68 #[.int .i64 19] w fun e w' => e = .returned (.tuple #[.bool (useA 19), .bool (useB 19), .bool (useC 19), .bool (useI 19)]) ∧ w = w' := by
  go_enter Try.func68, Try.ntmps68
  go_wp2
  exact bodyPost_ret (results_tmp4 rfl _ _ _) rfl ⟨rfl, rfl⟩
theorem operands_20 (w : World) : Calls Try.prog 68 #[.int .i64 20] w fun e w' => e = .returned (.tuple #[.bool (useA 20), .bool (useB 20), .bool (useC 20), .bool (useI 20)]) ∧ w = w' := by
  go_enter Try.func68, Try.ntmps68
  go_wp2
  exact bodyPost_ret (results_tmp4 rfl _ _ _) rfl ⟨rfl, rfl⟩
theorem operands_21 (w : World) : Calls Try.prog 68 #[.int .i64 21] w fun e w' => e = .returned (.tuple #[.bool (useA 21), .bool (useB 21), .bool (useC 21), .bool (useI 21)]) ∧ w = w' := by
  go_enter Try.func68, Try.ntmps68
  go_wp2
  exact bodyPost_ret (results_tmp4 rfl _ _ _) rfl ⟨rfl, rfl⟩
theorem operands_22 (w : World) : Calls Try.prog 68 #[.int .i64 22] w fun e w' => e = .returned (.tuple #[.bool (useA 22), .bool (useB 22), .bool (useC 22), .bool (useI 22)]) ∧ w = w' := by
  go_enter Try.func68, Try.ntmps68
  go_wp2
  exact bodyPost_ret (results_tmp4 rfl _ _ _) rfl ⟨rfl, rfl⟩
theorem operands_23 (w : World) : Calls Try.prog 68 #[.int .i64 23] w fun e w' => e = .returned (.tuple #[.bool (useA 23), .bool (useB 23), .bool (useC 23), .bool (useI 23)]) ∧ w = w' := by
  go_enter Try.func68, Try.ntmps68
  go_wp2
  exact bodyPost_ret (results_tmp4 rfl _ _ _) rfl ⟨rfl, rfl⟩
theorem operands_24 (w : World) : Calls Try.prog 68 #[.int .i64 24] w fun e w' => e = .returned (.tuple #[.bool (useA 24), .bool (useB 24), .bool (useC 24), .bool (useI 24)]) ∧ w = w' := by
  go_enter Try.func68, Try.ntmps68
  go_wp2
  exact bodyPost_ret (results_tmp4 rfl _ _ _) rfl ⟨rfl, rfl⟩
theorem operands_any (o : Nat) (h : o < 25) (w : World) : Calls Try.prog 68 #[.int .i64 (o : Int)] w fun e w' => e = .returned (.tuple #[.bool (useA o), .bool (useB o), .bool (useC o), .bool (useI o)]) ∧ w = w' := by
  have h' : o = 0 ∨ o = 1 ∨ o = 2 ∨ o = 3 ∨ o = 4 ∨ o = 5 ∨ o = 6 ∨ o = 7 ∨ o = 8 ∨ o = 9 ∨ o = 10 ∨ o = 11 ∨ o = 12 ∨ o = 13 ∨ o = 14 ∨ o = 15 ∨ o = 16 ∨ o = 17 ∨ o = 18 ∨ o = 19 ∨ o = 20 ∨ o = 21 ∨ o = 22 ∨ o = 23 ∨ o = 24 := by omega
  rcases h' with rfl | rfl | rfl | rfl | rfl | rfl | rfl | rfl | rfl | rfl | rfl | rfl | rfl | rfl | rfl | rfl | rfl | rfl | rfl | rfl | rfl | rfl | rfl | rfl | rfl
  · exact operands_0 w
  · exact operands_1 w
  · exact operands_2 w
  · exact operands_3 w
  · exact operands_4 w
  · exact operands_5 w
  · exact operands_6 w
  · exact operands_7 w
  · exact operands_8 w
  · exact operands_9 w
  · exact operands_10 w
  · exact operands_11 w
  · exact operands_12 w
  · exact operands_13 w
  · exact operands_14 w
  · exact operands_15 w
  · exact operands_16 w
  · exact operands_17 w
  · exact operands_18 w
  · exact operands_19 w
  · exact operands_20 w
  · exact operands_21 w
  · exact operands_22 w
  · exact operands_23 w
  · exact operands_24 w
/-- the operands name what there is -/
def okO (nf : Nat) (prm : Int) (ns nc o : Nat) (a b c : Int) : Bool := !(outK nf prm ns nc (shp o).1 a || outK nf prm ns nc (shp o).2.1 b || outK nf prm ns nc (shp o).2.2.1 c)
end Go.Proofs.Ytmeoabpigibaoaa.pm
