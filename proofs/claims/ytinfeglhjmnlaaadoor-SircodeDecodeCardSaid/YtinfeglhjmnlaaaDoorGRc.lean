/- Contracts of the reference of chapter 5: within, register, Terminator, Operands, operands. -/
import Derived.Test.YtinfeglhjmnlaaaDoorGSc
namespace Go.Proofs.YtinfeglhjmnlaaaDoor.pm
open Go.RowKit
set_option linter.unusedVariables false
set_option maxRecDepth 10000

theorem results_tmp4 {fn : Func} {t u v x : Tmp} (h : fn.results = #[.tmp t, .tmp u, .tmp v, .tmp x]) (tmps : Array Value) (P : Program) (w : World) :
    (results fn tmps).run P w = .ok (.tuple #[tmps.getD t undef, tmps.getD u undef, tmps.getD v undef, tmps.getD x undef]) w := by simp [results, h]
theorem refwithin_any (n l : Int) (w : World) :
    Calls Tryd.prog 125 #[.int .i64 n, .int .i64 l] w fun e w' => e = .returned (.bool (inB n l)) ∧ w = w' := by
  rcases hb : inB n l with _ | _
  · have h := inB_f.1 hb
    clear hb
    by_cases h0 : 0 ≤ n
    · have h1 : l ≤ n := by omega
      clear h
      go_enter Tryd.func125, Tryd.ntmps125
      go_wp2
      go_ret
      exact ⟨ret_bool (by simp; omega), rfl⟩
    · clear h
      go_enter Tryd.func125, Tryd.ntmps125
      go_wp2
      go_ret
      exact ⟨rfl, rfl⟩
  · obtain ⟨h0, h1⟩ := inB_t.1 hb
    clear hb
    go_enter Tryd.func125, Tryd.ntmps125
    go_wp2
    go_ret
    exact ⟨rfl, rfl⟩
theorem register_any (n : Int) (w : World) :
    Calls Tryd.prog 155 #[.int .i64 n] w fun e w' => e = .returned (.bool (inB n 8)) ∧ w = w' := by
  rcases hb : inB n 8 with _ | _
  · have h := inB_f.1 hb
    clear hb
    by_cases h0 : 0 ≤ n
    · have h1 : 8 ≤ n := by omega
      clear h
      go_enter Tryd.func155, Tryd.ntmps155
      go_wp2
      go_ret
      exact ⟨ret_bool (by simp; omega), rfl⟩
    · clear h
      go_enter Tryd.func155, Tryd.ntmps155
      go_wp2
      go_ret
      exact ⟨rfl, rfl⟩
  · obtain ⟨h0, h1⟩ := inB_t.1 hb
    clear hb
    go_enter Tryd.func155, Tryd.ntmps155
    go_wp2
    go_ret
    exact ⟨rfl, rfl⟩
theorem refterm_any (op : Int) (w : World) :
    Calls Tryd.prog 108 #[.int .i64 op] w fun e w' => e = .returned (.bool (termB op)) ∧ w = w' := by
  by_cases h1 : op = 20
  · subst h1
    go_enter Tryd.func108, Tryd.ntmps108
    go_wp2
    go_ret
    exact ⟨rfl, rfl⟩
  · by_cases h2 : op = 23
    · subst h2
      go_enter Tryd.func108, Tryd.ntmps108
      go_wp2
      go_ret
      exact ⟨rfl, rfl⟩
    · have b1 : (op == 20) = false := by simpa using h1
      have b2 : (op == 23) = false := by simpa using h2
      have HT : Hid (termB op = (op == 24)) := Lib.hid (by unfold termB; rw [b1, b2]; simp)
      clear h1 h2
      go_enter Tryd.func108, Tryd.ntmps108
      go_wp2
      go_ret
      exact ⟨ret_bool (by rw [HT.out]), rfl⟩
/-- which operands are used -/
def useA (o : Nat) : Bool := (shp o).1 != 0
def useB (o : Nat) : Bool := (shp o).2.1 != 0
def useC (o : Nat) : Bool := (shp o).2.2.1 != 0
def useI (o : Nat) : Bool := (shp o).2.2.2
theorem operands_0 (w : World) : Calls Tryd.prog 74 #[.int .i64 0] w fun e w' => e = .returned (.tuple #[.bool (useA 0), .bool (useB 0), .bool (useC 0), .bool (useI 0)]) ∧ w = w' := by
  go_enter Tryd.func74, Tryd.ntmps74
  go_wp2
  exact bodyPost_ret (results_tmp4 rfl _ _ _) rfl ⟨rfl, rfl⟩
theorem operands_1 (w : World) : Calls Tryd.prog 74 #[.int .i64 1] w fun e w' => e = .returned (.tuple #[.bool (useA 1), .bool (useB 1), .bool (useC 1), .bool (useI 1)]) ∧ w = w' := by
  go_enter Tryd.func74, Tryd.ntmps74
  go_wp2
  exact bodyPost_ret (results_tmp4 rfl _ _ _) rfl ⟨rfl, rfl⟩
theorem operands_2 (w : World) : Calls Tryd.prog 74 #[.int .i64 2] w fun e w' => e = .returned (.tuple #[.bool (useA 2), .bool (useB 2), .bool (useC 2), .bool (useI 2)]) ∧ w = w' := by
  go_enter Tryd.func74, Tryd.ntmps74
  go_wp2
  exact bodyPost_ret (results_tmp4 rfl _ _ _) rfl ⟨rfl, rfl⟩
theorem operands_3 (w : World) : Calls Tryd.prog 74 #[.int .i64 3] w fun e w' => e = .returned (.tuple #[.bool (useA 3), .bool (useB 3), .bool (useC 3), .bool (useI 3)]) ∧ w = w' := by
  go_enter Tryd.func74, Tryd.ntmps74
  go_wp2
  exact bodyPost_ret (results_tmp4 rfl _ _ _) rfl ⟨rfl, rfl⟩
theorem operands_4 (w : World) : Calls Tryd.prog 74 #[.int .i64 4] w fun e w' => e = .returned (.tuple #[.bool (useA 4), .bool (useB 4), .bool (useC 4), .bool (useI 4)]) ∧ w = w' := by
  go_enter Tryd.func74, Tryd.ntmps74
  go_wp2
  exact bodyPost_ret (results_tmp4 rfl _ _ _) rfl ⟨rfl, rfl⟩
theorem operands_5 (w : World) : Calls Tryd.prog 74 #[.int .i64 5] w fun e w' => e = .returned (.tuple #[.bool (useA 5), .bool (useB 5), .bool (useC 5), .bool (useI 5)]) ∧ w = w' := by
  go_enter Tryd.func74, Tryd.ntmps74
  go_wp2
  exact bodyPost_ret (results_tmp4 rfl _ _ _) rfl ⟨rfl, rfl⟩
theorem operands_6 (w : World) : Calls Tryd.prog 74 #[.int .i64 6] w fun e w' => e = .returned (.tuple #[.bool (useA 6), .bool (useB 6), .bool (useC 6), .bool (useI 6)]) ∧ w = w' := by
  go_enter Tryd.func74, Tryd.ntmps74
  go_wp2
  exact bodyPost_ret (results_tmp4 rfl _ _ _) rfl ⟨rfl, rfl⟩
theorem operands_7 (w : World) : Calls Tryd.prog 74 #[.int .i64 7] w fun e w' => e = .returned (.tuple #[.bool (useA 7), .bool (useB 7), .bool (useC 7), .bool (useI 7)]) ∧ w = w' := by
  go_enter Tryd.func74, Tryd.ntmps74
  go_wp2
  exact bodyPost_ret (results_tmp4 rfl _ _ _) rfl ⟨rfl, rfl⟩
theorem operands_8 (w : World) : Calls Tryd.prog 74 #[.int .i64 8] w fun e w' => e = .returned (.tuple #[.bool (useA 8), .bool (useB 8), .bool (useC 8), .bool (useI 8)]) ∧ w = w' := by
  go_enter Tryd.func74, Tryd.ntmps74
  go_wp2
  exact bodyPost_ret (results_tmp4 rfl _ _ _) rfl ⟨rfl, rfl⟩
theorem operands_9 (w : World) : Calls Tryd.prog 74 #[.int .i64 9] w fun e w' => e = .returned (.tuple #[.bool (useA 9), .bool (useB 9), .bool (useC 9), .bool (useI 9)]) ∧ w = w' := by
  go_enter Tryd.func74, Tryd.ntmps74
  go_wp2
  exact bodyPost_ret (results_tmp4 rfl _ _ _) rfl ⟨rfl, rfl⟩
theorem operands_10 (w : World) : Calls Tryd.prog 74 #[.int .i64 10] w fun e w' => e = .returned (.tuple #[.bool (useA 10), .bool (useB 10), .bool (useC 10), .bool (useI 10)]) ∧ w = w' := by
  go_enter Tryd.func74, Tryd.ntmps74
  go_wp2
  exact bodyPost_ret (results_tmp4 rfl _ _ _) rfl ⟨rfl, rfl⟩
theorem operands_11 (w : World) : Calls Tryd.prog 74 #[.int .i64 11] w fun e w' => e = .returned (.tuple #[.bool (useA 11), .bool (useB 11), .bool (useC 11), .bool (useI 11)]) ∧ w = w' := by
  go_enter Tryd.func74, Tryd.ntmps74
  go_wp2
  exact bodyPost_ret (results_tmp4 rfl _ _ _) rfl ⟨rfl, rfl⟩
theorem operands_12 (w : World) : Calls Tryd.prog 74 #[.int .i64 12] w fun e w' => e = .returned (.tuple #[.bool (useA 12), .bool (useB 12), .bool (useC 12), .bool (useI 12)]) ∧ w = w' := by
  go_enter Tryd.func74, Tryd.ntmps74
  go_wp2
  exact bodyPost_ret (results_tmp4 rfl _ _ _) rfl ⟨rfl, rfl⟩
theorem operands_13 (w : World) : Calls Tryd.prog 74 #[.int .i64 13] w fun e w' => e = .returned (.tuple #[.bool (useA 13), .bool (useB 13), .bool (useC 13), .bool (useI 13)]) ∧ w = w' := by
  go_enter Tryd.func74, Tryd.ntmps74
  go_wp2
  exact bodyPost_ret (results_tmp4 rfl _ _ _) rfl ⟨rfl, rfl⟩
theorem operands_14 (w : World) : Calls Tryd.prog 74 #[.int .i64 14] w fun e w' => e = .returned (.tuple #[.bool (useA 14), .bool (useB 14), .bool (useC 14), .bool (useI 14)]) ∧ w = w' := by
  go_enter Tryd.func74, Tryd.ntmps74
  go_wp2
  exact bodyPost_ret (results_tmp4 rfl _ _ _) rfl ⟨rfl, rfl⟩
theorem operands_15 (w : World) : Calls Tryd.prog 74 #[.int .i64 15] w fun e w' => e = .returned (.tuple #[.bool (useA 15), .bool (useB 15), .bool (useC 15), .bool (useI 15)]) ∧ w = w' := by
  go_enter Tryd.func74, Tryd.ntmps74
  go_wp2
  exact bodyPost_ret (results_tmp4 rfl _ _ _) rfl ⟨rfl, rfl⟩
theorem operands_16 (w : World) : Calls Tryd.prog 74 #[.int .i64 16] w fun e w' => e = .returned (.tuple #[.bool (useA 16), .bool (useB 16), .bool (useC 16), .bool (useI 16)]) ∧ w = w' := by
  go_enter Tryd.func74, Tryd.ntmps74
  go_wp2
  exact bodyPost_ret (results_tmp4 rfl _ _ _) rfl ⟨rfl, rfl⟩
theorem operands_17 (w : World) : Calls Tryd.prog 74 #[.int .i64 17] w fun e w' => e = .returned (.tuple #[.bool (useA 17), .bool (useB 17), .bool (useC 17), .bool (useI 17)]) ∧ w = w' := by
  go_enter Tryd.func74, Tryd.ntmps74
  go_wp2
  exact bodyPost_ret (results_tmp4 rfl _ _ _) rfl ⟨rfl, rfl⟩
theorem operands_18 (w : World) : Calls Tryd.prog 74 #[.int .i64 18] w fun e w' => e = .returned (.tuple #[.bool (useA 18), .bool (useB 18), .bool (useC 18), .bool (useI 18)]) ∧ w = w' := by
  go_enter Tryd.func74, Tryd.ntmps74
  go_wp2
  exact bodyPost_ret (results_tmp4 rfl _ _ _) rfl ⟨rfl, rfl⟩
theorem operands_19 (w : World) : Calls Tryd.prog 74 #[.int .i64 19] w fun e w' => e = .returned (.tuple #[.bool (useA 19), .bool (useB 19), .bool (useC 19), .bool (useI 19)]) ∧ w = w' := by
  go_enter Tryd.func74, Tryd.ntmps74
  go_wp2
  exact bodyPost_ret (results_tmp4 rfl _ _ _) rfl ⟨rfl, rfl⟩
theorem operands_20 (w : World) : Calls Tryd.prog 74 #[.int .i64 20] w fun e w' => e = .returned (.tuple #[.bool (useA 20), .bool (useB 20), .bool (useC 20), .bool (useI 20)]) ∧ w = w' := by
  go_enter Tryd.func74, Tryd.ntmps74
  go_wp2
  exact bodyPost_ret (results_tmp4 rfl _ _ _) rfl ⟨rfl, rfl⟩
theorem operands_21 (w : World) : Calls Tryd.prog 74 #[.int .i64 21] w fun e w' => e = .returned (.tuple #[.bool (useA 21), .bool (useB 21), .bool (useC 21), .bool (useI 21)]) ∧ w = w' := by
  go_enter Tryd.func74, Tryd.ntmps74
  go_wp2
  exact bodyPost_ret (results_tmp4 rfl _ _ _) rfl ⟨rfl, rfl⟩
theorem operands_22 (w : World) : Calls Tryd.prog 74 #[.int .i64 22] w fun e w' => e = .returned (.tuple #[.bool (useA 22), .bool (useB 22), .bool (useC 22), .bool (useI 22)]) ∧ w = w' := by
  go_enter Tryd.func74, Tryd.ntmps74
  go_wp2
  exact bodyPost_ret (results_tmp4 rfl _ _ _) rfl ⟨rfl, rfl⟩
theorem operands_23 (w : World) : Calls Tryd.prog 74 #[.int .i64 23] w fun e w' => e = .returned (.tuple #[.bool (useA 23), .bool (useB 23), .bool (useC 23), .bool (useI 23)]) ∧ w = w' := by
  go_enter Tryd.func74, Tryd.ntmps74
  go_wp2
  exact bodyPost_ret (results_tmp4 rfl _ _ _) rfl ⟨rfl, rfl⟩
theorem operands_24 (w : World) : Calls Tryd.prog 74 #[.int .i64 24] w fun e w' => e = .returned (.tuple #[.bool (useA 24), .bool (useB 24), .bool (useC 24), .bool (useI 24)]) ∧ w = w' := by
  go_enter Tryd.func74, Tryd.ntmps74
  go_wp2
  exact bodyPost_ret (results_tmp4 rfl _ _ _) rfl ⟨rfl, rfl⟩
theorem operands_any (o : Nat) (h : o < 25) (w : World) : Calls Tryd.prog 74 #[.int .i64 (o : Int)] w fun e w' => e = .returned (.tuple #[.bool (useA o), .bool (useB o), .bool (useC o), .bool (useI o)]) ∧ w = w' := by
  have h' : o = 0 ∨ o = 1 ∨ o = 2 ∨ o = 3 ∨ o = 4 ∨ o = 5 ∨ o = 6 ∨ o = 7 ∨ o = 8 ∨ o = 9 ∨ o = 10 ∨ o = 11 ∨ o = 12 ∨ o = 13 ∨ o = 14 ∨ o = 15 ∨ o = 16 ∨ o = 17 ∨ o = 18 ∨ o = 19 ∨ o = 20 ∨ o = 21 ∨ o = 22 ∨ o = 23 ∨ o = 24 := by omega
  rcases h' with rfl | rfl | rfl | rfl | rfl | rfl | rfl | rfl | rfl | rfl | rfl | rfl | rfl | rfl | rfl | rfl | rfl | rfl | rfl | rfl | rfl | rfl | rfl | rfl | rfl
  · exact operands_0 w
  · exact operands_1 w
  · exact operands_2 w
  · exact operands_3 w
  · exact operands_4 w
  · exact operands_5 w
  · exact operands_6 w
  · exact operands_7 w
  · exact operands_8 w
  · exact operands_9 w
  · exact operands_10 w
  · exact operands_11 w
  · exact operands_12 w
  · exact operands_13 w
  · exact operands_14 w
  · exact operands_15 w
  · exact operands_16 w
  · exact operands_17 w
  · exact operands_18 w
  · exact operands_19 w
  · exact operands_20 w
  · exact operands_21 w
  · exact operands_22 w
  · exact operands_23 w
  · exact operands_24 w
/-- the operands name what there is -/
def okO (nf : Nat) (prm : Int) (ns nc o : Nat) (a b c : Int) : Bool := !(outK nf prm ns nc (shp o).1 a || outK nf prm ns nc (shp o).2.1 b || outK nf prm ns nc (shp o).2.2.1 c)
theorem okops_0 (Ap : Option Addr) (nf cp : Nat) (prm : Int) (As : Option Addr) (sl : List (Int × Int)) (cs : Nat) (Ai : Option Addr) (nc ci : Nat) (a im : Int) (w : World) :
    Calls Tryd.prog 150 #[.agg #[.slice Ap nf cp], .agg #[.int .i64 prm, .slice As sl.length cs, .slice Ai nc ci], .agg #[.int .i64 0, .int .i64 a, .int .i64 0, .int .i64 0, .int .u64 im]] w fun e w' => e = .returned (.bool (okO nf prm sl.length nc 0 a 0 0)) ∧ Below w.heap.size w w' := by
  have HE : Hid (okO nf prm sl.length nc 0 a 0 0 = (inB a 8)) := Lib.hid (by simp [okO, outK, shp, shps, lim, lims, inB])
  go_enter Tryd.func150, Tryd.ntmps150
  go_wp2_with fail
  refine (register_any _ _).mono ?_
  rintro e w1 ⟨rfl, rfl⟩
  go_wp2
  go_ret
  exact ⟨ret_bool (by rw [HE.out] <;> simp), ((((Below.refl _ _).alloc (Nat.le_refl _) _).alloc (by simp) _).alloc (by simp; omega) _)⟩
theorem okops_1 (Ap : Option Addr) (nf cp : Nat) (prm : Int) (As : Option Addr) (sl : List (Int × Int)) (cs : Nat) (Ai : Option Addr) (nc ci : Nat) (a b im : Int) (w : World) :
    Calls Tryd.prog 150 #[.agg #[.slice Ap nf cp], .agg #[.int .i64 prm, .slice As sl.length cs, .slice Ai nc ci], .agg #[.int .i64 1, .int .i64 a, .int .i64 b, .int .i64 0, .int .u64 im]] w fun e w' => e = .returned (.bool (okO nf prm sl.length nc 1 a b 0)) ∧ Below w.heap.size w w' := by
  have HE : Hid (okO nf prm sl.length nc 1 a b 0 = (inB a 8 && inB b 8)) := Lib.hid (by simp [okO, outK, shp, shps, lim, lims, inB])
  go_enter Tryd.func150, Tryd.ntmps150
  go_wp2_with fail
  refine (register_any _ _).mono ?_
  rintro e w1 ⟨rfl, rfl⟩
  rcases hba : inB a 8 with _ | _
  · rw [hba] at HE
    clear hba
    go_wp2
    go_ret
    exact ⟨ret_bool (by rw [HE.out] <;> simp), ((((Below.refl _ _).alloc (Nat.le_refl _) _).alloc (by simp) _).alloc (by simp; omega) _)⟩
  · rw [hba] at HE
    clear hba
    go_wp2_with fail
    refine (register_any _ _).mono ?_
    rintro e w1 ⟨rfl, rfl⟩
    go_wp2
    go_ret
    exact ⟨ret_bool (by rw [HE.out] <;> simp), ((((Below.refl _ _).alloc (Nat.le_refl _) _).alloc (by simp) _).alloc (by simp; omega) _)⟩
theorem okops_2 (Ap : Option Addr) (nf cp : Nat) (prm : Int) (As : Option Addr) (sl : List (Int × Int)) (cs : Nat) (Ai : Option Addr) (nc ci : Nat) (a b c im : Int) (w : World) :
    Calls Tryd.prog 150 #[.agg #[.slice Ap nf cp], .agg #[.int .i64 prm, .slice As sl.length cs, .slice Ai nc ci], .agg #[.int .i64 2, .int .i64 a, .int .i64 b, .int .i64 c, .int .u64 im]] w fun e w' => e = .returned (.bool (okO nf prm sl.length nc 2 a b c)) ∧ Below w.heap.size w w' := by
  have HE : Hid (okO nf prm sl.length nc 2 a b c = (inB a 8 && inB b 8 && inB c 8)) := Lib.hid (by simp [okO, outK, shp, shps, lim, lims, inB])
  go_enter Tryd.func150, Tryd.ntmps150
  go_wp2_with fail
  refine (register_any _ _).mono ?_
  rintro e w1 ⟨rfl, rfl⟩
  rcases hba : inB a 8 with _ | _
  · rw [hba] at HE
    clear hba
    go_wp2
    go_ret
    exact ⟨ret_bool (by rw [HE.out] <;> simp), ((((Below.refl _ _).alloc (Nat.le_refl _) _).alloc (by simp) _).alloc (by simp; omega) _)⟩
  · rw [hba] at HE
    clear hba
    go_wp2_with fail
    refine (register_any _ _).mono ?_
    rintro e w1 ⟨rfl, rfl⟩
    rcases hbb : inB b 8 with _ | _
    · rw [hbb] at HE
      clear hbb
      go_wp2
      go_ret
      exact ⟨ret_bool (by rw [HE.out] <;> simp), ((((Below.refl _ _).alloc (Nat.le_refl _) _).alloc (by simp) _).alloc (by simp; omega) _)⟩
    · rw [hbb] at HE
      clear hbb
      go_wp2_with fail
      refine (register_any _ _).mono ?_
      rintro e w1 ⟨rfl, rfl⟩
      go_wp2
      go_ret
      exact ⟨ret_bool (by rw [HE.out] <;> simp), ((((Below.refl _ _).alloc (Nat.le_refl _) _).alloc (by simp) _).alloc (by simp; omega) _)⟩
theorem okops_3 (Ap : Option Addr) (nf cp : Nat) (prm : Int) (As : Option Addr) (sl : List (Int × Int)) (cs : Nat) (Ai : Option Addr) (nc ci : Nat) (a b c im : Int) (w : World) :
    Calls Tryd.prog 150 #[.agg #[.slice Ap nf cp], .agg #[.int .i64 prm, .slice As sl.length cs, .slice Ai nc ci], .agg #[.int .i64 3, .int .i64 a, .int .i64 b, .int .i64 c, .int .u64 im]] w fun e w' => e = .returned (.bool (okO nf prm sl.length nc 3 a b c)) ∧ Below w.heap.size w w' := by
  have HE : Hid (okO nf prm sl.length nc 3 a b c = (inB a 8 && inB b 8 && inB c 8)) := Lib.hid (by simp [okO, outK, shp, shps, lim, lims, inB])
  go_enter Tryd.func150, Tryd.ntmps150
  go_wp2_with fail
  refine (register_any _ _).mono ?_
  rintro e w1 ⟨rfl, rfl⟩
  rcases hba : inB a 8 with _ | _
  · rw [hba] at HE
    clear hba
    go_wp2
    go_ret
    exact ⟨ret_bool (by rw [HE.out] <;> simp), ((((Below.refl _ _).alloc (Nat.le_refl _) _).alloc (by simp) _).alloc (by simp; omega) _)⟩
  · rw [hba] at HE
    clear hba
    go_wp2_with fail
    refine (register_any _ _).mono ?_
    rintro e w1 ⟨rfl, rfl⟩
    rcases hbb : inB b 8 with _ | _
    · rw [hbb] at HE
      clear hbb
      go_wp2
      go_ret
      exact ⟨ret_bool (by rw [HE.out] <;> simp), ((((Below.refl _ _).alloc (Nat.le_refl _) _).alloc (by simp) _).alloc (by simp; omega) _)⟩
    · rw [hbb] at HE
      clear hbb
      go_wp2_with fail
      refine (register_any _ _).mono ?_
      rintro e w1 ⟨rfl, rfl⟩
      go_wp2
      go_ret
      exact ⟨ret_bool (by rw [HE.out] <;> simp), ((((Below.refl _ _).alloc (Nat.le_refl _) _).alloc (by simp) _).alloc (by simp; omega) _)⟩
theorem okops_4 (Ap : Option Addr) (nf cp : Nat) (prm : Int) (As : Option Addr) (sl : List (Int × Int)) (cs : Nat) (Ai : Option Addr) (nc ci : Nat) (a b c im : Int) (w : World) :
    Calls Tryd.prog 150 #[.agg #[.slice Ap nf cp], .agg #[.int .i64 prm, .slice As sl.length cs, .slice Ai nc ci], .agg #[.int .i64 4, .int .i64 a, .int .i64 b, .int .i64 c, .int .u64 im]] w fun e w' => e = .returned (.bool (okO nf prm sl.length nc 4 a b c)) ∧ Below w.heap.size w w' := by
  have HE : Hid (okO nf prm sl.length nc 4 a b c = (inB a 8 && inB b 8 && inB c 8)) := Lib.hid (by simp [okO, outK, shp, shps, lim, lims, inB])
  go_enter Tryd.func150, Tryd.ntmps150
  go_wp2_with fail
  refine (register_any _ _).mono ?_
  rintro e w1 ⟨rfl, rfl⟩
  rcases hba : inB a 8 with _ | _
  · rw [hba] at HE
    clear hba
    go_wp2
    go_ret
    exact ⟨ret_bool (by rw [HE.out] <;> simp), ((((Below.refl _ _).alloc (Nat.le_refl _) _).alloc (by simp) _).alloc (by simp; omega) _)⟩
  · rw [hba] at HE
    clear hba
    go_wp2_with fail
    refine (register_any _ _).mono ?_
    rintro e w1 ⟨rfl, rfl⟩
    rcases hbb : inB b 8 with _ | _
    · rw [hbb] at HE
      clear hbb
      go_wp2
      go_ret
      exact ⟨ret_bool (by rw [HE.out] <;> simp), ((((Below.refl _ _).alloc (Nat.le_refl _) _).alloc (by simp) _).alloc (by simp; omega) _)⟩
    · rw [hbb] at HE
      clear hbb
      go_wp2_with fail
      refine (register_any _ _).mono ?_
      rintro e w1 ⟨rfl, rfl⟩
      go_wp2
      go_ret
      exact ⟨ret_bool (by rw [HE.out] <;> simp), ((((Below.refl _ _).alloc (Nat.le_refl _) _).alloc (by simp) _).alloc (by simp; omega) _)⟩
theorem okops_5 (Ap : Option Addr) (nf cp : Nat) (prm : Int) (As : Option Addr) (sl : List (Int × Int)) (cs : Nat) (Ai : Option Addr) (nc ci : Nat) (a b c im : Int) (w : World) :
    Calls Tryd.prog 150 #[.agg #[.slice Ap nf cp], .agg #[.int .i64 prm, .slice As sl.length cs, .slice Ai nc ci], .agg #[.int .i64 5, .int .i64 a, .int .i64 b, .int .i64 c, .int .u64 im]] w fun e w' => e = .returned (.bool (okO nf prm sl.length nc 5 a b c)) ∧ Below w.heap.size w w' := by
  have HE : Hid (okO nf prm sl.length nc 5 a b c = (inB a 8 && inB b 8 && inB c 8)) := Lib.hid (by simp [okO, outK, shp, shps, lim, lims, inB])
  go_enter Tryd.func150, Tryd.ntmps150
  go_wp2_with fail
  refine (register_any _ _).mono ?_
  rintro e w1 ⟨rfl, rfl⟩
  rcases hba : inB a 8 with _ | _
  · rw [hba] at HE
    clear hba
    go_wp2
    go_ret
    exact ⟨ret_bool (by rw [HE.out] <;> simp), ((((Below.refl _ _).alloc (Nat.le_refl _) _).alloc (by simp) _).alloc (by simp; omega) _)⟩
  · rw [hba] at HE
    clear hba
    go_wp2_with fail
    refine (register_any _ _).mono ?_
    rintro e w1 ⟨rfl, rfl⟩
    rcases hbb : inB b 8 with _ | _
    · rw [hbb] at HE
      clear hbb
      go_wp2
      go_ret
      exact ⟨ret_bool (by rw [HE.out] <;> simp), ((((Below.refl _ _).alloc (Nat.le_refl _) _).alloc (by simp) _).alloc (by simp; omega) _)⟩
    · rw [hbb] at HE
      clear hbb
      go_wp2_with fail
      refine (register_any _ _).mono ?_
      rintro e w1 ⟨rfl, rfl⟩
      go_wp2
      go_ret
      exact ⟨ret_bool (by rw [HE.out] <;> simp), ((((Below.refl _ _).alloc (Nat.le_refl _) _).alloc (by simp) _).alloc (by simp; omega) _)⟩
theorem okops_6 (Ap : Option Addr) (nf cp : Nat) (prm : Int) (As : Option Addr) (sl : List (Int × Int)) (cs : Nat) (Ai : Option Addr) (nc ci : Nat) (a b c im : Int) (w : World) :
    Calls Tryd.prog 150 #[.agg #[.slice Ap nf cp], .agg #[.int .i64 prm, .slice As sl.length cs, .slice Ai nc ci], .agg #[.int .i64 6, .int .i64 a, .int .i64 b, .int .i64 c, .int .u64 im]] w fun e w' => e = .returned (.bool (okO nf prm sl.length nc 6 a b c)) ∧ Below w.heap.size w w' := by
  have HE : Hid (okO nf prm sl.length nc 6 a b c = (inB a 8 && inB b 8 && inB c 8)) := Lib.hid (by simp [okO, outK, shp, shps, lim, lims, inB])
  go_enter Tryd.func150, Tryd.ntmps150
  go_wp2_with fail
  refine (register_any _ _).mono ?_
  rintro e w1 ⟨rfl, rfl⟩
  rcases hba : inB a 8 with _ | _
  · rw [hba] at HE
    clear hba
    go_wp2
    go_ret
    exact ⟨ret_bool (by rw [HE.out] <;> simp), ((((Below.refl _ _).alloc (Nat.le_refl _) _).alloc (by simp) _).alloc (by simp; omega) _)⟩
  · rw [hba] at HE
    clear hba
    go_wp2_with fail
    refine (register_any _ _).mono ?_
    rintro e w1 ⟨rfl, rfl⟩
    rcases hbb : inB b 8 with _ | _
    · rw [hbb] at HE
      clear hbb
      go_wp2
      go_ret
      exact ⟨ret_bool (by rw [HE.out] <;> simp), ((((Below.refl _ _).alloc (Nat.le_refl _) _).alloc (by simp) _).alloc (by simp; omega) _)⟩
    · rw [hbb] at HE
      clear hbb
      go_wp2_with fail
      refine (register_any _ _).mono ?_
      rintro e w1 ⟨rfl, rfl⟩
      go_wp2
      go_ret
      exact ⟨ret_bool (by rw [HE.out] <;> simp), ((((Below.refl _ _).alloc (Nat.le_refl _) _).alloc (by simp) _).alloc (by simp; omega) _)⟩
theorem okops_7 (Ap : Option Addr) (nf cp : Nat) (prm : Int) (As : Option Addr) (sl : List (Int × Int)) (cs : Nat) (Ai : Option Addr) (nc ci : Nat) (a b c im : Int) (w : World) :
    Calls Tryd.prog 150 #[.agg #[.slice Ap nf cp], .agg #[.int .i64 prm, .slice As sl.length cs, .slice Ai nc ci], .agg #[.int .i64 7, .int .i64 a, .int .i64 b, .int .i64 c, .int .u64 im]] w fun e w' => e = .returned (.bool (okO nf prm sl.length nc 7 a b c)) ∧ Below w.heap.size w w' := by
  have HE : Hid (okO nf prm sl.length nc 7 a b c = (inB a 8 && inB b 8 && inB c 8)) := Lib.hid (by simp [okO, outK, shp, shps, lim, lims, inB])
  go_enter Tryd.func150, Tryd.ntmps150
  go_wp2_with fail
  refine (register_any _ _).mono ?_
  rintro e w1 ⟨rfl, rfl⟩
  rcases hba : inB a 8 with _ | _
  · rw [hba] at HE
    clear hba
    go_wp2
    go_ret
    exact ⟨ret_bool (by rw [HE.out] <;> simp), ((((Below.refl _ _).alloc (Nat.le_refl _) _).alloc (by simp) _).alloc (by simp; omega) _)⟩
  · rw [hba] at HE
    clear hba
    go_wp2_with fail
    refine (register_any _ _).mono ?_
    rintro e w1 ⟨rfl, rfl⟩
    rcases hbb : inB b 8 with _ | _
    · rw [hbb] at HE
      clear hbb
      go_wp2
      go_ret
      exact ⟨ret_bool (by rw [HE.out] <;> simp), ((((Below.refl _ _).alloc (Nat.le_refl _) _).alloc (by simp) _).alloc (by simp; omega) _)⟩
    · rw [hbb] at HE
      clear hbb
      go_wp2_with fail
      refine (register_any _ _).mono ?_
      rintro e w1 ⟨rfl, rfl⟩
      go_wp2
      go_ret
      exact ⟨ret_bool (by rw [HE.out] <;> simp), ((((Below.refl _ _).alloc (Nat.le_refl _) _).alloc (by simp) _).alloc (by simp; omega) _)⟩
theorem okops_8 (Ap : Option Addr) (nf cp : Nat) (prm : Int) (As : Option Addr) (sl : List (Int × Int)) (cs : Nat) (Ai : Option Addr) (nc ci : Nat) (a b c im : Int) (w : World) :
    Calls Tryd.prog 150 #[.agg #[.slice Ap nf cp], .agg #[.int .i64 prm, .slice As sl.length cs, .slice Ai nc ci], .agg #[.int .i64 8, .int .i64 a, .int .i64 b, .int .i64 c, .int .u64 im]] w fun e w' => e = .returned (.bool (okO nf prm sl.length nc 8 a b c)) ∧ Below w.heap.size w w' := by
  have HE : Hid (okO nf prm sl.length nc 8 a b c = (inB a 8 && inB b 8 && inB c 8)) := Lib.hid (by simp [okO, outK, shp, shps, lim, lims, inB])
  go_enter Tryd.func150, Tryd.ntmps150
  go_wp2_with fail
  refine (register_any _ _).mono ?_
  rintro e w1 ⟨rfl, rfl⟩
  rcases hba : inB a 8 with _ | _
  · rw [hba] at HE
    clear hba
    go_wp2
    go_ret
    exact ⟨ret_bool (by rw [HE.out] <;> simp), ((((Below.refl _ _).alloc (Nat.le_refl _) _).alloc (by simp) _).alloc (by simp; omega) _)⟩
  · rw [hba] at HE
    clear hba
    go_wp2_with fail
    refine (register_any _ _).mono ?_
    rintro e w1 ⟨rfl, rfl⟩
    rcases hbb : inB b 8 with _ | _
    · rw [hbb] at HE
      clear hbb
      go_wp2
      go_ret
      exact ⟨ret_bool (by rw [HE.out] <;> simp), ((((Below.refl _ _).alloc (Nat.le_refl _) _).alloc (by simp) _).alloc (by simp; omega) _)⟩
    · rw [hbb] at HE
      clear hbb
      go_wp2_with fail
      refine (register_any _ _).mono ?_
      rintro e w1 ⟨rfl, rfl⟩
      go_wp2
      go_ret
      exact ⟨ret_bool (by rw [HE.out] <;> simp), ((((Below.refl _ _).alloc (Nat.le_refl _) _).alloc (by simp) _).alloc (by simp; omega) _)⟩
theorem okops_9 (Ap : Option Addr) (nf cp : Nat) (prm : Int) (As : Option Addr) (sl : List (Int × Int)) (cs : Nat) (Ai : Option Addr) (nc ci : Nat) (a b c im : Int) (w : World) :
    Calls Tryd.prog 150 #[.agg #[.slice Ap nf cp], .agg #[.int .i64 prm, .slice As sl.length cs, .slice Ai nc ci], .agg #[.int .i64 9, .int .i64 a, .int .i64 b, .int .i64 c, .int .u64 im]] w fun e w' => e = .returned (.bool (okO nf prm sl.length nc 9 a b c)) ∧ Below w.heap.size w w' := by
  have HE : Hid (okO nf prm sl.length nc 9 a b c = (inB a 8 && inB b 8 && inB c 8)) := Lib.hid (by simp [okO, outK, shp, shps, lim, lims, inB])
  go_enter Tryd.func150, Tryd.ntmps150
  go_wp2_with fail
  refine (register_any _ _).mono ?_
  rintro e w1 ⟨rfl, rfl⟩
  rcases hba : inB a 8 with _ | _
  · rw [hba] at HE
    clear hba
    go_wp2
    go_ret
    exact ⟨ret_bool (by rw [HE.out] <;> simp), ((((Below.refl _ _).alloc (Nat.le_refl _) _).alloc (by simp) _).alloc (by simp; omega) _)⟩
  · rw [hba] at HE
    clear hba
    go_wp2_with fail
    refine (register_any _ _).mono ?_
    rintro e w1 ⟨rfl, rfl⟩
    rcases hbb : inB b 8 with _ | _
    · rw [hbb] at HE
      clear hbb
      go_wp2
      go_ret
      exact ⟨ret_bool (by rw [HE.out] <;> simp), ((((Below.refl _ _).alloc (Nat.le_refl _) _).alloc (by simp) _).alloc (by simp; omega) _)⟩
    · rw [hbb] at HE
      clear hbb
      go_wp2_with fail
      refine (register_any _ _).mono ?_
      rintro e w1 ⟨rfl, rfl⟩
      go_wp2
      go_ret
      exact ⟨ret_bool (by rw [HE.out] <;> simp), ((((Below.refl _ _).alloc (Nat.le_refl _) _).alloc (by simp) _).alloc (by simp; omega) _)⟩
theorem okops_10 (Ap : Option Addr) (nf cp : Nat) (prm : Int) (As : Option Addr) (sl : List (Int × Int)) (cs : Nat) (Ai : Option Addr) (nc ci : Nat) (a b c im : Int) (w : World) :
    Calls Tryd.prog 150 #[.agg #[.slice Ap nf cp], .agg #[.int .i64 prm, .slice As sl.length cs, .slice Ai nc ci], .agg #[.int .i64 10, .int .i64 a, .int .i64 b, .int .i64 c, .int .u64 im]] w fun e w' => e = .returned (.bool (okO nf prm sl.length nc 10 a b c)) ∧ Below w.heap.size w w' := by
  have HE : Hid (okO nf prm sl.length nc 10 a b c = (inB a 8 && inB b 8 && inB c 8)) := Lib.hid (by simp [okO, outK, shp, shps, lim, lims, inB])
  go_enter Tryd.func150, Tryd.ntmps150
  go_wp2_with fail
  refine (register_any _ _).mono ?_
  rintro e w1 ⟨rfl, rfl⟩
  rcases hba : inB a 8 with _ | _
  · rw [hba] at HE
    clear hba
    go_wp2
    go_ret
    exact ⟨ret_bool (by rw [HE.out] <;> simp), ((((Below.refl _ _).alloc (Nat.le_refl _) _).alloc (by simp) _).alloc (by simp; omega) _)⟩
  · rw [hba] at HE
    clear hba
    go_wp2_with fail
    refine (register_any _ _).mono ?_
    rintro e w1 ⟨rfl, rfl⟩
    rcases hbb : inB b 8 with _ | _
    · rw [hbb] at HE
      clear hbb
      go_wp2
      go_ret
      exact ⟨ret_bool (by rw [HE.out] <;> simp), ((((Below.refl _ _).alloc (Nat.le_refl _) _).alloc (by simp) _).alloc (by simp; omega) _)⟩
    · rw [hbb] at HE
      clear hbb
      go_wp2_with fail
      refine (register_any _ _).mono ?_
      rintro e w1 ⟨rfl, rfl⟩
      go_wp2
      go_ret
      exact ⟨ret_bool (by rw [HE.out] <;> simp), ((((Below.refl _ _).alloc (Nat.le_refl _) _).alloc (by simp) _).alloc (by simp; omega) _)⟩
theorem okops_11 (Ap : Option Addr) (nf cp : Nat) (prm : Int) (As : Option Addr) (sl : List (Int × Int)) (cs : Nat) (Ai : Option Addr) (nc ci : Nat) (a b c im : Int) (w : World) :
    Calls Tryd.prog 150 #[.agg #[.slice Ap nf cp], .agg #[.int .i64 prm, .slice As sl.length cs, .slice Ai nc ci], .agg #[.int .i64 11, .int .i64 a, .int .i64 b, .int .i64 c, .int .u64 im]] w fun e w' => e = .returned (.bool (okO nf prm sl.length nc 11 a b c)) ∧ Below w.heap.size w w' := by
  have HE : Hid (okO nf prm sl.length nc 11 a b c = (inB a 8 && inB b 8 && inB c 8)) := Lib.hid (by simp [okO, outK, shp, shps, lim, lims, inB])
  go_enter Tryd.func150, Tryd.ntmps150
  go_wp2_with fail
  refine (register_any _ _).mono ?_
  rintro e w1 ⟨rfl, rfl⟩
  rcases hba : inB a 8 with _ | _
  · rw [hba] at HE
    clear hba
    go_wp2
    go_ret
    exact ⟨ret_bool (by rw [HE.out] <;> simp), ((((Below.refl _ _).alloc (Nat.le_refl _) _).alloc (by simp) _).alloc (by simp; omega) _)⟩
  · rw [hba] at HE
    clear hba
    go_wp2_with fail
    refine (register_any _ _).mono ?_
    rintro e w1 ⟨rfl, rfl⟩
    rcases hbb : inB b 8 with _ | _
    · rw [hbb] at HE
      clear hbb
      go_wp2
      go_ret
      exact ⟨ret_bool (by rw [HE.out] <;> simp), ((((Below.refl _ _).alloc (Nat.le_refl _) _).alloc (by simp) _).alloc (by simp; omega) _)⟩
    · rw [hbb] at HE
      clear hbb
      go_wp2_with fail
      refine (register_any _ _).mono ?_
      rintro e w1 ⟨rfl, rfl⟩
      go_wp2
      go_ret
      exact ⟨ret_bool (by rw [HE.out] <;> simp), ((((Below.refl _ _).alloc (Nat.le_refl _) _).alloc (by simp) _).alloc (by simp; omega) _)⟩
theorem okops_12 (Ap : Option Addr) (nf cp : Nat) (prm : Int) (As : Option Addr) (sl : List (Int × Int)) (cs : Nat) (Ai : Option Addr) (nc ci : Nat) (a b im : Int) (w : World) :
    Calls Tryd.prog 150 #[.agg #[.slice Ap nf cp], .agg #[.int .i64 prm, .slice As sl.length cs, .slice Ai nc ci], .agg #[.int .i64 12, .int .i64 a, .int .i64 b, .int .i64 0, .int .u64 im]] w fun e w' => e = .returned (.bool (okO nf prm sl.length nc 12 a b 0)) ∧ Below w.heap.size w w' := by
  have HE : Hid (okO nf prm sl.length nc 12 a b 0 = (inB a 8 && inB b 8)) := Lib.hid (by simp [okO, outK, shp, shps, lim, lims, inB])
  go_enter Tryd.func150, Tryd.ntmps150
  go_wp2_with fail
  refine (register_any _ _).mono ?_
  rintro e w1 ⟨rfl, rfl⟩
  rcases hba : inB a 8 with _ | _
  · rw [hba] at HE
    clear hba
    go_wp2
    go_ret
    exact ⟨ret_bool (by rw [HE.out] <;> simp), ((((Below.refl _ _).alloc (Nat.le_refl _) _).alloc (by simp) _).alloc (by simp; omega) _)⟩
  · rw [hba] at HE
    clear hba
    go_wp2_with fail
    refine (register_any _ _).mono ?_
    rintro e w1 ⟨rfl, rfl⟩
    go_wp2
    go_ret
    exact ⟨ret_bool (by rw [HE.out] <;> simp), ((((Below.refl _ _).alloc (Nat.le_refl _) _).alloc (by simp) _).alloc (by simp; omega) _)⟩
theorem okops_13 (Ap : Option Addr) (nf cp : Nat) (prm : Int) (As : Option Addr) (sl : List (Int × Int)) (cs : Nat) (Ai : Option Addr) (nc ci : Nat) (a im : Int) (w : World) :
    Calls Tryd.prog 150 #[.agg #[.slice Ap nf cp], .agg #[.int .i64 prm, .slice As sl.length cs, .slice Ai nc ci], .agg #[.int .i64 13, .int .i64 a, .int .i64 0, .int .i64 0, .int .u64 im]] w fun e w' => e = .returned (.bool (okO nf prm sl.length nc 13 a 0 0)) ∧ Below w.heap.size w w' := by
  have HE : Hid (okO nf prm sl.length nc 13 a 0 0 = (inB a 8)) := Lib.hid (by simp [okO, outK, shp, shps, lim, lims, inB])
  go_enter Tryd.func150, Tryd.ntmps150
  go_wp2_with fail
  refine (register_any _ _).mono ?_
  rintro e w1 ⟨rfl, rfl⟩
  go_wp2
  go_ret
  exact ⟨ret_bool (by rw [HE.out] <;> simp), ((((Below.refl _ _).alloc (Nat.le_refl _) _).alloc (by simp) _).alloc (by simp; omega) _)⟩
theorem okops_14 (Ap : Option Addr) (nf cp : Nat) (prm : Int) (As : Option Addr) (sl : List (Int × Int)) (cs : Nat) (Ai : Option Addr) (nc ci : Nat) (a im : Int) (w : World) :
    Calls Tryd.prog 150 #[.agg #[.slice Ap nf cp], .agg #[.int .i64 prm, .slice As sl.length cs, .slice Ai nc ci], .agg #[.int .i64 14, .int .i64 a, .int .i64 0, .int .i64 0, .int .u64 im]] w fun e w' => e = .returned (.bool (okO nf prm sl.length nc 14 a 0 0)) ∧ Below w.heap.size w w' := by
  have HE : Hid (okO nf prm sl.length nc 14 a 0 0 = (inB a 8)) := Lib.hid (by simp [okO, outK, shp, shps, lim, lims, inB])
  go_enter Tryd.func150, Tryd.ntmps150
  go_wp2_with fail
  refine (register_any _ _).mono ?_
  rintro e w1 ⟨rfl, rfl⟩
  go_wp2
  go_ret
  exact ⟨ret_bool (by rw [HE.out] <;> simp), ((((Below.refl _ _).alloc (Nat.le_refl _) _).alloc (by simp) _).alloc (by simp; omega) _)⟩
theorem okops_15 (Ap : Option Addr) (nf cp : Nat) (prm : Int) (As : Option Addr) (sl : List (Int × Int)) (cs : Nat) (Ai : Option Addr) (nc ci : Nat) (a b im : Int) (w : World) :
    Calls Tryd.prog 150 #[.agg #[.slice Ap nf cp], .agg #[.int .i64 prm, .slice As sl.length cs, .slice Ai nc ci], .agg #[.int .i64 15, .int .i64 a, .int .i64 b, .int .i64 0, .int .u64 im]] w fun e w' => e = .returned (.bool (okO nf prm sl.length nc 15 a b 0)) ∧ Below w.heap.size w w' := by
  have HE : Hid (okO nf prm sl.length nc 15 a b 0 = (inB a 8 && inB b (sl.length : Int))) := Lib.hid (by simp [okO, outK, shp, shps, lim, lims, inB])
  go_enter Tryd.func150, Tryd.ntmps150
  go_wp2_with fail
  refine (register_any _ _).mono ?_
  rintro e w1 ⟨rfl, rfl⟩
  rcases hba : inB a 8 with _ | _
  · rw [hba] at HE
    clear hba
    go_wp2
    go_ret
    exact ⟨ret_bool (by rw [HE.out] <;> simp), ((((Below.refl _ _).alloc (Nat.le_refl _) _).alloc (by simp) _).alloc (by simp; omega) _)⟩
  · rw [hba] at HE
    clear hba
    go_wp2_with fail
    refine (refwithin_any _ _ _).mono ?_
    rintro e w1 ⟨rfl, rfl⟩
    go_wp2
    go_ret
    exact ⟨ret_bool (by rw [HE.out] <;> simp), ((((Below.refl _ _).alloc (Nat.le_refl _) _).alloc (by simp) _).alloc (by simp; omega) _)⟩
theorem okops_16 (Ap : Option Addr) (nf cp : Nat) (prm : Int) (As : Option Addr) (sl : List (Int × Int)) (cs : Nat) (Ai : Option Addr) (nc ci : Nat) (a b im : Int) (w : World) :
    Calls Tryd.prog 150 #[.agg #[.slice Ap nf cp], .agg #[.int .i64 prm, .slice As sl.length cs, .slice Ai nc ci], .agg #[.int .i64 16, .int .i64 a, .int .i64 b, .int .i64 0, .int .u64 im]] w fun e w' => e = .returned (.bool (okO nf prm sl.length nc 16 a b 0)) ∧ Below w.heap.size w w' := by
  have HE : Hid (okO nf prm sl.length nc 16 a b 0 = (inB a (sl.length : Int) && inB b 8)) := Lib.hid (by simp [okO, outK, shp, shps, lim, lims, inB])
  go_enter Tryd.func150, Tryd.ntmps150
  go_wp2_with fail
  refine (refwithin_any _ _ _).mono ?_
  rintro e w1 ⟨rfl, rfl⟩
  rcases hba : inB a (sl.length : Int) with _ | _
  · rw [hba] at HE
    clear hba
    go_wp2
    go_ret
    exact ⟨ret_bool (by rw [HE.out] <;> simp), ((((Below.refl _ _).alloc (Nat.le_refl _) _).alloc (by simp) _).alloc (by simp; omega) _)⟩
  · rw [hba] at HE
    clear hba
    go_wp2_with fail
    refine (register_any _ _).mono ?_
    rintro e w1 ⟨rfl, rfl⟩
    go_wp2
    go_ret
    exact ⟨ret_bool (by rw [HE.out] <;> simp), ((((Below.refl _ _).alloc (Nat.le_refl _) _).alloc (by simp) _).alloc (by simp; omega) _)⟩
theorem okops_17 (Ap : Option Addr) (nf cp : Nat) (prm : Int) (As : Option Addr) (sl : List (Int × Int)) (cs : Nat) (Ai : Option Addr) (nc ci : Nat) (a b im : Int) (w : World) :
    Calls Tryd.prog 150 #[.agg #[.slice Ap nf cp], .agg #[.int .i64 prm, .slice As sl.length cs, .slice Ai nc ci], .agg #[.int .i64 17, .int .i64 a, .int .i64 b, .int .i64 0, .int .u64 im]] w fun e w' => e = .returned (.bool (okO nf prm sl.length nc 17 a b 0)) ∧ Below w.heap.size w w' := by
  have HE : Hid (okO nf prm sl.length nc 17 a b 0 = (inB a (sl.length : Int) && inB b (sl.length : Int))) := Lib.hid (by simp [okO, outK, shp, shps, lim, lims, inB])
  go_enter Tryd.func150, Tryd.ntmps150
  go_wp2_with fail
  refine (refwithin_any _ _ _).mono ?_
  rintro e w1 ⟨rfl, rfl⟩
  rcases hba : inB a (sl.length : Int) with _ | _
  · rw [hba] at HE
    clear hba
    go_wp2
    go_ret
    exact ⟨ret_bool (by rw [HE.out] <;> simp), ((((Below.refl _ _).alloc (Nat.le_refl _) _).alloc (by simp) _).alloc (by simp; omega) _)⟩
  · rw [hba] at HE
    clear hba
    go_wp2_with fail
    refine (refwithin_any _ _ _).mono ?_
    rintro e w1 ⟨rfl, rfl⟩
    go_wp2
    go_ret
    exact ⟨ret_bool (by rw [HE.out] <;> simp), ((((Below.refl _ _).alloc (Nat.le_refl _) _).alloc (by simp) _).alloc (by simp; omega) _)⟩
theorem okops_18 (Ap : Option Addr) (nf cp : Nat) (prm : Int) (As : Option Addr) (sl : List (Int × Int)) (cs : Nat) (Ai : Option Addr) (nc ci : Nat) (a b im : Int) (w : World) :
    Calls Tryd.prog 150 #[.agg #[.slice Ap nf cp], .agg #[.int .i64 prm, .slice As sl.length cs, .slice Ai nc ci], .agg #[.int .i64 18, .int .i64 a, .int .i64 b, .int .i64 0, .int .u64 im]] w fun e w' => e = .returned (.bool (okO nf prm sl.length nc 18 a b 0)) ∧ Below w.heap.size w w' := by
  have HE : Hid (okO nf prm sl.length nc 18 a b 0 = (inB a 8 && inB b 8)) := Lib.hid (by simp [okO, outK, shp, shps, lim, lims, inB])
  go_enter Tryd.func150, Tryd.ntmps150
  go_wp2_with fail
  refine (refwithin_any _ _ _).mono ?_
  rintro e w1 ⟨rfl, rfl⟩
  rcases hba : inB a 8 with _ | _
  · rw [hba] at HE
    clear hba
    go_wp2
    go_ret
    exact ⟨ret_bool (by rw [HE.out] <;> simp), ((((Below.refl _ _).alloc (Nat.le_refl _) _).alloc (by simp) _).alloc (by simp; omega) _)⟩
  · rw [hba] at HE
    clear hba
    go_wp2_with fail
    refine (register_any _ _).mono ?_
    rintro e w1 ⟨rfl, rfl⟩
    go_wp2
    go_ret
    exact ⟨ret_bool (by rw [HE.out] <;> simp), ((((Below.refl _ _).alloc (Nat.le_refl _) _).alloc (by simp) _).alloc (by simp; omega) _)⟩
theorem okops_19 (Ap : Option Addr) (nf cp : Nat) (prm : Int) (As : Option Addr) (sl : List (Int × Int)) (cs : Nat) (Ai : Option Addr) (nc ci : Nat) (a b im : Int) (w : World) :
    Calls Tryd.prog 150 #[.agg #[.slice Ap nf cp], .agg #[.int .i64 prm, .slice As sl.length cs, .slice Ai nc ci], .agg #[.int .i64 19, .int .i64 a, .int .i64 b, .int .i64 0, .int .u64 im]] w fun e w' => e = .returned (.bool (okO nf prm sl.length nc 19 a b 0)) ∧ Below w.heap.size w w' := by
  have HE : Hid (okO nf prm sl.length nc 19 a b 0 = (inB a 8 && inB b prm)) := Lib.hid (by simp [okO, outK, shp, shps, lim, lims, inB])
  go_enter Tryd.func150, Tryd.ntmps150
  go_wp2_with fail
  refine (register_any _ _).mono ?_
  rintro e w1 ⟨rfl, rfl⟩
  rcases hba : inB a 8 with _ | _
  · rw [hba] at HE
    clear hba
    go_wp2
    go_ret
    exact ⟨ret_bool (by rw [HE.out] <;> simp), ((((Below.refl _ _).alloc (Nat.le_refl _) _).alloc (by simp) _).alloc (by simp; omega) _)⟩
  · rw [hba] at HE
    clear hba
    go_wp2_with fail
    refine (refwithin_any _ _ _).mono ?_
    rintro e w1 ⟨rfl, rfl⟩
    go_wp2
    go_ret
    exact ⟨ret_bool (by rw [HE.out] <;> simp), ((((Below.refl _ _).alloc (Nat.le_refl _) _).alloc (by simp) _).alloc (by simp; omega) _)⟩
theorem okops_20 (Ap : Option Addr) (nf cp : Nat) (prm : Int) (As : Option Addr) (sl : List (Int × Int)) (cs : Nat) (Ai : Option Addr) (nc ci : Nat) (a im : Int) (w : World) :
    Calls Tryd.prog 150 #[.agg #[.slice Ap nf cp], .agg #[.int .i64 prm, .slice As sl.length cs, .slice Ai nc ci], .agg #[.int .i64 20, .int .i64 a, .int .i64 0, .int .i64 0, .int .u64 im]] w fun e w' => e = .returned (.bool (okO nf prm sl.length nc 20 a 0 0)) ∧ Below w.heap.size w w' := by
  have HE : Hid (okO nf prm sl.length nc 20 a 0 0 = (true)) := Lib.hid (by simp [okO, outK, shp, shps, lim, lims, inB])
  go_enter Tryd.func150, Tryd.ntmps150
  go_wp2
  go_ret
  exact ⟨ret_bool (by rw [HE.out]), ((((Below.refl _ _).alloc (Nat.le_refl _) _).alloc (by simp) _).alloc (by simp; omega) _)⟩
theorem okops_21 (Ap : Option Addr) (nf cp : Nat) (prm : Int) (As : Option Addr) (sl : List (Int × Int)) (cs : Nat) (Ai : Option Addr) (nc ci : Nat) (a b im : Int) (w : World) :
    Calls Tryd.prog 150 #[.agg #[.slice Ap nf cp], .agg #[.int .i64 prm, .slice As sl.length cs, .slice Ai nc ci], .agg #[.int .i64 21, .int .i64 a, .int .i64 b, .int .i64 0, .int .u64 im]] w fun e w' => e = .returned (.bool (okO nf prm sl.length nc 21 a b 0)) ∧ Below w.heap.size w w' := by
  have HE : Hid (okO nf prm sl.length nc 21 a b 0 = (inB a 8)) := Lib.hid (by simp [okO, outK, shp, shps, lim, lims, inB])
  go_enter Tryd.func150, Tryd.ntmps150
  go_wp2_with fail
  refine (register_any _ _).mono ?_
  rintro e w1 ⟨rfl, rfl⟩
  go_wp2
  go_ret
  exact ⟨ret_bool (by rw [HE.out] <;> simp), ((((Below.refl _ _).alloc (Nat.le_refl _) _).alloc (by simp) _).alloc (by simp; omega) _)⟩
theorem okops_22 (Ap : Option Addr) (nf cp : Nat) (prm : Int) (As : Option Addr) (sl : List (Int × Int)) (cs : Nat) (Ai : Option Addr) (nc ci : Nat) (a im : Int) (w : World) :
    Calls Tryd.prog 150 #[.agg #[.slice Ap nf cp], .agg #[.int .i64 prm, .slice As sl.length cs, .slice Ai nc ci], .agg #[.int .i64 22, .int .i64 a, .int .i64 0, .int .i64 0, .int .u64 im]] w fun e w' => e = .returned (.bool (okO nf prm sl.length nc 22 a 0 0)) ∧ Below w.heap.size w w' := by
  have HE : Hid (okO nf prm sl.length nc 22 a 0 0 = (inB a (nf : Int))) := Lib.hid (by simp [okO, outK, shp, shps, lim, lims, inB])
  go_enter Tryd.func150, Tryd.ntmps150
  go_wp2_with fail
  refine (refwithin_any _ _ _).mono ?_
  rintro e w1 ⟨rfl, rfl⟩
  go_wp2
  go_ret
  exact ⟨ret_bool (by rw [HE.out] <;> simp), ((((Below.refl _ _).alloc (Nat.le_refl _) _).alloc (by simp) _).alloc (by simp; omega) _)⟩
theorem okops_23 (Ap : Option Addr) (nf cp : Nat) (prm : Int) (As : Option Addr) (sl : List (Int × Int)) (cs : Nat) (Ai : Option Addr) (nc ci : Nat) (a im : Int) (w : World) :
    Calls Tryd.prog 150 #[.agg #[.slice Ap nf cp], .agg #[.int .i64 prm, .slice As sl.length cs, .slice Ai nc ci], .agg #[.int .i64 23, .int .i64 0, .int .i64 0, .int .i64 0, .int .u64 im]] w fun e w' => e = .returned (.bool (okO nf prm sl.length nc 23 0 0 0)) ∧ Below w.heap.size w w' := by
  have HE : Hid (okO nf prm sl.length nc 23 0 0 0 = (true)) := Lib.hid (by simp [okO, outK, shp, shps, lim, lims, inB])
  go_enter Tryd.func150, Tryd.ntmps150
  go_wp2
  go_ret
  exact ⟨ret_bool (by rw [HE.out]), ((((Below.refl _ _).alloc (Nat.le_refl _) _).alloc (by simp) _).alloc (by simp; omega) _)⟩
theorem okops_24 (Ap : Option Addr) (nf cp : Nat) (prm : Int) (As : Option Addr) (sl : List (Int × Int)) (cs : Nat) (Ai : Option Addr) (nc ci : Nat) (a im : Int) (w : World) :
    Calls Tryd.prog 150 #[.agg #[.slice Ap nf cp], .agg #[.int .i64 prm, .slice As sl.length cs, .slice Ai nc ci], .agg #[.int .i64 24, .int .i64 0, .int .i64 0, .int .i64 0, .int .u64 im]] w fun e w' => e = .returned (.bool (okO nf prm sl.length nc 24 0 0 0)) ∧ Below w.heap.size w w' := by
  have HE : Hid (okO nf prm sl.length nc 24 0 0 0 = (true)) := Lib.hid (by simp [okO, outK, shp, shps, lim, lims, inB])
  go_enter Tryd.func150, Tryd.ntmps150
  go_wp2
  go_ret
  exact ⟨ret_bool (by rw [HE.out]), ((((Below.refl _ _).alloc (Nat.le_refl _) _).alloc (by simp) _).alloc (by simp; omega) _)⟩
end Go.Proofs.YtinfeglhjmnlaaaDoor.pm
namespace Go.Proofs.YtinfeglhjmnlaaaDoor.pm
open Go.RowKit
set_option linter.unusedVariables false
set_option maxRecDepth 10000

theorem not_f {b : Bool} (h : (!b) = false) : b = true := by cases b <;> simp_all
theorem not_t {b : Bool} (h : (!b) = true) : b = false := by cases b <;> simp_all
theorem okops_any (Ap : Option Addr) (nf cp : Nat) (prm : Int) (As : Option Addr) (sl : List (Int × Int)) (cs : Nat) (Ai : Option Addr) (nc ci : Nat) (o : Nat) (a b c im : Int) (w : World) (h : o < 25) (hz : (badK (shp o).1 a || badK (shp o).2.1 b || badK (shp o).2.2.1 c) = false) :
    Calls Tryd.prog 150 #[.agg #[.slice Ap nf cp], .agg #[.int .i64 prm, .slice As sl.length cs, .slice Ai nc ci], .agg #[.int .i64 (o : Int), .int .i64 a, .int .i64 b, .int .i64 c, .int .u64 im]] w fun e w' => e = .returned (.bool (okO nf prm sl.length nc o a b c)) ∧ Below w.heap.size w w' := by
  have ha : (shp o).1 = 0 → a = 0 := fun e => by simp [badK, e] at hz; exact hz.1.1
  have hb : (shp o).2.1 = 0 → b = 0 := fun e => by simp [badK, e] at hz; exact hz.1.2
  have hc : (shp o).2.2.1 = 0 → c = 0 := fun e => by simp [badK, e] at hz; exact hz.2
  clear hz
  have h' : o = 0 ∨ o = 1 ∨ o = 2 ∨ o = 3 ∨ o = 4 ∨ o = 5 ∨ o = 6 ∨ o = 7 ∨ o = 8 ∨ o = 9 ∨ o = 10 ∨ o = 11 ∨ o = 12 ∨ o = 13 ∨ o = 14 ∨ o = 15 ∨ o = 16 ∨ o = 17 ∨ o = 18 ∨ o = 19 ∨ o = 20 ∨ o = 21 ∨ o = 22 ∨ o = 23 ∨ o = 24 := by omega
  rcases h' with rfl | rfl | rfl | rfl | rfl | rfl | rfl | rfl | rfl | rfl | rfl | rfl | rfl | rfl | rfl | rfl | rfl | rfl | rfl | rfl | rfl | rfl | rfl | rfl | rfl
  · obtain rfl := hb rfl; obtain rfl := hc rfl; exact okops_0 Ap nf cp prm As sl cs Ai nc ci _ im w
  · obtain rfl := hc rfl; exact okops_1 Ap nf cp prm As sl cs Ai nc ci _ _ im w
  · exact okops_2 Ap nf cp prm As sl cs Ai nc ci _ _ _ im w
  · exact okops_3 Ap nf cp prm As sl cs Ai nc ci _ _ _ im w
  · exact okops_4 Ap nf cp prm As sl cs Ai nc ci _ _ _ im w
  · exact okops_5 Ap nf cp prm As sl cs Ai nc ci _ _ _ im w
  · exact okops_6 Ap nf cp prm As sl cs Ai nc ci _ _ _ im w
  · exact okops_7 Ap nf cp prm As sl cs Ai nc ci _ _ _ im w
  · exact okops_8 Ap nf cp prm As sl cs Ai nc ci _ _ _ im w
  · exact okops_9 Ap nf cp prm As sl cs Ai nc ci _ _ _ im w
  · exact okops_10 Ap nf cp prm As sl cs Ai nc ci _ _ _ im w
  · exact okops_11 Ap nf cp prm As sl cs Ai nc ci _ _ _ im w
  · obtain rfl := hc rfl; exact okops_12 Ap nf cp prm As sl cs Ai nc ci _ _ im w
  · obtain rfl := hb rfl; obtain rfl := hc rfl; exact okops_13 Ap nf cp prm As sl cs Ai nc ci _ im w
  · obtain rfl := hb rfl; obtain rfl := hc rfl; exact okops_14 Ap nf cp prm As sl cs Ai nc ci _ im w
  · obtain rfl := hc rfl; exact okops_15 Ap nf cp prm As sl cs Ai nc ci _ _ im w
  · obtain rfl := hc rfl; exact okops_16 Ap nf cp prm As sl cs Ai nc ci _ _ im w
  · obtain rfl := hc rfl; exact okops_17 Ap nf cp prm As sl cs Ai nc ci _ _ im w
  · obtain rfl := hc rfl; exact okops_18 Ap nf cp prm As sl cs Ai nc ci _ _ im w
  · obtain rfl := hc rfl; exact okops_19 Ap nf cp prm As sl cs Ai nc ci _ _ im w
  · obtain rfl := hb rfl; obtain rfl := hc rfl; exact okops_20 Ap nf cp prm As sl cs Ai nc ci _ im w
  · obtain rfl := hc rfl; exact okops_21 Ap nf cp prm As sl cs Ai nc ci _ _ im w
  · obtain rfl := hb rfl; obtain rfl := hc rfl; exact okops_22 Ap nf cp prm As sl cs Ai nc ci _ im w
  · obtain rfl := ha rfl; obtain rfl := hb rfl; obtain rfl := hc rfl; exact okops_23 Ap nf cp prm As sl cs Ai nc ci 0 im w
  · obtain rfl := ha rfl; obtain rfl := hb rfl; obtain rfl := hc rfl; exact okops_24 Ap nf cp prm As sl cs Ai nc ci 0 im w
theorem badS_all {sl : List (Int × Int)} (h : ¬ 512 < sl.length) : slotsE sl = if sl.any badS = true then 5 else 0 := by
  unfold slotsE
  rw [if_neg h]
  have e : sl.all (fun s => sizeB s.1 && powB s.2) = !sl.any badS := by
    clear h
    induction sl with
    | nil => rfl
    | cons s r ih => rw [List.all_cons, List.any_cons, ih]; unfold badS; cases sizeB s.1 <;> cases powB s.2 <;> simp
  rw [e]
  rcases sl.any badS with _ | _ <;> rfl
set_option maxHeartbeats 1000000 in
theorem refslots_any (As : Option Addr) (sl : List (Int × Int)) (cs : Nat) (w : World) (lo hi : Nat) (hs : Sx w lo hi As sl) (hcs : sl.length ≤ maxLen) (hr : ∀ s ∈ sl, I64 s.1 ∧ I64 s.2) :
    Calls Tryd.prog 109 #[.slice As sl.length cs] w fun e w' => e = .returned (.int .i64 (slotsE sl)) ∧ w = w' := by
  have HS := Lib.hid hs
  have HR := Lib.hid hr
  have hni : (sl.length : Int) ≤ 9223372036854775807 := by unfold maxLen at hcs; omega
  clear hs hr
  by_cases h5 : 512 < sl.length
  · have HE : Hid (slotsE sl = 3) := Lib.hid (by unfold slotsE; rw [if_pos h5])
    have h5i : (512 : Int) < (sl.length : Int) := by omega
    clear h5
    go_enter Tryd.func109, Tryd.ntmps109
    go_wp2
    go_ret
    exact ⟨ret_int (by rw [HE.out]), rfl⟩
  · have HE := Lib.hid (badS_all h5)
    have h5i : (sl.length : Int) ≤ 512 := by omega
    clear h5
    go_enter Tryd.func109, Tryd.ntmps109
    go_wp2
    go_loop [3] (fun v => ∃ k : Nat, k ≤ sl.length ∧ v = .int .i64 k ∧ Hid (∀ j, j < k → badS (sl.getD j (0, 0)) = false)) (fun v => sl.length - (intOf v).toNat)
    case atStart => exact ⟨0, by omega, rfl, Lib.hid (fun j hj => by omega)⟩
    case round =>
      obtain ⟨k, hk, rfl, HN⟩ := hrel
      have hk0 : (0 : Int) ≤ (k : Int) := by omega
      by_cases hlt : k < sl.length
      · have hki : (k : Int) < (sl.length : Int) := by omega
        obtain ⟨ad, rfl, hbl, c0, c1⟩ := HS.out.at_ hlt
        have c1w := c1
        rw [add_pos _ 1 (by omega)] at c1w
        have HI : Hid (I64 (sl.getD k (0, 0)).1 ∧ I64 (sl.getD k (0, 0)).2) := Lib.hid (HR.out _ (mem_getD hlt))
        obtain ⟨s, hs⟩ : ∃ s, s = sl.getD k (0, 0) := ⟨_, rfl⟩
        rw [← hs] at c0 c1 c1w HI
        have HSS := Lib.hid hs
        clear hs
        have HBAD : Hid (badS s = true → slotsE sl = 5) := Lib.hid (fun h => by rw [HE.out, if_pos (List.any_eq_true.2 ⟨s, by rw [HSS.out]; exact mem_getD hlt, h⟩)])
        go_wp2_with fail
        refine (refsize_any _ HI.out.1.1 HI.out.1.2 _).mono ?_
        rintro e w1 ⟨rfl, rfl⟩
        rcases hz : sizeB s.1 with _ | _
        · have HE5 : Hid (slotsE sl = 5) := Lib.hid (HBAD.out (by unfold badS; rw [hz]; rfl))
          clear hz HN
          go_wp2
          go_ret
          exact ⟨ret_int (by rw [HE5.out]), rfl⟩
        · go_wp2_with fail
          refine (refpower_any _ HI.out.2.1 HI.out.2.2 _).mono ?_
          rintro e w1 ⟨rfl, rfl⟩
          rcases hp : powB s.2 with _ | _
          · have HE5 : Hid (slotsE sl = 5) := Lib.hid (HBAD.out (by unfold badS; rw [hz, hp]; rfl))
            clear hz hp HN
            go_wp2
            go_ret
            exact ⟨ret_int (by rw [HE5.out]), rfl⟩
          · have HN' : Hid (∀ j, j < k + 1 → badS (sl.getD j (0, 0)) = false) := Lib.hid (fun j hj => by
              rcases Nat.lt_or_ge j k with h | h
              · exact HN.out j h
              · obtain rfl : j = k := by omega
                rw [← HSS.out]; unfold badS; rw [hz, hp]; rfl)
            clear hz hp HN
            go_wp2
            go_round
            case rel => exact ⟨k + 1, by omega, by go_num, HN'⟩
            case measure => simp [intOf]; omega
      · have HA : Hid (slotsE sl = 0) := Lib.hid (by
          rw [HE.out, if_neg]
          rw [List.any_eq_true]
          rintro ⟨s, hs, hb⟩
          obtain ⟨j, hj, rfl⟩ := List.mem_iff_getElem.1 hs
          have := HN.out j (by omega)
          rw [List.getD_eq_getElem?_getD, List.getElem?_eq_getElem hj, Option.getD_some, hb] at this
          cases this)
        clear HN
        go_wp2
        go_ret
        exact ⟨ret_int (by rw [HA.out]), rfl⟩
set_option maxHeartbeats 8000000 in
theorem refcheckinstr_any (Ap : Option Addr) (p : List Fn) (cp i k : Nat) (w : World) (lo hi : Nat) (hf : Fx w lo hi Ap p) (hh : hi ≤ w.heap.size) (hm : p.length ≤ maxLen) (hi' : i < p.length) (hk' : k < (p.getD i Fn.z).code.length) :
    Calls Tryd.prog 126 #[.agg #[.slice Ap p.length cp], .int .i64 (i : Int), .int .i64 (k : Int)] w fun e w' =>
      e = .returned (.int .i64 (instrE p.length (p.getD i Fn.z).params (p.getD i Fn.z).slots (p.getD i Fn.z).code.length ((p.getD i Fn.z).code.getD k Ins.z))) ∧ Below w.heap.size w w' := by
  obtain ⟨W1, hW1⟩ : ∃ W1, W1 = w.alloc (.cells #[.slice Ap p.length cp] 44) := ⟨_, rfl⟩
  have hB1 : Below w.heap.size w W1 := by rw [hW1]; exact (Below.refl _ _).alloc (Nat.le_refl _) _
  have HKP : Hid (Blk W1 w.heap.size 44 #[.slice Ap p.length cp]) := Lib.hid (by rw [hW1]; exact Blk.new _ _ _)
  obtain ⟨ad, As, cs, Ai, ci, rfl, hbl, c0, c1, c2, -, c4, sx, nx, ⟨hs1, hs2⟩, hn1, hn2⟩ := (hf.keep (Kp.of_below hB1 hh)).whole hi'
  have HB1 := Lib.hid hB1
  have HW1 := Lib.hid hW1
  have hz1 : w.heap.size < W1.heap.size := HKP.out.lt
  obtain ⟨nf, hnf⟩ : ∃ nf, nf = p.length := ⟨_, rfl⟩
  rw [← hnf] at HKP hi' hm HW1 ⊢
  obtain ⟨f, hff⟩ : ∃ f, f = p.getD i Fn.z := ⟨_, rfl⟩
  rw [← hff] at c0 c1 c2 c4 sx nx hs1 hs2 hn1 hn2 hk' ⊢
  have hh1 : hi ≤ W1.heap.size := by omega
  have HS1 := Lib.hid sx
  have HN1 := Lib.hid nx
  obtain ⟨⟨op, a, b, c, im⟩, hx⟩ : ∃ x, x = f.code.getD k Ins.z := ⟨_, rfl⟩
  rw [← hx]
  have HX := Lib.hid hx
  clear hf hW1 hB1 hff hnf sx nx hx
  have hii : (i : Int) < (nf : Int) := by omega
  have hi0 : (0 : Int) ≤ (i : Int) := by omega
  have hkk : (k : Int) < (f.code.length : Int) := by omega
  have hk0 : (0 : Int) ≤ (k : Int) := by omega
  have HBI : Hid (inB (i : Int) (nf : Int) = true) := Lib.hid (inB_t.2 ⟨hi0, hii⟩)
  have HBK : Hid (inB (k : Int) (f.code.length : Int) = true) := Lib.hid (inB_t.2 ⟨hk0, hkk⟩)
  have hni : (f.code.length : Int) ≤ 9223372036854775807 := by unfold maxLen at hn1; omega
  have hmi : (nf : Int) ≤ 9223372036854775807 := by unfold maxLen at hm; omega
  have hsi : (f.slots.length : Int) ≤ 9223372036854775807 := by unfold maxLen at hs1; omega
  obtain ⟨q0, -, -⟩ := blk_one HKP.out
  go_enter Tryd.func126, Tryd.ntmps126
  go_upto_region 1 with (fail)
  rw [← HW1.out]
  go_wp2_with fail
  refine (refwithin_any _ _ _).mono ?_
  rintro e w' ⟨rfl, rfl⟩
  rw [HBI.out]
  go_wp2_with fail
  refine (refwithin_any _ _ _).mono ?_
  rintro e w' ⟨rfl, rfl⟩
  rw [HBK.out]
  go_upto_region 4 with (fail)
  obtain ⟨W2, hW2⟩ : ∃ W2, W2 = W1.alloc (.cells #[.int .i64 f.params, .slice As f.slots.length cs, .slice Ai f.code.length ci] 97) := ⟨_, rfl⟩
  rw [← hW2]
  have HB2 : Hid (Below W1.heap.size W1 W2) := Lib.hid (by rw [hW2]; exact (Below.refl _ _).alloc (Nat.le_refl _) _)
  have HKF : Hid (Blk W2 W1.heap.size 97 #[.int .i64 f.params, .slice As f.slots.length cs, .slice Ai f.code.length ci]) := Lib.hid (by rw [hW2]; exact Blk.new _ _ _)
  have HKP2 := Lib.hid (HKP.out.after HB2.out)
  obtain ⟨g7, hg7⟩ : ∃ g, g = W1.heap.size := ⟨_, rfl⟩
  rw [← hg7] at HKF ⊢
  have HG7 := Lib.hid hg7
  obtain ⟨ad2, rfl, hbl2, i0, i1, i2, i3, i4⟩ := (HN1.out.keep (Kp.of_below HB2.out hh1)).whole hk'
  rw [← HX.out] at i0 i1 i2 i3 i4
  simp only at i0 i1 i2 i3 i4
  have hh2 : hi ≤ W2.heap.size := by have := HB2.out.size; omega
  clear hW2 hg7 c0 c1 c2 c4 q0 HKP
  obtain ⟨f0, f1, f2, -, -, -, fz⟩ := HKF.out.c3
  go_upto_region 5 with (fail)
  obtain ⟨W3, hW3⟩ : ∃ W3, W3 = W2.alloc (.cells #[.int .i64 op, .int .i64 a, .int .i64 b, .int .i64 c, .int .u64 im] 58) := ⟨_, rfl⟩
  rw [← hW3]
  have HB3 : Hid (Below W2.heap.size W2 W3) := Lib.hid (by rw [hW3]; exact (Below.refl _ _).alloc (Nat.le_refl _) _)
  have HKX : Hid (Blk W3 W2.heap.size 58 #[.int .i64 op, .int .i64 a, .int .i64 b, .int .i64 c, .int .u64 im]) := Lib.hid (by rw [hW3]; exact Blk.new _ _ _)
  have HKF3 := Lib.hid (HKF.out.after HB3.out)
  have HKP3 := Lib.hid (HKP2.out.after HB3.out)
  have HBN : Hid (Below w.heap.size w W3) := Lib.hid (HB1.out.trans ((HB2.out.trans (HB3.out.mono HB2.out.size)).mono HB1.out.size))
  have HS3 : Hid (Sx W3 lo hi As f.slots) := Lib.hid ((HS1.out.keep (Kp.of_below HB2.out hh1)).keep (Kp.of_below HB3.out hh2))
  have hh3 : hi ≤ W3.heap.size := by have := HB3.out.size; omega
  obtain ⟨g8, hg8⟩ : ∃ g, g = W2.heap.size := ⟨_, rfl⟩
  rw [← hg8] at HKX ⊢
  have HG8 := Lib.hid hg8
  clear hW3 hg8 f0 f1 f2 fz i0 i1 i2 i3 i4 HKF HKP2 HB2 HB3 HB1 HW1 HN1 HS1
  obtain ⟨x0, x1, x2, x3, x4, -, -, -, -, -, xz⟩ := HKX.out.c5
  go_wp2_with fail
  refine (refwithin_any _ _ _).mono ?_
  rintro e w' ⟨rfl, rfl⟩
  rcases ho : inB op 25 with _ | _
  · have HE : Hid (instrE nf f.params f.slots f.code.length ⟨op, a, b, c, im⟩ = 4) := Lib.hid (by unfold instrE; rw [if_pos ho])
    clear ho
    go_wp2
    go_ret
    exact ⟨ret_int (by rw [HE.out]), HBN.out⟩
  · have hop := inB_t.1 ho
    obtain ⟨o, rfl⟩ := Int.eq_ofNat_of_zero_le hop.1
    have HO := Lib.hid ho
    have ho25 : o < 25 := by omega
    clear ho hop
    go_wp2_with fail
    refine (operands_any o ho25 _).mono ?_
    rintro e w' ⟨rfl, rfl⟩
    obtain ⟨ua, hua⟩ : ∃ u, u = useA o := ⟨_, rfl⟩
    obtain ⟨ub, hub⟩ : ∃ u, u = useB o := ⟨_, rfl⟩
    obtain ⟨uc, huc⟩ : ∃ u, u = useC o := ⟨_, rfl⟩
    obtain ⟨ui, hui⟩ : ∃ u, u = useI o := ⟨_, rfl⟩
    rw [← hua, ← hub, ← huc, ← hui]
    have HU := Lib.hid (And.intro hua (And.intro hub (And.intro huc hui)))
    clear hua hub huc hui
    go_upto_region 8 with (fail)
    obtain ⟨bb, hbb⟩ : ∃ bb, bb = ((!ua && a != 0) || (!ub && b != 0) || (!uc && c != 0) || (!ui && im != 0)) := ⟨_, rfl⟩
    go_cut [86] (fun s wx => s = .bool bb ∧ W3 = wx)
    case first =>
      cases ua
      · by_cases hv0 : a = 0
        · have e0 : (a != 0) = false := by simp [hv0]
          clear hv0
          cases ub
          · by_cases hv1 : b = 0
            · have e1 : (b != 0) = false := by simp [hv1]
              clear hv1
              cases uc
              · by_cases hv2 : c = 0
                · have e2 : (c != 0) = false := by simp [hv2]
                  clear hv2
                  cases ui
                  · by_cases hv3 : im = 0
                    · have e3 : (im != 0) = false := by simp [hv3]
                      clear hv3
                      go_wp2
                      go_meet
                      exact ⟨by rw [hbb]; simp [e0, e1, e2, e3], rfl⟩
                    · have e3 : (im != 0) = true := by simp [hv3]
                      clear hv3
                      go_wp2
                      go_meet
                      exact ⟨by rw [hbb]; simp [e0, e1, e2, e3], rfl⟩
                  · go_wp2
                    go_meet
                    exact ⟨by rw [hbb]; simp [e0, e1, e2], rfl⟩
                · have e2 : (c != 0) = true := by simp [hv2]
                  clear hv2
                  go_wp2
                  go_meet
                  exact ⟨by rw [hbb]; simp [e0, e1, e2], rfl⟩
              · cases ui
                · by_cases hv3 : im = 0
                  · have e3 : (im != 0) = false := by simp [hv3]
                    clear hv3
                    go_wp2
                    go_meet
                    exact ⟨by rw [hbb]; simp [e0, e1, e3], rfl⟩
                  · have e3 : (im != 0) = true := by simp [hv3]
                    clear hv3
                    go_wp2
                    go_meet
                    exact ⟨by rw [hbb]; simp [e0, e1, e3], rfl⟩
                · go_wp2
                  go_meet
                  exact ⟨by rw [hbb]; simp [e0, e1], rfl⟩
            · have e1 : (b != 0) = true := by simp [hv1]
              clear hv1
              go_wp2
              go_meet
              exact ⟨by rw [hbb]; simp [e0, e1], rfl⟩
          · cases uc
            · by_cases hv2 : c = 0
              · have e2 : (c != 0) = false := by simp [hv2]
                clear hv2
                cases ui
                · by_cases hv3 : im = 0
                  · have e3 : (im != 0) = false := by simp [hv3]
                    clear hv3
                    go_wp2
                    go_meet
                    exact ⟨by rw [hbb]; simp [e0, e2, e3], rfl⟩
                  · have e3 : (im != 0) = true := by simp [hv3]
                    clear hv3
                    go_wp2
                    go_meet
                    exact ⟨by rw [hbb]; simp [e0, e2, e3], rfl⟩
                · go_wp2
                  go_meet
                  exact ⟨by rw [hbb]; simp [e0, e2], rfl⟩
              · have e2 : (c != 0) = true := by simp [hv2]
                clear hv2
                go_wp2
                go_meet
                exact ⟨by rw [hbb]; simp [e0, e2], rfl⟩
            · cases ui
              · by_cases hv3 : im = 0
                · have e3 : (im != 0) = false := by simp [hv3]
                  clear hv3
                  go_wp2
                  go_meet
                  exact ⟨by rw [hbb]; simp [e0, e3], rfl⟩
                · have e3 : (im != 0) = true := by simp [hv3]
                  clear hv3
                  go_wp2
                  go_meet
                  exact ⟨by rw [hbb]; simp [e0, e3], rfl⟩
              · go_wp2
                go_meet
                exact ⟨by rw [hbb]; simp [e0], rfl⟩
        · have e0 : (a != 0) = true := by simp [hv0]
          clear hv0
          go_wp2
          go_meet
          exact ⟨by rw [hbb]; simp [e0], rfl⟩
      · cases ub
        · by_cases hv1 : b = 0
          · have e1 : (b != 0) = false := by simp [hv1]
            clear hv1
            cases uc
            · by_cases hv2 : c = 0
              · have e2 : (c != 0) = false := by simp [hv2]
                clear hv2
                cases ui
                · by_cases hv3 : im = 0
                  · have e3 : (im != 0) = false := by simp [hv3]
                    clear hv3
                    go_wp2
                    go_meet
                    exact ⟨by rw [hbb]; simp [e1, e2, e3], rfl⟩
                  · have e3 : (im != 0) = true := by simp [hv3]
                    clear hv3
                    go_wp2
                    go_meet
                    exact ⟨by rw [hbb]; simp [e1, e2, e3], rfl⟩
                · go_wp2
                  go_meet
                  exact ⟨by rw [hbb]; simp [e1, e2], rfl⟩
              · have e2 : (c != 0) = true := by simp [hv2]
                clear hv2
                go_wp2
                go_meet
                exact ⟨by rw [hbb]; simp [e1, e2], rfl⟩
            · cases ui
              · by_cases hv3 : im = 0
                · have e3 : (im != 0) = false := by simp [hv3]
                  clear hv3
                  go_wp2
                  go_meet
                  exact ⟨by rw [hbb]; simp [e1, e3], rfl⟩
                · have e3 : (im != 0) = true := by simp [hv3]
                  clear hv3
                  go_wp2
                  go_meet
                  exact ⟨by rw [hbb]; simp [e1, e3], rfl⟩
              · go_wp2
                go_meet
                exact ⟨by rw [hbb]; simp [e1], rfl⟩
          · have e1 : (b != 0) = true := by simp [hv1]
            clear hv1
            go_wp2
            go_meet
            exact ⟨by rw [hbb]; simp [e1], rfl⟩
        · cases uc
          · by_cases hv2 : c = 0
            · have e2 : (c != 0) = false := by simp [hv2]
              clear hv2
              cases ui
              · by_cases hv3 : im = 0
                · have e3 : (im != 0) = false := by simp [hv3]
                  clear hv3
                  go_wp2
                  go_meet
                  exact ⟨by rw [hbb]; simp [e2, e3], rfl⟩
                · have e3 : (im != 0) = true := by simp [hv3]
                  clear hv3
                  go_wp2
                  go_meet
                  exact ⟨by rw [hbb]; simp [e2, e3], rfl⟩
              · go_wp2
                go_meet
                exact ⟨by rw [hbb]; simp [e2], rfl⟩
            · have e2 : (c != 0) = true := by simp [hv2]
              clear hv2
              go_wp2
              go_meet
              exact ⟨by rw [hbb]; simp [e2], rfl⟩
          · cases ui
            · by_cases hv3 : im = 0
              · have e3 : (im != 0) = false := by simp [hv3]
                clear hv3
                go_wp2
                go_meet
                exact ⟨by rw [hbb]; simp [e3], rfl⟩
              · have e3 : (im != 0) = true := by simp [hv3]
                clear hv3
                go_wp2
                go_meet
                exact ⟨by rw [hbb]; simp [e3], rfl⟩
            · go_wp2
              go_meet
              exact ⟨by rw [hbb]; rfl, rfl⟩
    case rest =>
      obtain ⟨rfl, rfl⟩ := hcut
      have HBBB := Lib.hid hbb
      clear hbb
      cases bb
      · have HBAD : Hid ((badK (shp o).1 a || badK (shp o).2.1 b || badK (shp o).2.2.1 c) = false ∧ (!(shp o).2.2.2 && im != 0) = false) := Lib.hid (by
          have h := HBBB.out
          obtain ⟨u1, u2, u3, u4⟩ := HU.out
          rw [u1, u2, u3, u4] at h
          have e1 : (!useA o && a != 0) = badK (shp o).1 a := by unfold useA badK; cases hq : ((shp o).1 == 0) <;> simp_all
          have e2 : (!useB o && b != 0) = badK (shp o).2.1 b := by unfold useB badK; cases hq : ((shp o).2.1 == 0) <;> simp_all
          have e3 : (!useC o && c != 0) = badK (shp o).2.2.1 c := by unfold useC badK; cases hq : ((shp o).2.2.1 == 0) <;> simp_all
          rw [e1, e2, e3] at h
          exact (Bool.or_eq_false_iff.1 h.symm))
        clear HBBB
        obtain ⟨f0, f1, f2, -, -, -, fz⟩ := HKF3.out.c3
        obtain ⟨q0, -, qz⟩ := blk_one HKP3.out
        go_wp2_with fail
        refine (okops_any _ nf cp f.params As f.slots cs _ f.code.length ci o a b c im _ ho25 HBAD.out.1).mono ?_
        rintro e W4 ⟨rfl, bel4⟩
        have HB4 := Lib.hid bel4
        have HKX4 := Lib.hid (HKX.out.after bel4)
        have HKF4 := Lib.hid (HKF3.out.after bel4)
        have HBN4 : Hid (Below w.heap.size w W4) := Lib.hid (HBN.out.trans (bel4.mono HBN.out.size))
        have HS4 : Hid (Sx W4 lo hi As f.slots) := Lib.hid (HS3.out.keep (Kp.of_below bel4 hh3))
        clear bel4 f0 f1 f2 fz q0 qz x0 x1 x2 x3 x4 xz
        obtain ⟨x0, x1, x2, x3, x4, -, -, -, -, -, xz⟩ := HKX4.out.c5
        obtain ⟨f0, f1, f2, -, -, -, fz⟩ := HKF4.out.c3
        rcases hok : okO nf f.params f.slots.length f.code.length o a b c with _ | _
        · have HE : Hid (instrE nf f.params f.slots f.code.length ⟨(o : Int), a, b, c, im⟩ = 4) := Lib.hid (instrE_out HO.out HBAD.out.1 HBAD.out.2 (not_f hok))
          clear hok
          go_wp2
          go_ret
          exact ⟨ret_int (by rw [HE.out]), HBN4.out⟩
        · have HOK : Hid ((outK nf f.params f.slots.length f.code.length (shp o).1 a || outK nf f.params f.slots.length f.code.length (shp o).2.1 b || outK nf f.params f.slots.length f.code.length (shp o).2.2.1 c) = false) := Lib.hid (not_t hok)
          have HEND := Lib.hid (instrE_end HO.out HBAD.out.1 HBAD.out.2 HOK.out)
          clear hok
          go_upto_region 12 with (fail)
          go_cut [111] (fun s wx => s = .bool ((o : Int) == 17 && (f.slots.getD a.toNat (0, 0)).1 != (f.slots.getD b.toNat (0, 0)).1) ∧ ∃ q, wx = W4.drewN q)
          case first =>
            by_cases h17 : o = 17
            · obtain ⟨hl1, hl2⟩ : inB a (f.slots.length : Int) = true ∧ inB b (f.slots.length : Int) = true := by
                have h := HOK.out
                rw [h17] at h
                simp [outK, lim, lims, shp, shps] at h
                exact h.1
              have i1 := inB_t.1 hl1
              have i2 := inB_t.1 hl2
              obtain ⟨an, rfl⟩ := Int.eq_ofNat_of_zero_le i1.1
              obtain ⟨bn, rfl⟩ := Int.eq_ofNat_of_zero_le i2.1
              have han : an < f.slots.length := by omega
              have hbn : bn < f.slots.length := by omega
              obtain ⟨ad3, rfl, hbl3, c1', -⟩ := HS4.out.at_ han
              obtain ⟨ad3', e', -, c2', -⟩ := HS4.out.at_ hbn
              obtain rfl : ad3 = ad3' := by injection e'
              have b17 : ((o : Int) == 17) = true := by simp [h17]
              have hv : ((o : Int) == 17 && (f.slots.getD ((an : Int)).toNat (0, 0)).1 != (f.slots.getD ((bn : Int)).toNat (0, 0)).1) = ((f.slots.getD an (0, 0)).1 != (f.slots.getD bn (0, 0)).1) := by rw [b17, Int.toNat_natCast, Int.toNat_natCast, Bool.true_and]
              have HV := Lib.hid hv
              clear hv
              generalize (f.slots.getD an (0, 0)).1 = sx at c1' HV
              generalize (f.slots.getD bn (0, 0)).1 = sy at c2' HV
              have hai : (an : Int) < (f.slots.length : Int) := i1.2
              have hbi : (bn : Int) < (f.slots.length : Int) := i2.2
              have ha0 : (0 : Int) ≤ (an : Int) := by omega
              have hb0 : (0 : Int) ≤ (bn : Int) := by omega
              clear hl1 hl2 i1 i2 e' h17 HEND HOK HBAD
              go_wp2_with fail
              go_quiet (fail)
              go_wp2
              go_meet
              exact ⟨by rw [HV.out], nq, rfl⟩
            · have b17 : ((o : Int) == 17) = false := by simp; omega
              have HV : Hid (((o : Int) == 17 && (f.slots.getD a.toNat (0, 0)).1 != (f.slots.getD b.toNat (0, 0)).1) = false) := Lib.hid (by rw [b17, Bool.false_and])
              clear h17
              go_wp2_with fail
              go_quiet (fail)
              go_wp2
              go_meet
              exact ⟨by rw [HV.out], nq, rfl⟩
          case rest =>
            obtain ⟨rfl, q, hq⟩ := hcut
            subst hq
            have HBNq : Hid (Below w.heap.size w (W4.drewN q)) := Lib.hid (below_drewN HBN4.out q)
            rcases hmv : ((o : Int) == 17 && (f.slots.getD a.toNat (0, 0)).1 != (f.slots.getD b.toNat (0, 0)).1) with _ | _
            · have HE0 : Hid (instrE nf f.params f.slots f.code.length ⟨(o : Int), a, b, c, im⟩ = if (tgtK nf f.params f.slots.length f.code.length (shp o).1 a || tgtK nf f.params f.slots.length f.code.length (shp o).2.1 b || tgtK nf f.params f.slots.length f.code.length (shp o).2.2.1 c) = true then 6 else 0) := Lib.hid (by rw [HEND.out, hmv]; simp)
              clear hmv HEND
              by_cases h20 : o = 20
              · have HT : Hid ((tgtK nf f.params f.slots.length f.code.length (shp o).1 a || tgtK nf f.params f.slots.length f.code.length (shp o).2.1 b || tgtK nf f.params f.slots.length f.code.length (shp o).2.2.1 c) = !inB a (f.code.length : Int)) := Lib.hid (by rw [h20]; simp [tgtK, lim, lims, shp, shps])
                have b20 : ((o : Int) == 20) = true := by simp [h20]
                have bn : ((o : Int) == 21) = false := by rw [h20]; rfl
                clear h20
                go_wp2_with fail
                refine (refwithin_any _ _ _).mono ?_
                rintro e w' ⟨rfl, rfl⟩
                rcases hv : inB a (f.code.length : Int) with _ | _
                · have HE : Hid (instrE nf f.params f.slots f.code.length ⟨(o : Int), a, b, c, im⟩ = 6) := Lib.hid (by rw [HE0.out, HT.out, hv]; rfl)
                  clear hv
                  go_wp2
                  go_ret
                  exact ⟨ret_int (by rw [HE.out]), HBNq.out⟩
                · have HE : Hid (instrE nf f.params f.slots f.code.length ⟨(o : Int), a, b, c, im⟩ = 0) := Lib.hid (by rw [HE0.out, HT.out, hv]; rfl)
                  clear hv
                  go_wp2
                  go_ret
                  exact ⟨ret_int (by rw [HE.out]), HBNq.out⟩
              · by_cases h21 : o = 21
                · have HT : Hid ((tgtK nf f.params f.slots.length f.code.length (shp o).1 a || tgtK nf f.params f.slots.length f.code.length (shp o).2.1 b || tgtK nf f.params f.slots.length f.code.length (shp o).2.2.1 c) = !inB b (f.code.length : Int)) := Lib.hid (by rw [h21]; simp [tgtK, lim, lims, shp, shps])
                  have b21 : ((o : Int) == 21) = true := by simp [h21]
                  have bn : ((o : Int) == 20) = false := by rw [h21]; rfl
                  clear h21
                  go_wp2_with fail
                  refine (refwithin_any _ _ _).mono ?_
                  rintro e w' ⟨rfl, rfl⟩
                  rcases hv : inB b (f.code.length : Int) with _ | _
                  · have HE : Hid (instrE nf f.params f.slots f.code.length ⟨(o : Int), a, b, c, im⟩ = 6) := Lib.hid (by rw [HE0.out, HT.out, hv]; rfl)
                    clear hv
                    go_wp2
                    go_ret
                    exact ⟨ret_int (by rw [HE.out]), HBNq.out⟩
                  · have HE : Hid (instrE nf f.params f.slots f.code.length ⟨(o : Int), a, b, c, im⟩ = 0) := Lib.hid (by rw [HE0.out, HT.out, hv]; rfl)
                    clear hv
                    go_wp2
                    go_ret
                    exact ⟨ret_int (by rw [HE.out]), HBNq.out⟩
                · have HE : Hid (instrE nf f.params f.slots f.code.length ⟨(o : Int), a, b, c, im⟩ = 0) := Lib.hid (by
                    rw [HE0.out, if_neg]
                    have hk : (shp o).1 ≠ 6 ∧ (shp o).2.1 ≠ 6 ∧ (shp o).2.2.1 ≠ 6 := by
                      have h' : ∀ m, m < 25 → m ≠ 20 → m ≠ 21 → (shp m).1 ≠ 6 ∧ (shp m).2.1 ≠ 6 ∧ (shp m).2.2.1 ≠ 6 := by decide
                      exact h' o ho25 h20 h21
                    simp [tgtK, hk.1, hk.2.1, hk.2.2])
                  have b20 : ((o : Int) == 20) = false := by simp; omega
                  have b21 : ((o : Int) == 21) = false := by simp; omega
                  clear h20 h21
                  go_wp2
                  go_ret
                  exact ⟨ret_int (by rw [HE.out]), HBNq.out⟩
            · have HE : Hid (instrE nf f.params f.slots f.code.length ⟨(o : Int), a, b, c, im⟩ = 5) := Lib.hid (by rw [HEND.out, hmv]; simp)
              clear hmv HEND
              go_wp2
              go_ret
              exact ⟨ret_int (by rw [HE.out]), HBNq.out⟩
      · have HE : Hid (instrE nf f.params f.slots f.code.length ⟨(o : Int), a, b, c, im⟩ = 2) := Lib.hid (by
          have h := HBBB.out
          obtain ⟨u1, u2, u3, u4⟩ := HU.out
          by_cases h1 : (badK (shp o).1 a || badK (shp o).2.1 b || badK (shp o).2.2.1 c) = true
          · exact instrE_bad HO.out h1
          · have h1' : (badK (shp o).1 a || badK (shp o).2.1 b || badK (shp o).2.2.1 c) = false := by simpa using h1
            refine instrE_imm HO.out h1' ?_
            rw [u1, u2, u3, u4] at h
            have e1 : (!useA o && a != 0) = badK (shp o).1 a := by unfold useA badK; cases hq : ((shp o).1 == 0) <;> simp_all
            have e2 : (!useB o && b != 0) = badK (shp o).2.1 b := by unfold useB badK; cases hq : ((shp o).2.1 == 0) <;> simp_all
            have e3 : (!useC o && c != 0) = badK (shp o).2.2.1 c := by unfold useC badK; cases hq : ((shp o).2.2.1 == 0) <;> simp_all
            rw [e1, e2, e3, h1', Bool.false_or] at h
            exact h.symm)
        clear HBBB
        go_wp2
        go_ret
        exact ⟨ret_int (by rw [HE.out]), HBN.out⟩
end Go.Proofs.YtinfeglhjmnlaaaDoor.pm
