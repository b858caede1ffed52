/- The leaves of chapter 10's reference: memory, within, Reads, Writes, Operands, named, shape. -/
import Derived.Test.YtinfeglhjmnlaaaDoorGKc
import Derived.Test.YtinfeglhjmnlaaaDoorGRc
import Derived.Test.YtinfeglhjmnlaaaDoorGKe
import Derived.BigQuiet
import Derived.Deep.QuietTactic
namespace Go.Proofs.YtinfeglhjmnlaaaDoor.pm
open Go.RowKit
set_option linter.unusedVariables false
set_option maxRecDepth 10000

theorem refwithin10_any (n l : Int) (w : World) :
    Calls Tryd.prog 105 #[.int .i64 n, .int .i64 l] w fun e w' => e = .returned (.bool (inB n l)) ∧ w = w' := by
  rcases hb : inB n l with _ | _
  · have h := inB_f.1 hb
    clear hb
    by_cases h0 : 0 ≤ n
    · have h1 : l ≤ n := by omega
      clear h
      go_enter Tryd.func105, Tryd.ntmps105
      go_wp2
      go_ret
      exact ⟨ret_bool (by simp; omega), rfl⟩
    · clear h
      go_enter Tryd.func105, Tryd.ntmps105
      go_wp2
      go_ret
      exact ⟨rfl, rfl⟩
  · obtain ⟨h0, h1⟩ := inB_t.1 hb
    clear hb
    go_enter Tryd.func105, Tryd.ntmps105
    go_wp2
    go_ret
    exact ⟨rfl, rfl⟩
theorem refmem10_any (op : Int) (w : World) :
    Calls Tryd.prog 73 #[.int .i64 op] w fun e w' => e = .returned (.bool (memB op)) ∧ w = w' := by
  by_cases h1 : op = 15
  · subst h1
    go_enter Tryd.func73, Tryd.ntmps73
    go_wp2
    go_ret
    exact ⟨rfl, rfl⟩
  · by_cases h2 : op = 16
    · subst h2
      go_enter Tryd.func73, Tryd.ntmps73
      go_wp2
      go_ret
      exact ⟨rfl, rfl⟩
    · have b1 : (op == 15) = false := by simpa using h1
      have b2 : (op == 16) = false := by simpa using h2
      have HT : Hid (memB op = (op == 17)) := Lib.hid (by unfold memB; rw [b1, b2]; simp)
      clear h1 h2
      go_enter Tryd.func73, Tryd.ntmps73
      go_wp2
      go_ret
      exact ⟨ret_bool (by rw [HT.out]), rfl⟩
theorem refreads10_any (fp fs fc : Value) (x : Ins) (w : World) :
    Calls Tryd.prog 134 #[.agg #[fp, fs, fc], insV x] w fun e w' => e = retP (rdP x) ∧ Below w.heap.size w w' := by
  obtain ⟨op, a, b, c, im⟩ := x
  have R : Hid (rdP ⟨op, a, b, c, im⟩ = if op = 15 ∨ op = 17 then (b, c, true) else (0, 0, false)) := Lib.hid rfl
  unfold insV
  go_enter Tryd.func134, Tryd.ntmps134
  go_wp2
  all_goals go_returns
  all_goals (refine ⟨?_, by go_grown⟩; rw [R.out]; simp_all [retP])
theorem refwrites10_any (fp fs fc : Value) (x : Ins) (w : World) :
    Calls Tryd.prog 135 #[.agg #[fp, fs, fc], insV x] w fun e w' => e = retP (wrP x) ∧ Below w.heap.size w w' := by
  obtain ⟨op, a, b, c, im⟩ := x
  have R : Hid (wrP ⟨op, a, b, c, im⟩ = if op = 16 ∨ op = 17 then (a, c, true) else (0, 0, false)) := Lib.hid rfl
  unfold insV
  go_enter Tryd.func135, Tryd.ntmps135
  go_wp2
  all_goals go_returns
  all_goals (refine ⟨?_, by go_grown⟩; rw [R.out]; simp_all [retP])
/-- which operands an operation of the target uses -/
def useT (op : Int) : Bool × Bool × Bool × Bool := (decide (1 ≤ opN op), decide (2 ≤ opN op), decide (3 ≤ opN op), op == 0 || op == 24)
theorem refoperands10_any (o : Nat) (h : o < 25) (h8 : o ≠ 18) (h9 : o ≠ 19) (w : World) :
    Calls Tryd.prog 38 #[.int .i64 (o : Int)] w fun e w' => e = .returned (.tuple #[.bool (useT o).1, .bool (useT o).2.1, .bool (useT o).2.2.1, .bool (useT o).2.2.2]) ∧ w = w' := by
  have HM := Lib.hid (fun W => refmem10_any (o : Int) W)
  rcases hb : memB (o : Int) with _ | _
  · have HO := Lib.hid (fun W => operands_any o h W)
    have HE : Hid (useA o = (useT o).1 ∧ useB o = (useT o).2.1 ∧ useC o = (useT o).2.2.1 ∧ useI o = (useT o).2.2.2) := Lib.hid (by
      have h' : o = 0 ∨ o = 1 ∨ o = 2 ∨ o = 3 ∨ o = 4 ∨ o = 5 ∨ o = 6 ∨ o = 7 ∨ o = 8 ∨ o = 9 ∨ o = 10 ∨ o = 11 ∨ o = 12 ∨ o = 13 ∨ o = 14 ∨ o = 15 ∨ o = 16 ∨ o = 17 ∨ o = 20 ∨ o = 21 ∨ o = 22 ∨ o = 23 ∨ o = 24 := by omega
      rcases h' with rfl | rfl | rfl | rfl | rfl | rfl | rfl | rfl | rfl | rfl | rfl | rfl | rfl | rfl | rfl | rfl | rfl | rfl | rfl | rfl | rfl | rfl | rfl <;> first | exact absurd hb (by decide) | decide)
    rw [hb] at HM
    clear hb h h8 h9
    go_enter Tryd.func38, Tryd.ntmps38
    go_wp2_with fail
    refine (HM.out _).mono ?_
    rintro e w1 ⟨rfl, rfl⟩
    go_wp2_with fail
    refine (HO.out _).mono ?_
    rintro e w1 ⟨rfl, rfl⟩
    go_wp2
    refine bodyPost_ret (results_tmp4 Tryd.results38 _ _ _) rfl ⟨?_, rfl⟩
    simp [HE.out.1, HE.out.2.1, HE.out.2.2.1, HE.out.2.2.2]
  · have HE : Hid (useT o = (true, true, true, false)) := Lib.hid (by
      have h' : o = 15 ∨ o = 16 ∨ o = 17 := by unfold memB at hb; simp at hb; omega
      rcases h' with rfl | rfl | rfl <;> decide)
    rw [hb] at HM
    rw [HE.out]
    clear hb h h8 h9
    go_enter Tryd.func38, Tryd.ntmps38
    go_wp2_with fail
    refine (HM.out _).mono ?_
    rintro e w1 ⟨rfl, rfl⟩
    go_wp2
    refine bodyPost_ret (results_tmp4 Tryd.results38 _ _ _) rfl ⟨?_, rfl⟩
    simp
end Go.Proofs.YtinfeglhjmnlaaaDoor.pm
namespace Go.Proofs.YtinfeglhjmnlaaaDoor.pm
open Go.RowKit
set_option linter.unusedVariables false
set_option maxRecDepth 10000
set_option maxHeartbeats 1000000

theorem refshape10_any (al prm sz : Int) (A Ai : Option Addr) (m ct nc ci : Nat) (h64 : I64 al) (hp : I64 prm) (hs : I64 sz) (code : List Ins) (w : World) :
    Calls Tryd.prog 106 #[.agg #[.int .i64 al, .slice A m ct], .agg #[.int .i64 prm, .int .i64 sz, .slice Ai nc ci]] w fun e w' => e = .returned (.bool (shB al ⟨prm, sz, code⟩)) ∧ Below w.heap.size w w' := by
  obtain ⟨W1, hW1⟩ : ∃ W1, W1 = (w.alloc (.cells #[.int .i64 al, .slice A m ct] 29)).alloc (.cells #[.int .i64 prm, .int .i64 sz, .slice Ai nc ci] 61) := ⟨_, rfl⟩
  have hB1 : Below w.heap.size w W1 := by rw [hW1]; exact ((Below.refl _ _).alloc (Nat.le_refl _) _).alloc (by simp) _
  have HK3 : Hid (Blk W1 w.heap.size 29 #[.int .i64 al, .slice A m ct]) := Lib.hid (by rw [hW1]; exact (Blk.new _ _ _).alloc _)
  have HK4 : Hid (Blk W1 (w.heap.size + 1) 61 #[.int .i64 prm, .int .i64 sz, .slice Ai nc ci]) := Lib.hid (by rw [hW1]; exact Blk.newAt (by simp))
  have HB1 := Lib.hid hB1
  have HW1 := Lib.hid hW1
  have HP := Lib.hid (fun W => refpower_any al h64.1 h64.2 W)
  have HSH : Hid (shB al ⟨prm, sz, code⟩ = (powB al && inB prm 9 && inB sz 2147483520 && (sz % al == 0))) := Lib.hid rfl
  obtain ⟨x0, x1, -, -, xz⟩ := HK3.out.c2
  obtain ⟨y0, y1, y2, -, -, -, yz⟩ := HK4.out.c3
  clear hB1 hW1
  rcases hb : powB al with _ | _
  · rw [hb] at HP HSH
    clear hb
    go_enter Tryd.func106, Tryd.ntmps106
    go_upto_region 1 with (fail)
    rw [← HW1.out]
    go_wp2_with fail
    refine (HP.out _).mono ?_
    rintro e w1 ⟨rfl, rfl⟩
    go_wp2
    go_ret
    exact ⟨ret_bool (by rw [HSH.out]; simp), HB1.out⟩
  · have hal := powB_pos hb
    rw [hb] at HP HSH
    clear hb
    by_cases p0 : 0 ≤ prm
    · by_cases p1 : prm ≤ 8
      · by_cases s0 : 0 ≤ sz
        · by_cases s1 : sz ≤ 2147483519
          · have hz : al ≠ 0 := by omega
            have HI : Hid ((true && inB prm 9 && inB sz 2147483520 && (sz % al == 0)) = (sz % al == 0)) := Lib.hid (by rw [inB_t.2 (by omega), inB_t.2 (by omega)]; rfl)
            have HM : Hid (Int.tmod sz al = sz % al) := Lib.hid (Int.tmod_eq_emod_of_nonneg s0)
            go_enter Tryd.func106, Tryd.ntmps106
            go_upto_region 1 with (fail)
            rw [← HW1.out]
            go_wp2_with fail
            refine (HP.out _).mono ?_
            rintro e w1 ⟨rfl, rfl⟩
            go_wp2
            go_ret
            exact ⟨ret_bool (by rw [HSH.out]; rw [HI.out]), HB1.out⟩
          · have HI : Hid (inB sz 2147483520 = false) := Lib.hid (inB_f.2 (by omega))
            have s1' : 2147483520 ≤ sz := by omega
            go_enter Tryd.func106, Tryd.ntmps106
            go_upto_region 1 with (fail)
            rw [← HW1.out]
            go_wp2_with fail
            refine (HP.out _).mono ?_
            rintro e w1 ⟨rfl, rfl⟩
            go_wp2
            go_ret
            exact ⟨ret_bool (by rw [HSH.out]; rw [HI.out]; simp), HB1.out⟩
        · have HI : Hid (inB sz 2147483520 = false) := Lib.hid (inB_f.2 (by omega))
          go_enter Tryd.func106, Tryd.ntmps106
          go_upto_region 1 with (fail)
          rw [← HW1.out]
          go_wp2_with fail
          refine (HP.out _).mono ?_
          rintro e w1 ⟨rfl, rfl⟩
          go_wp2
          go_ret
          exact ⟨ret_bool (by rw [HSH.out]; rw [HI.out]; simp), HB1.out⟩
      · have HI : Hid (inB prm 9 = false) := Lib.hid (inB_f.2 (by omega))
        have p1' : 9 ≤ prm := by omega
        go_enter Tryd.func106, Tryd.ntmps106
        go_upto_region 1 with (fail)
        rw [← HW1.out]
        go_wp2_with fail
        refine (HP.out _).mono ?_
        rintro e w1 ⟨rfl, rfl⟩
        go_wp2
        go_ret
        exact ⟨ret_bool (by rw [HSH.out]; rw [HI.out]; simp), HB1.out⟩
    · have HI : Hid (inB prm 9 = false) := Lib.hid (inB_f.2 (by omega))
      go_enter Tryd.func106, Tryd.ntmps106
      go_upto_region 1 with (fail)
      rw [← HW1.out]
      go_wp2_with fail
      refine (HP.out _).mono ?_
      rintro e w1 ⟨rfl, rfl⟩
      go_wp2
      go_ret
      exact ⟨ret_bool (by rw [HSH.out]; rw [HI.out]; simp), HB1.out⟩
end Go.Proofs.YtinfeglhjmnlaaaDoor.pm
namespace Go.Proofs.YtinfeglhjmnlaaaDoor.pm
open Go.RowKit
set_option linter.unusedVariables false
set_option maxRecDepth 10000

def namB (nf : Nat) (x : Ins) : Bool := !(outB (regL x) || (x.op == 22 && !inB x.a nf))
theorem named_0 (al : Int) (A : Option Addr) (nf ct : Nat) (a b c im : Int) (w : World) :
    Calls Tryd.prog 132 #[.agg #[.int .i64 al, .slice A nf ct], .agg #[.int .i64 0, .int .i64 a, .int .i64 b, .int .i64 c, .int .u64 im]] w fun e w' => e = .returned (.bool (namB nf ⟨0, a, b, c, im⟩)) ∧ Below w.heap.size w w' := by
  have HE : Hid (namB nf ⟨0, a, b, c, im⟩ = (inB a 8)) := Lib.hid (by first | (simp [namB, outB, regL]; done) | simp [namB, outB, regL, Bool.and_assoc])
  rw [HE.out]
  clear HE
  go_enter Tryd.func132, Tryd.ntmps132
  go_wp2_with fail
  refine (refwithin10_any _ _ _).mono ?_
  rintro e w1 ⟨rfl, rfl⟩
  go_wp2
  go_ret
  exact ⟨rfl, by go_grown⟩
theorem named_1 (al : Int) (A : Option Addr) (nf ct : Nat) (a b c im : Int) (w : World) :
    Calls Tryd.prog 132 #[.agg #[.int .i64 al, .slice A nf ct], .agg #[.int .i64 1, .int .i64 a, .int .i64 b, .int .i64 c, .int .u64 im]] w fun e w' => e = .returned (.bool (namB nf ⟨1, a, b, c, im⟩)) ∧ Below w.heap.size w w' := by
  have HE : Hid (namB nf ⟨1, a, b, c, im⟩ = (inB a 8 && inB b 8)) := Lib.hid (by first | (simp [namB, outB, regL]; done) | simp [namB, outB, regL, Bool.and_assoc])
  rw [HE.out]
  clear HE
  have H0 := Lib.hid (fun W => refwithin10_any a 8 W)
  rcases h0 : inB a 8 with _ | _
  · rw [h0] at H0
    clear h0
    go_enter Tryd.func132, Tryd.ntmps132
    go_wp2_with fail
    refine (H0.out _).mono ?_
    rintro e w1 ⟨rfl, rfl⟩
    go_wp2
    go_ret
    exact ⟨ret_bool (by simp), by go_grown⟩
  · rw [h0] at H0
    clear h0
    go_enter Tryd.func132, Tryd.ntmps132
    go_wp2_with fail
    refine (H0.out _).mono ?_
    rintro e w1 ⟨rfl, rfl⟩
    go_wp2_with fail
    refine (refwithin10_any _ _ _).mono ?_
    rintro e w1 ⟨rfl, rfl⟩
    go_wp2
    go_ret
    exact ⟨ret_bool (by simp), by go_grown⟩
theorem named_2 (al : Int) (A : Option Addr) (nf ct : Nat) (a b c im : Int) (w : World) :
    Calls Tryd.prog 132 #[.agg #[.int .i64 al, .slice A nf ct], .agg #[.int .i64 2, .int .i64 a, .int .i64 b, .int .i64 c, .int .u64 im]] w fun e w' => e = .returned (.bool (namB nf ⟨2, a, b, c, im⟩)) ∧ Below w.heap.size w w' := by
  have HE : Hid (namB nf ⟨2, a, b, c, im⟩ = (inB a 8 && inB b 8 && inB c 8)) := Lib.hid (by first | (simp [namB, outB, regL]; done) | simp [namB, outB, regL, Bool.and_assoc])
  rw [HE.out]
  clear HE
  have H0 := Lib.hid (fun W => refwithin10_any a 8 W)
  rcases h0 : inB a 8 with _ | _
  · rw [h0] at H0
    clear h0
    go_enter Tryd.func132, Tryd.ntmps132
    go_wp2_with fail
    refine (H0.out _).mono ?_
    rintro e w1 ⟨rfl, rfl⟩
    go_wp2
    go_ret
    exact ⟨ret_bool (by simp), by go_grown⟩
  · rw [h0] at H0
    clear h0
    have H1 := Lib.hid (fun W => refwithin10_any b 8 W)
    rcases h1 : inB b 8 with _ | _
    · rw [h1] at H1
      clear h1
      go_enter Tryd.func132, Tryd.ntmps132
      go_wp2_with fail
      refine (H0.out _).mono ?_
      rintro e w1 ⟨rfl, rfl⟩
      go_wp2_with fail
      refine (H1.out _).mono ?_
      rintro e w1 ⟨rfl, rfl⟩
      go_wp2
      go_ret
      exact ⟨ret_bool (by simp), by go_grown⟩
    · rw [h1] at H1
      clear h1
      go_enter Tryd.func132, Tryd.ntmps132
      go_wp2_with fail
      refine (H0.out _).mono ?_
      rintro e w1 ⟨rfl, rfl⟩
      go_wp2_with fail
      refine (H1.out _).mono ?_
      rintro e w1 ⟨rfl, rfl⟩
      go_wp2_with fail
      refine (refwithin10_any _ _ _).mono ?_
      rintro e w1 ⟨rfl, rfl⟩
      go_wp2
      go_ret
      exact ⟨ret_bool (by simp), by go_grown⟩
theorem named_3 (al : Int) (A : Option Addr) (nf ct : Nat) (a b c im : Int) (w : World) :
    Calls Tryd.prog 132 #[.agg #[.int .i64 al, .slice A nf ct], .agg #[.int .i64 3, .int .i64 a, .int .i64 b, .int .i64 c, .int .u64 im]] w fun e w' => e = .returned (.bool (namB nf ⟨3, a, b, c, im⟩)) ∧ Below w.heap.size w w' := by
  have HE : Hid (namB nf ⟨3, a, b, c, im⟩ = (inB a 8 && inB b 8 && inB c 8)) := Lib.hid (by first | (simp [namB, outB, regL]; done) | simp [namB, outB, regL, Bool.and_assoc])
  rw [HE.out]
  clear HE
  have H0 := Lib.hid (fun W => refwithin10_any a 8 W)
  rcases h0 : inB a 8 with _ | _
  · rw [h0] at H0
    clear h0
    go_enter Tryd.func132, Tryd.ntmps132
    go_wp2_with fail
    refine (H0.out _).mono ?_
    rintro e w1 ⟨rfl, rfl⟩
    go_wp2
    go_ret
    exact ⟨ret_bool (by simp), by go_grown⟩
  · rw [h0] at H0
    clear h0
    have H1 := Lib.hid (fun W => refwithin10_any b 8 W)
    rcases h1 : inB b 8 with _ | _
    · rw [h1] at H1
      clear h1
      go_enter Tryd.func132, Tryd.ntmps132
      go_wp2_with fail
      refine (H0.out _).mono ?_
      rintro e w1 ⟨rfl, rfl⟩
      go_wp2_with fail
      refine (H1.out _).mono ?_
      rintro e w1 ⟨rfl, rfl⟩
      go_wp2
      go_ret
      exact ⟨ret_bool (by simp), by go_grown⟩
    · rw [h1] at H1
      clear h1
      go_enter Tryd.func132, Tryd.ntmps132
      go_wp2_with fail
      refine (H0.out _).mono ?_
      rintro e w1 ⟨rfl, rfl⟩
      go_wp2_with fail
      refine (H1.out _).mono ?_
      rintro e w1 ⟨rfl, rfl⟩
      go_wp2_with fail
      refine (refwithin10_any _ _ _).mono ?_
      rintro e w1 ⟨rfl, rfl⟩
      go_wp2
      go_ret
      exact ⟨ret_bool (by simp), by go_grown⟩
theorem named_4 (al : Int) (A : Option Addr) (nf ct : Nat) (a b c im : Int) (w : World) :
    Calls Tryd.prog 132 #[.agg #[.int .i64 al, .slice A nf ct], .agg #[.int .i64 4, .int .i64 a, .int .i64 b, .int .i64 c, .int .u64 im]] w fun e w' => e = .returned (.bool (namB nf ⟨4, a, b, c, im⟩)) ∧ Below w.heap.size w w' := by
  have HE : Hid (namB nf ⟨4, a, b, c, im⟩ = (inB a 8 && inB b 8 && inB c 8)) := Lib.hid (by first | (simp [namB, outB, regL]; done) | simp [namB, outB, regL, Bool.and_assoc])
  rw [HE.out]
  clear HE
  have H0 := Lib.hid (fun W => refwithin10_any a 8 W)
  rcases h0 : inB a 8 with _ | _
  · rw [h0] at H0
    clear h0
    go_enter Tryd.func132, Tryd.ntmps132
    go_wp2_with fail
    refine (H0.out _).mono ?_
    rintro e w1 ⟨rfl, rfl⟩
    go_wp2
    go_ret
    exact ⟨ret_bool (by simp), by go_grown⟩
  · rw [h0] at H0
    clear h0
    have H1 := Lib.hid (fun W => refwithin10_any b 8 W)
    rcases h1 : inB b 8 with _ | _
    · rw [h1] at H1
      clear h1
      go_enter Tryd.func132, Tryd.ntmps132
      go_wp2_with fail
      refine (H0.out _).mono ?_
      rintro e w1 ⟨rfl, rfl⟩
      go_wp2_with fail
      refine (H1.out _).mono ?_
      rintro e w1 ⟨rfl, rfl⟩
      go_wp2
      go_ret
      exact ⟨ret_bool (by simp), by go_grown⟩
    · rw [h1] at H1
      clear h1
      go_enter Tryd.func132, Tryd.ntmps132
      go_wp2_with fail
      refine (H0.out _).mono ?_
      rintro e w1 ⟨rfl, rfl⟩
      go_wp2_with fail
      refine (H1.out _).mono ?_
      rintro e w1 ⟨rfl, rfl⟩
      go_wp2_with fail
      refine (refwithin10_any _ _ _).mono ?_
      rintro e w1 ⟨rfl, rfl⟩
      go_wp2
      go_ret
      exact ⟨ret_bool (by simp), by go_grown⟩
theorem named_5 (al : Int) (A : Option Addr) (nf ct : Nat) (a b c im : Int) (w : World) :
    Calls Tryd.prog 132 #[.agg #[.int .i64 al, .slice A nf ct], .agg #[.int .i64 5, .int .i64 a, .int .i64 b, .int .i64 c, .int .u64 im]] w fun e w' => e = .returned (.bool (namB nf ⟨5, a, b, c, im⟩)) ∧ Below w.heap.size w w' := by
  have HE : Hid (namB nf ⟨5, a, b, c, im⟩ = (inB a 8 && inB b 8 && inB c 8)) := Lib.hid (by first | (simp [namB, outB, regL]; done) | simp [namB, outB, regL, Bool.and_assoc])
  rw [HE.out]
  clear HE
  have H0 := Lib.hid (fun W => refwithin10_any a 8 W)
  rcases h0 : inB a 8 with _ | _
  · rw [h0] at H0
    clear h0
    go_enter Tryd.func132, Tryd.ntmps132
    go_wp2_with fail
    refine (H0.out _).mono ?_
    rintro e w1 ⟨rfl, rfl⟩
    go_wp2
    go_ret
    exact ⟨ret_bool (by simp), by go_grown⟩
  · rw [h0] at H0
    clear h0
    have H1 := Lib.hid (fun W => refwithin10_any b 8 W)
    rcases h1 : inB b 8 with _ | _
    · rw [h1] at H1
      clear h1
      go_enter Tryd.func132, Tryd.ntmps132
      go_wp2_with fail
      refine (H0.out _).mono ?_
      rintro e w1 ⟨rfl, rfl⟩
      go_wp2_with fail
      refine (H1.out _).mono ?_
      rintro e w1 ⟨rfl, rfl⟩
      go_wp2
      go_ret
      exact ⟨ret_bool (by simp), by go_grown⟩
    · rw [h1] at H1
      clear h1
      go_enter Tryd.func132, Tryd.ntmps132
      go_wp2_with fail
      refine (H0.out _).mono ?_
      rintro e w1 ⟨rfl, rfl⟩
      go_wp2_with fail
      refine (H1.out _).mono ?_
      rintro e w1 ⟨rfl, rfl⟩
      go_wp2_with fail
      refine (refwithin10_any _ _ _).mono ?_
      rintro e w1 ⟨rfl, rfl⟩
      go_wp2
      go_ret
      exact ⟨ret_bool (by simp), by go_grown⟩
theorem named_6 (al : Int) (A : Option Addr) (nf ct : Nat) (a b c im : Int) (w : World) :
    Calls Tryd.prog 132 #[.agg #[.int .i64 al, .slice A nf ct], .agg #[.int .i64 6, .int .i64 a, .int .i64 b, .int .i64 c, .int .u64 im]] w fun e w' => e = .returned (.bool (namB nf ⟨6, a, b, c, im⟩)) ∧ Below w.heap.size w w' := by
  have HE : Hid (namB nf ⟨6, a, b, c, im⟩ = (inB a 8 && inB b 8 && inB c 8)) := Lib.hid (by first | (simp [namB, outB, regL]; done) | simp [namB, outB, regL, Bool.and_assoc])
  rw [HE.out]
  clear HE
  have H0 := Lib.hid (fun W => refwithin10_any a 8 W)
  rcases h0 : inB a 8 with _ | _
  · rw [h0] at H0
    clear h0
    go_enter Tryd.func132, Tryd.ntmps132
    go_wp2_with fail
    refine (H0.out _).mono ?_
    rintro e w1 ⟨rfl, rfl⟩
    go_wp2
    go_ret
    exact ⟨ret_bool (by simp), by go_grown⟩
  · rw [h0] at H0
    clear h0
    have H1 := Lib.hid (fun W => refwithin10_any b 8 W)
    rcases h1 : inB b 8 with _ | _
    · rw [h1] at H1
      clear h1
      go_enter Tryd.func132, Tryd.ntmps132
      go_wp2_with fail
      refine (H0.out _).mono ?_
      rintro e w1 ⟨rfl, rfl⟩
      go_wp2_with fail
      refine (H1.out _).mono ?_
      rintro e w1 ⟨rfl, rfl⟩
      go_wp2
      go_ret
      exact ⟨ret_bool (by simp), by go_grown⟩
    · rw [h1] at H1
      clear h1
      go_enter Tryd.func132, Tryd.ntmps132
      go_wp2_with fail
      refine (H0.out _).mono ?_
      rintro e w1 ⟨rfl, rfl⟩
      go_wp2_with fail
      refine (H1.out _).mono ?_
      rintro e w1 ⟨rfl, rfl⟩
      go_wp2_with fail
      refine (refwithin10_any _ _ _).mono ?_
      rintro e w1 ⟨rfl, rfl⟩
      go_wp2
      go_ret
      exact ⟨ret_bool (by simp), by go_grown⟩
theorem named_7 (al : Int) (A : Option Addr) (nf ct : Nat) (a b c im : Int) (w : World) :
    Calls Tryd.prog 132 #[.agg #[.int .i64 al, .slice A nf ct], .agg #[.int .i64 7, .int .i64 a, .int .i64 b, .int .i64 c, .int .u64 im]] w fun e w' => e = .returned (.bool (namB nf ⟨7, a, b, c, im⟩)) ∧ Below w.heap.size w w' := by
  have HE : Hid (namB nf ⟨7, a, b, c, im⟩ = (inB a 8 && inB b 8 && inB c 8)) := Lib.hid (by first | (simp [namB, outB, regL]; done) | simp [namB, outB, regL, Bool.and_assoc])
  rw [HE.out]
  clear HE
  have H0 := Lib.hid (fun W => refwithin10_any a 8 W)
  rcases h0 : inB a 8 with _ | _
  · rw [h0] at H0
    clear h0
    go_enter Tryd.func132, Tryd.ntmps132
    go_wp2_with fail
    refine (H0.out _).mono ?_
    rintro e w1 ⟨rfl, rfl⟩
    go_wp2
    go_ret
    exact ⟨ret_bool (by simp), by go_grown⟩
  · rw [h0] at H0
    clear h0
    have H1 := Lib.hid (fun W => refwithin10_any b 8 W)
    rcases h1 : inB b 8 with _ | _
    · rw [h1] at H1
      clear h1
      go_enter Tryd.func132, Tryd.ntmps132
      go_wp2_with fail
      refine (H0.out _).mono ?_
      rintro e w1 ⟨rfl, rfl⟩
      go_wp2_with fail
      refine (H1.out _).mono ?_
      rintro e w1 ⟨rfl, rfl⟩
      go_wp2
      go_ret
      exact ⟨ret_bool (by simp), by go_grown⟩
    · rw [h1] at H1
      clear h1
      go_enter Tryd.func132, Tryd.ntmps132
      go_wp2_with fail
      refine (H0.out _).mono ?_
      rintro e w1 ⟨rfl, rfl⟩
      go_wp2_with fail
      refine (H1.out _).mono ?_
      rintro e w1 ⟨rfl, rfl⟩
      go_wp2_with fail
      refine (refwithin10_any _ _ _).mono ?_
      rintro e w1 ⟨rfl, rfl⟩
      go_wp2
      go_ret
      exact ⟨ret_bool (by simp), by go_grown⟩
theorem named_8 (al : Int) (A : Option Addr) (nf ct : Nat) (a b c im : Int) (w : World) :
    Calls Tryd.prog 132 #[.agg #[.int .i64 al, .slice A nf ct], .agg #[.int .i64 8, .int .i64 a, .int .i64 b, .int .i64 c, .int .u64 im]] w fun e w' => e = .returned (.bool (namB nf ⟨8, a, b, c, im⟩)) ∧ Below w.heap.size w w' := by
  have HE : Hid (namB nf ⟨8, a, b, c, im⟩ = (inB a 8 && inB b 8 && inB c 8)) := Lib.hid (by first | (simp [namB, outB, regL]; done) | simp [namB, outB, regL, Bool.and_assoc])
  rw [HE.out]
  clear HE
  have H0 := Lib.hid (fun W => refwithin10_any a 8 W)
  rcases h0 : inB a 8 with _ | _
  · rw [h0] at H0
    clear h0
    go_enter Tryd.func132, Tryd.ntmps132
    go_wp2_with fail
    refine (H0.out _).mono ?_
    rintro e w1 ⟨rfl, rfl⟩
    go_wp2
    go_ret
    exact ⟨ret_bool (by simp), by go_grown⟩
  · rw [h0] at H0
    clear h0
    have H1 := Lib.hid (fun W => refwithin10_any b 8 W)
    rcases h1 : inB b 8 with _ | _
    · rw [h1] at H1
      clear h1
      go_enter Tryd.func132, Tryd.ntmps132
      go_wp2_with fail
      refine (H0.out _).mono ?_
      rintro e w1 ⟨rfl, rfl⟩
      go_wp2_with fail
      refine (H1.out _).mono ?_
      rintro e w1 ⟨rfl, rfl⟩
      go_wp2
      go_ret
      exact ⟨ret_bool (by simp), by go_grown⟩
    · rw [h1] at H1
      clear h1
      go_enter Tryd.func132, Tryd.ntmps132
      go_wp2_with fail
      refine (H0.out _).mono ?_
      rintro e w1 ⟨rfl, rfl⟩
      go_wp2_with fail
      refine (H1.out _).mono ?_
      rintro e w1 ⟨rfl, rfl⟩
      go_wp2_with fail
      refine (refwithin10_any _ _ _).mono ?_
      rintro e w1 ⟨rfl, rfl⟩
      go_wp2
      go_ret
      exact ⟨ret_bool (by simp), by go_grown⟩
theorem named_9 (al : Int) (A : Option Addr) (nf ct : Nat) (a b c im : Int) (w : World) :
    Calls Tryd.prog 132 #[.agg #[.int .i64 al, .slice A nf ct], .agg #[.int .i64 9, .int .i64 a, .int .i64 b, .int .i64 c, .int .u64 im]] w fun e w' => e = .returned (.bool (namB nf ⟨9, a, b, c, im⟩)) ∧ Below w.heap.size w w' := by
  have HE : Hid (namB nf ⟨9, a, b, c, im⟩ = (inB a 8 && inB b 8 && inB c 8)) := Lib.hid (by first | (simp [namB, outB, regL]; done) | simp [namB, outB, regL, Bool.and_assoc])
  rw [HE.out]
  clear HE
  have H0 := Lib.hid (fun W => refwithin10_any a 8 W)
  rcases h0 : inB a 8 with _ | _
  · rw [h0] at H0
    clear h0
    go_enter Tryd.func132, Tryd.ntmps132
    go_wp2_with fail
    refine (H0.out _).mono ?_
    rintro e w1 ⟨rfl, rfl⟩
    go_wp2
    go_ret
    exact ⟨ret_bool (by simp), by go_grown⟩
  · rw [h0] at H0
    clear h0
    have H1 := Lib.hid (fun W => refwithin10_any b 8 W)
    rcases h1 : inB b 8 with _ | _
    · rw [h1] at H1
      clear h1
      go_enter Tryd.func132, Tryd.ntmps132
      go_wp2_with fail
      refine (H0.out _).mono ?_
      rintro e w1 ⟨rfl, rfl⟩
      go_wp2_with fail
      refine (H1.out _).mono ?_
      rintro e w1 ⟨rfl, rfl⟩
      go_wp2
      go_ret
      exact ⟨ret_bool (by simp), by go_grown⟩
    · rw [h1] at H1
      clear h1
      go_enter Tryd.func132, Tryd.ntmps132
      go_wp2_with fail
      refine (H0.out _).mono ?_
      rintro e w1 ⟨rfl, rfl⟩
      go_wp2_with fail
      refine (H1.out _).mono ?_
      rintro e w1 ⟨rfl, rfl⟩
      go_wp2_with fail
      refine (refwithin10_any _ _ _).mono ?_
      rintro e w1 ⟨rfl, rfl⟩
      go_wp2
      go_ret
      exact ⟨ret_bool (by simp), by go_grown⟩
theorem named_10 (al : Int) (A : Option Addr) (nf ct : Nat) (a b c im : Int) (w : World) :
    Calls Tryd.prog 132 #[.agg #[.int .i64 al, .slice A nf ct], .agg #[.int .i64 10, .int .i64 a, .int .i64 b, .int .i64 c, .int .u64 im]] w fun e w' => e = .returned (.bool (namB nf ⟨10, a, b, c, im⟩)) ∧ Below w.heap.size w w' := by
  have HE : Hid (namB nf ⟨10, a, b, c, im⟩ = (inB a 8 && inB b 8 && inB c 8)) := Lib.hid (by first | (simp [namB, outB, regL]; done) | simp [namB, outB, regL, Bool.and_assoc])
  rw [HE.out]
  clear HE
  have H0 := Lib.hid (fun W => refwithin10_any a 8 W)
  rcases h0 : inB a 8 with _ | _
  · rw [h0] at H0
    clear h0
    go_enter Tryd.func132, Tryd.ntmps132
    go_wp2_with fail
    refine (H0.out _).mono ?_
    rintro e w1 ⟨rfl, rfl⟩
    go_wp2
    go_ret
    exact ⟨ret_bool (by simp), by go_grown⟩
  · rw [h0] at H0
    clear h0
    have H1 := Lib.hid (fun W => refwithin10_any b 8 W)
    rcases h1 : inB b 8 with _ | _
    · rw [h1] at H1
      clear h1
      go_enter Tryd.func132, Tryd.ntmps132
      go_wp2_with fail
      refine (H0.out _).mono ?_
      rintro e w1 ⟨rfl, rfl⟩
      go_wp2_with fail
      refine (H1.out _).mono ?_
      rintro e w1 ⟨rfl, rfl⟩
      go_wp2
      go_ret
      exact ⟨ret_bool (by simp), by go_grown⟩
    · rw [h1] at H1
      clear h1
      go_enter Tryd.func132, Tryd.ntmps132
      go_wp2_with fail
      refine (H0.out _).mono ?_
      rintro e w1 ⟨rfl, rfl⟩
      go_wp2_with fail
      refine (H1.out _).mono ?_
      rintro e w1 ⟨rfl, rfl⟩
      go_wp2_with fail
      refine (refwithin10_any _ _ _).mono ?_
      rintro e w1 ⟨rfl, rfl⟩
      go_wp2
      go_ret
      exact ⟨ret_bool (by simp), by go_grown⟩
theorem named_11 (al : Int) (A : Option Addr) (nf ct : Nat) (a b c im : Int) (w : World) :
    Calls Tryd.prog 132 #[.agg #[.int .i64 al, .slice A nf ct], .agg #[.int .i64 11, .int .i64 a, .int .i64 b, .int .i64 c, .int .u64 im]] w fun e w' => e = .returned (.bool (namB nf ⟨11, a, b, c, im⟩)) ∧ Below w.heap.size w w' := by
  have HE : Hid (namB nf ⟨11, a, b, c, im⟩ = (inB a 8 && inB b 8 && inB c 8)) := Lib.hid (by first | (simp [namB, outB, regL]; done) | simp [namB, outB, regL, Bool.and_assoc])
  rw [HE.out]
  clear HE
  have H0 := Lib.hid (fun W => refwithin10_any a 8 W)
  rcases h0 : inB a 8 with _ | _
  · rw [h0] at H0
    clear h0
    go_enter Tryd.func132, Tryd.ntmps132
    go_wp2_with fail
    refine (H0.out _).mono ?_
    rintro e w1 ⟨rfl, rfl⟩
    go_wp2
    go_ret
    exact ⟨ret_bool (by simp), by go_grown⟩
  · rw [h0] at H0
    clear h0
    have H1 := Lib.hid (fun W => refwithin10_any b 8 W)
    rcases h1 : inB b 8 with _ | _
    · rw [h1] at H1
      clear h1
      go_enter Tryd.func132, Tryd.ntmps132
      go_wp2_with fail
      refine (H0.out _).mono ?_
      rintro e w1 ⟨rfl, rfl⟩
      go_wp2_with fail
      refine (H1.out _).mono ?_
      rintro e w1 ⟨rfl, rfl⟩
      go_wp2
      go_ret
      exact ⟨ret_bool (by simp), by go_grown⟩
    · rw [h1] at H1
      clear h1
      go_enter Tryd.func132, Tryd.ntmps132
      go_wp2_with fail
      refine (H0.out _).mono ?_
      rintro e w1 ⟨rfl, rfl⟩
      go_wp2_with fail
      refine (H1.out _).mono ?_
      rintro e w1 ⟨rfl, rfl⟩
      go_wp2_with fail
      refine (refwithin10_any _ _ _).mono ?_
      rintro e w1 ⟨rfl, rfl⟩
      go_wp2
      go_ret
      exact ⟨ret_bool (by simp), by go_grown⟩
theorem named_12 (al : Int) (A : Option Addr) (nf ct : Nat) (a b c im : Int) (w : World) :
    Calls Tryd.prog 132 #[.agg #[.int .i64 al, .slice A nf ct], .agg #[.int .i64 12, .int .i64 a, .int .i64 b, .int .i64 c, .int .u64 im]] w fun e w' => e = .returned (.bool (namB nf ⟨12, a, b, c, im⟩)) ∧ Below w.heap.size w w' := by
  have HE : Hid (namB nf ⟨12, a, b, c, im⟩ = (inB a 8 && inB b 8)) := Lib.hid (by first | (simp [namB, outB, regL]; done) | simp [namB, outB, regL, Bool.and_assoc])
  rw [HE.out]
  clear HE
  have H0 := Lib.hid (fun W => refwithin10_any a 8 W)
  rcases h0 : inB a 8 with _ | _
  · rw [h0] at H0
    clear h0
    go_enter Tryd.func132, Tryd.ntmps132
    go_wp2_with fail
    refine (H0.out _).mono ?_
    rintro e w1 ⟨rfl, rfl⟩
    go_wp2
    go_ret
    exact ⟨ret_bool (by simp), by go_grown⟩
  · rw [h0] at H0
    clear h0
    go_enter Tryd.func132, Tryd.ntmps132
    go_wp2_with fail
    refine (H0.out _).mono ?_
    rintro e w1 ⟨rfl, rfl⟩
    go_wp2_with fail
    refine (refwithin10_any _ _ _).mono ?_
    rintro e w1 ⟨rfl, rfl⟩
    go_wp2
    go_ret
    exact ⟨ret_bool (by simp), by go_grown⟩
theorem named_13 (al : Int) (A : Option Addr) (nf ct : Nat) (a b c im : Int) (w : World) :
    Calls Tryd.prog 132 #[.agg #[.int .i64 al, .slice A nf ct], .agg #[.int .i64 13, .int .i64 a, .int .i64 b, .int .i64 c, .int .u64 im]] w fun e w' => e = .returned (.bool (namB nf ⟨13, a, b, c, im⟩)) ∧ Below w.heap.size w w' := by
  have HE : Hid (namB nf ⟨13, a, b, c, im⟩ = (inB a 8)) := Lib.hid (by first | (simp [namB, outB, regL]; done) | simp [namB, outB, regL, Bool.and_assoc])
  rw [HE.out]
  clear HE
  go_enter Tryd.func132, Tryd.ntmps132
  go_wp2_with fail
  refine (refwithin10_any _ _ _).mono ?_
  rintro e w1 ⟨rfl, rfl⟩
  go_wp2
  go_ret
  exact ⟨rfl, by go_grown⟩
theorem named_14 (al : Int) (A : Option Addr) (nf ct : Nat) (a b c im : Int) (w : World) :
    Calls Tryd.prog 132 #[.agg #[.int .i64 al, .slice A nf ct], .agg #[.int .i64 14, .int .i64 a, .int .i64 b, .int .i64 c, .int .u64 im]] w fun e w' => e = .returned (.bool (namB nf ⟨14, a, b, c, im⟩)) ∧ Below w.heap.size w w' := by
  have HE : Hid (namB nf ⟨14, a, b, c, im⟩ = (inB a 8)) := Lib.hid (by first | (simp [namB, outB, regL]; done) | simp [namB, outB, regL, Bool.and_assoc])
  rw [HE.out]
  clear HE
  go_enter Tryd.func132, Tryd.ntmps132
  go_wp2_with fail
  refine (refwithin10_any _ _ _).mono ?_
  rintro e w1 ⟨rfl, rfl⟩
  go_wp2
  go_ret
  exact ⟨rfl, by go_grown⟩
theorem named_15 (al : Int) (A : Option Addr) (nf ct : Nat) (a b c im : Int) (w : World) :
    Calls Tryd.prog 132 #[.agg #[.int .i64 al, .slice A nf ct], .agg #[.int .i64 15, .int .i64 a, .int .i64 b, .int .i64 c, .int .u64 im]] w fun e w' => e = .returned (.bool (namB nf ⟨15, a, b, c, im⟩)) ∧ Below w.heap.size w w' := by
  have HE : Hid (namB nf ⟨15, a, b, c, im⟩ = (inB a 8)) := Lib.hid (by first | (simp [namB, outB, regL]; done) | simp [namB, outB, regL, Bool.and_assoc])
  rw [HE.out]
  clear HE
  go_enter Tryd.func132, Tryd.ntmps132
  go_wp2_with fail
  refine (refwithin10_any _ _ _).mono ?_
  rintro e w1 ⟨rfl, rfl⟩
  go_wp2
  go_ret
  exact ⟨rfl, by go_grown⟩
theorem named_16 (al : Int) (A : Option Addr) (nf ct : Nat) (a b c im : Int) (w : World) :
    Calls Tryd.prog 132 #[.agg #[.int .i64 al, .slice A nf ct], .agg #[.int .i64 16, .int .i64 a, .int .i64 b, .int .i64 c, .int .u64 im]] w fun e w' => e = .returned (.bool (namB nf ⟨16, a, b, c, im⟩)) ∧ Below w.heap.size w w' := by
  have HE : Hid (namB nf ⟨16, a, b, c, im⟩ = (inB b 8)) := Lib.hid (by first | (simp [namB, outB, regL]; done) | simp [namB, outB, regL, Bool.and_assoc])
  rw [HE.out]
  clear HE
  go_enter Tryd.func132, Tryd.ntmps132
  go_wp2_with fail
  refine (refwithin10_any _ _ _).mono ?_
  rintro e w1 ⟨rfl, rfl⟩
  go_wp2
  go_ret
  exact ⟨rfl, by go_grown⟩
theorem named_17 (al : Int) (A : Option Addr) (nf ct : Nat) (a b c im : Int) (w : World) :
    Calls Tryd.prog 132 #[.agg #[.int .i64 al, .slice A nf ct], .agg #[.int .i64 17, .int .i64 a, .int .i64 b, .int .i64 c, .int .u64 im]] w fun e w' => e = .returned (.bool (namB nf ⟨17, a, b, c, im⟩)) ∧ Below w.heap.size w w' := by
  have HE : Hid (namB nf ⟨17, a, b, c, im⟩ = (true)) := Lib.hid (by first | (simp [namB, outB, regL]; done) | simp [namB, outB, regL, Bool.and_assoc])
  rw [HE.out]
  clear HE
  go_enter Tryd.func132, Tryd.ntmps132
  go_wp2
  go_ret
  exact ⟨rfl, by go_grown⟩
theorem named_20 (al : Int) (A : Option Addr) (nf ct : Nat) (a b c im : Int) (w : World) :
    Calls Tryd.prog 132 #[.agg #[.int .i64 al, .slice A nf ct], .agg #[.int .i64 20, .int .i64 a, .int .i64 b, .int .i64 c, .int .u64 im]] w fun e w' => e = .returned (.bool (namB nf ⟨20, a, b, c, im⟩)) ∧ Below w.heap.size w w' := by
  have HE : Hid (namB nf ⟨20, a, b, c, im⟩ = (true)) := Lib.hid (by first | (simp [namB, outB, regL]; done) | simp [namB, outB, regL, Bool.and_assoc])
  rw [HE.out]
  clear HE
  go_enter Tryd.func132, Tryd.ntmps132
  go_wp2
  go_ret
  exact ⟨rfl, by go_grown⟩
theorem named_21 (al : Int) (A : Option Addr) (nf ct : Nat) (a b c im : Int) (w : World) :
    Calls Tryd.prog 132 #[.agg #[.int .i64 al, .slice A nf ct], .agg #[.int .i64 21, .int .i64 a, .int .i64 b, .int .i64 c, .int .u64 im]] w fun e w' => e = .returned (.bool (namB nf ⟨21, a, b, c, im⟩)) ∧ Below w.heap.size w w' := by
  have HE : Hid (namB nf ⟨21, a, b, c, im⟩ = (inB a 8)) := Lib.hid (by first | (simp [namB, outB, regL]; done) | simp [namB, outB, regL, Bool.and_assoc])
  rw [HE.out]
  clear HE
  go_enter Tryd.func132, Tryd.ntmps132
  go_wp2_with fail
  refine (refwithin10_any _ _ _).mono ?_
  rintro e w1 ⟨rfl, rfl⟩
  go_wp2
  go_ret
  exact ⟨rfl, by go_grown⟩
theorem named_22 (al : Int) (A : Option Addr) (nf ct : Nat) (a b c im : Int) (w : World) :
    Calls Tryd.prog 132 #[.agg #[.int .i64 al, .slice A nf ct], .agg #[.int .i64 22, .int .i64 a, .int .i64 b, .int .i64 c, .int .u64 im]] w fun e w' => e = .returned (.bool (namB nf ⟨22, a, b, c, im⟩)) ∧ Below w.heap.size w w' := by
  have HE : Hid (namB nf ⟨22, a, b, c, im⟩ = (inB a nf)) := Lib.hid (by first | (simp [namB, outB, regL]; done) | simp [namB, outB, regL, Bool.and_assoc])
  rw [HE.out]
  clear HE
  go_enter Tryd.func132, Tryd.ntmps132
  go_wp2_with fail
  refine (refwithin10_any _ _ _).mono ?_
  rintro e w1 ⟨rfl, rfl⟩
  go_wp2
  go_ret
  exact ⟨rfl, by go_grown⟩
theorem named_23 (al : Int) (A : Option Addr) (nf ct : Nat) (a b c im : Int) (w : World) :
    Calls Tryd.prog 132 #[.agg #[.int .i64 al, .slice A nf ct], .agg #[.int .i64 23, .int .i64 a, .int .i64 b, .int .i64 c, .int .u64 im]] w fun e w' => e = .returned (.bool (namB nf ⟨23, a, b, c, im⟩)) ∧ Below w.heap.size w w' := by
  have HE : Hid (namB nf ⟨23, a, b, c, im⟩ = (true)) := Lib.hid (by first | (simp [namB, outB, regL]; done) | simp [namB, outB, regL, Bool.and_assoc])
  rw [HE.out]
  clear HE
  go_enter Tryd.func132, Tryd.ntmps132
  go_wp2
  go_ret
  exact ⟨rfl, by go_grown⟩
theorem named_24 (al : Int) (A : Option Addr) (nf ct : Nat) (a b c im : Int) (w : World) :
    Calls Tryd.prog 132 #[.agg #[.int .i64 al, .slice A nf ct], .agg #[.int .i64 24, .int .i64 a, .int .i64 b, .int .i64 c, .int .u64 im]] w fun e w' => e = .returned (.bool (namB nf ⟨24, a, b, c, im⟩)) ∧ Below w.heap.size w w' := by
  have HE : Hid (namB nf ⟨24, a, b, c, im⟩ = (true)) := Lib.hid (by first | (simp [namB, outB, regL]; done) | simp [namB, outB, regL, Bool.and_assoc])
  rw [HE.out]
  clear HE
  go_enter Tryd.func132, Tryd.ntmps132
  go_wp2
  go_ret
  exact ⟨rfl, by go_grown⟩
theorem named_any (al : Int) (A : Option Addr) (nf ct o : Nat) (a b c im : Int) (h : o < 25) (h8 : o ≠ 18) (h9 : o ≠ 19) (w : World) :
    Calls Tryd.prog 132 #[.agg #[.int .i64 al, .slice A nf ct], .agg #[.int .i64 (o : Int), .int .i64 a, .int .i64 b, .int .i64 c, .int .u64 im]] w fun e w' => e = .returned (.bool (namB nf ⟨o, a, b, c, im⟩)) ∧ Below w.heap.size w w' := by
  have h' : o = 0 ∨ o = 1 ∨ o = 2 ∨ o = 3 ∨ o = 4 ∨ o = 5 ∨ o = 6 ∨ o = 7 ∨ o = 8 ∨ o = 9 ∨ o = 10 ∨ o = 11 ∨ o = 12 ∨ o = 13 ∨ o = 14 ∨ o = 15 ∨ o = 16 ∨ o = 17 ∨ o = 20 ∨ o = 21 ∨ o = 22 ∨ o = 23 ∨ o = 24 := by omega
  rcases h' with rfl | rfl | rfl | rfl | rfl | rfl | rfl | rfl | rfl | rfl | rfl | rfl | rfl | rfl | rfl | rfl | rfl | rfl | rfl | rfl | rfl | rfl | rfl
  · exact named_0 al A nf ct a b c im w
  · exact named_1 al A nf ct a b c im w
  · exact named_2 al A nf ct a b c im w
  · exact named_3 al A nf ct a b c im w
  · exact named_4 al A nf ct a b c im w
  · exact named_5 al A nf ct a b c im w
  · exact named_6 al A nf ct a b c im w
  · exact named_7 al A nf ct a b c im w
  · exact named_8 al A nf ct a b c im w
  · exact named_9 al A nf ct a b c im w
  · exact named_10 al A nf ct a b c im w
  · exact named_11 al A nf ct a b c im w
  · exact named_12 al A nf ct a b c im w
  · exact named_13 al A nf ct a b c im w
  · exact named_14 al A nf ct a b c im w
  · exact named_15 al A nf ct a b c im w
  · exact named_16 al A nf ct a b c im w
  · exact named_17 al A nf ct a b c im w
  · exact named_20 al A nf ct a b c im w
  · exact named_21 al A nf ct a b c im w
  · exact named_22 al A nf ct a b c im w
  · exact named_23 al A nf ct a b c im w
  · exact named_24 al A nf ct a b c im w
end Go.Proofs.YtinfeglhjmnlaaaDoor.pm
