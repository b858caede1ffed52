/- The leaves of chapter 10's reference: memory, within, Reads, Writes, Operands, named, shape. -/
import Derived.Test.YtcnndoefgjbmiaaGreatGRc
import Derived.Test.YtcnndoefgjbmiaaGreatGKe
set_option linter.unusedVariables false
set_option maxRecDepth 10000
set_option maxHeartbeats 8000000
namespace Go.Proofs.YtcnndoefgjbmiaaGreat.pm
open Go.RowKit
theorem refwithin10_any (n l : Int) (w : World) :
 Calls Tryz.prog 74 #[.int .i64 n, .int .i64 l] w fun e w' => e = .returned (.bool (inB n l)) ∧ w = w' := by
 rcases hb : inB n l with _ | _
 · have h := inB_f.1 hb
   clear hb
   by_cases h0 : 0 ≤ n
   · have h1 : l ≤ n := by omega
     clear h
     go_enter Tryz.func74, Tryz.ntmps74
     go_wp2
     go_ret
     exact ⟨ret_bool (by simp; omega), rfl⟩
   · clear h
     go_enter Tryz.func74, Tryz.ntmps74
     go_wp2
     go_ret
     exact ⟨rfl, rfl⟩
 · obtain ⟨h0, h1⟩ := inB_t.1 hb
   clear hb
   go_enter Tryz.func74, Tryz.ntmps74
   go_wp2
   go_ret
   exact ⟨rfl, rfl⟩
theorem refmem10_any (op : Int) (w : World) :
 Calls Tryz.prog 108 #[.int .i64 op] w fun e w' => e = .returned (.bool (memB op)) ∧ w = w' := by
 by_cases h1 : op = 15
 · subst h1
   go_enter Tryz.func108, Tryz.ntmps108
   go_wp2
   go_ret
   exact ⟨rfl, rfl⟩
 · by_cases h2 : op = 16
   · subst h2
     go_enter Tryz.func108, Tryz.ntmps108
     go_wp2
     go_ret
     exact ⟨rfl, rfl⟩
   · have b1 : (op == 15) = false := by simpa using h1
     have b2 : (op == 16) = false := by simpa using h2
     have HT : Hid (memB op = (op == 17)) := hQ (by unfold memB; rw [b1, b2]; simp)
     clear h1 h2
     go_enter Tryz.func108, Tryz.ntmps108
     go_wp2
     go_ret
     exact ⟨ret_bool (by rw [HT.out]), rfl⟩
theorem refreads10_any (fp fs fc : Value) (x : Ins) (w : World) :
 Calls Tryz.prog 109 #[.agg #[fp, fs, fc], insV x] w fun e w' => e = retP (rdP x) ∧ Below w.heap.size w w' := by
 obtain ⟨op, a, b, c, im⟩ := x
 have R : Hid (rdP ⟨op, a, b, c, im⟩ = if op = 15 ∨ op = 17 then (b, c, true) else (0, 0, false)) := hQ rfl
 unfold insV
 go_enter Tryz.func109, Tryz.ntmps109
 go_wp2
 all_goals go_returns
 all_goals (refine ⟨?_, by go_grown⟩; rw [R.out]; simp_all [retP])
theorem refwrites10_any (fp fs fc : Value) (x : Ins) (w : World) :
 Calls Tryz.prog 110 #[.agg #[fp, fs, fc], insV x] w fun e w' => e = retP (wrP x) ∧ Below w.heap.size w w' := by
 obtain ⟨op, a, b, c, im⟩ := x
 have R : Hid (wrP ⟨op, a, b, c, im⟩ = if op = 16 ∨ op = 17 then (a, c, true) else (0, 0, false)) := hQ rfl
 unfold insV
 go_enter Tryz.func110, Tryz.ntmps110
 go_wp2
 all_goals go_returns
 all_goals (refine ⟨?_, by go_grown⟩; rw [R.out]; simp_all [retP])
def useT (op : Int) : Bool × Bool × Bool × Bool := (decide (1 ≤ opN op), decide (2 ≤ opN op), decide (3 ≤ opN op), op == 0 || op == 24)
theorem refoperands10_any (o : Nat) (h : o < 25) (h8 : o ≠ 18) (h9 : o ≠ 19) (w : World) :
 Calls Tryz.prog 106 #[.int .i64 (o : Int)] w fun e w' => e = .returned (.tuple #[.bool (useT o).1, .bool (useT o).2.1, .bool (useT o).2.2.1, .bool (useT o).2.2.2]) ∧ w = w' := by
 have HM := hQ (fun W => refmem10_any (o : Int) W)
 rcases hb : memB (o : Int) with _ | _
 · have HO := hQ (fun W => operands_any o h W)
   have HE : Hid (useA o = (useT o).1 ∧ useB o = (useT o).2.1 ∧ useC o = (useT o).2.2.1 ∧ useI o = (useT o).2.2.2) := hQ (by
    have h' : o = 0 ∨ o = 1 ∨ o = 2 ∨ o = 3 ∨ o = 4 ∨ o = 5 ∨ o = 6 ∨ o = 7 ∨ o = 8 ∨ o = 9 ∨ o = 10 ∨ o = 11 ∨ o = 12 ∨ o = 13 ∨ o = 14 ∨ o = 15 ∨ o = 16 ∨ o = 17 ∨ o = 20 ∨ o = 21 ∨ o = 22 ∨ o = 23 ∨ o = 24 := by omega
    rcases h' with rfl | rfl | rfl | rfl | rfl | rfl | rfl | rfl | rfl | rfl | rfl | rfl | rfl | rfl | rfl | rfl | rfl | rfl | rfl | rfl | rfl | rfl | rfl <;> first | exact absurd hb (by decide) | decide)
   rw [hb] at HM
   clear hb h h8 h9
   go_enter Tryz.func106, Tryz.ntmps106
   go_wp2_with fail
   refine (HM.out _).mono ?_
   rintro e w1 ⟨rfl, rfl⟩
   go_wp2_with fail
   refine (HO.out _).mono ?_
   rintro e w1 ⟨rfl, rfl⟩
   go_wp2
   refine bodyPost_ret (results_tmp4 Tryz.results106 _ _ _) rfl ⟨?_, rfl⟩
   simp [HE.out.1, HE.out.2.1, HE.out.2.2.1, HE.out.2.2.2]
 · have HE : Hid (useT o = (true, true, true, false)) := hQ (by
    have h' : o = 15 ∨ o = 16 ∨ o = 17 := by unfold memB at hb; simp at hb; omega
    rcases h' with rfl | rfl | rfl <;> decide)
   rw [hb] at HM
   rw [HE.out]
   clear hb h h8 h9
   go_enter Tryz.func106, Tryz.ntmps106
   go_wp2_with fail
   refine (HM.out _).mono ?_
   rintro e w1 ⟨rfl, rfl⟩
   go_wp2
   refine bodyPost_ret (results_tmp4 Tryz.results106 _ _ _) rfl ⟨?_, rfl⟩
   simp
set_option maxHeartbeats 1000000
theorem refshape10_any (al prm sz : Int) (A Ai : Option Addr) (m ct nc ci : Nat) (h64 : I64 al) (hp : I64 prm) (hs : I64 sz) (code : List Ins) (w : World) :
 Calls Tryz.prog 75 #[.agg #[.int .i64 al, .slice A m ct], .agg #[.int .i64 prm, .int .i64 sz, .slice Ai nc ci]] w fun e w' => e = .returned (.bool (shB al ⟨prm, sz, code⟩)) ∧ Below w.heap.size w w' := by
 obtain ⟨W1, hW1⟩ : ∃ W1, W1 = (w.alloc (.cells #[.int .i64 al, .slice A m ct] 26)).alloc (.cells #[.int .i64 prm, .int .i64 sz, .slice Ai nc ci] 53) := ⟨_, rfl⟩
 have hB1 : Below w.heap.size w W1 := by rw [hW1]; exact (bR.alloc nL _).alloc (by simp) _
 have HK3 : Hid (Blk W1 w.heap.size 26 #[.int .i64 al, .slice A m ct]) := hQ (by rw [hW1]; exact (Blk.new _ _ _).alloc _)
 have HK4 : Hid (Blk W1 (w.heap.size + 1) 53 #[.int .i64 prm, .int .i64 sz, .slice Ai nc ci]) := hQ (by rw [hW1]; exact Blk.newAt (by simp))
 have HB1 := hQ hB1
 have HW1 := hQ hW1
 have HP := hQ (fun W => refpower_any al h64.1 h64.2 W)
 have HSH : Hid (shB al ⟨prm, sz, code⟩ = (powB al && inB prm 9 && inB sz 2147483520 && (sz % al == 0))) := hQ rfl
 obtain ⟨x0, x1, -, -, xz⟩ := HK3.out.c2
 obtain ⟨y0, y1, y2, -, -, -, yz⟩ := HK4.out.c3
 clear hB1 hW1
 rcases hb : powB al with _ | _
 · rw [hb] at HP HSH
   clear hb
   go_enter Tryz.func75, Tryz.ntmps75
   go_upto_region 1 with (fail)
   rw [← HW1.out]
   go_wp2_with fail
   refine (HP.out _).mono ?_
   rintro e w1 ⟨rfl, rfl⟩
   go_wp2
   go_ret
   exact ⟨ret_bool (by rw [HSH.out]; simp), HB1.out⟩
 · have hal := powB_pos hb
   rw [hb] at HP HSH
   clear hb
   by_cases p0 : 0 ≤ prm
   · by_cases p1 : prm ≤ 8
     · by_cases s0 : 0 ≤ sz
       · by_cases s1 : sz ≤ 2147483519
         · have hz : al ≠ 0 := by omega
           have HI : Hid ((true && inB prm 9 && inB sz 2147483520 && (sz % al == 0)) = (sz % al == 0)) := hQ (by rw [inB_t.2 (by omega), inB_t.2 (by omega)]; rfl)
           have HM : Hid (Int.tmod sz al = sz % al) := hQ (Int.tmod_eq_emod_of_nonneg s0)
           go_enter Tryz.func75, Tryz.ntmps75
           go_upto_region 1 with (fail)
           rw [← HW1.out]
           go_wp2_with fail
           refine (HP.out _).mono ?_
           rintro e w1 ⟨rfl, rfl⟩
           go_wp2
           go_ret
           exact ⟨ret_bool (by rw [HSH.out]; rw [HI.out]), HB1.out⟩
         · have HI : Hid (inB sz 2147483520 = false) := hQ (inB_f.2 (by omega))
           have s1' : 2147483520 ≤ sz := by omega
           go_enter Tryz.func75, Tryz.ntmps75
           go_upto_region 1 with (fail)
           rw [← HW1.out]
           go_wp2_with fail
           refine (HP.out _).mono ?_
           rintro e w1 ⟨rfl, rfl⟩
           go_wp2
           go_ret
           exact ⟨ret_bool (by rw [HSH.out]; rw [HI.out]; simp), HB1.out⟩
       · have HI : Hid (inB sz 2147483520 = false) := hQ (inB_f.2 (by omega))
         go_enter Tryz.func75, Tryz.ntmps75
         go_upto_region 1 with (fail)
         rw [← HW1.out]
         go_wp2_with fail
         refine (HP.out _).mono ?_
         rintro e w1 ⟨rfl, rfl⟩
         go_wp2
         go_ret
         exact ⟨ret_bool (by rw [HSH.out]; rw [HI.out]; simp), HB1.out⟩
     · have HI : Hid (inB prm 9 = false) := hQ (inB_f.2 (by omega))
       have p1' : 9 ≤ prm := by omega
       go_enter Tryz.func75, Tryz.ntmps75
       go_upto_region 1 with (fail)
       rw [← HW1.out]
       go_wp2_with fail
       refine (HP.out _).mono ?_
       rintro e w1 ⟨rfl, rfl⟩
       go_wp2
       go_ret
       exact ⟨ret_bool (by rw [HSH.out]; rw [HI.out]; simp), HB1.out⟩
   · have HI : Hid (inB prm 9 = false) := hQ (inB_f.2 (by omega))
     go_enter Tryz.func75, Tryz.ntmps75
     go_upto_region 1 with (fail)
     rw [← HW1.out]
     go_wp2_with fail
     refine (HP.out _).mono ?_
     rintro e w1 ⟨rfl, rfl⟩
     go_wp2
     go_ret
     exact ⟨ret_bool (by rw [HSH.out]; rw [HI.out]; simp), HB1.out⟩
end Go.Proofs.YtcnndoefgjbmiaaGreat.pm
