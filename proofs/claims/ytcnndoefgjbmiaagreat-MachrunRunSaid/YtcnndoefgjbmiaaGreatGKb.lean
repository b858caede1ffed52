/- Contracts: the small functions of mach. -/
import Derived.Test.YtcnndoefgjbmiaaGreatGKa
set_option linter.unusedVariables false
set_option maxRecDepth 10000
set_option maxHeartbeats 8000000
namespace Go.Proofs.YtcnndoefgjbmiaaGreat.pm
open Go.RowKit
theorem mwithin_any (a b : Int) (w : World) :
 Calls Tryz.prog 66 #[.int .i64 a, .int .i64 b] w fun e w' => e = .returned (.bool (inB a b)) ∧ w = w' := by
 by_cases h0 : 0 ≤ a
 · have HI : Hid (inB a b = decide (a < b)) := hQ (by unfold inB; simp [h0])
   go_enter Tryz.func66, Tryz.ntmps66
   go_wp2
   go_ret
   exact ⟨ret_bool (by rw [HI.out]), rfl⟩
 · have HI : Hid (inB a b = false) := hQ (inB_f.2 (by omega))
   go_enter Tryz.func66, Tryz.ntmps66
   go_wp2
   go_ret
   exact ⟨ret_bool (by rw [HI.out]), rfl⟩
theorem memory_any (op : Int) (w : World) : Calls Tryz.prog 95 #[.int .i64 op] w fun e w' => e = .returned (.bool (memB op)) ∧ w = w' := by
 have HI : Hid (memB op = (op == 15 || op == 16 || op == 17)) := hQ rfl
 go_enter Tryz.func95, Tryz.ntmps95
 go_wp2
 all_goals
  go_ret
  exact ⟨ret_bool (by rw [HI.out] <;> simp [*]), rfl⟩
theorem unused_mem (op a b c im : Int) (hop : op = 15 ∨ op = 16 ∨ op = 17) (w : World) : Calls Tryz.prog 91 #[.agg #[.int .i64 op, .int .i64 a, .int .i64 b, .int .i64 c, .int .u64 im]] w fun e w' => e = .returned (.bool (unB ⟨op, a, b, c, im⟩)) ∧ Below w.heap.size w w' := by
 have HI : Hid (∀ a b c im : Int, unB ⟨op, a, b, c, im⟩ = ((im != 0 && !(op == 0 || op == 24)) || (decide (3 < 3) && c != 0) || (decide (3 < 2) && b != 0) || (decide (3 < 1) && a != 0))) := hQ (fun a b c im => by
  have h : opN op = 3 := by unfold opN; rw [if_pos (by omega)]
  unfold unB
  rw [h])
 have e0 : (op == 0) = false := by rw [beq_eq_false_iff_ne]; omega
 have e24 : (op == 24) = false := by rw [beq_eq_false_iff_ne]; omega
 have e13 : (op == 13) = false := by rw [beq_eq_false_iff_ne]; omega
 have e14 : (op == 14) = false := by rw [beq_eq_false_iff_ne]; omega
 have e20 : (op == 20) = false := by rw [beq_eq_false_iff_ne]; omega
 have e22 : (op == 22) = false := by rw [beq_eq_false_iff_ne]; omega
 have e23 : (op == 23) = false := by rw [beq_eq_false_iff_ne]; omega
 have hm : memB op = true := by unfold memB; simp; omega
 have HJ := HI.out
 clear HI
 simp only [e0, e24] at HJ
 have HI := hQ HJ
 clear HJ
 have HM : Hid (∀ W : World, Calls Tryz.prog 95 #[.int .i64 (op)] W fun e w' => e = .returned (.bool true) ∧ W = w') := hQ (fun W => hm ▸ memory_any op W)
 clear hm
 go_enter Tryz.func91, Tryz.ntmps91
 go_wp2_with fail
 refine (HM.out _).mono ?_
 rintro e w1 ⟨rfl, rfl⟩
 go_wp2
 all_goals
  go_ret
  exact ⟨ret_bool (by rw [HI.out] <;> simp [*]), bR.alloc nL _⟩
theorem unused_ar (op a b c im : Int) (hop : 2 ≤ op ∧ op ≤ 11) (w : World) : Calls Tryz.prog 91 #[.agg #[.int .i64 op, .int .i64 a, .int .i64 b, .int .i64 c, .int .u64 im]] w fun e w' => e = .returned (.bool (unB ⟨op, a, b, c, im⟩)) ∧ Below w.heap.size w w' := by
 have HI : Hid (∀ a b c im : Int, unB ⟨op, a, b, c, im⟩ = ((im != 0 && !(op == 0 || op == 24)) || (decide (3 < 3) && c != 0) || (decide (3 < 2) && b != 0) || (decide (3 < 1) && a != 0))) := hQ (fun a b c im => by
  have h : opN op = 3 := by unfold opN; rw [if_pos (by omega)]
  unfold unB
  rw [h])
 have e0 : (op == 0) = false := by rw [beq_eq_false_iff_ne]; omega
 have e24 : (op == 24) = false := by rw [beq_eq_false_iff_ne]; omega
 have e13 : (op == 13) = false := by rw [beq_eq_false_iff_ne]; omega
 have e14 : (op == 14) = false := by rw [beq_eq_false_iff_ne]; omega
 have e20 : (op == 20) = false := by rw [beq_eq_false_iff_ne]; omega
 have e22 : (op == 22) = false := by rw [beq_eq_false_iff_ne]; omega
 have e23 : (op == 23) = false := by rw [beq_eq_false_iff_ne]; omega
 have hm : memB op = false := by unfold memB; simp; omega
 have HJ := HI.out
 clear HI
 simp only [e0, e24] at HJ
 have HI := hQ HJ
 clear HJ
 have HM : Hid (∀ W : World, Calls Tryz.prog 95 #[.int .i64 (op)] W fun e w' => e = .returned (.bool false) ∧ W = w') := hQ (fun W => hm ▸ memory_any op W)
 clear hm
 obtain ⟨hop1, hop2⟩ := hop
 go_enter Tryz.func91, Tryz.ntmps91
 go_wp2_with fail
 refine (HM.out _).mono ?_
 rintro e w1 ⟨rfl, rfl⟩
 go_wp2
 all_goals
  go_ret
  exact ⟨ret_bool (by rw [HI.out] <;> simp [*]), bR.alloc nL _⟩
theorem unused_l0 (op a b c im : Int) (hop : op = 0) (w : World) : Calls Tryz.prog 91 #[.agg #[.int .i64 op, .int .i64 a, .int .i64 b, .int .i64 c, .int .u64 im]] w fun e w' => e = .returned (.bool (unB ⟨op, a, b, c, im⟩)) ∧ Below w.heap.size w w' := by
 subst hop
 have HI : Hid (∀ a b c im : Int, unB ⟨0, a, b, c, im⟩ = ((im != 0 && !(0 == 0 || 0 == 24)) || (decide (1 < 3) && c != 0) || (decide (1 < 2) && b != 0) || (decide (1 < 1) && a != 0))) := hQ (fun a b c im => by
  have h : opN 0 = 1 := by unfold opN; rfl
  unfold unB
  rw [h]
  rfl)
 have hm : memB 0 = false := by unfold memB; rfl
 have HM : Hid (∀ W : World, Calls Tryz.prog 95 #[.int .i64 (0)] W fun e w' => e = .returned (.bool false) ∧ W = w') := hQ (fun W => hm ▸ memory_any 0 W)
 clear hm
 go_enter Tryz.func91, Tryz.ntmps91
 go_wp2_with fail
 refine (HM.out _).mono ?_
 rintro e w1 ⟨rfl, rfl⟩
 go_wp2
 all_goals
  go_ret
  exact ⟨ret_bool (by rw [HI.out] <;> simp [*]), bR.alloc nL _⟩
theorem unused_l13 (op a b c im : Int) (hop : op = 13) (w : World) : Calls Tryz.prog 91 #[.agg #[.int .i64 op, .int .i64 a, .int .i64 b, .int .i64 c, .int .u64 im]] w fun e w' => e = .returned (.bool (unB ⟨op, a, b, c, im⟩)) ∧ Below w.heap.size w w' := by
 subst hop
 have HI : Hid (∀ a b c im : Int, unB ⟨13, a, b, c, im⟩ = ((im != 0 && !(13 == 0 || 13 == 24)) || (decide (1 < 3) && c != 0) || (decide (1 < 2) && b != 0) || (decide (1 < 1) && a != 0))) := hQ (fun a b c im => by
  have h : opN 13 = 1 := by unfold opN; rfl
  unfold unB
  rw [h]
  rfl)
 have hm : memB 13 = false := by unfold memB; rfl
 have HM : Hid (∀ W : World, Calls Tryz.prog 95 #[.int .i64 (13)] W fun e w' => e = .returned (.bool false) ∧ W = w') := hQ (fun W => hm ▸ memory_any 13 W)
 clear hm
 go_enter Tryz.func91, Tryz.ntmps91
 go_wp2_with fail
 refine (HM.out _).mono ?_
 rintro e w1 ⟨rfl, rfl⟩
 go_wp2
 all_goals
  go_ret
  exact ⟨ret_bool (by rw [HI.out] <;> simp [*]), bR.alloc nL _⟩
theorem unused_l14 (op a b c im : Int) (hop : op = 14) (w : World) : Calls Tryz.prog 91 #[.agg #[.int .i64 op, .int .i64 a, .int .i64 b, .int .i64 c, .int .u64 im]] w fun e w' => e = .returned (.bool (unB ⟨op, a, b, c, im⟩)) ∧ Below w.heap.size w w' := by
 subst hop
 have HI : Hid (∀ a b c im : Int, unB ⟨14, a, b, c, im⟩ = ((im != 0 && !(14 == 0 || 14 == 24)) || (decide (1 < 3) && c != 0) || (decide (1 < 2) && b != 0) || (decide (1 < 1) && a != 0))) := hQ (fun a b c im => by
  have h : opN 14 = 1 := by unfold opN; rfl
  unfold unB
  rw [h]
  rfl)
 have hm : memB 14 = false := by unfold memB; rfl
 have HM : Hid (∀ W : World, Calls Tryz.prog 95 #[.int .i64 (14)] W fun e w' => e = .returned (.bool false) ∧ W = w') := hQ (fun W => hm ▸ memory_any 14 W)
 clear hm
 go_enter Tryz.func91, Tryz.ntmps91
 go_wp2_with fail
 refine (HM.out _).mono ?_
 rintro e w1 ⟨rfl, rfl⟩
 go_wp2
 all_goals
  go_ret
  exact ⟨ret_bool (by rw [HI.out] <;> simp [*]), bR.alloc nL _⟩
theorem unused_l20 (op a b c im : Int) (hop : op = 20) (w : World) : Calls Tryz.prog 91 #[.agg #[.int .i64 op, .int .i64 a, .int .i64 b, .int .i64 c, .int .u64 im]] w fun e w' => e = .returned (.bool (unB ⟨op, a, b, c, im⟩)) ∧ Below w.heap.size w w' := by
 subst hop
 have HI : Hid (∀ a b c im : Int, unB ⟨20, a, b, c, im⟩ = ((im != 0 && !(20 == 0 || 20 == 24)) || (decide (1 < 3) && c != 0) || (decide (1 < 2) && b != 0) || (decide (1 < 1) && a != 0))) := hQ (fun a b c im => by
  have h : opN 20 = 1 := by unfold opN; rfl
  unfold unB
  rw [h]
  rfl)
 have hm : memB 20 = false := by unfold memB; rfl
 have HM : Hid (∀ W : World, Calls Tryz.prog 95 #[.int .i64 (20)] W fun e w' => e = .returned (.bool false) ∧ W = w') := hQ (fun W => hm ▸ memory_any 20 W)
 clear hm
 go_enter Tryz.func91, Tryz.ntmps91
 go_wp2_with fail
 refine (HM.out _).mono ?_
 rintro e w1 ⟨rfl, rfl⟩
 go_wp2
 all_goals
  go_ret
  exact ⟨ret_bool (by rw [HI.out] <;> simp [*]), bR.alloc nL _⟩
theorem unused_l22 (op a b c im : Int) (hop : op = 22) (w : World) : Calls Tryz.prog 91 #[.agg #[.int .i64 op, .int .i64 a, .int .i64 b, .int .i64 c, .int .u64 im]] w fun e w' => e = .returned (.bool (unB ⟨op, a, b, c, im⟩)) ∧ Below w.heap.size w w' := by
 subst hop
 have HI : Hid (∀ a b c im : Int, unB ⟨22, a, b, c, im⟩ = ((im != 0 && !(22 == 0 || 22 == 24)) || (decide (1 < 3) && c != 0) || (decide (1 < 2) && b != 0) || (decide (1 < 1) && a != 0))) := hQ (fun a b c im => by
  have h : opN 22 = 1 := by unfold opN; rfl
  unfold unB
  rw [h]
  rfl)
 have hm : memB 22 = false := by unfold memB; rfl
 have HM : Hid (∀ W : World, Calls Tryz.prog 95 #[.int .i64 (22)] W fun e w' => e = .returned (.bool false) ∧ W = w') := hQ (fun W => hm ▸ memory_any 22 W)
 clear hm
 go_enter Tryz.func91, Tryz.ntmps91
 go_wp2_with fail
 refine (HM.out _).mono ?_
 rintro e w1 ⟨rfl, rfl⟩
 go_wp2
 all_goals
  go_ret
  exact ⟨ret_bool (by rw [HI.out] <;> simp [*]), bR.alloc nL _⟩
theorem unused_l23 (op a b c im : Int) (hop : op = 23) (w : World) : Calls Tryz.prog 91 #[.agg #[.int .i64 op, .int .i64 a, .int .i64 b, .int .i64 c, .int .u64 im]] w fun e w' => e = .returned (.bool (unB ⟨op, a, b, c, im⟩)) ∧ Below w.heap.size w w' := by
 subst hop
 have HI : Hid (∀ a b c im : Int, unB ⟨23, a, b, c, im⟩ = ((im != 0 && !(23 == 0 || 23 == 24)) || (decide (0 < 3) && c != 0) || (decide (0 < 2) && b != 0) || (decide (0 < 1) && a != 0))) := hQ (fun a b c im => by
  have h : opN 23 = 0 := by unfold opN; rfl
  unfold unB
  rw [h]
  rfl)
 have hm : memB 23 = false := by unfold memB; rfl
 have HM : Hid (∀ W : World, Calls Tryz.prog 95 #[.int .i64 (23)] W fun e w' => e = .returned (.bool false) ∧ W = w') := hQ (fun W => hm ▸ memory_any 23 W)
 clear hm
 go_enter Tryz.func91, Tryz.ntmps91
 go_wp2_with fail
 refine (HM.out _).mono ?_
 rintro e w1 ⟨rfl, rfl⟩
 go_wp2
 all_goals
  go_ret
  exact ⟨ret_bool (by rw [HI.out] <;> simp [*]), bR.alloc nL _⟩
theorem unused_l24 (op a b c im : Int) (hop : op = 24) (w : World) : Calls Tryz.prog 91 #[.agg #[.int .i64 op, .int .i64 a, .int .i64 b, .int .i64 c, .int .u64 im]] w fun e w' => e = .returned (.bool (unB ⟨op, a, b, c, im⟩)) ∧ Below w.heap.size w w' := by
 subst hop
 have HI : Hid (∀ a b c im : Int, unB ⟨24, a, b, c, im⟩ = ((im != 0 && !(24 == 0 || 24 == 24)) || (decide (0 < 3) && c != 0) || (decide (0 < 2) && b != 0) || (decide (0 < 1) && a != 0))) := hQ (fun a b c im => by
  have h : opN 24 = 0 := by unfold opN; rfl
  unfold unB
  rw [h]
  rfl)
 have hm : memB 24 = false := by unfold memB; rfl
 have HM : Hid (∀ W : World, Calls Tryz.prog 95 #[.int .i64 (24)] W fun e w' => e = .returned (.bool false) ∧ W = w') := hQ (fun W => hm ▸ memory_any 24 W)
 clear hm
 go_enter Tryz.func91, Tryz.ntmps91
 go_wp2_with fail
 refine (HM.out _).mono ?_
 rintro e w1 ⟨rfl, rfl⟩
 go_wp2
 all_goals
  go_ret
  exact ⟨ret_bool (by rw [HI.out] <;> simp [*]), bR.alloc nL _⟩
theorem unused_no (op a b c im : Int) (hop : (op < 0 ∨ op = 1 ∨ op = 12 ∨ op = 18 ∨ op = 19 ∨ op = 21 ∨ 25 ≤ op) ∧ ¬ op = 22) (w : World) : Calls Tryz.prog 91 #[.agg #[.int .i64 op, .int .i64 a, .int .i64 b, .int .i64 c, .int .u64 im]] w fun e w' => e = .returned (.bool (unB ⟨op, a, b, c, im⟩)) ∧ Below w.heap.size w w' := by
 have HI : Hid (∀ a b c im : Int, unB ⟨op, a, b, c, im⟩ = ((im != 0 && !(op == 0 || op == 24)) || (decide (2 < 3) && c != 0) || (decide (2 < 2) && b != 0) || (decide (2 < 1) && a != 0))) := hQ (fun a b c im => by
  have h : opN op = 2 := by unfold opN; rw [if_neg (by omega), if_neg (by omega), if_neg (by omega)]
  unfold unB
  rw [h])
 have e0 : (op == 0) = false := by rw [beq_eq_false_iff_ne]; omega
 have e24 : (op == 24) = false := by rw [beq_eq_false_iff_ne]; omega
 have e13 : (op == 13) = false := by rw [beq_eq_false_iff_ne]; omega
 have e14 : (op == 14) = false := by rw [beq_eq_false_iff_ne]; omega
 have e20 : (op == 20) = false := by rw [beq_eq_false_iff_ne]; omega
 have e22 : (op == 22) = false := by rw [beq_eq_false_iff_ne]; omega
 have e23 : (op == 23) = false := by rw [beq_eq_false_iff_ne]; omega
 have hm : memB op = false := by unfold memB; simp; omega
 have HJ := HI.out
 clear HI
 simp only [e0, e24] at HJ
 have HI := hQ HJ
 clear HJ
 have HM : Hid (∀ W : World, Calls Tryz.prog 95 #[.int .i64 (op)] W fun e w' => e = .returned (.bool false) ∧ W = w') := hQ (fun W => hm ▸ memory_any op W)
 clear hm
 have a1 : ¬ (2 ≤ op ∧ op ≤ 11) := by omega
 obtain ⟨hop1, hop2⟩ := hop
 go_enter Tryz.func91, Tryz.ntmps91
 go_wp2_with fail
 refine (HM.out _).mono ?_
 rintro e w1 ⟨rfl, rfl⟩
 go_wp2
 all_goals
  go_ret
  exact ⟨ret_bool (by rw [HI.out] <;> simp [*]), bR.alloc nL _⟩
theorem unused_any (x : Ins) (w : World) : Calls Tryz.prog 91 #[insV x] w fun e w' => e = .returned (.bool (unB x)) ∧ Below w.heap.size w w' := by
 obtain ⟨op, a, b, c, im⟩ := x
 by_cases h1 : op = 15 ∨ op = 16 ∨ op = 17
 · exact unused_mem op a b c im h1 w
 by_cases h2 : 2 ≤ op ∧ op ≤ 11
 · exact unused_ar op a b c im h2 w
 by_cases k0 : op = 0
 · exact unused_l0 op a b c im k0 w
 by_cases k13 : op = 13
 · exact unused_l13 op a b c im k13 w
 by_cases k14 : op = 14
 · exact unused_l14 op a b c im k14 w
 by_cases k20 : op = 20
 · exact unused_l20 op a b c im k20 w
 by_cases k22 : op = 22
 · exact unused_l22 op a b c im k22 w
 by_cases k23 : op = 23
 · exact unused_l23 op a b c im k23 w
 by_cases k24 : op = 24
 · exact unused_l24 op a b c im k24 w
 exact unused_no op a b c im ⟨by omega, k22⟩ w
def RegD (l : List Int) (w : World) (e : Ending) (w' : World) : Prop := ∃ A n c, e = .returned (.slice A n c) ∧ Reads w' w'.heap.size 1 A n (l.map (Value.int .i64)) ∧ l.length = n ∧ Below w.heap.size w w'
theorem registers_ar (op a b c im : Int) (hop : 2 ≤ op ∧ op ≤ 11) (w : World) : Calls Tryz.prog 93 #[.agg #[.int .i64 op, .int .i64 a, .int .i64 b, .int .i64 c, .int .u64 im]] w (RegD [a, b, c] w) := by
 obtain ⟨hop1, hop2⟩ := hop
 have e1 : ((op : Int) == 1) = false := by rw [beq_eq_false_iff_ne]; omega
 have e12 : ((op : Int) == 12) = false := by rw [beq_eq_false_iff_ne]; omega
 have e0 : ((op : Int) == 0) = false := by rw [beq_eq_false_iff_ne]; omega
 have e13 : ((op : Int) == 13) = false := by rw [beq_eq_false_iff_ne]; omega
 have e14 : ((op : Int) == 14) = false := by rw [beq_eq_false_iff_ne]; omega
 have e15 : ((op : Int) == 15) = false := by rw [beq_eq_false_iff_ne]; omega
 have e21 : ((op : Int) == 21) = false := by rw [beq_eq_false_iff_ne]; omega
 have e16 : ((op : Int) == 16) = false := by rw [beq_eq_false_iff_ne]; omega
 go_enter Tryz.func93, Tryz.ntmps93
 go_wp2
 all_goals
  go_ret
  have o1 := World.ownsRow_lit (base := w.heap.size) (e := 3) (size := 1) (w.alloc (.cells #[.int .i64 op, .int .i64 a, .int .i64 b, .int .i64 c, .int .u64 im] 50)) #[.int .i64 a, .int .i64 b, .int .i64 c] 3 (by simp) (by unfold maxLen; omega) rfl
  rw [show (w.alloc (.cells #[.int .i64 op, .int .i64 a, .int .i64 b, .int .i64 c, .int .u64 im] 50)).heap.size = w.heap.size + 1 by simp] at o1
  exact ⟨_, _, _, rfl, Reads.of_own o1, rfl, (bR.alloc nL _).alloc (by simp) _⟩
theorem registers_ab (op a b c im : Int) (hop : op = 1 ∨ op = 12) (w : World) : Calls Tryz.prog 93 #[.agg #[.int .i64 op, .int .i64 a, .int .i64 b, .int .i64 c, .int .u64 im]] w (RegD [a, b] w) := by
 have h2 : op < 2 ∨ 11 < op := by omega
 have e0 : ((op : Int) == 0) = false := by rw [beq_eq_false_iff_ne]; omega
 have e13 : ((op : Int) == 13) = false := by rw [beq_eq_false_iff_ne]; omega
 have e14 : ((op : Int) == 14) = false := by rw [beq_eq_false_iff_ne]; omega
 have e15 : ((op : Int) == 15) = false := by rw [beq_eq_false_iff_ne]; omega
 have e21 : ((op : Int) == 21) = false := by rw [beq_eq_false_iff_ne]; omega
 have e16 : ((op : Int) == 16) = false := by rw [beq_eq_false_iff_ne]; omega
 go_enter Tryz.func93, Tryz.ntmps93
 go_wp2
 all_goals
  go_ret
  have o1 := World.ownsRow_lit (base := w.heap.size) (e := 3) (size := 1) (w.alloc (.cells #[.int .i64 op, .int .i64 a, .int .i64 b, .int .i64 c, .int .u64 im] 50)) #[.int .i64 a, .int .i64 b] 2 (by simp) (by unfold maxLen; omega) rfl
  rw [show (w.alloc (.cells #[.int .i64 op, .int .i64 a, .int .i64 b, .int .i64 c, .int .u64 im] 50)).heap.size = w.heap.size + 1 by simp] at o1
  exact ⟨_, _, _, rfl, Reads.of_own o1, rfl, (bR.alloc nL _).alloc (by simp) _⟩
theorem registers_a (op a b c im : Int) (hop : op = 0 ∨ op = 13 ∨ op = 14 ∨ op = 15 ∨ op = 21) (w : World) : Calls Tryz.prog 93 #[.agg #[.int .i64 op, .int .i64 a, .int .i64 b, .int .i64 c, .int .u64 im]] w (RegD [a] w) := by
 have h2 : op < 2 ∨ 11 < op := by omega
 have e1 : ((op : Int) == 1) = false := by rw [beq_eq_false_iff_ne]; omega
 have e12 : ((op : Int) == 12) = false := by rw [beq_eq_false_iff_ne]; omega
 have e16 : ((op : Int) == 16) = false := by rw [beq_eq_false_iff_ne]; omega
 go_enter Tryz.func93, Tryz.ntmps93
 go_wp2
 all_goals
  go_ret
  have o1 := World.ownsRow_lit (base := w.heap.size) (e := 3) (size := 1) (w.alloc (.cells #[.int .i64 op, .int .i64 a, .int .i64 b, .int .i64 c, .int .u64 im] 50)) #[.int .i64 a] 1 (by simp) (by unfold maxLen; omega) rfl
  rw [show (w.alloc (.cells #[.int .i64 op, .int .i64 a, .int .i64 b, .int .i64 c, .int .u64 im] 50)).heap.size = w.heap.size + 1 by simp] at o1
  exact ⟨_, _, _, rfl, Reads.of_own o1, rfl, (bR.alloc nL _).alloc (by simp) _⟩
theorem registers_b (op a b c im : Int) (hop : op = 16) (w : World) : Calls Tryz.prog 93 #[.agg #[.int .i64 op, .int .i64 a, .int .i64 b, .int .i64 c, .int .u64 im]] w (RegD [b] w) := by
 subst hop
 have h2 : 16 < 2 ∨ 11 < 16 := by omega
 have e1 : ((16 : Int) == 1) = false := by rw [beq_eq_false_iff_ne]; omega
 have e12 : ((16 : Int) == 12) = false := by rw [beq_eq_false_iff_ne]; omega
 have e0 : ((16 : Int) == 0) = false := by rw [beq_eq_false_iff_ne]; omega
 have e13 : ((16 : Int) == 13) = false := by rw [beq_eq_false_iff_ne]; omega
 have e14 : ((16 : Int) == 14) = false := by rw [beq_eq_false_iff_ne]; omega
 have e15 : ((16 : Int) == 15) = false := by rw [beq_eq_false_iff_ne]; omega
 have e21 : ((16 : Int) == 21) = false := by rw [beq_eq_false_iff_ne]; omega
 go_enter Tryz.func93, Tryz.ntmps93
 go_wp2
 all_goals
  go_ret
  have o1 := World.ownsRow_lit (base := w.heap.size) (e := 3) (size := 1) (w.alloc (.cells #[.int .i64 16, .int .i64 a, .int .i64 b, .int .i64 c, .int .u64 im] 50)) #[.int .i64 b] 1 (by simp) (by unfold maxLen; omega) rfl
  rw [show (w.alloc (.cells #[.int .i64 16, .int .i64 a, .int .i64 b, .int .i64 c, .int .u64 im] 50)).heap.size = w.heap.size + 1 by simp] at o1
  exact ⟨_, _, _, rfl, Reads.of_own o1, rfl, (bR.alloc nL _).alloc (by simp) _⟩
theorem registers_no (op a b c im : Int) (hop : (op < 0 ∨ 16 < op) ∧ ¬ op = 21) (w : World) : Calls Tryz.prog 93 #[.agg #[.int .i64 op, .int .i64 a, .int .i64 b, .int .i64 c, .int .u64 im]] w (RegD [] w) := by
 have h2 : op < 2 ∨ 11 < op := by omega
 have e1 : ((op : Int) == 1) = false := by rw [beq_eq_false_iff_ne]; omega
 have e12 : ((op : Int) == 12) = false := by rw [beq_eq_false_iff_ne]; omega
 have e0 : ((op : Int) == 0) = false := by rw [beq_eq_false_iff_ne]; omega
 have e13 : ((op : Int) == 13) = false := by rw [beq_eq_false_iff_ne]; omega
 have e14 : ((op : Int) == 14) = false := by rw [beq_eq_false_iff_ne]; omega
 have e15 : ((op : Int) == 15) = false := by rw [beq_eq_false_iff_ne]; omega
 have e21 : ((op : Int) == 21) = false := by rw [beq_eq_false_iff_ne]; omega
 have e16 : ((op : Int) == 16) = false := by rw [beq_eq_false_iff_ne]; omega
 go_enter Tryz.func93, Tryz.ntmps93
 go_wp2
 all_goals
  go_ret
  exact ⟨_, _, _, rfl, Reads.none_, rfl, bR.alloc nL _⟩
theorem registers_any (x : Ins) (w : World) : Calls Tryz.prog 93 #[insV x] w (RegD (regL x) w) := by
 obtain ⟨op, a, b, c, im⟩ := x
 unfold regL insV
 split
 · exact registers_ar op a b c im (by assumption) w
 · split
   · exact registers_ab op a b c im (by assumption) w
   · split
     · exact registers_a op a b c im (by assumption) w
     · split
       · exact registers_b op a b c im (by assumption) w
       · exact registers_no op a b c im (by simp only at *; omega) w
theorem instr1_any (r : Int) (w : World) : Calls Tryz.prog 94 #[.int .i64 r] w fun e w' => e = .returned (.bool (!inB r 8)) ∧ w = w' := by
 go_enter Tryz.func94, Tryz.ntmps94
 go_wp2_with fail
 refine (mwithin_any _ _ _).mono ?_
 rintro e w1 ⟨rfl, rfl⟩
 go_wp2
 go_ret
 exact ⟨rfl, rfl⟩
def badI (l : List Int) (r : Int) : Prop := (outB l = true → 0 ≤ r) ∧ (outB l = false → r = -1)
theorem index_ints (A : Option Addr) (n c : Nat) (l : List Int) (w : World) (h : Reads w w.heap.size 1 A n (l.map (Value.int .i64))) (hl : l.length = n) (hn : n ≤ 3) :
 Calls Tryz.prog 121 #[.slice A n c, .func (.func 94) #[] #[]] w fun e w' => ∃ r, e = .returned (.int .i64 r) ∧ badI l r ∧ w = w' := by
 have HR := hQ h
 clear h
 go_enter Tryz.func121, Tryz.ntmps121
 go_wp2
 go_loop [8] (fun v => ∃ k : Nat, k ≤ n ∧ v = .int .i64 k ∧ Hid (∀ j, j < k → inB (l.getD j 0) 8 = true)) (fun v => n - (intOf v).toNat)
 case atStart => exact ⟨0, by omega, rfl, hQ (fun j hj => by omega)⟩
 case round =>
  obtain ⟨k, hk, rfl, HZ⟩ := hrel
  have hk0 : (0 : Int) ≤ (k : Int) := by omega
  by_cases hlt : k < n
  · have hki : (k : Int) < (n : Int) := by omega
    obtain ⟨ad, rfl, hbl, hc⟩ := HR.out.2 (by omega)
    have c0 := hc k (.int .i64 (l.getD k 0)) (by rw [List.getElem?_map, List.getD_eq_getElem?_getD, List.getElem?_eq_getElem (by omega)]; rfl)
    obtain ⟨r, hr⟩ : ∃ r, r = l.getD k 0 := ⟨_, rfl⟩
    rw [← hr] at c0
    have HRR := hQ hr
    clear hr hc
    have c0' : w.cell? (ad.add (k * 1)) = some (.int .i64 r) := by rw [Nat.mul_one]; exact c0
    go_wp2_with fail
    refine (instr1_any _ _).mono ?_
    rintro e w1 ⟨rfl, rfl⟩
    rcases hb : inB r 8 with _ | _
    · have HB : Hid (outB l = true) := hQ (by
       unfold outB
       refine List.any_eq_true.2 ⟨r, ?_, by rw [hb]; rfl⟩
       rw [HRR.out]
       exact getD_mem' (by omega))
      clear hb HZ
      go_wp2
      go_ret
      exact ⟨_, rfl, ⟨fun _ => hk0, fun h => by rw [HB.out] at h; cases h⟩, rfl⟩
    · have HZ' : Hid (∀ j, j < k + 1 → inB (l.getD j 0) 8 = true) := hQ (fun j hj => by
       rcases Nat.lt_or_ge j k with h | h
       · exact HZ.out j h
       · obtain rfl : j = k := by omega
         rw [← HRR.out]; exact hb)
      clear hb HZ HRR
      go_wp2
      go_round
      case rel => exact ⟨k + 1, by omega, by go_num, HZ'⟩
      case measure => simp [intOf]; omega
  · obtain rfl : k = n := by omega
    have HB : Hid (outB l = false) := hQ (by
     unfold outB
     refine List.any_eq_false.2 (fun r hr => ?_)
     obtain ⟨j, hj, rfl⟩ := List.mem_iff_getElem.1 hr
     have := HZ.out j (by omega)
     rw [List.getD_eq_getElem?_getD, List.getElem?_eq_getElem hj, Option.getD_some] at this
     rw [this]
     simp)
    clear HZ
    go_wp2
    go_ret
    exact ⟨-1, rfl, ⟨fun h => (by rw [HB.out] at h; cases h), fun _ => rfl⟩, rfl⟩
theorem contains_ints (A : Option Addr) (n c : Nat) (l : List Int) (w : World) (h : Reads w w.heap.size 1 A n (l.map (Value.int .i64))) (hl : l.length = n) (hn : n ≤ 3) :
 Calls Tryz.prog 92 #[.slice A n c, .func (.func 94) #[] #[]] w fun e w' => e = .returned (.bool (outB l)) ∧ w = w' := by
 have HC := hQ (index_ints A n c l w h hl hn)
 clear h
 go_enter Tryz.func92, Tryz.ntmps92
 go_wp2_with fail
 refine HC.out.mono ?_
 rintro e w1 ⟨r, rfl, hb, rfl⟩
 rcases ho : outB l with _ | _
 · have h1 : r = -1 := hb.2 ho
   subst h1
   have HO := hQ ho
   clear ho hb
   go_wp2
   go_ret
   exact ⟨ret_bool (by rw [HO.out]), rfl⟩
 · have h1 : 0 ≤ r := hb.1 ho
   have HO := hQ ho
   clear ho hb
   go_wp2
   go_ret
   exact ⟨ret_bool (by rw [HO.out]), rfl⟩
def rdP (x : Ins) : Int × Int × Bool := if x.op = 15 ∨ x.op = 17 then (x.b, x.c, true) else (0, 0, false)
def wrP (x : Ins) : Int × Int × Bool := if x.op = 16 ∨ x.op = 17 then (x.a, x.c, true) else (0, 0, false)
abbrev retP (r : Int × Int × Bool) : Ending := .returned (.tuple #[.agg #[.int .i64 r.1, .int .i64 r.2.1], .bool r.2.2])
theorem mreads_any (fp fs fc : Value) (x : Ins) (w : World) :
 Calls Tryz.prog 96 #[.agg #[fp, fs, fc], insV x] w fun e w' => e = retP (rdP x) ∧ Below w.heap.size w w' := by
 obtain ⟨op, a, b, c, im⟩ := x
 have R : Hid (rdP ⟨op, a, b, c, im⟩ = if op = 15 ∨ op = 17 then (b, c, true) else (0, 0, false)) := hQ rfl
 unfold insV
 go_enter Tryz.func96, Tryz.ntmps96
 go_wp2
 all_goals go_returns
 all_goals (refine ⟨?_, by go_grown⟩; rw [R.out]; simp_all [retP])
theorem mwrites_any (fp fs fc : Value) (x : Ins) (w : World) :
 Calls Tryz.prog 97 #[.agg #[fp, fs, fc], insV x] w fun e w' => e = retP (wrP x) ∧ Below w.heap.size w w' := by
 obtain ⟨op, a, b, c, im⟩ := x
 have R : Hid (wrP ⟨op, a, b, c, im⟩ = if op = 16 ∨ op = 17 then (a, c, true) else (0, 0, false)) := hQ rfl
 unfold insV
 go_enter Tryz.func97, Tryz.ntmps97
 go_wp2
 all_goals go_returns
 all_goals (refine ⟨?_, by go_grown⟩; rw [R.out]; simp_all [retP])
theorem bound_any (n : Int) (w : World) : Calls Tryz.prog 131 #[.int .i64 n] w fun e w' => e = .returned (.bool (bndB n)) ∧ w = w' := by
 by_cases h0 : 0 ≤ n
 · have HI : Hid (bndB n = decide (n ≤ 2147483647)) := hQ (by unfold bndB inB; rw [Bool.eq_iff_iff]; simp; omega)
   go_enter Tryz.func131, Tryz.ntmps131
   go_wp2
   go_ret
   exact ⟨ret_bool (by rw [HI.out]), rfl⟩
 · have HI : Hid (bndB n = false) := hQ (inB_f.2 (by omega))
   go_enter Tryz.func131, Tryz.ntmps131
   go_wp2
   go_ret
   exact ⟨ret_bool (by rw [HI.out]), rfl⟩
def rgtB (o s : Int) : Bool := bndB o && bndB s && decide (o + s ≤ 2147483647)
theorem rgtB_t {o s : Int} (h : rgtB o s = true) : 0 ≤ o ∧ o ≤ 2147483647 ∧ 0 ≤ s ∧ s ≤ 2147483647 := by
 unfold rgtB bndB inB at h
 simp at h
 omega
theorem right_ext (o s : Int) (w : World) : Calls Tryz.prog 122 #[.agg #[.int .i64 o, .int .i64 s]] w fun e w' => e = .returned (.bool (rgtB o s)) ∧ Below w.heap.size w w' := by
 have HI : Hid (rgtB o s = (bndB o && bndB s && decide (o + s ≤ 2147483647))) := hQ rfl
 rcases ho : bndB o with _ | _
 · have HO := hQ ho
   clear ho
   go_enter Tryz.func122, Tryz.ntmps122
   go_wp2_with fail
   refine (bound_any _ _).mono ?_
   rintro e w1 ⟨rfl, rfl⟩
   rw [HO.out]
   go_wp2
   go_ret
   exact ⟨ret_bool (by rw [HI.out, HO.out]; rfl), bR.alloc nL _⟩
 · rcases hs : bndB s with _ | _
   · have HO := hQ ho
     have HS := hQ hs
     clear ho hs
     go_enter Tryz.func122, Tryz.ntmps122
     go_wp2_with fail
     refine (bound_any _ _).mono ?_
     rintro e w1 ⟨rfl, rfl⟩
     rw [HO.out]
     go_wp2_with fail
     refine (bound_any _ _).mono ?_
     rintro e w1 ⟨rfl, rfl⟩
     rw [HS.out]
     go_wp2
     go_ret
     exact ⟨ret_bool (by rw [HI.out, HO.out, HS.out]; rfl), bR.alloc nL _⟩
   · have ho1 := inB_t.1 ho
     have hs1 := inB_t.1 hs
     obtain ⟨n1, n2⟩ := ho1
     obtain ⟨n3, n4⟩ := hs1
     have HO := hQ ho
     have HS := hQ hs
     clear ho hs
     go_enter Tryz.func122, Tryz.ntmps122
     go_wp2_with fail
     refine (bound_any _ _).mono ?_
     rintro e w1 ⟨rfl, rfl⟩
     rw [HO.out]
     go_wp2_with fail
     refine (bound_any _ _).mono ?_
     rintro e w1 ⟨rfl, rfl⟩
     rw [HS.out]
     go_wp2
     go_ret
     exact ⟨ret_bool (by rw [HI.out, HO.out, HS.out]; rfl), bR.alloc nL _⟩
theorem inside_any (o s size : Int) (w : World) : Calls Tryz.prog 98 #[.agg #[.int .i64 o, .int .i64 s], .int .i64 size] w fun e w' => e = .returned (.bool (insB o s size)) ∧ Below w.heap.size w w' := by
 have HI : Hid (insB o s size = (rgtB o s && decide (o + s ≤ size))) := hQ rfl
 rcases hr : rgtB o s with _ | _
 · have HO := hQ hr
   clear hr
   go_enter Tryz.func98, Tryz.ntmps98
   go_wp2_with fail
   refine (right_ext _ _ _).mono ?_
   rintro e w1 ⟨rfl, bel⟩
   have HB := hQ (((Below.refl w.heap.size w).alloc nL _).trans (bel.mono (by simp)))
   clear bel
   rw [HO.out]
   go_wp2
   go_ret
   exact ⟨ret_bool (by rw [HI.out, HO.out]; rfl), HB.out⟩
 · obtain ⟨n1, n2, n3, n4⟩ := rgtB_t hr
   have HO := hQ hr
   clear hr
   go_enter Tryz.func98, Tryz.ntmps98
   go_wp2_with fail
   refine (right_ext _ _ _).mono ?_
   rintro e w1 ⟨rfl, bel⟩
   have HB := hQ (((Below.refl w.heap.size w).alloc nL _).trans (bel.mono (by simp)))
   have hk := hQ ((Blk.new w 139 #[.int .i64 o, .int .i64 s]).after bel)
   clear bel
   obtain ⟨c0, c1, -, -, cz⟩ := hk.out.c2
   rw [HO.out]
   go_wp2
   go_ret
   exact ⟨ret_bool (by rw [HI.out, HO.out]; rfl), HB.out⟩
theorem regL_len (x : Ins) : (regL x).length ≤ 3 := by
 unfold regL
 split
 · simp
 · split
   · simp
   · split
     · simp
     · split <;> simp
end Go.Proofs.YtcnndoefgjbmiaaGreat.pm
