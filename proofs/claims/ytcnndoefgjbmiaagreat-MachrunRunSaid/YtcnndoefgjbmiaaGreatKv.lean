/- The reference of chapter 10: named. -/
import Derived.Test.YtcnndoefgjbmiaaGreatGKs
set_option linter.unusedVariables false
set_option maxRecDepth 10000
namespace Go.Proofs.YtcnndoefgjbmiaaGreat.pm
open Go.RowKit
def namB (nf : Nat) (x : Ins) : Bool := !(outB (regL x) || (x.op == 22 && !inB x.a nf))
theorem named_0 (al : Int) (A : Option Addr) (nf ct : Nat) (a b c im : Int) (w : World) :
 Calls Tryz.prog 107 #[.agg #[.int .i64 al, .slice A nf ct], .agg #[.int .i64 0, .int .i64 a, .int .i64 b, .int .i64 c, .int .u64 im]] w fun e w' => e = .returned (.bool (namB nf ⟨0, a, b, c, im⟩)) ∧ Below w.heap.size w w' := by
 have HE : Hid (namB nf ⟨0, a, b, c, im⟩ = (inB a 8)) := hQ (by first | (simp [namB, outB, regL]; done) | simp [namB, outB, regL, Bool.and_assoc])
 rw [HE.out]
 clear HE
 go_enter Tryz.func107, Tryz.ntmps107
 go_wp2_with fail
 refine (refwithin10_any _ _ _).mono ?_
 rintro e w1 ⟨rfl, rfl⟩
 go_wp2
 go_ret
 exact ⟨rfl, by go_grown⟩
theorem named_1 (al : Int) (A : Option Addr) (nf ct : Nat) (a b c im : Int) (w : World) :
 Calls Tryz.prog 107 #[.agg #[.int .i64 al, .slice A nf ct], .agg #[.int .i64 1, .int .i64 a, .int .i64 b, .int .i64 c, .int .u64 im]] w fun e w' => e = .returned (.bool (namB nf ⟨1, a, b, c, im⟩)) ∧ Below w.heap.size w w' := by
 have HE : Hid (namB nf ⟨1, a, b, c, im⟩ = (inB a 8 && inB b 8)) := hQ (by first | (simp [namB, outB, regL]; done) | simp [namB, outB, regL, Bool.and_assoc])
 rw [HE.out]
 clear HE
 have H0 := hQ (fun W => refwithin10_any a 8 W)
 rcases h0 : inB a 8 with _ | _
 · rw [h0] at H0
   clear h0
   go_enter Tryz.func107, Tryz.ntmps107
   go_wp2_with fail
   refine (H0.out _).mono ?_
   rintro e w1 ⟨rfl, rfl⟩
   go_wp2
   go_ret
   exact ⟨ret_bool (by simp), by go_grown⟩
 · rw [h0] at H0
   clear h0
   go_enter Tryz.func107, Tryz.ntmps107
   go_wp2_with fail
   refine (H0.out _).mono ?_
   rintro e w1 ⟨rfl, rfl⟩
   go_wp2_with fail
   refine (refwithin10_any _ _ _).mono ?_
   rintro e w1 ⟨rfl, rfl⟩
   go_wp2
   go_ret
   exact ⟨ret_bool (by simp), by go_grown⟩
theorem named_2 (al : Int) (A : Option Addr) (nf ct : Nat) (a b c im : Int) (w : World) :
 Calls Tryz.prog 107 #[.agg #[.int .i64 al, .slice A nf ct], .agg #[.int .i64 2, .int .i64 a, .int .i64 b, .int .i64 c, .int .u64 im]] w fun e w' => e = .returned (.bool (namB nf ⟨2, a, b, c, im⟩)) ∧ Below w.heap.size w w' := by
 have HE : Hid (namB nf ⟨2, a, b, c, im⟩ = (inB a 8 && inB b 8 && inB c 8)) := hQ (by first | (simp [namB, outB, regL]; done) | simp [namB, outB, regL, Bool.and_assoc])
 rw [HE.out]
 clear HE
 have H0 := hQ (fun W => refwithin10_any a 8 W)
 rcases h0 : inB a 8 with _ | _
 · rw [h0] at H0
   clear h0
   go_enter Tryz.func107, Tryz.ntmps107
   go_wp2_with fail
   refine (H0.out _).mono ?_
   rintro e w1 ⟨rfl, rfl⟩
   go_wp2
   go_ret
   exact ⟨ret_bool (by simp), by go_grown⟩
 · rw [h0] at H0
   clear h0
   have H1 := hQ (fun W => refwithin10_any b 8 W)
   rcases h1 : inB b 8 with _ | _
   · rw [h1] at H1
     clear h1
     go_enter Tryz.func107, Tryz.ntmps107
     go_wp2_with fail
     refine (H0.out _).mono ?_
     rintro e w1 ⟨rfl, rfl⟩
     go_wp2_with fail
     refine (H1.out _).mono ?_
     rintro e w1 ⟨rfl, rfl⟩
     go_wp2
     go_ret
     exact ⟨ret_bool (by simp), by go_grown⟩
   · rw [h1] at H1
     clear h1
     go_enter Tryz.func107, Tryz.ntmps107
     go_wp2_with fail
     refine (H0.out _).mono ?_
     rintro e w1 ⟨rfl, rfl⟩
     go_wp2_with fail
     refine (H1.out _).mono ?_
     rintro e w1 ⟨rfl, rfl⟩
     go_wp2_with fail
     refine (refwithin10_any _ _ _).mono ?_
     rintro e w1 ⟨rfl, rfl⟩
     go_wp2
     go_ret
     exact ⟨ret_bool (by simp), by go_grown⟩
theorem named_3 (al : Int) (A : Option Addr) (nf ct : Nat) (a b c im : Int) (w : World) :
 Calls Tryz.prog 107 #[.agg #[.int .i64 al, .slice A nf ct], .agg #[.int .i64 3, .int .i64 a, .int .i64 b, .int .i64 c, .int .u64 im]] w fun e w' => e = .returned (.bool (namB nf ⟨3, a, b, c, im⟩)) ∧ Below w.heap.size w w' := by
 have HE : Hid (namB nf ⟨3, a, b, c, im⟩ = (inB a 8 && inB b 8 && inB c 8)) := hQ (by first | (simp [namB, outB, regL]; done) | simp [namB, outB, regL, Bool.and_assoc])
 rw [HE.out]
 clear HE
 have H0 := hQ (fun W => refwithin10_any a 8 W)
 rcases h0 : inB a 8 with _ | _
 · rw [h0] at H0
   clear h0
   go_enter Tryz.func107, Tryz.ntmps107
   go_wp2_with fail
   refine (H0.out _).mono ?_
   rintro e w1 ⟨rfl, rfl⟩
   go_wp2
   go_ret
   exact ⟨ret_bool (by simp), by go_grown⟩
 · rw [h0] at H0
   clear h0
   have H1 := hQ (fun W => refwithin10_any b 8 W)
   rcases h1 : inB b 8 with _ | _
   · rw [h1] at H1
     clear h1
     go_enter Tryz.func107, Tryz.ntmps107
     go_wp2_with fail
     refine (H0.out _).mono ?_
     rintro e w1 ⟨rfl, rfl⟩
     go_wp2_with fail
     refine (H1.out _).mono ?_
     rintro e w1 ⟨rfl, rfl⟩
     go_wp2
     go_ret
     exact ⟨ret_bool (by simp), by go_grown⟩
   · rw [h1] at H1
     clear h1
     go_enter Tryz.func107, Tryz.ntmps107
     go_wp2_with fail
     refine (H0.out _).mono ?_
     rintro e w1 ⟨rfl, rfl⟩
     go_wp2_with fail
     refine (H1.out _).mono ?_
     rintro e w1 ⟨rfl, rfl⟩
     go_wp2_with fail
     refine (refwithin10_any _ _ _).mono ?_
     rintro e w1 ⟨rfl, rfl⟩
     go_wp2
     go_ret
     exact ⟨ret_bool (by simp), by go_grown⟩
theorem named_4 (al : Int) (A : Option Addr) (nf ct : Nat) (a b c im : Int) (w : World) :
 Calls Tryz.prog 107 #[.agg #[.int .i64 al, .slice A nf ct], .agg #[.int .i64 4, .int .i64 a, .int .i64 b, .int .i64 c, .int .u64 im]] w fun e w' => e = .returned (.bool (namB nf ⟨4, a, b, c, im⟩)) ∧ Below w.heap.size w w' := by
 have HE : Hid (namB nf ⟨4, a, b, c, im⟩ = (inB a 8 && inB b 8 && inB c 8)) := hQ (by first | (simp [namB, outB, regL]; done) | simp [namB, outB, regL, Bool.and_assoc])
 rw [HE.out]
 clear HE
 have H0 := hQ (fun W => refwithin10_any a 8 W)
 rcases h0 : inB a 8 with _ | _
 · rw [h0] at H0
   clear h0
   go_enter Tryz.func107, Tryz.ntmps107
   go_wp2_with fail
   refine (H0.out _).mono ?_
   rintro e w1 ⟨rfl, rfl⟩
   go_wp2
   go_ret
   exact ⟨ret_bool (by simp), by go_grown⟩
 · rw [h0] at H0
   clear h0
   have H1 := hQ (fun W => refwithin10_any b 8 W)
   rcases h1 : inB b 8 with _ | _
   · rw [h1] at H1
     clear h1
     go_enter Tryz.func107, Tryz.ntmps107
     go_wp2_with fail
     refine (H0.out _).mono ?_
     rintro e w1 ⟨rfl, rfl⟩
     go_wp2_with fail
     refine (H1.out _).mono ?_
     rintro e w1 ⟨rfl, rfl⟩
     go_wp2
     go_ret
     exact ⟨ret_bool (by simp), by go_grown⟩
   · rw [h1] at H1
     clear h1
     go_enter Tryz.func107, Tryz.ntmps107
     go_wp2_with fail
     refine (H0.out _).mono ?_
     rintro e w1 ⟨rfl, rfl⟩
     go_wp2_with fail
     refine (H1.out _).mono ?_
     rintro e w1 ⟨rfl, rfl⟩
     go_wp2_with fail
     refine (refwithin10_any _ _ _).mono ?_
     rintro e w1 ⟨rfl, rfl⟩
     go_wp2
     go_ret
     exact ⟨ret_bool (by simp), by go_grown⟩
theorem named_5 (al : Int) (A : Option Addr) (nf ct : Nat) (a b c im : Int) (w : World) :
 Calls Tryz.prog 107 #[.agg #[.int .i64 al, .slice A nf ct], .agg #[.int .i64 5, .int .i64 a, .int .i64 b, .int .i64 c, .int .u64 im]] w fun e w' => e = .returned (.bool (namB nf ⟨5, a, b, c, im⟩)) ∧ Below w.heap.size w w' := by
 have HE : Hid (namB nf ⟨5, a, b, c, im⟩ = (inB a 8 && inB b 8 && inB c 8)) := hQ (by first | (simp [namB, outB, regL]; done) | simp [namB, outB, regL, Bool.and_assoc])
 rw [HE.out]
 clear HE
 have H0 := hQ (fun W => refwithin10_any a 8 W)
 rcases h0 : inB a 8 with _ | _
 · rw [h0] at H0
   clear h0
   go_enter Tryz.func107, Tryz.ntmps107
   go_wp2_with fail
   refine (H0.out _).mono ?_
   rintro e w1 ⟨rfl, rfl⟩
   go_wp2
   go_ret
   exact ⟨ret_bool (by simp), by go_grown⟩
 · rw [h0] at H0
   clear h0
   have H1 := hQ (fun W => refwithin10_any b 8 W)
   rcases h1 : inB b 8 with _ | _
   · rw [h1] at H1
     clear h1
     go_enter Tryz.func107, Tryz.ntmps107
     go_wp2_with fail
     refine (H0.out _).mono ?_
     rintro e w1 ⟨rfl, rfl⟩
     go_wp2_with fail
     refine (H1.out _).mono ?_
     rintro e w1 ⟨rfl, rfl⟩
     go_wp2
     go_ret
     exact ⟨ret_bool (by simp), by go_grown⟩
   · rw [h1] at H1
     clear h1
     go_enter Tryz.func107, Tryz.ntmps107
     go_wp2_with fail
     refine (H0.out _).mono ?_
     rintro e w1 ⟨rfl, rfl⟩
     go_wp2_with fail
     refine (H1.out _).mono ?_
     rintro e w1 ⟨rfl, rfl⟩
     go_wp2_with fail
     refine (refwithin10_any _ _ _).mono ?_
     rintro e w1 ⟨rfl, rfl⟩
     go_wp2
     go_ret
     exact ⟨ret_bool (by simp), by go_grown⟩
theorem named_6 (al : Int) (A : Option Addr) (nf ct : Nat) (a b c im : Int) (w : World) :
 Calls Tryz.prog 107 #[.agg #[.int .i64 al, .slice A nf ct], .agg #[.int .i64 6, .int .i64 a, .int .i64 b, .int .i64 c, .int .u64 im]] w fun e w' => e = .returned (.bool (namB nf ⟨6, a, b, c, im⟩)) ∧ Below w.heap.size w w' := by
 have HE : Hid (namB nf ⟨6, a, b, c, im⟩ = (inB a 8 && inB b 8 && inB c 8)) := hQ (by first | (simp [namB, outB, regL]; done) | simp [namB, outB, regL, Bool.and_assoc])
 rw [HE.out]
 clear HE
 have H0 := hQ (fun W => refwithin10_any a 8 W)
 rcases h0 : inB a 8 with _ | _
 · rw [h0] at H0
   clear h0
   go_enter Tryz.func107, Tryz.ntmps107
   go_wp2_with fail
   refine (H0.out _).mono ?_
   rintro e w1 ⟨rfl, rfl⟩
   go_wp2
   go_ret
   exact ⟨ret_bool (by simp), by go_grown⟩
 · rw [h0] at H0
   clear h0
   have H1 := hQ (fun W => refwithin10_any b 8 W)
   rcases h1 : inB b 8 with _ | _
   · rw [h1] at H1
     clear h1
     go_enter Tryz.func107, Tryz.ntmps107
     go_wp2_with fail
     refine (H0.out _).mono ?_
     rintro e w1 ⟨rfl, rfl⟩
     go_wp2_with fail
     refine (H1.out _).mono ?_
     rintro e w1 ⟨rfl, rfl⟩
     go_wp2
     go_ret
     exact ⟨ret_bool (by simp), by go_grown⟩
   · rw [h1] at H1
     clear h1
     go_enter Tryz.func107, Tryz.ntmps107
     go_wp2_with fail
     refine (H0.out _).mono ?_
     rintro e w1 ⟨rfl, rfl⟩
     go_wp2_with fail
     refine (H1.out _).mono ?_
     rintro e w1 ⟨rfl, rfl⟩
     go_wp2_with fail
     refine (refwithin10_any _ _ _).mono ?_
     rintro e w1 ⟨rfl, rfl⟩
     go_wp2
     go_ret
     exact ⟨ret_bool (by simp), by go_grown⟩
theorem named_7 (al : Int) (A : Option Addr) (nf ct : Nat) (a b c im : Int) (w : World) :
 Calls Tryz.prog 107 #[.agg #[.int .i64 al, .slice A nf ct], .agg #[.int .i64 7, .int .i64 a, .int .i64 b, .int .i64 c, .int .u64 im]] w fun e w' => e = .returned (.bool (namB nf ⟨7, a, b, c, im⟩)) ∧ Below w.heap.size w w' := by
 have HE : Hid (namB nf ⟨7, a, b, c, im⟩ = (inB a 8 && inB b 8 && inB c 8)) := hQ (by first | (simp [namB, outB, regL]; done) | simp [namB, outB, regL, Bool.and_assoc])
 rw [HE.out]
 clear HE
 have H0 := hQ (fun W => refwithin10_any a 8 W)
 rcases h0 : inB a 8 with _ | _
 · rw [h0] at H0
   clear h0
   go_enter Tryz.func107, Tryz.ntmps107
   go_wp2_with fail
   refine (H0.out _).mono ?_
   rintro e w1 ⟨rfl, rfl⟩
   go_wp2
   go_ret
   exact ⟨ret_bool (by simp), by go_grown⟩
 · rw [h0] at H0
   clear h0
   have H1 := hQ (fun W => refwithin10_any b 8 W)
   rcases h1 : inB b 8 with _ | _
   · rw [h1] at H1
     clear h1
     go_enter Tryz.func107, Tryz.ntmps107
     go_wp2_with fail
     refine (H0.out _).mono ?_
     rintro e w1 ⟨rfl, rfl⟩
     go_wp2_with fail
     refine (H1.out _).mono ?_
     rintro e w1 ⟨rfl, rfl⟩
     go_wp2
     go_ret
     exact ⟨ret_bool (by simp), by go_grown⟩
   · rw [h1] at H1
     clear h1
     go_enter Tryz.func107, Tryz.ntmps107
     go_wp2_with fail
     refine (H0.out _).mono ?_
     rintro e w1 ⟨rfl, rfl⟩
     go_wp2_with fail
     refine (H1.out _).mono ?_
     rintro e w1 ⟨rfl, rfl⟩
     go_wp2_with fail
     refine (refwithin10_any _ _ _).mono ?_
     rintro e w1 ⟨rfl, rfl⟩
     go_wp2
     go_ret
     exact ⟨ret_bool (by simp), by go_grown⟩
theorem named_8 (al : Int) (A : Option Addr) (nf ct : Nat) (a b c im : Int) (w : World) :
 Calls Tryz.prog 107 #[.agg #[.int .i64 al, .slice A nf ct], .agg #[.int .i64 8, .int .i64 a, .int .i64 b, .int .i64 c, .int .u64 im]] w fun e w' => e = .returned (.bool (namB nf ⟨8, a, b, c, im⟩)) ∧ Below w.heap.size w w' := by
 have HE : Hid (namB nf ⟨8, a, b, c, im⟩ = (inB a 8 && inB b 8 && inB c 8)) := hQ (by first | (simp [namB, outB, regL]; done) | simp [namB, outB, regL, Bool.and_assoc])
 rw [HE.out]
 clear HE
 have H0 := hQ (fun W => refwithin10_any a 8 W)
 rcases h0 : inB a 8 with _ | _
 · rw [h0] at H0
   clear h0
   go_enter Tryz.func107, Tryz.ntmps107
   go_wp2_with fail
   refine (H0.out _).mono ?_
   rintro e w1 ⟨rfl, rfl⟩
   go_wp2
   go_ret
   exact ⟨ret_bool (by simp), by go_grown⟩
 · rw [h0] at H0
   clear h0
   have H1 := hQ (fun W => refwithin10_any b 8 W)
   rcases h1 : inB b 8 with _ | _
   · rw [h1] at H1
     clear h1
     go_enter Tryz.func107, Tryz.ntmps107
     go_wp2_with fail
     refine (H0.out _).mono ?_
     rintro e w1 ⟨rfl, rfl⟩
     go_wp2_with fail
     refine (H1.out _).mono ?_
     rintro e w1 ⟨rfl, rfl⟩
     go_wp2
     go_ret
     exact ⟨ret_bool (by simp), by go_grown⟩
   · rw [h1] at H1
     clear h1
     go_enter Tryz.func107, Tryz.ntmps107
     go_wp2_with fail
     refine (H0.out _).mono ?_
     rintro e w1 ⟨rfl, rfl⟩
     go_wp2_with fail
     refine (H1.out _).mono ?_
     rintro e w1 ⟨rfl, rfl⟩
     go_wp2_with fail
     refine (refwithin10_any _ _ _).mono ?_
     rintro e w1 ⟨rfl, rfl⟩
     go_wp2
     go_ret
     exact ⟨ret_bool (by simp), by go_grown⟩
theorem named_9 (al : Int) (A : Option Addr) (nf ct : Nat) (a b c im : Int) (w : World) :
 Calls Tryz.prog 107 #[.agg #[.int .i64 al, .slice A nf ct], .agg #[.int .i64 9, .int .i64 a, .int .i64 b, .int .i64 c, .int .u64 im]] w fun e w' => e = .returned (.bool (namB nf ⟨9, a, b, c, im⟩)) ∧ Below w.heap.size w w' := by
 have HE : Hid (namB nf ⟨9, a, b, c, im⟩ = (inB a 8 && inB b 8 && inB c 8)) := hQ (by first | (simp [namB, outB, regL]; done) | simp [namB, outB, regL, Bool.and_assoc])
 rw [HE.out]
 clear HE
 have H0 := hQ (fun W => refwithin10_any a 8 W)
 rcases h0 : inB a 8 with _ | _
 · rw [h0] at H0
   clear h0
   go_enter Tryz.func107, Tryz.ntmps107
   go_wp2_with fail
   refine (H0.out _).mono ?_
   rintro e w1 ⟨rfl, rfl⟩
   go_wp2
   go_ret
   exact ⟨ret_bool (by simp), by go_grown⟩
 · rw [h0] at H0
   clear h0
   have H1 := hQ (fun W => refwithin10_any b 8 W)
   rcases h1 : inB b 8 with _ | _
   · rw [h1] at H1
     clear h1
     go_enter Tryz.func107, Tryz.ntmps107
     go_wp2_with fail
     refine (H0.out _).mono ?_
     rintro e w1 ⟨rfl, rfl⟩
     go_wp2_with fail
     refine (H1.out _).mono ?_
     rintro e w1 ⟨rfl, rfl⟩
     go_wp2
     go_ret
     exact ⟨ret_bool (by simp), by go_grown⟩
   · rw [h1] at H1
     clear h1
     go_enter Tryz.func107, Tryz.ntmps107
     go_wp2_with fail
     refine (H0.out _).mono ?_
     rintro e w1 ⟨rfl, rfl⟩
     go_wp2_with fail
     refine (H1.out _).mono ?_
     rintro e w1 ⟨rfl, rfl⟩
     go_wp2_with fail
     refine (refwithin10_any _ _ _).mono ?_
     rintro e w1 ⟨rfl, rfl⟩
     go_wp2
     go_ret
     exact ⟨ret_bool (by simp), by go_grown⟩
theorem named_10 (al : Int) (A : Option Addr) (nf ct : Nat) (a b c im : Int) (w : World) :
 Calls Tryz.prog 107 #[.agg #[.int .i64 al, .slice A nf ct], .agg #[.int .i64 10, .int .i64 a, .int .i64 b, .int .i64 c, .int .u64 im]] w fun e w' => e = .returned (.bool (namB nf ⟨10, a, b, c, im⟩)) ∧ Below w.heap.size w w' := by
 have HE : Hid (namB nf ⟨10, a, b, c, im⟩ = (inB a 8 && inB b 8 && inB c 8)) := hQ (by first | (simp [namB, outB, regL]; done) | simp [namB, outB, regL, Bool.and_assoc])
 rw [HE.out]
 clear HE
 have H0 := hQ (fun W => refwithin10_any a 8 W)
 rcases h0 : inB a 8 with _ | _
 · rw [h0] at H0
   clear h0
   go_enter Tryz.func107, Tryz.ntmps107
   go_wp2_with fail
   refine (H0.out _).mono ?_
   rintro e w1 ⟨rfl, rfl⟩
   go_wp2
   go_ret
   exact ⟨ret_bool (by simp), by go_grown⟩
 · rw [h0] at H0
   clear h0
   have H1 := hQ (fun W => refwithin10_any b 8 W)
   rcases h1 : inB b 8 with _ | _
   · rw [h1] at H1
     clear h1
     go_enter Tryz.func107, Tryz.ntmps107
     go_wp2_with fail
     refine (H0.out _).mono ?_
     rintro e w1 ⟨rfl, rfl⟩
     go_wp2_with fail
     refine (H1.out _).mono ?_
     rintro e w1 ⟨rfl, rfl⟩
     go_wp2
     go_ret
     exact ⟨ret_bool (by simp), by go_grown⟩
   · rw [h1] at H1
     clear h1
     go_enter Tryz.func107, Tryz.ntmps107
     go_wp2_with fail
     refine (H0.out _).mono ?_
     rintro e w1 ⟨rfl, rfl⟩
     go_wp2_with fail
     refine (H1.out _).mono ?_
     rintro e w1 ⟨rfl, rfl⟩
     go_wp2_with fail
     refine (refwithin10_any _ _ _).mono ?_
     rintro e w1 ⟨rfl, rfl⟩
     go_wp2
     go_ret
     exact ⟨ret_bool (by simp), by go_grown⟩
theorem named_11 (al : Int) (A : Option Addr) (nf ct : Nat) (a b c im : Int) (w : World) :
 Calls Tryz.prog 107 #[.agg #[.int .i64 al, .slice A nf ct], .agg #[.int .i64 11, .int .i64 a, .int .i64 b, .int .i64 c, .int .u64 im]] w fun e w' => e = .returned (.bool (namB nf ⟨11, a, b, c, im⟩)) ∧ Below w.heap.size w w' := by
 have HE : Hid (namB nf ⟨11, a, b, c, im⟩ = (inB a 8 && inB b 8 && inB c 8)) := hQ (by first | (simp [namB, outB, regL]; done) | simp [namB, outB, regL, Bool.and_assoc])
 rw [HE.out]
 clear HE
 have H0 := hQ (fun W => refwithin10_any a 8 W)
 rcases h0 : inB a 8 with _ | _
 · rw [h0] at H0
   clear h0
   go_enter Tryz.func107, Tryz.ntmps107
   go_wp2_with fail
   refine (H0.out _).mono ?_
   rintro e w1 ⟨rfl, rfl⟩
   go_wp2
   go_ret
   exact ⟨ret_bool (by simp), by go_grown⟩
 · rw [h0] at H0
   clear h0
   have H1 := hQ (fun W => refwithin10_any b 8 W)
   rcases h1 : inB b 8 with _ | _
   · rw [h1] at H1
     clear h1
     go_enter Tryz.func107, Tryz.ntmps107
     go_wp2_with fail
     refine (H0.out _).mono ?_
     rintro e w1 ⟨rfl, rfl⟩
     go_wp2_with fail
     refine (H1.out _).mono ?_
     rintro e w1 ⟨rfl, rfl⟩
     go_wp2
     go_ret
     exact ⟨ret_bool (by simp), by go_grown⟩
   · rw [h1] at H1
     clear h1
     go_enter Tryz.func107, Tryz.ntmps107
     go_wp2_with fail
     refine (H0.out _).mono ?_
     rintro e w1 ⟨rfl, rfl⟩
     go_wp2_with fail
     refine (H1.out _).mono ?_
     rintro e w1 ⟨rfl, rfl⟩
     go_wp2_with fail
     refine (refwithin10_any _ _ _).mono ?_
     rintro e w1 ⟨rfl, rfl⟩
     go_wp2
     go_ret
     exact ⟨ret_bool (by simp), by go_grown⟩
theorem named_12 (al : Int) (A : Option Addr) (nf ct : Nat) (a b c im : Int) (w : World) :
 Calls Tryz.prog 107 #[.agg #[.int .i64 al, .slice A nf ct], .agg #[.int .i64 12, .int .i64 a, .int .i64 b, .int .i64 c, .int .u64 im]] w fun e w' => e = .returned (.bool (namB nf ⟨12, a, b, c, im⟩)) ∧ Below w.heap.size w w' := by
 have HE : Hid (namB nf ⟨12, a, b, c, im⟩ = (inB a 8 && inB b 8)) := hQ (by first | (simp [namB, outB, regL]; done) | simp [namB, outB, regL, Bool.and_assoc])
 rw [HE.out]
 clear HE
 have H0 := hQ (fun W => refwithin10_any a 8 W)
 rcases h0 : inB a 8 with _ | _
 · rw [h0] at H0
   clear h0
   go_enter Tryz.func107, Tryz.ntmps107
   go_wp2_with fail
   refine (H0.out _).mono ?_
   rintro e w1 ⟨rfl, rfl⟩
   go_wp2
   go_ret
   exact ⟨ret_bool (by simp), by go_grown⟩
 · rw [h0] at H0
   clear h0
   go_enter Tryz.func107, Tryz.ntmps107
   go_wp2_with fail
   refine (H0.out _).mono ?_
   rintro e w1 ⟨rfl, rfl⟩
   go_wp2_with fail
   refine (refwithin10_any _ _ _).mono ?_
   rintro e w1 ⟨rfl, rfl⟩
   go_wp2
   go_ret
   exact ⟨ret_bool (by simp), by go_grown⟩
theorem named_13 (al : Int) (A : Option Addr) (nf ct : Nat) (a b c im : Int) (w : World) :
 Calls Tryz.prog 107 #[.agg #[.int .i64 al, .slice A nf ct], .agg #[.int .i64 13, .int .i64 a, .int .i64 b, .int .i64 c, .int .u64 im]] w fun e w' => e = .returned (.bool (namB nf ⟨13, a, b, c, im⟩)) ∧ Below w.heap.size w w' := by
 have HE : Hid (namB nf ⟨13, a, b, c, im⟩ = (inB a 8)) := hQ (by first | (simp [namB, outB, regL]; done) | simp [namB, outB, regL, Bool.and_assoc])
 rw [HE.out]
 clear HE
 go_enter Tryz.func107, Tryz.ntmps107
 go_wp2_with fail
 refine (refwithin10_any _ _ _).mono ?_
 rintro e w1 ⟨rfl, rfl⟩
 go_wp2
 go_ret
 exact ⟨rfl, by go_grown⟩
theorem named_14 (al : Int) (A : Option Addr) (nf ct : Nat) (a b c im : Int) (w : World) :
 Calls Tryz.prog 107 #[.agg #[.int .i64 al, .slice A nf ct], .agg #[.int .i64 14, .int .i64 a, .int .i64 b, .int .i64 c, .int .u64 im]] w fun e w' => e = .returned (.bool (namB nf ⟨14, a, b, c, im⟩)) ∧ Below w.heap.size w w' := by
 have HE : Hid (namB nf ⟨14, a, b, c, im⟩ = (inB a 8)) := hQ (by first | (simp [namB, outB, regL]; done) | simp [namB, outB, regL, Bool.and_assoc])
 rw [HE.out]
 clear HE
 go_enter Tryz.func107, Tryz.ntmps107
 go_wp2_with fail
 refine (refwithin10_any _ _ _).mono ?_
 rintro e w1 ⟨rfl, rfl⟩
 go_wp2
 go_ret
 exact ⟨rfl, by go_grown⟩
theorem named_15 (al : Int) (A : Option Addr) (nf ct : Nat) (a b c im : Int) (w : World) :
 Calls Tryz.prog 107 #[.agg #[.int .i64 al, .slice A nf ct], .agg #[.int .i64 15, .int .i64 a, .int .i64 b, .int .i64 c, .int .u64 im]] w fun e w' => e = .returned (.bool (namB nf ⟨15, a, b, c, im⟩)) ∧ Below w.heap.size w w' := by
 have HE : Hid (namB nf ⟨15, a, b, c, im⟩ = (inB a 8)) := hQ (by first | (simp [namB, outB, regL]; done) | simp [namB, outB, regL, Bool.and_assoc])
 rw [HE.out]
 clear HE
 go_enter Tryz.func107, Tryz.ntmps107
 go_wp2_with fail
 refine (refwithin10_any _ _ _).mono ?_
 rintro e w1 ⟨rfl, rfl⟩
 go_wp2
 go_ret
 exact ⟨rfl, by go_grown⟩
theorem named_16 (al : Int) (A : Option Addr) (nf ct : Nat) (a b c im : Int) (w : World) :
 Calls Tryz.prog 107 #[.agg #[.int .i64 al, .slice A nf ct], .agg #[.int .i64 16, .int .i64 a, .int .i64 b, .int .i64 c, .int .u64 im]] w fun e w' => e = .returned (.bool (namB nf ⟨16, a, b, c, im⟩)) ∧ Below w.heap.size w w' := by
 have HE : Hid (namB nf ⟨16, a, b, c, im⟩ = (inB b 8)) := hQ (by first | (simp [namB, outB, regL]; done) | simp [namB, outB, regL, Bool.and_assoc])
 rw [HE.out]
 clear HE
 go_enter Tryz.func107, Tryz.ntmps107
 go_wp2_with fail
 refine (refwithin10_any _ _ _).mono ?_
 rintro e w1 ⟨rfl, rfl⟩
 go_wp2
 go_ret
 exact ⟨rfl, by go_grown⟩
theorem named_17 (al : Int) (A : Option Addr) (nf ct : Nat) (a b c im : Int) (w : World) :
 Calls Tryz.prog 107 #[.agg #[.int .i64 al, .slice A nf ct], .agg #[.int .i64 17, .int .i64 a, .int .i64 b, .int .i64 c, .int .u64 im]] w fun e w' => e = .returned (.bool (namB nf ⟨17, a, b, c, im⟩)) ∧ Below w.heap.size w w' := by
 have HE : Hid (namB nf ⟨17, a, b, c, im⟩ = (true)) := hQ (by first | (simp [namB, outB, regL]; done) | simp [namB, outB, regL, Bool.and_assoc])
 rw [HE.out]
 clear HE
 go_enter Tryz.func107, Tryz.ntmps107
 go_wp2
 go_ret
 exact ⟨rfl, by go_grown⟩
theorem named_20 (al : Int) (A : Option Addr) (nf ct : Nat) (a b c im : Int) (w : World) :
 Calls Tryz.prog 107 #[.agg #[.int .i64 al, .slice A nf ct], .agg #[.int .i64 20, .int .i64 a, .int .i64 b, .int .i64 c, .int .u64 im]] w fun e w' => e = .returned (.bool (namB nf ⟨20, a, b, c, im⟩)) ∧ Below w.heap.size w w' := by
 have HE : Hid (namB nf ⟨20, a, b, c, im⟩ = (true)) := hQ (by first | (simp [namB, outB, regL]; done) | simp [namB, outB, regL, Bool.and_assoc])
 rw [HE.out]
 clear HE
 go_enter Tryz.func107, Tryz.ntmps107
 go_wp2
 go_ret
 exact ⟨rfl, by go_grown⟩
theorem named_21 (al : Int) (A : Option Addr) (nf ct : Nat) (a b c im : Int) (w : World) :
 Calls Tryz.prog 107 #[.agg #[.int .i64 al, .slice A nf ct], .agg #[.int .i64 21, .int .i64 a, .int .i64 b, .int .i64 c, .int .u64 im]] w fun e w' => e = .returned (.bool (namB nf ⟨21, a, b, c, im⟩)) ∧ Below w.heap.size w w' := by
 have HE : Hid (namB nf ⟨21, a, b, c, im⟩ = (inB a 8)) := hQ (by first | (simp [namB, outB, regL]; done) | simp [namB, outB, regL, Bool.and_assoc])
 rw [HE.out]
 clear HE
 go_enter Tryz.func107, Tryz.ntmps107
 go_wp2_with fail
 refine (refwithin10_any _ _ _).mono ?_
 rintro e w1 ⟨rfl, rfl⟩
 go_wp2
 go_ret
 exact ⟨rfl, by go_grown⟩
theorem named_22 (al : Int) (A : Option Addr) (nf ct : Nat) (a b c im : Int) (w : World) :
 Calls Tryz.prog 107 #[.agg #[.int .i64 al, .slice A nf ct], .agg #[.int .i64 22, .int .i64 a, .int .i64 b, .int .i64 c, .int .u64 im]] w fun e w' => e = .returned (.bool (namB nf ⟨22, a, b, c, im⟩)) ∧ Below w.heap.size w w' := by
 have HE : Hid (namB nf ⟨22, a, b, c, im⟩ = (inB a nf)) := hQ (by first | (simp [namB, outB, regL]; done) | simp [namB, outB, regL, Bool.and_assoc])
 rw [HE.out]
 clear HE
 go_enter Tryz.func107, Tryz.ntmps107
 go_wp2_with fail
 refine (refwithin10_any _ _ _).mono ?_
 rintro e w1 ⟨rfl, rfl⟩
 go_wp2
 go_ret
 exact ⟨rfl, by go_grown⟩
theorem named_23 (al : Int) (A : Option Addr) (nf ct : Nat) (a b c im : Int) (w : World) :
 Calls Tryz.prog 107 #[.agg #[.int .i64 al, .slice A nf ct], .agg #[.int .i64 23, .int .i64 a, .int .i64 b, .int .i64 c, .int .u64 im]] w fun e w' => e = .returned (.bool (namB nf ⟨23, a, b, c, im⟩)) ∧ Below w.heap.size w w' := by
 have HE : Hid (namB nf ⟨23, a, b, c, im⟩ = (true)) := hQ (by first | (simp [namB, outB, regL]; done) | simp [namB, outB, regL, Bool.and_assoc])
 rw [HE.out]
 clear HE
 go_enter Tryz.func107, Tryz.ntmps107
 go_wp2
 go_ret
 exact ⟨rfl, by go_grown⟩
theorem named_24 (al : Int) (A : Option Addr) (nf ct : Nat) (a b c im : Int) (w : World) :
 Calls Tryz.prog 107 #[.agg #[.int .i64 al, .slice A nf ct], .agg #[.int .i64 24, .int .i64 a, .int .i64 b, .int .i64 c, .int .u64 im]] w fun e w' => e = .returned (.bool (namB nf ⟨24, a, b, c, im⟩)) ∧ Below w.heap.size w w' := by
 have HE : Hid (namB nf ⟨24, a, b, c, im⟩ = (true)) := hQ (by first | (simp [namB, outB, regL]; done) | simp [namB, outB, regL, Bool.and_assoc])
 rw [HE.out]
 clear HE
 go_enter Tryz.func107, Tryz.ntmps107
 go_wp2
 go_ret
 exact ⟨rfl, by go_grown⟩
theorem named_any (al : Int) (A : Option Addr) (nf ct o : Nat) (a b c im : Int) (h : o < 25) (h8 : o ≠ 18) (h9 : o ≠ 19) (w : World) :
 Calls Tryz.prog 107 #[.agg #[.int .i64 al, .slice A nf ct], .agg #[.int .i64 (o : Int), .int .i64 a, .int .i64 b, .int .i64 c, .int .u64 im]] w fun e w' => e = .returned (.bool (namB nf ⟨o, a, b, c, im⟩)) ∧ Below w.heap.size w w' := by
 have h' : o = 0 ∨ o = 1 ∨ o = 2 ∨ o = 3 ∨ o = 4 ∨ o = 5 ∨ o = 6 ∨ o = 7 ∨ o = 8 ∨ o = 9 ∨ o = 10 ∨ o = 11 ∨ o = 12 ∨ o = 13 ∨ o = 14 ∨ o = 15 ∨ o = 16 ∨ o = 17 ∨ o = 20 ∨ o = 21 ∨ o = 22 ∨ o = 23 ∨ o = 24 := by omega
 rcases h' with rfl | rfl | rfl | rfl | rfl | rfl | rfl | rfl | rfl | rfl | rfl | rfl | rfl | rfl | rfl | rfl | rfl | rfl | rfl | rfl | rfl | rfl | rfl
 · exact named_0 al A nf ct a b c im w
 · exact named_1 al A nf ct a b c im w
 · exact named_2 al A nf ct a b c im w
 · exact named_3 al A nf ct a b c im w
 · exact named_4 al A nf ct a b c im w
 · exact named_5 al A nf ct a b c im w
 · exact named_6 al A nf ct a b c im w
 · exact named_7 al A nf ct a b c im w
 · exact named_8 al A nf ct a b c im w
 · exact named_9 al A nf ct a b c im w
 · exact named_10 al A nf ct a b c im w
 · exact named_11 al A nf ct a b c im w
 · exact named_12 al A nf ct a b c im w
 · exact named_13 al A nf ct a b c im w
 · exact named_14 al A nf ct a b c im w
 · exact named_15 al A nf ct a b c im w
 · exact named_16 al A nf ct a b c im w
 · exact named_17 al A nf ct a b c im w
 · exact named_20 al A nf ct a b c im w
 · exact named_21 al A nf ct a b c im w
 · exact named_22 al A nf ct a b c im w
 · exact named_23 al A nf ct a b c im w
 · exact named_24 al A nf ct a b c im w
end Go.Proofs.YtcnndoefgjbmiaaGreat.pm
