/- Contracts: mach.Reads, Writes; extent.Inside; an instruction's check. -/
import Derived.Test.YtmeoabpigibaoaaKb
import Derived.Deep.CutBlock
namespace Go.Proofs.Ytmeoabpigibaoaa.pm
open Go.RowKit
set_option linter.unusedVariables false
set_option maxRecDepth 10000

def rdP (x : Ins) : Int × Int × Bool := if x.op = 15 ∨ x.op = 17 then (x.b, x.c, true) else (0, 0, false)
def wrP (x : Ins) : Int × Int × Bool := if x.op = 16 ∨ x.op = 17 then (x.a, x.c, true) else (0, 0, false)
abbrev retP (r : Int × Int × Bool) : Ending := .returned (.tuple #[.agg #[.int .i64 r.1, .int .i64 r.2.1], .bool r.2.2])
theorem mreads_any (fp fs fc : Value) (x : Ins) (w : World) :
    Calls Try.prog 10 #[.agg #[fp, fs, fc], insV x] w fun e w' => e = retP (rdP x) ∧ Below w.heap.size w w' := by
  obtain ⟨op, a, b, c, im⟩ := x
  have R : Hid (rdP ⟨op, a, b, c, im⟩ = if op = 15 ∨ op = 17 then (b, c, true) else (0, 0, false)) := Lib.hid rfl
  unfold insV
  go_enter Try.func10, Try.ntmps10
  go_wp2
  all_goals go_returns
  all_goals (refine ⟨?_, by go_grown⟩; rw [R.out]; simp_all [retP])
theorem mwrites_any (fp fs fc : Value) (x : Ins) (w : World) :
    Calls Try.prog 11 #[.agg #[fp, fs, fc], insV x] w fun e w' => e = retP (wrP x) ∧ Below w.heap.size w w' := by
  obtain ⟨op, a, b, c, im⟩ := x
  have R : Hid (wrP ⟨op, a, b, c, im⟩ = if op = 16 ∨ op = 17 then (a, c, true) else (0, 0, false)) := Lib.hid rfl
  unfold insV
  go_enter Try.func11, Try.ntmps11
  go_wp2
  all_goals go_returns
  all_goals (refine ⟨?_, by go_grown⟩; rw [R.out]; simp_all [retP])
theorem bound_any (n : Int) (w : World) : Calls Try.prog 69 #[.int .i64 n] w fun e w' => e = .returned (.bool (bndB n)) ∧ w = w' := by
  by_cases h0 : 0 ≤ n
  · have HI : Hid (bndB n = decide (n ≤ 2147483647)) := Lib.hid (by unfold bndB inB; rw [Bool.eq_iff_iff]; simp; omega)
    go_enter Try.func69, Try.ntmps69
    go_wp2
    go_ret
    exact ⟨ret_bool (by rw [HI.out]), rfl⟩
  · have HI : Hid (bndB n = false) := Lib.hid (inB_f.2 (by omega))
    go_enter Try.func69, Try.ntmps69
    go_wp2
    go_ret
    exact ⟨ret_bool (by rw [HI.out]), rfl⟩
/-- an interval that is right -/
def rgtB (o s : Int) : Bool := bndB o && bndB s && decide (o + s ≤ 2147483647)
theorem rgtB_t {o s : Int} (h : rgtB o s = true) : 0 ≤ o ∧ o ≤ 2147483647 ∧ 0 ≤ s ∧ s ≤ 2147483647 := by
  unfold rgtB bndB inB at h
  simp at h
  omega
theorem right_ext (o s : Int) (w : World) : Calls Try.prog 67 #[.agg #[.int .i64 o, .int .i64 s]] w fun e w' => e = .returned (.bool (rgtB o s)) ∧ Below w.heap.size w w' := by
  have HI : Hid (rgtB o s = (bndB o && bndB s && decide (o + s ≤ 2147483647))) := Lib.hid rfl
  rcases ho : bndB o with _ | _
  · have HO := Lib.hid ho
    clear ho
    go_enter Try.func67, Try.ntmps67
    go_wp2_with fail
    refine (bound_any _ _).mono ?_
    rintro e w1 ⟨rfl, rfl⟩
    rw [HO.out]
    go_wp2
    go_ret
    exact ⟨ret_bool (by rw [HI.out, HO.out]; rfl), (Below.refl _ _).alloc (Nat.le_refl _) _⟩
  · rcases hs : bndB s with _ | _
    · have HO := Lib.hid ho
      have HS := Lib.hid hs
      clear ho hs
      go_enter Try.func67, Try.ntmps67
      go_wp2_with fail
      refine (bound_any _ _).mono ?_
      rintro e w1 ⟨rfl, rfl⟩
      rw [HO.out]
      go_wp2_with fail
      refine (bound_any _ _).mono ?_
      rintro e w1 ⟨rfl, rfl⟩
      rw [HS.out]
      go_wp2
      go_ret
      exact ⟨ret_bool (by rw [HI.out, HO.out, HS.out]; rfl), (Below.refl _ _).alloc (Nat.le_refl _) _⟩
    · have ho1 := inB_t.1 ho
      have hs1 := inB_t.1 hs
      obtain ⟨n1, n2⟩ := ho1
      obtain ⟨n3, n4⟩ := hs1
      have HO := Lib.hid ho
      have HS := Lib.hid hs
      clear ho hs
      go_enter Try.func67, Try.ntmps67
      go_wp2_with fail
      refine (bound_any _ _).mono ?_
      rintro e w1 ⟨rfl, rfl⟩
      rw [HO.out]
      go_wp2_with fail
      refine (bound_any _ _).mono ?_
      rintro e w1 ⟨rfl, rfl⟩
      rw [HS.out]
      go_wp2
      go_ret
      exact ⟨ret_bool (by rw [HI.out, HO.out, HS.out]; rfl), (Below.refl _ _).alloc (Nat.le_refl _) _⟩
theorem inside_any (o s size : Int) (w : World) : Calls Try.prog 54 #[.agg #[.int .i64 o, .int .i64 s], .int .i64 size] w fun e w' => e = .returned (.bool (insB o s size)) ∧ Below w.heap.size w w' := by
  have HI : Hid (insB o s size = (rgtB o s && decide (o + s ≤ size))) := Lib.hid rfl
  rcases hr : rgtB o s with _ | _
  · have HO := Lib.hid hr
    clear hr
    go_enter Try.func54, Try.ntmps54
    go_wp2_with fail
    refine (right_ext _ _ _).mono ?_
    rintro e w1 ⟨rfl, bel⟩
    have HB := Lib.hid (((Below.refl w.heap.size w).alloc (Nat.le_refl _) _).trans (bel.mono (by simp)))
    clear bel
    rw [HO.out]
    go_wp2
    go_ret
    exact ⟨ret_bool (by rw [HI.out, HO.out]; rfl), HB.out⟩
  · obtain ⟨n1, n2, n3, n4⟩ := rgtB_t hr
    have HO := Lib.hid hr
    clear hr
    go_enter Try.func54, Try.ntmps54
    go_wp2_with fail
    refine (right_ext _ _ _).mono ?_
    rintro e w1 ⟨rfl, bel⟩
    have HB := Lib.hid (((Below.refl w.heap.size w).alloc (Nat.le_refl _) _).trans (bel.mono (by simp)))
    have hk := Lib.hid ((Blk.new w 37 #[.int .i64 o, .int .i64 s]).after bel)
    clear bel
    obtain ⟨c0, c1, -, -, cz⟩ := hk.out.c2
    rw [HO.out]
    go_wp2
    go_ret
    exact ⟨ret_bool (by rw [HI.out, HO.out]; rfl), HB.out⟩
theorem regL_len (x : Ins) : (regL x).length ≤ 3 := by
  unfold regL
  split
  · simp
  · split
    · simp
    · split
      · simp
      · split <;> simp
end Go.Proofs.Ytmeoabpigibaoaa.pm
