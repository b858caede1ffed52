/- MachIntervals: the walk of the law. -/
import Derived.Test.YtcpmlcdeddmdmaaMi
namespace Go.Proofs.Ytcpmlcdeddmdmaa.mi
open Go.RowKit
set_option linter.unusedVariables false
set_option maxHeartbeats 4000000 in
theorem law (fp fs fc : Value) (op a b c im : Int) (u : Int) (hu0 : 0 ≤ u) (hu : u ≤ 255) (w : World) :
    Calls Try.prog 4 #[.agg #[fp, fs, fc], .agg #[.int .i64 op, .int .i64 a, .int .i64 b, .int .i64 c, .int .u64 im], .int .u8 u] w fun e w' =>
      e = .returned (.bool true) ∧ Below w.heap.size w w' := by
  go_enter Try.func4, Try.ntmps4
  go_wp2_with fail
  refine (awake _).mono ?_
  rintro e w1 ⟨rfl, hb1⟩
  obtain ⟨hc1, hf1⟩ := bcell hb1
  have hz := hb1.size
  simp at hz
  have hz0 : w.heap.size < w1.heap.size := by omega
  have hz1 : w.heap.size + 1 < w1.heap.size := by omega
  have hb1' : Below w.heap.size w w1 := (((Below.refl _ _).alloc (Nat.le_refl _) _).alloc (by simp) _).trans (hb1.mono (by simp; omega))
  have H1 := Lib.hid hb1'
  clear hb1 hb1' hz
  go_wp2
  go_loopw [29] (fun i wr => ∃ k : Nat, k ≤ 2 ∧ i = .int .i64 k ∧ Hid (Below w.heap.size w wr) ∧ w.heap.size < wr.heap.size ∧ w1.heap.size + 1 < wr.heap.size ∧
      (wr.cell? ⟨w.heap.size, 0, none⟩ = some fp ∧ wr.cell? ⟨w.heap.size, 1, none⟩ = some fs ∧ wr.cell? ⟨w.heap.size, 2, none⟩ = some fc) ∧
      (wr.cell? ⟨w1.heap.size + 1, 0, none⟩ = some (.int .i64 op) ∧ wr.cell? ⟨w1.heap.size + 1, 1, none⟩ = some (.int .i64 a) ∧ wr.cell? ⟨w1.heap.size + 1, 2, none⟩ = some (.int .i64 b) ∧ wr.cell? ⟨w1.heap.size + 1, 3, none⟩ = some (.int .i64 c) ∧ wr.cell? ⟨w1.heap.size + 1, 4, none⟩ = some (.int .u64 im)) ∧
      (wr.cell? ⟨w1.heap.size + 1, 5, none⟩ = some (.int .i64 (u % 25)) ∧ wr.cell? ⟨w1.heap.size + 1, 6, none⟩ = some (.int .i64 a) ∧ wr.cell? ⟨w1.heap.size + 1, 7, none⟩ = some (.int .i64 b) ∧ wr.cell? ⟨w1.heap.size + 1, 8, none⟩ = some (.int .i64 c) ∧ wr.cell? ⟨w1.heap.size + 1, 9, none⟩ = some (.int .u64 im)))
    (fun i _ => 2 - (intOf i).toNat)
  case atStart =>
    refine ⟨0, by omega, rfl, ?_, by simp; omega, by simp, ⟨?_, ?_, ?_⟩, ⟨?_, ?_, ?_, ?_, ?_⟩, ⟨?_, ?_, ?_, ?_, ?_⟩⟩
    · exact Lib.hid (((H1.out.alloc (by omega) _).alloc (by simp; omega) _))
    all_goals (clear H1; go_simp)
  case round =>
    clear hc1 hf1
    obtain ⟨k, hk, rfl, H2, hz2, hz3, ⟨p0, p1, p2⟩, ⟨x0, x1, x2, x3, x4⟩, ⟨y0, y1, y2, y3, y4⟩⟩ := hrel
    have v1 : w1.heap.size < wr.heap.size := by omega
    have hk3 : k = 0 ∨ k = 1 ∨ k = 2 := by omega
    rcases hk3 with rfl | rfl | rfl
    rotate_left 2
    · go_wp2
      go_ret
      exact ⟨rfl, H2.out⟩
    all_goals
      go_wp2_with fail
      refine (mach_reads _ _ _ _ _ _ _ _ _).mono ?_
      rintro e w2 ⟨rfl, hb⟩
      obtain ⟨hc2, hf2⟩ := bcell hb
      have hz := hb.size
      simp at hz
      have z20 : w.heap.size < w2.heap.size := by omega
      have z21 : w1.heap.size + 1 < w2.heap.size := by omega
      have v2 : w1.heap.size < w2.heap.size := by omega
      have z22 : wr.heap.size < w2.heap.size := by omega
      have H3 := Lib.hid (((H2.out.alloc (by omega) (Obj.cells #[Value.int IntKind.i64 _, Value.int IntKind.i64 a, Value.int IntKind.i64 b, Value.int IntKind.i64 c, Value.int IntKind.u64 im] 42))).trans (hb.mono (by simp; omega)))
      clear hb hz H2
      go_wp2_with fail
      refine (ref_reads _ _ _ _ _ _ _ _ _).mono ?_
      rintro e w3 ⟨rfl, hb⟩
      obtain ⟨hc3, hf3⟩ := bcell hb
      have hz := hb.size
      simp at hz
      have z30 : w.heap.size < w3.heap.size := by omega
      have z31 : w1.heap.size + 1 < w3.heap.size := by omega
      have v3 : w1.heap.size < w3.heap.size := by omega
      have z32 : wr.heap.size < w3.heap.size := by omega
      have z33 : w2.heap.size < w3.heap.size := by omega
      have H4 := Lib.hid (((H3.out.alloc (by omega) _)).trans (hb.mono (by simp; omega)))
      clear hb hz H3
      go_wp2_with fail
      refine (mach_writes _ _ _ _ _ _ _ _ _).mono ?_
      rintro e w4 ⟨rfl, hb⟩
      obtain ⟨hc4, hf4⟩ := bcell hb
      have hz := hb.size
      simp at hz
      have z40 : w.heap.size < w4.heap.size := by omega
      have z41 : w1.heap.size + 1 < w4.heap.size := by omega
      have v4 : w1.heap.size < w4.heap.size := by omega
      have z42 : wr.heap.size < w4.heap.size := by omega
      have z43 : w2.heap.size < w4.heap.size := by omega
      have z44 : w3.heap.size < w4.heap.size := by omega
      have H5 := Lib.hid (((H4.out.alloc (by omega) _)).trans (hb.mono (by simp; omega)))
      clear hb hz H4
      go_wp2_with fail
      refine (ref_writes _ _ _ _ _ _ _ _ _).mono ?_
      rintro e w5 ⟨rfl, hb⟩
      obtain ⟨hc5, hf5⟩ := bcell hb
      have hz := hb.size
      simp at hz
      have z50 : w.heap.size < w5.heap.size := by omega
      have z51 : w1.heap.size + 1 < w5.heap.size := by omega
      have v5 : w1.heap.size < w5.heap.size := by omega
      have z52 : wr.heap.size < w5.heap.size := by omega
      have z53 : w2.heap.size < w5.heap.size := by omega
      have z54 : w3.heap.size < w5.heap.size := by omega
      have z55 : w4.heap.size < w5.heap.size := by omega
      have H6 := Lib.hid (((H5.out.alloc (by omega) _)).trans (hb.mono (by simp; omega)))
      clear hb hz H5
      go_wp2
      have q0 : w.heap.size < w5.heap.size + 1 := by omega
      have q1 : w1.heap.size + 1 < w5.heap.size + 1 := by omega
      have H7 := Lib.hid (fun o => H6.out.alloc (by omega) o)
      first
        | refine ⟨⟨1, by omega, rfl, H7.out _, by simpa using q0, by simpa using q1, ⟨?_, ?_, ?_⟩, ⟨?_, ?_, ?_, ?_, ?_⟩, ⟨?_, ?_, ?_, ?_, ?_⟩⟩, by simp [intOf]⟩
        | refine ⟨⟨2, by omega, rfl, H7.out _, by simpa using q0, by simpa using q1, ⟨?_, ?_, ?_⟩, ⟨?_, ?_, ?_, ?_, ?_⟩, ⟨?_, ?_, ?_, ?_, ?_⟩⟩, by simp [intOf]⟩
      all_goals (clear H7 H6; go_simp)
end Go.Proofs.Ytcpmlcdeddmdmaa.mi
