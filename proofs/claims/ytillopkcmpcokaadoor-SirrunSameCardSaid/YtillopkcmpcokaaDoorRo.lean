/- Raw outcomes that are handed to a law. -/
import Derived.Test.YtillopkcmpcokaaDoorOsLaw
namespace Go.Proofs.YtillopkcmpcokaaDoor.pm
open Go.Joins Go.ChangeShapes Go.WideShapes Go.RowKit Go.Deep
set_option linter.unusedVariables false
set_option maxRecDepth 10000
theorem wf_u64 {n : Int} (h : (Lit.int .u64 n).wf = true) : U64 n := by
  simp [Lit.wf, IntKind.min, IntKind.max, IntKind.signed, IntKind.bits] at h
  exact ⟨h.1, by omega⟩
theorem cells_val : Tryd.prog.cellsOf 33 = 2 := by kernel_rfl
theorem cells_vals : Tryd.prog.cellsOf 34 = 1 := by kernel_rfl
theorem cells_out : Tryd.prog.cellsOf 36 = 6 := by kernel_rfl
section
variable {H : Type} {enc : TypeId × Value → H} {w : World} {base : Nat} {sp : Nat → Bool} {held : Bool}
theorem val_of_trod {fuel : Nat} {cs : List Value} {y : DataW H × List MemPlace} (h : DataW.trod enc Tryd.prog w base sp held fuel 33 cs = some y) : ∃ s : Int × Int, cs = ucells s ∧ U64 s.1 ∧ U64 s.2 := by
  cases fuel with
  | zero => simp [DataW.trod] at h
  | succ fuel =>
    simp only [DataW.trod, Tryd.underlying33, cells_val] at h
    split at h
    · rename_i hl
      obtain ⟨c0, c1, rfl⟩ : ∃ c0 c1, cs = [c0, c1] := by
        match cs, hl with
        | [a, b], _ => exact ⟨a, b, rfl⟩
      simp only [cells_u64, Option.map_eq_some_iff, List.mapM_cons, List.mapM_nil, Option.bind_eq_bind, Option.bind_eq_some_iff, Option.pure_def, Option.some.injEq, List.drop, List.take] at h
      obtain ⟨xs, ⟨y0, h0, _, ⟨y1, h1, _, rfl, rfl⟩, rfl⟩, hx⟩ := h
      obtain ⟨n0, rfl, g0⟩ := rint_of_trod Tryd.underlying31 h0
      obtain ⟨n1, rfl, g1⟩ := rint_of_trod Tryd.underlying31 h1
      exact ⟨(n0, n1), rfl, wf_u64 g0, wf_u64 g1⟩
    · cases h
theorem vals_of_trod {fuel : Nat} {v : Value} {y : DataW H × List MemPlace} (h : DataW.trod enc Tryd.prog w base sp held fuel 34 [v] = some y) :
    ∃ A n c l, v = .slice A n c ∧ l.length = n ∧ Ux w 0 w.heap.size A l ∧ n ≤ maxLen ∧ n ≤ c := by
  rcases Go.Deep.open_slice Tryd.underlying34 h with ⟨hcs, _⟩ | ⟨a, len, cap, m, n, D, Pl, hcs, hb, hl, hm, hmm, hx, hi⟩
  · simp at hcs
    exact ⟨none, 0, 0, [], hcs, rfl, Rx.nil _ _ _ _, by simp, by simp⟩
  · simp at hcs
    rw [cells_val] at hi
    obtain ⟨l, h1, h2, h3⟩ := rows_of (f := ucells) (d := 2) (Q := fun _ => True) (by omega) ucells_len (len := len) (m := m) (by rw [hmm]; split <;> omega) (fun i hi' => by
      obtain ⟨cs', g1, g2⟩ := hi i hi'
      obtain ⟨s, g3, -⟩ := val_of_trod g2
      exact ⟨cs', g1, s, g3, trivial⟩)
    refine ⟨some a, len, cap, l, hcs, h1, ?_, by omega, hl⟩
    unfold Ux
    rw [h1]
    exact Rx.of_reads h3
theorem out_of_trod {fuel : Nat} {cs : List Value} {y : DataW H × List MemPlace} (h : DataW.trod enc Tryd.prog w base sp held fuel 36 cs = some y) :
    ∃ o A c, cs = (ocs o A c).toList ∧ Ux w 0 w.heap.size A o.tr ∧ o.tr.length ≤ maxLen ∧ (W64 o.kind ∧ U64 o.code ∧ U64 o.hi ∧ W64 o.st) := by
  cases fuel with
  | zero => simp [DataW.trod] at h
  | succ fuel =>
    simp only [DataW.trod, Tryd.underlying36, cells_out] at h
    split at h
    · rename_i hl
      obtain ⟨c0, c1, c2, c3, c4, c5, rfl⟩ : ∃ c0 c1 c2 c3 c4 c5, cs = [c0, c1, c2, c3, c4, c5] := by
        match cs, hl with
        | [a, b, c, d, e, f], _ => exact ⟨a, b, c, d, e, f, rfl⟩
      simp only [cells_u64, cells_int, cells_val, cells_vals, Option.map_eq_some_iff, List.mapM_cons, List.mapM_nil, Option.bind_eq_bind, Option.bind_eq_some_iff, Option.pure_def, Option.some.injEq, List.drop, List.take] at h
      obtain ⟨xs, ⟨y0, h0, _, ⟨y1, h1, _, ⟨y2, h2, _, ⟨y3, h3, _, ⟨y4, h4, _, rfl, rfl⟩, rfl⟩, rfl⟩, rfl⟩, rfl⟩, hx⟩ := h
      obtain ⟨n0, rfl, g0⟩ := rint_of_trod Tryd.underlying3 h0
      obtain ⟨n1, rfl, g1⟩ := rint_of_trod Tryd.underlying31 h1
      obtain ⟨s, hs, gs1, gs2⟩ := val_of_trod h2
      obtain ⟨rfl, rfl⟩ : c2 = .int .u64 s.1 ∧ c3 = .int .u64 s.2 := by simpa [ucells] using hs
      obtain ⟨A, n, c, l, rfl, rfl, hu, hn, hc⟩ := vals_of_trod h3
      obtain ⟨n4, rfl, g4⟩ := rint_of_trod Tryd.underlying3 h4
      exact ⟨⟨n0, n1, s.1, s.2, l, n4⟩, A, c, rfl, hu, hn, wf_i64 g0, wf_u64 g1, gs2, wf_i64 g4⟩
    · cases h
/-- a raw outcome that is handed to a law -/
theorem open_out {r : Reach} {b0 : Nat} {v : Value} {d : DataW H} {p : List MemPlace} (hv : Value.okWide Tryd.prog w r b0 36 v) (h : DataW.Trod enc Tryd.prog w base sp held 36 v d p) :
    ∃ o A c, v = .agg (ocs o A c) ∧ Ux w 0 w.heap.size A o.tr ∧ o.tr.length ≤ maxLen ∧ (W64 o.kind ∧ U64 o.code ∧ U64 o.hi ∧ W64 o.st) := by
  obtain ⟨cs, rfl, hsz⟩ := okWide_struct Tryd.underlying36 hv
  obtain ⟨fuel, hf⟩ := h
  obtain ⟨o, A, c, e, h1, h2, h3⟩ := out_of_trod hf
  refine ⟨o, A, c, ?_, h1, h2, h3⟩
  have e' : cs.toList = (ocs o A c).toList := e
  rw [show cs = ocs o A c from Array.toList_inj.1 e']
end
end Go.Proofs.YtillopkcmpcokaaDoor.pm
