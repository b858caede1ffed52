/- A raw target that is handed to a law: its slices read as lists. -/
import Derived.Test.YtgakphichcihjaaRaw
import Derived.Test.YtgakphichcihjaaKa
namespace Go.Proofs.Ytgakphichcihjaa.pm
open Go.Joins Go.ChangeShapes Go.WideShapes Go.RowKit Go.Deep
set_option linter.unusedVariables false
set_option maxRecDepth 10000

section
variable {H : Type} {enc : TypeId × Value → H} {w : World} {base : Nat} {sp : Nat → Bool} {held : Bool}
theorem cells_frm : Try.prog.cellsOf 38 = 3 := by kernel_rfl
def gcells (x : Fr × (Option Addr × Nat)) : List Value := [.int .i64 x.1.params, .int .i64 x.1.size, .slice x.2.1 x.1.code.length x.2.2]
theorem gcells_len (x : Fr × (Option Addr × Nat)) : (gcells x).length = 3 := rfl
def GQ (w : World) (x : Fr × (Option Addr × Nat)) : Prop := Nx w 0 w.heap.size x.2.1 x.1.code ∧ x.1.code.length ≤ maxLen ∧ x.1.code.length ≤ x.2.2
theorem frm_of_trod {fuel : Nat} {cs : List Value} {y : DataW H × List MemPlace} (h : DataW.trod enc Try.prog w base sp held fuel 38 cs = some y) : ∃ x, cs = gcells x ∧ GQ w x := by
  cases fuel with
  | zero => simp [DataW.trod] at h
  | succ fuel =>
    simp only [DataW.trod, Try.underlying38, cells_frm] at h
    split at h
    · rename_i hl
      obtain ⟨c0, c1, c2, rfl⟩ : ∃ c0 c1 c2, cs = [c0, c1, c2] := by
        match cs, hl with
        | [a, b, c], _ => exact ⟨a, b, c, rfl⟩
      simp only [cells_int, cells_sli, Option.map_eq_some_iff, List.mapM_cons, List.mapM_nil, Option.bind_eq_bind, Option.bind_eq_some_iff, Option.pure_def, Option.some.injEq, List.drop, List.take] at h
      obtain ⟨xs, ⟨y0, h0, _, ⟨y1, h1, _, ⟨y2, h2, _, rfl, rfl⟩, rfl⟩, rfl⟩, hx⟩ := h
      obtain ⟨n0, rfl, g0⟩ := rint_of_trod Try.underlying3 h0
      obtain ⟨n1, rfl, g1⟩ := rint_of_trod Try.underlying3 h1
      obtain ⟨Ai, ni, ci, il, rfl, rfl, hi, hin, hic⟩ := code_of_trod h2
      exact ⟨(⟨n0, n1, il⟩, (Ai, ci)), rfl, hi, hin, hic⟩
    · cases h
theorem getD_map_frm (l : List (Fr × (Option Addr × Nat))) (i : Nat) : (l.map (·.1)).getD i Fr.z = (l.getD i (Fr.z, (none, 0))).1 := by
  rw [List.getD_eq_getElem?_getD, List.getD_eq_getElem?_getD, List.getElem?_map]
  cases l[i]? <;> rfl
theorem frms_of_trod {fuel : Nat} {v : Value} {y : DataW H × List MemPlace} (h : DataW.trod enc Try.prog w base sp held fuel 22 [v] = some y) :
    ∃ A n c p, v = .slice A n c ∧ p.length = n ∧ Gx w 0 w.heap.size A p ∧ n ≤ maxLen ∧ n ≤ c := by
  rcases Go.Deep.open_slice Try.underlying22 h with ⟨hcs, _⟩ | ⟨a, len, cap, m, n, D, Pl, hcs, hb, hl, hm, hmm, hx, hi⟩
  · simp at hcs
    exact ⟨none, 0, 0, [], hcs, rfl, ⟨[], Rx.nil _ _ _ _, Wx.nil _ _ _⟩, by simp, by simp⟩
  · simp at hcs
    rw [cells_frm] at hi
    obtain ⟨l, h1, h2, h3⟩ := rows_of (f := gcells) (d := 3) (Q := GQ w) (by omega) gcells_len (len := len) (m := m) (by rw [hmm]; split <;> omega) (fun i hi' => by
      obtain ⟨cs', g1, g2⟩ := hi i hi'
      obtain ⟨s, g3, g4⟩ := frm_of_trod g2
      exact ⟨cs', g1, s, g3, g4⟩)
    have hq : ∀ i, i < l.length → GQ w (l.getD i (Fr.z, (none, 0))) := fun i hi => h2 _ (by
      rw [List.getD_eq_getElem?_getD, List.getElem?_eq_getElem hi]
      exact List.getElem_mem hi)
    refine ⟨some a, len, cap, l.map (·.1), hcs, by rw [List.length_map, h1], ⟨l.flatMap gcells, ?_, fun i hi => ?_⟩, by omega, hl⟩
    · rw [List.length_map, h1]; exact Rx.of_reads h3
    · rw [List.length_map] at hi
      rw [getD_map_frm]
      obtain ⟨q4, q5, q6⟩ := hq i hi
      have g0 : ∀ j, j < 3 → (l.flatMap gcells)[i * 3 + j]? = (gcells (l.getD i (Fr.z, (none, 0))))[j]? := fun j hj => flat_get gcells_len (Fr.z, (none, 0)) l i j (by omega) hj
      exact ⟨_, _, by simpa [gcells] using g0 0 (by omega), by simpa [gcells] using g0 1 (by omega), by simpa [gcells] using g0 2 (by omega), q4, q5, q6⟩
end
section
variable {H : Type} {enc : TypeId × Value → H} {P : Program} {w : World} {base : Nat} {spare : Nat → Bool} {held : Bool}
/-- a raw target that is handed to a law -/
theorem open_target {r : Reach} {b0 : Nat} {v : Value} {d : DataW H} {p : List MemPlace} (hv : Value.okWide Try.prog w r b0 24 v) (h : DataW.Trod enc Try.prog w base spare held 24 v d p) :
    ∃ al A c q, v = .agg #[.int .i64 al, .slice A q.length c] ∧ Gx w 0 w.heap.size A q ∧ q.length ≤ maxLen ∧ q.length ≤ c := by
  obtain ⟨c0, c1, y0, y1, n, rfl, _, _, g0, g1⟩ := open_agg2 Try.underlying24 (by kernel_rfl) (by kernel_rfl) hv h
  obtain ⟨al, e0, _⟩ := rint_of_trod Try.underlying3 g0
  subst e0
  obtain ⟨A, m, c, q, rfl, rfl, h1, h3, h4⟩ := frms_of_trod g1
  exact ⟨al, A, c, q, rfl, h1, h3, h4⟩
end
end Go.Proofs.Ytgakphichcihjaa.pm
