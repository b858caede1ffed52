/- A raw program that is handed to a law: its slices read as lists. -/
import Derived.Test.YtgakphichcihjaaPx
import Derived.Deep.Slices
namespace Go.Proofs.Ytgakphichcihjaa.pm
open Go.Joins Go.ChangeShapes Go.WideShapes Go.RowKit Go.Deep
set_option linter.unusedVariables false
set_option maxRecDepth 10000

section
variable {H : Type} {enc : TypeId × Value → H} {w : World} {base : Nat} {sp : Nat → Bool} {held : Bool}
theorem rint_of_trod {P : Program} {fuel : Nat} {t : TypeId} {k : IntKind} {c : Value} {y : DataW H × List MemPlace}
    (ht : P.underlying t = some (.int k)) (h : DataW.trod enc P w base sp held fuel t [c] = some y) : ∃ n, c = .int k n ∧ (Lit.int k n).wf = true := by
  cases fuel with
  | zero => simp [DataW.trod] at h
  | succ fuel =>
    cases c <;> simp [DataW.trod, ht] at h
    rename_i k' n
    obtain ⟨⟨rfl, h1⟩, _⟩ := h
    exact ⟨n, rfl, h1⟩
def W64 (x : Int) : Prop := -9223372036854775808 ≤ x ∧ x ≤ 9223372036854775807
theorem wf_i64 {n : Int} (h : (Lit.int .i64 n).wf = true) : W64 n := by
  simp [Lit.wf, IntKind.min, IntKind.max, IntKind.signed, IntKind.bits] at h
  exact h
theorem cells_slot : Try.prog.cellsOf 128 = 2 := by kernel_rfl
theorem cells_ins : Try.prog.cellsOf 45 = 5 := by kernel_rfl
theorem cells_fn : Try.prog.cellsOf 107 = 3 := by kernel_rfl
theorem cells_int : Try.prog.cellsOf 3 = 1 := by kernel_rfl
theorem cells_u64 : Try.prog.cellsOf 43 = 1 := by kernel_rfl
theorem cells_sls : Try.prog.cellsOf 105 = 1 := by kernel_rfl
theorem cells_sli : Try.prog.cellsOf 36 = 1 := by kernel_rfl
theorem slot_of_trod {fuel : Nat} {cs : List Value} {y : DataW H × List MemPlace} (h : DataW.trod enc Try.prog w base sp held fuel 128 cs = some y) : ∃ s : Int × Int, cs = scells s ∧ W64 s.1 ∧ W64 s.2 := by
  cases fuel with
  | zero => simp [DataW.trod] at h
  | succ fuel =>
    simp only [DataW.trod, Try.underlying128, cells_slot] at h
    split at h
    · rename_i hl
      obtain ⟨c0, c1, rfl⟩ : ∃ c0 c1, cs = [c0, c1] := by
        match cs, hl with
        | [a, b], _ => exact ⟨a, b, rfl⟩
      simp only [cells_int, Option.map_eq_some_iff, List.mapM_cons, List.mapM_nil, Option.bind_eq_bind, Option.bind_eq_some_iff, Option.pure_def, Option.some.injEq, List.drop, List.take] at h
      obtain ⟨xs, ⟨y0, h0, _, ⟨y1, h1, _, rfl, rfl⟩, rfl⟩, hx⟩ := h
      obtain ⟨n0, rfl, g0⟩ := rint_of_trod Try.underlying3 h0
      obtain ⟨n1, rfl, g1⟩ := rint_of_trod Try.underlying3 h1
      exact ⟨(n0, n1), rfl, wf_i64 g0, wf_i64 g1⟩
    · cases h
theorem ins_of_trod {fuel : Nat} {cs : List Value} {y : DataW H × List MemPlace} (h : DataW.trod enc Try.prog w base sp held fuel 45 cs = some y) : ∃ x : Ins, cs = icells x := by
  cases fuel with
  | zero => simp [DataW.trod] at h
  | succ fuel =>
    simp only [DataW.trod, Try.underlying45, cells_ins] at h
    split at h
    · rename_i hl
      obtain ⟨c0, c1, c2, c3, c4, rfl⟩ : ∃ c0 c1 c2 c3 c4, cs = [c0, c1, c2, c3, c4] := by
        match cs, hl with
        | [a, b, c, d, e], _ => exact ⟨a, b, c, d, e, rfl⟩
      simp only [cells_int, cells_u64, Option.map_eq_some_iff, List.mapM_cons, List.mapM_nil, Option.bind_eq_bind, Option.bind_eq_some_iff, Option.pure_def, Option.some.injEq, List.drop, List.take] at h
      obtain ⟨xs, ⟨y0, h0, _, ⟨y1, h1, _, ⟨y2, h2, _, ⟨y3, h3, _, ⟨y4, h4, _, rfl, rfl⟩, rfl⟩, rfl⟩, rfl⟩, rfl⟩, hx⟩ := h
      obtain ⟨n0, rfl, g0⟩ := rint_of_trod Try.underlying3 h0
      obtain ⟨n1, rfl, g1⟩ := rint_of_trod Try.underlying3 h1
      obtain ⟨n2, rfl, g2⟩ := rint_of_trod Try.underlying3 h2
      obtain ⟨n3, rfl, g3⟩ := rint_of_trod Try.underlying3 h3
      obtain ⟨n4, rfl, g4⟩ := rint_of_trod Try.underlying43 h4
      exact ⟨⟨n0, n1, n2, n3, n4⟩, rfl⟩
    · cases h
/-- rows of elements of d cells each -/
theorem rows_of {α : Type} {f : α → List Value} {d : Nat} {Q : α → Prop} (hd : 0 < d) (hf : ∀ x, (f x).length = d) {a : Addr} {len m : Nat} (hlm : len ≤ m)
    (h : ∀ i, i < m → ∃ cs', w.cells? base (a.add (i * d)) d = some cs' ∧ ∃ x, cs' = f x ∧ Q x) :
    ∃ l : List α, l.length = len ∧ (∀ x ∈ l, Q x) ∧ Reads w w.heap.size d (some a) len (l.flatMap f) := by
  have hex : ∀ i : Nat, ∃ x : Option α, i < m → ∃ y, x = some y ∧ Q y ∧ ∀ j, j < d → w.cell? ((a.add (i * d)).add j) = (f y)[j]? := fun i => by
    by_cases hi : i < m
    · obtain ⟨cs', h1, x, rfl, hq⟩ := h i hi
      exact ⟨some x, fun _ => ⟨x, rfl, hq, (World.cells?_some h1).2.2⟩⟩
    · exact ⟨none, fun hh => absurd hh hi⟩
  have hl : ∀ n, n ≤ len → ∃ l : List α, l.length = n ∧ (∀ x ∈ l, Q x) ∧ ∀ j u, (l.flatMap f)[j]? = some u → w.cell? (a.add j) = some u := by
    intro n hn
    induction n with
    | zero => exact ⟨[], rfl, fun x hx => by simp at hx, fun j u hu => by simp at hu⟩
    | succ n ih =>
      obtain ⟨l, h1, h2, h3⟩ := ih (by omega)
      obtain ⟨x, hx⟩ := hex n
      obtain ⟨y, rfl, hq, hc⟩ := hx (by omega)
      refine ⟨l ++ [y], by simp [h1], fun z hz => ?_, fun j u hu => ?_⟩
      · rcases List.mem_append.1 hz with hz | hz
        · exact h2 z hz
        · simp at hz; subst hz; exact hq
      · have hfl := flat_len hf l
        rw [List.flatMap_append] at hu
        rcases Nat.lt_or_ge j (l.flatMap f).length with hj | hj
        · rw [List.getElem?_append_left hj] at hu
          exact h3 j u hu
        · rw [List.getElem?_append_right hj] at hu
          have hu' : (f y)[j - n * d]? = some u := by
            have e : (l.flatMap f).length = n * d := by rw [hfl, h1]
            rw [e] at hu
            simpa using hu
          have hjd : j - n * d < d := by
            have := (List.getElem?_eq_some_iff.1 hu').1
            rw [hf] at this
            exact this
          have e : (l.flatMap f).length = n * d := by rw [hfl, h1]
          have := hc (j - n * d) hjd
          rw [add_of_add, show n * d + (j - n * d) = j by omega, hu'] at this
          exact this
  obtain ⟨l, h1, h2, h3⟩ := hl len (Nat.le_refl _)
  refine ⟨l, h1, h2, by rw [flat_len hf, h1], fun hn => ⟨a, rfl, ?_, h3⟩⟩
  have hfl := flat_len hf l
  have hp : 0 < (l.flatMap f).length := by rw [hfl, h1]; exact Nat.mul_pos hn hd
  have := h3 0 _ (List.getElem?_eq_getElem hp)
  have := cell_lt this
  rwa [block_of_add] at this
theorem slots_of_trod {fuel : Nat} {v : Value} {y : DataW H × List MemPlace} (h : DataW.trod enc Try.prog w base sp held fuel 105 [v] = some y) :
    ∃ A n c l, v = .slice A n c ∧ l.length = n ∧ Sx w 0 w.heap.size A l ∧ (∀ s ∈ l, W64 s.1 ∧ W64 s.2) ∧ n ≤ maxLen ∧ n ≤ c := by
  rcases Go.Deep.open_slice Try.underlying105 h with ⟨hcs, _⟩ | ⟨a, len, cap, m, n, D, Pl, hcs, hb, hl, hm, hmm, hx, hi⟩
  · simp at hcs
    exact ⟨none, 0, 0, [], hcs, rfl, Rx.nil _ _ _ _, fun s hs => by simp at hs, by simp, by simp⟩
  · simp at hcs
    rw [cells_slot] at hi
    obtain ⟨l, h1, h2, h3⟩ := rows_of (f := scells) (d := 2) (Q := fun s => W64 s.1 ∧ W64 s.2) (by omega) scells_len (len := len) (m := m) (by rw [hmm]; split <;> omega) (fun i hi' => by
      obtain ⟨cs', g1, g2⟩ := hi i hi'
      obtain ⟨s, g3, g4⟩ := slot_of_trod g2
      exact ⟨cs', g1, s, g3, g4⟩)
    refine ⟨some a, len, cap, l, hcs, h1, ?_, h2, by omega, hl⟩
    unfold Sx
    rw [h1]
    exact Rx.of_reads h3
theorem code_of_trod {fuel : Nat} {v : Value} {y : DataW H × List MemPlace} (h : DataW.trod enc Try.prog w base sp held fuel 36 [v] = some y) :
    ∃ A n c l, v = .slice A n c ∧ l.length = n ∧ Nx w 0 w.heap.size A l ∧ n ≤ maxLen ∧ n ≤ c := by
  rcases Go.Deep.open_slice Try.underlying36 h with ⟨hcs, _⟩ | ⟨a, len, cap, m, n, D, Pl, hcs, hb, hl, hm, hmm, hx, hi⟩
  · simp at hcs
    exact ⟨none, 0, 0, [], hcs, rfl, Rx.nil _ _ _ _, by simp, by simp⟩
  · simp at hcs
    rw [cells_ins] at hi
    obtain ⟨l, h1, h2, h3⟩ := rows_of (f := icells) (d := 5) (Q := fun _ => True) (by omega) icells_len (len := len) (m := m) (by rw [hmm]; split <;> omega) (fun i hi' => by
      obtain ⟨cs', g1, g2⟩ := hi i hi'
      obtain ⟨s, g3⟩ := ins_of_trod g2
      exact ⟨cs', g1, s, g3, trivial⟩)
    refine ⟨some a, len, cap, l, hcs, h1, ?_, by omega, hl⟩
    unfold Nx
    rw [h1]
    exact Rx.of_reads h3
def fcells (x : Fn × (Option Addr × Nat) × (Option Addr × Nat)) : List Value := [.int .i64 x.1.params, .slice x.2.1.1 x.1.slots.length x.2.1.2, .slice x.2.2.1 x.1.code.length x.2.2.2]
theorem fcells_len (x : Fn × (Option Addr × Nat) × (Option Addr × Nat)) : (fcells x).length = 3 := rfl
def FQ (w : World) (x : Fn × (Option Addr × Nat) × (Option Addr × Nat)) : Prop :=
  W64 x.1.params ∧ (∀ s ∈ x.1.slots, W64 s.1 ∧ W64 s.2) ∧ Sx w 0 w.heap.size x.2.1.1 x.1.slots ∧ Nx w 0 w.heap.size x.2.2.1 x.1.code ∧ (x.1.slots.length ≤ maxLen ∧ x.1.slots.length ≤ x.2.1.2) ∧ (x.1.code.length ≤ maxLen ∧ x.1.code.length ≤ x.2.2.2)
theorem fn_of_trod {fuel : Nat} {cs : List Value} {y : DataW H × List MemPlace} (h : DataW.trod enc Try.prog w base sp held fuel 107 cs = some y) : ∃ x, cs = fcells x ∧ FQ w x := by
  cases fuel with
  | zero => simp [DataW.trod] at h
  | succ fuel =>
    simp only [DataW.trod, Try.underlying107, cells_fn] at h
    split at h
    · rename_i hl
      obtain ⟨c0, c1, c2, rfl⟩ : ∃ c0 c1 c2, cs = [c0, c1, c2] := by
        match cs, hl with
        | [a, b, c], _ => exact ⟨a, b, c, rfl⟩
      simp only [cells_int, cells_sls, cells_sli, Option.map_eq_some_iff, List.mapM_cons, List.mapM_nil, Option.bind_eq_bind, Option.bind_eq_some_iff, Option.pure_def, Option.some.injEq, List.drop, List.take] at h
      obtain ⟨xs, ⟨y0, h0, _, ⟨y1, h1, _, ⟨y2, h2, _, rfl, rfl⟩, rfl⟩, rfl⟩, hx⟩ := h
      obtain ⟨n0, rfl, g0⟩ := rint_of_trod Try.underlying3 h0
      obtain ⟨As, ns, cs, sl, rfl, rfl, hs, hr, hn, hc⟩ := slots_of_trod h1
      obtain ⟨Ai, ni, ci, il, rfl, rfl, hi, hin, hic⟩ := code_of_trod h2
      exact ⟨(⟨n0, sl, il⟩, (As, cs), (Ai, ci)), rfl, wf_i64 g0, hr, hs, hi, ⟨hn, hc⟩, hin, hic⟩
    · cases h
theorem getD_map_fst (l : List (Fn × (Option Addr × Nat) × (Option Addr × Nat))) (i : Nat) : (l.map (·.1)).getD i Fn.z = (l.getD i (Fn.z, (none, 0), (none, 0))).1 := by
  rw [List.getD_eq_getElem?_getD, List.getD_eq_getElem?_getD, List.getElem?_map]
  cases l[i]? <;> rfl
theorem funcs_of_trod {fuel : Nat} {v : Value} {y : DataW H × List MemPlace} (h : DataW.trod enc Try.prog w base sp held fuel 69 [v] = some y) :
    ∃ A n c p, v = .slice A n c ∧ p.length = n ∧ Fx w 0 w.heap.size A p ∧ (∀ i, i < p.length → W64 (p.getD i Fn.z).params ∧ ∀ s ∈ (p.getD i Fn.z).slots, W64 s.1 ∧ W64 s.2) ∧ n ≤ maxLen ∧ n ≤ c := by
  rcases Go.Deep.open_slice Try.underlying69 h with ⟨hcs, _⟩ | ⟨a, len, cap, m, n, D, Pl, hcs, hb, hl, hm, hmm, hx, hi⟩
  · simp at hcs
    exact ⟨none, 0, 0, [], hcs, rfl, ⟨[], Rx.nil _ _ _ _, Vx.nil _ _ _⟩, fun i hi => by simp at hi, by simp, by simp⟩
  · simp at hcs
    rw [cells_fn] at hi
    obtain ⟨l, h1, h2, h3⟩ := rows_of (f := fcells) (d := 3) (Q := FQ w) (by omega) fcells_len (len := len) (m := m) (by rw [hmm]; split <;> omega) (fun i hi' => by
      obtain ⟨cs', g1, g2⟩ := hi i hi'
      obtain ⟨s, g3, g4⟩ := fn_of_trod g2
      exact ⟨cs', g1, s, g3, g4⟩)
    have hq : ∀ i, i < l.length → FQ w (l.getD i (Fn.z, (none, 0), (none, 0))) := fun i hi => h2 _ (by
      rw [List.getD_eq_getElem?_getD, List.getElem?_eq_getElem hi]
      exact List.getElem_mem hi)
    refine ⟨some a, len, cap, l.map (·.1), hcs, by rw [List.length_map, h1], ⟨l.flatMap fcells, ?_, fun i hi => ?_⟩, fun i hi => ?_, by omega, hl⟩
    · rw [List.length_map, h1]; exact Rx.of_reads h3
    · rw [List.length_map] at hi
      rw [getD_map_fst]
      obtain ⟨q1, q2, q3, q4, q5, q6⟩ := hq i hi
      have g0 : ∀ j, j < 3 → (l.flatMap fcells)[i * 3 + j]? = (fcells (l.getD i (Fn.z, (none, 0), (none, 0))))[j]? := fun j hj => flat_get fcells_len (Fn.z, (none, 0), (none, 0)) l i j (by omega) hj
      exact ⟨_, _, _, _, by simpa [fcells] using g0 0 (by omega), by simpa [fcells] using g0 1 (by omega), by simpa [fcells] using g0 2 (by omega), q3, q4, q5, q6⟩
    · rw [List.length_map] at hi
      rw [getD_map_fst]
      obtain ⟨q1, q2, _⟩ := hq i hi
      exact ⟨q1, q2⟩
end
section
variable {H : Type} {enc : TypeId × Value → H} {P : Program} {w : World} {base : Nat} {spare : Nat → Bool} {held : Bool}
theorem open_agg1 {r : Reach} {b0 : Nat} {t : TypeId} {f0 : Field} {v : Value} {d : DataW H} {p : List MemPlace} (hs : P.underlying t = some (.struct #[f0])) (hone : oneCellFields P #[f0] = true) (hC : P.cellsOf t = 1)
    (hv : Value.okWide P w r b0 t v) (h : DataW.Trod enc P w base spare held t v d p) :
    ∃ (v0 : Value) (y0 : DataW H × List MemPlace) (n : Nat), v = .agg #[v0] ∧ DataW.trod enc P w base spare held n f0.type [v0] = some y0 := by
  obtain ⟨cs, rfl, hsz⟩ := okWide_struct hs hv
  obtain ⟨l⟩ := cs
  match l, hsz.trans hC with
  | [c0], _ =>
    obtain ⟨fuel, hf⟩ := h
    obtain ⟨xs, n, _, hx, _, hlen, hg⟩ := DataW.trod_struct hs hf
    obtain ⟨o0, k0⟩ := hone_of hone 0 f0 rfl
    match xs, hlen with
    | [y0], _ => exact ⟨c0, y0, n, rfl, by simpa [Value.cells, o0, k0] using hg 0 f0 rfl⟩
/-- a raw program that is handed to a law -/
theorem open_prog {r : Reach} {b0 : Nat} {v : Value} {d : DataW H} {p : List MemPlace} (hv : Value.okWide Try.prog w r b0 71 v) (h : DataW.Trod enc Try.prog w base spare held 71 v d p) :
    ∃ A c q, v = .agg #[.slice A q.length c] ∧ Fx w 0 w.heap.size A q ∧ (∀ i, i < q.length → W64 (q.getD i Fn.z).params ∧ ∀ s ∈ (q.getD i Fn.z).slots, W64 s.1 ∧ W64 s.2) ∧ q.length ≤ maxLen ∧ q.length ≤ c := by
  obtain ⟨v0, y0, n, rfl, h0⟩ := open_agg1 Try.underlying71 (by kernel_rfl) (by kernel_rfl) hv h
  obtain ⟨A, m, c, q, rfl, rfl, h1, h2, h3, h4⟩ := funcs_of_trod h0
  exact ⟨A, c, q, rfl, h1, h2, h3, h4⟩
end
end Go.Proofs.Ytgakphichcihjaa.pm
