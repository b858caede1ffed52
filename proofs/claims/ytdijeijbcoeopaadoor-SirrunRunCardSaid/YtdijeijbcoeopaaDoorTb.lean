/- The table of the shapes: what the row's list gives; a world for the witness. -/
import Derived.Test.YtdijeijbcoeopaaDoorCards
import Derived.Test.YtdijeijbcoeopaaDoorTie
import Derived.Test.YtdijeijbcoeopaaDoorGSc
import Derived.WalkKit
import Derived.ProofKit
import Derived.OpenShut
import Derived.Deep.DeepHandedRow
import Derived.Lib.LaidTab
set_option linter.unusedVariables false
set_option maxRecDepth 100000
namespace Go.Proofs.YtdijeijbcoeopaaDoor.pm
open Go.ChangeShapes Go.WideShapes Go.ChangeAt Go.RowKit
theorem gTab : Tryd.prog.globalNamed "spillframe/sir.shapes" = some 0 := by kernel_rfl
theorem gTabType : (Tryd.prog.globals[0]?).map (·.type) = some 124 := by kernel_rfl
theorem cellsArr : Tryd.prog.cellsOf 124 = 100 := by kernel_rfl
theorem cellsSh : Tryd.prog.cellsOf 123 = 4 := by kernel_rfl
theorem cellsK : Tryd.prog.cellsOf 121 = 1 := by kernel_rfl
theorem cellsB : Tryd.prog.cellsOf 4 = 1 := by kernel_rfl
theorem mapM_get {α β : Type} {f : α → Option β} : ∀ {l : List α} {xs : List β}, l.mapM f = some xs → ∀ (i : Nat) (a : α), l[i]? = some a → ∃ x, xs[i]? = some x ∧ f a = some x
 | [], xs, h, i, a, hi => by simp at hi
 | b :: r, xs, h, i, a, hi => by
  simp only [List.mapM_cons, Option.bind_eq_bind, Option.bind_eq_some_iff, Option.pure_def, Option.some.injEq] at h
  obtain ⟨y, hy, ys, hys, rfl⟩ := h
  rcases i with _ | i
  · simp at hi; subst hi; exact ⟨y, rfl, hy⟩
  · obtain ⟨x, h1, h2⟩ := mapM_get hys i a (by simpa using hi)
    exact ⟨x, by simpa using h1, h2⟩
theorem int_of_trod {H : Type} {enc : TypeId × Value → H} {P : Program} {w : World} {base : Nat} {sp : Nat → Bool} {held : Bool} {fuel : Nat} {t : TypeId} {k : IntKind} {c : Value} {y : DataW H × List MemPlace}
 (ht : P.underlying t = some (.int k)) (h : DataW.trod enc P w base sp held fuel t [c] = some y) : ∃ n, c = .int k n ∧ y = (.lit (.int k n), []) := by
 cases fuel with
 | zero => simp [DataW.trod] at h
 | succ fuel =>
  cases c <;> simp [DataW.trod, ht] at h
  rename_i k' n
  obtain ⟨⟨rfl, _⟩, rfl⟩ := h
  exact ⟨n, rfl, rfl⟩
theorem bool_of_trod {H : Type} {enc : TypeId × Value → H} {P : Program} {w : World} {base : Nat} {sp : Nat → Bool} {held : Bool} {fuel : Nat} {t : TypeId} {c : Value} {y : DataW H × List MemPlace}
 (ht : P.underlying t = some .bool) (h : DataW.trod enc P w base sp held fuel t [c] = some y) : ∃ n, c = .bool n ∧ y = (.lit (.bool n), []) := by
 cases fuel with
 | zero => simp [DataW.trod] at h
 | succ fuel =>
  cases c <;> simp [DataW.trod, ht] at h
  rename_i n
  exact ⟨n, rfl, h.symm⟩
theorem shape_of_trod {H : Type} {enc : TypeId × Value → H} {w : World} {base : Nat} {sp : Nat → Bool} {held : Bool} {fuel : Nat} {l : List Value} {a b c : Int} {m : Bool} {y : DataW H × List MemPlace}
 (h : DataW.trod enc Tryd.prog w base sp held fuel 123 l = some y) (hy : y.1 = .agg [.lit (.int .i64 a), .lit (.int .i64 b), .lit (.int .i64 c), .lit (.bool m)]) :
 l = [.int .i64 a, .int .i64 b, .int .i64 c, .bool m] := by
 cases fuel with
 | zero => simp [DataW.trod] at h
 | succ fuel =>
  simp only [DataW.trod, Tryd.underlying123, cellsSh] at h
  split at h
  · rename_i hl
    obtain ⟨c0, c1, c2, c3, rfl⟩ : ∃ c0 c1 c2 c3, l = [c0, c1, c2, c3] := by
     match l, hl with
     | [a, b, c, d], _ => exact ⟨a, b, c, d, rfl⟩
    simp only [cellsK, cellsB, Option.map_eq_some_iff, List.mapM_cons, List.mapM_nil, Option.bind_eq_bind, Option.bind_eq_some_iff, Option.pure_def, Option.some.injEq, List.drop, List.take] at h
    obtain ⟨xs, ⟨y0, h0, _, ⟨y1, h1, _, ⟨y2, h2, _, ⟨y3, h3, _, rfl, rfl⟩, rfl⟩, rfl⟩, rfl⟩, hx⟩ := h
    obtain ⟨n0, rfl, rfl⟩ := int_of_trod Tryd.underlying121 h0
    obtain ⟨n1, rfl, rfl⟩ := int_of_trod Tryd.underlying121 h1
    obtain ⟨n2, rfl, rfl⟩ := int_of_trod Tryd.underlying121 h2
    obtain ⟨n3, rfl, rfl⟩ := bool_of_trod Tryd.underlying4 h3
    subst hx
    simp at hy
    obtain ⟨rfl, rfl, rfl, rfl⟩ := hy
    rfl
  · cases h
def shD {H : Type} (s : Nat × Nat × Nat × Bool) : DataW H := .agg [.lit (.int .i64 (s.1 : Int)), .lit (.int .i64 (s.2.1 : Int)), .lit (.int .i64 (s.2.2.1 : Int)), .lit (.bool s.2.2.2)]
theorem laid_eq {H : Type} : (Rows.laid_spillframe_sir_shapes : DataW H) = .agg (shps.map shD) := rfl
theorem tb_of_var {W : World} {cs : Array Value} {fuel : Nat} {p : List MemPlace} (hvar : W.var? Tryd.prog "spillframe/sir.shapes" = some cs) (hd : DataW.trod (fun _ => ()) Tryd.prog W 0 (fun _ => true) false fuel 124 cs.toList = some (Rows.laid_spillframe_sir_shapes, p)) : Tb W := by
 have hcell := fun j => World.var?_cell gTab hvar j
 cases fuel with
 | zero => simp [DataW.trod] at hd
 | succ fuel =>
  simp only [DataW.trod, Tryd.underlying124, cellsArr, cellsSh] at hd
  split at hd
  · rename_i hl
    simp only [Option.map_eq_some_iff] at hd
    obtain ⟨xs, hxs, hx⟩ := hd
    have hx1 : xs.map (·.1) = shps.map shD := by
     have h := congrArg Prod.fst hx
     rw [laid_eq] at h
     simpa using h
    have key : ∀ k, k < 25 → (cs.toList.drop (k * 4)).take 4 = [.int .i64 ((shp k).1 : Int), .int .i64 ((shp k).2.1 : Int), .int .i64 ((shp k).2.2.1 : Int), .bool (shp k).2.2.2] := by
     intro k hk
     obtain ⟨x, h1, h2⟩ := mapM_get hxs k k (by rw [List.getElem?_range hk])
     refine shape_of_trod h2 ?_
     have h3 : (xs.map (·.1))[k]? = some x.1 := by rw [List.getElem?_map, h1]; rfl
     rw [hx1, List.getElem?_map] at h3
     have hk' : k < shps.length := hk
     rw [List.getElem?_eq_getElem hk'] at h3
     simp only [Option.map_some, Option.some.injEq] at h3
     rw [← h3]
     unfold shp shD
     rw [List.getD_eq_getElem?_getD, List.getElem?_eq_getElem hk']
     rfl
    have sz : 0 < W.heap.size := by
     have h := (hcell 0).symm
     have hs0 : 0 < cs.size := by
      have : cs.size = 100 := by simpa using hl
      omega
     have h0 : ∃ v, cs[0]? = some v := ⟨cs[0], by simp⟩
     obtain ⟨v, hv⟩ := h0
     rw [hv] at h
     exact cell_lt h.symm
    refine ⟨sz, fun k hk => ?_⟩
    have hk4 := key k hk
    have g : ∀ j, j < 4 → cs[k * 4 + j]? = ([.int .i64 ((shp k).1 : Int), .int .i64 ((shp k).2.1 : Int), .int .i64 ((shp k).2.2.1 : Int), .bool (shp k).2.2.2] : List Value)[j]? := by
     intro j hj
     rw [← hk4, List.getElem?_take, if_pos hj, List.getElem?_drop]
     simp
    exact ⟨(hcell (k * 4)).trans (g 0 (by omega)), (hcell (k * 4 + 1)).trans (g 1 (by omega)), (hcell (k * 4 + 2)).trans (g 2 (by omega)), (hcell (k * 4 + 3)).trans (g 3 (by omega))⟩
  · cases hd
theorem tb_of_laid {W : World} (h : laidMetH Tryd.prog [("spillframe/sir.shapes", Rows.laid_spillframe_sir_shapes)] W) : Tb W := by
 have h' : laidMet Tryd.prog [("spillframe/sir.shapes", Rows.laid_spillframe_sir_shapes)] W := h
 obtain ⟨ps, ⟨g, t, cs, fuel, p, q, hg, ht, hvar, hd, _, _⟩, _⟩ := h'
 obtain rfl := Option.some.inj (gTab.symm.trans hg)
 obtain rfl := Option.some.inj (gTabType.symm.trans ht)
 exact tb_of_var hvar hd
def shCells : Array Value := (shps.flatMap fun s => [.int .i64 (s.1 : Int), .int .i64 (s.2.1 : Int), .int .i64 (s.2.2.1 : Int), .bool s.2.2.2]).toArray
noncomputable def laidWorld (os : Os) : World :=
 { World.holding Tryd.prog os ⟨#[], #[], []⟩ with heap := (World.holding Tryd.prog os ⟨#[], #[], []⟩).heap.modify 0 fun
  | .cells _ t frozen => .cells shCells t frozen
  | o => o }
end Go.Proofs.YtdijeijbcoeopaaDoor.pm
