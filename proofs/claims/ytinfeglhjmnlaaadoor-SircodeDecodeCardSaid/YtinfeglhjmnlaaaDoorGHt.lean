/- The table of math/bits: what the row's list gives; a world for the witness. -/
import Derived.Test.YtinfeglhjmnlaaaDoorCards
import Derived.Test.YtinfeglhjmnlaaaDoorTie
import Derived.Test.YtinfeglhjmnlaaaDoorGHs
import Derived.WalkKit
import Derived.ProofKit
import Derived.OpenShut
import Derived.Deep.DeepHandedRow
import Derived.Lib.LaidTab
namespace Go.Proofs.YtinfeglhjmnlaaaDoor.pm
open Go.ChangeShapes Go.WideShapes Go.ChangeAt Go.RowKit
set_option linter.unusedVariables false
set_option maxRecDepth 100000

theorem g64 : Tryd.prog.globalNamed "math/bits.deBruijn64tab" = some 1 := by kernel_rfl
theorem g64t : (Tryd.prog.globals[1]?).map (·.type) = some 157 := by kernel_rfl
theorem cells64 : Tryd.prog.cellsOf 157 = 64 := by kernel_rfl
theorem cells8 : Tryd.prog.cellsOf 5 = 1 := by kernel_rfl
theorem mapM_get8 {α β : Type} {f : α → Option β} : ∀ {l : List α} {xs : List β}, l.mapM f = some xs → ∀ (i : Nat) (a : α), l[i]? = some a → ∃ x, xs[i]? = some x ∧ f a = some x
  | [], xs, h, i, a, hi => by simp at hi
  | b :: r, xs, h, i, a, hi => by
    simp only [List.mapM_cons, Option.bind_eq_bind, Option.bind_eq_some_iff, Option.pure_def, Option.some.injEq] at h
    obtain ⟨y, hy, ys, hys, rfl⟩ := h
    rcases i with _ | i
    · simp at hi; subst hi; exact ⟨y, rfl, hy⟩
    · obtain ⟨x, h1, h2⟩ := mapM_get8 hys i a (by simpa using hi)
      exact ⟨x, by simpa using h1, h2⟩
theorem int_of_trod8 {H : Type} {enc : TypeId × Value → H} {P : Program} {w : World} {base : Nat} {sp : Nat → Bool} {held : Bool} {fuel : Nat} {t : TypeId} {k : IntKind} {c : Value} {y : DataW H × List MemPlace}
    (ht : P.underlying t = some (.int k)) (h : DataW.trod enc P w base sp held fuel t [c] = some y) : ∃ n, c = .int k n ∧ y = (.lit (.int k n), []) := by
  cases fuel with
  | zero => simp [DataW.trod] at h
  | succ fuel =>
    cases c <;> simp [DataW.trod, ht] at h
    rename_i k' n
    obtain ⟨⟨rfl, _⟩, rfl⟩ := h
    exact ⟨n, rfl, rfl⟩
def u8D {H : Type} (n : Nat) : DataW H := .lit (.int .u8 (n : Int))
theorem laid64_eq {H : Type} : (Rows.laid_math_bits_deBruijn64tab : DataW H) = .agg (dt64.map u8D) := rfl
theorem dt_of_var {W : World} {cs : Array Value} {fuel : Nat} {p : List MemPlace} (hvar : W.var? Tryd.prog "math/bits.deBruijn64tab" = some cs) (hd : DataW.trod (fun _ => ()) Tryd.prog W 0 (fun _ => true) false fuel 157 cs.toList = some (Rows.laid_math_bits_deBruijn64tab, p)) : Dt W := by
  have hcell := fun j => World.var?_cell g64 hvar j
  cases fuel with
  | zero => simp [DataW.trod] at hd
  | succ fuel =>
    simp only [DataW.trod, Tryd.underlying157, cells64, cells8] at hd
    split at hd
    · rename_i hl
      simp only [Option.map_eq_some_iff] at hd
      obtain ⟨xs, hxs, hx⟩ := hd
      have hx1 : xs.map (·.1) = dt64.map u8D := by
        have h := congrArg Prod.fst hx
        rw [laid64_eq] at h
        simpa using h
      have hcs : cs.size = 64 := by simpa using hl
      have key : ∀ k, k < 64 → (cs.toList.drop (k * 1)).take 1 = [.int .u8 ((dt64.getD k 0 : Nat) : Int)] := by
        intro k hk
        obtain ⟨x, h1, h2⟩ := mapM_get8 hxs k k (by rw [List.getElem?_range hk])
        have h3 : (xs.map (·.1))[k]? = some x.1 := by rw [List.getElem?_map, h1]; rfl
        rw [hx1, List.getElem?_map] at h3
        have hk' : k < dt64.length := hk
        rw [List.getElem?_eq_getElem hk'] at h3
        simp only [Option.map_some, Option.some.injEq] at h3
        have hk2 : k < cs.toList.length := by simp; omega
        have h4 : (cs.toList.drop (k * 1)).take 1 = [cs.toList[k]] := by
          rw [Nat.mul_one, List.drop_eq_getElem_cons hk2]
          rfl
        rw [h4] at h2 ⊢
        obtain ⟨n, e1, e2⟩ := int_of_trod8 Tryd.underlying5 h2
        rw [e1]
        rw [e2] at h3
        unfold u8D at h3
        simp only [DataW.lit.injEq, Lit.int.injEq, true_and] at h3
        rw [List.getD_eq_getElem?_getD, List.getElem?_eq_getElem hk', ← h3]
        rfl
      have sz : 1 < W.heap.size := by
        have h := (hcell 0).symm
        have h0 : ∃ v, cs[0]? = some v := ⟨cs[0]'(by omega), by simp⟩
        obtain ⟨v, hv⟩ := h0
        rw [hv] at h
        exact cell_lt h.symm
      refine ⟨sz, fun k hk => ?_⟩
      have hk4 := key k hk
      rw [Nat.mul_one] at hk4
      have hk2 : k < cs.toList.length := by simp; omega
      rw [List.drop_eq_getElem_cons hk2] at hk4
      simp only [List.take_succ_cons, List.take_zero, List.cons.injEq, and_true] at hk4
      refine (hcell k).trans ?_
      rw [← hk4]
      simp
    · cases hd
theorem dt_of_laid {W : World} (h : laidMetH Tryd.prog [("math/bits.deBruijn32tab", Rows.laid_math_bits_deBruijn32tab), ("math/bits.deBruijn64tab", Rows.laid_math_bits_deBruijn64tab)] W) : Dt W := by
  have h' : laidMet Tryd.prog [("math/bits.deBruijn32tab", Rows.laid_math_bits_deBruijn32tab), ("math/bits.deBruijn64tab", Rows.laid_math_bits_deBruijn64tab)] W := h
  obtain ⟨ps, hL, _⟩ := h'
  obtain ⟨_, _, _, _, _, _, _, _, _, _, hL2, _⟩ := hL
  obtain ⟨g, t, cs, fuel, p, q, hg, ht, hvar, hd, _, _⟩ := hL2
  obtain rfl := Option.some.inj (g64.symm.trans hg)
  obtain rfl := Option.some.inj (g64t.symm.trans ht)
  exact dt_of_var hvar hd
def u8Cells (l : List Nat) : Array Value := (l.map fun n : Nat => Value.int .u8 (n : Int)).toArray
def dt32 : List Nat := [0, 1, 28, 2, 29, 14, 24, 3, 30, 22, 20, 15, 25, 17, 4, 8, 31, 27, 13, 23, 21, 19, 16, 7, 26, 12, 18, 6, 11, 5, 10, 9]
def put32 : Obj → Obj
  | .cells _ t frozen => .cells (u8Cells dt32) t frozen
  | o => o
def put64 : Obj → Obj
  | .cells _ t frozen => .cells (u8Cells dt64) t frozen
  | o => o
noncomputable def laidWorld11 (os : Os) : World :=
  { World.holding Tryd.prog os ⟨#[], #[], []⟩ with heap := ((World.holding Tryd.prog os ⟨#[], #[], []⟩).heap.modify 0 put32).modify 1 put64 }
end Go.Proofs.YtinfeglhjmnlaaaDoor.pm
