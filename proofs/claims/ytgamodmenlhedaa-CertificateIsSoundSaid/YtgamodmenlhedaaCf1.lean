/- Contracts: sets, graphs, weights: what is right. -/
import Derived.Test.YtgamodmenlhedaaZb
import Derived.Test.YtgamodmenlhedaaCfPlain2
namespace Go.Proofs.Ytgamodmenlhedaa.cf
open Go.RowKit
set_option linter.unusedVariables false
set_option maxRecDepth 10000

/-- a slice of numbers that can be read in a world -/
def Iz (w : World) (A : Option Addr) (n : Nat) (l : List Int) : Prop := Sl (Value.int .i64) w w.heap.size A n l
/-- a slice of slices of numbers that can be read in a world -/
def Gz (w : World) (A : Option Addr) (n : Nat) (g : List (List Int)) : Prop :=
  g.length = n ∧ ∃ vs : List Value, Reads w w.heap.size 1 A n vs ∧ ∀ i, i < n → ∃ A' n' c', vs[i]? = some (.slice A' n' c') ∧ Iz w A' n' (g.getD i []) ∧ n' ≤ maxLen ∧ n' ≤ c'
section
variable {w w' : World} {A : Option Addr} {n k : Nat} {l : List Int} {g : List (List Int)}
theorem Iz.len (h : Iz w A n l) : l.length = n := Sl.len h
theorem Iz.at_ (h : Iz w A n l) (hk : k < n) : ∃ ad, A = some ad ∧ ad.block < w.heap.size ∧ w.cell? (ad.add k) = some (.int .i64 (l.getD k 0)) := by
  obtain ⟨ad, x, e, hb, hx, hc⟩ := Sl.at_ h hk
  refine ⟨ad, e, hb, ?_⟩
  rw [List.getD_eq_getElem?_getD, hx]; exact hc
theorem Iz.below (h : Iz w A n l) (hb : Below w.heap.size w w') : Iz w' A n l := Sl.more (Sl.below h hb) hb.size
theorem Iz.alloc (h : Iz w A n l) (o : Obj) : Iz (w.alloc o) A n l := h.below ((Below.refl _ _).alloc (Nat.le_refl _) o)
theorem Iz.drewN (h : Iz w A n l) (k : Nat) : Iz (w.drewN k) A n l := Sl.drewN h k
theorem Gz.len (h : Gz w A n g) : g.length = n := h.1
theorem Gz.at_ (h : Gz w A n g) (hk : k < n) : ∃ ad A' n' c', A = some ad ∧ ad.block < w.heap.size ∧ w.cell? (ad.add k) = some (.slice A' n' c') ∧ Iz w A' n' (g.getD k []) ∧ n' ≤ maxLen ∧ n' ≤ c' := by
  obtain ⟨_, vs, hr, hv⟩ := h
  obtain ⟨ad, u, e, hb, hx, hc⟩ := Reads.at_ hr hk
  obtain ⟨A', n', c', hy, h1, h2, h3⟩ := hv k hk
  rw [hy] at hx
  obtain rfl := Option.some.inj hx
  exact ⟨ad, A', n', c', e, hb, hc, h1, h2, h3⟩
theorem Gz.below (h : Gz w A n g) (hb : Below w.heap.size w w') : Gz w' A n g := by
  obtain ⟨h0, vs, hr, hv⟩ := h
  exact ⟨h0, vs, Reads.more (Reads.below hr hb) hb.size, fun i hi => by
    obtain ⟨A', n', c', h1, h2, h3⟩ := hv i hi
    exact ⟨A', n', c', h1, h2.below hb, h3⟩⟩
theorem Gz.alloc (h : Gz w A n g) (o : Obj) : Gz (w.alloc o) A n g := h.below ((Below.refl _ _).alloc (Nat.le_refl _) o)
theorem Gz.drewN (h : Gz w A n g) (k : Nat) : Gz (w.drewN k) A n g := by
  obtain ⟨h0, vs, hr, hv⟩ := h
  exact ⟨h0, vs, Reads.drewN hr k, fun i hi => by
    obtain ⟨A', n', c', h1, h2, h3⟩ := hv i hi
    exact ⟨A', n', c', h1, h2.drewN k, h3⟩⟩
end
noncomputable def setB (l : List Int) : Bool := by classical exact decide (SetOk l)
theorem setB_iff {l : List Int} : setB l = true ↔ SetOk l := by unfold setB; simp
theorem setB_not {l : List Int} (h : ¬ SetOk l) : setB l = false := by rw [← Bool.not_eq_true, setB_iff]; exact h
noncomputable def grB (g : List (List Int)) : Bool := by classical exact decide (GrOk g)
theorem grB_iff {g : List (List Int)} : grB g = true ↔ GrOk g := by unfold grB; simp
theorem grB_not {g : List (List Int)} (h : ¬ GrOk g) : grB g = false := by rw [← Bool.not_eq_true, grB_iff]; exact h
/-- what is asked of one place of a set -/
def OkAt (l : List Int) (i : Nat) : Prop := 0 ≤ l.getD i 0 ∧ l.getD i 0 < 512 ∧ (0 < i → l.getD (i - 1) 0 < l.getD i 0)
def OkTo (l : List Int) (k : Nat) : Prop := ∀ i, i < k → OkAt l i

theorem within_any (x : Int) (w : World) : Calls Try.prog 110 #[.int .i64 x] w fun e w' => e = .returned (.bool (decide (0 ≤ x ∧ x < 512))) ∧ w = w' := by
  by_cases h0 : 0 ≤ x
  all_goals
    go_enter Try.func110, Try.ntmps110
    go_wp2
    go_ret
    exact ⟨ret_bool (by simp; try omega), rfl⟩
theorem good_any (x : Int) (w : World) : Calls Try.prog 87 #[.int .i64 x] w fun e w' => e = .returned (.bool (decide (0 ≤ x ∧ x < 512))) ∧ w = w' := by
  by_cases h0 : 0 ≤ x
  all_goals
    go_enter Try.func87, Try.ntmps87
    go_wp2
    go_ret
    exact ⟨ret_bool (by simp; try omega), rfl⟩
theorem bound_any (x : Int) (w : World) : Calls Try.prog 50 #[.int .i64 x] w fun e w' => e = .returned (.bool (decide (Bd x))) ∧ w = w' := by
  have HB : Hid (decide (Bd x) = decide (0 ≤ x ∧ x ≤ 2147483647)) := rfl
  by_cases h0 : 0 ≤ x
  all_goals
    go_enter Try.func50, Try.ntmps50
    go_wp2
    go_ret
    exact ⟨ret_bool (by rw [HB.out]; simp; try omega), rfl⟩
theorem refbound_any (x : Int) (w : World) : Calls Try.prog 52 #[.int .i64 x] w fun e w' => e = .returned (.bool (decide (Bd x))) ∧ w = w' := by
  have HB : Hid (decide (Bd x) = decide (0 ≤ x ∧ x ≤ 2147483647)) := rfl
  by_cases h0 : 0 ≤ x
  all_goals
    go_enter Try.func52, Try.ntmps52
    go_wp2
    go_ret
    exact ⟨ret_bool (by rw [HB.out]; simp; try omega), rfl⟩

set_option maxHeartbeats 1000000 in
theorem bscheck_any (A : Option Addr) (n c : Nat) (l : List Int) (w : World) (h : Iz w A n l) (hn : n ≤ maxLen) :
    Calls Try.prog 99 #[.slice A n c] w fun e w' => e = .returned (.bool (setB l)) ∧ w = w' := by
  unfold maxLen at hn
  have hl := h.len
  have HL := Lib.hid hl
  have HI := Lib.hid h
  clear hl h
  go_enter Try.func99, Try.ntmps99
  go_wp2
  go_loop [7] (fun i => ∃ k : Nat, k ≤ n ∧ i = .int .i64 k ∧ Hid (OkTo l k)) (fun i => n - (intOf i).toNat)
  case atStart => exact ⟨0, by omega, rfl, Lib.hid (fun i hi => by omega)⟩
  case round =>
    obtain ⟨k, hk, rfl, HO⟩ := hrel
    by_cases hlt : k < n
    · obtain ⟨ad, rfl, hbl, hc⟩ := HI.out.at_ hlt
      have hki : (k : Int) < (n : Int) := by omega
      have hk0 : (0 : Int) ≤ (k : Int) := by omega
      have bad : ¬ OkAt l k → setB l = false := fun hh => setB_not fun hs => hh (hs k (by rw [HL.out]; exact hlt))
      have HBAD := Lib.hid bad
      clear bad
      by_cases hr : 0 ≤ l.getD k 0 ∧ l.getD k 0 < 512
      · have hw := fun W : World => within_any (l.getD k 0) W
        rw [decide_eq_true hr] at hw
        have HW := Lib.hid hw
        clear hw
        cases k with
        | zero =>
          have HG : Hid (OkTo l 1) := Lib.hid (fun i hi => by
            obtain rfl : i = 0 := (by omega)
            exact ⟨hr.1, hr.2, fun h => absurd h (by omega)⟩)
          have hc0 : w.cell? ad = some (.int .i64 (l.getD 0 0)) := by simpa [Addr.add] using hc
          clear hr
          generalize l.getD 0 0 = x at *
          go_wp2_with (go_at_call 110; refine (HW.out _).mono ?_; rintro e w' ⟨rfl, rfl⟩)
          go_round
          case rel => exact ⟨1, by omega, by go_num, HG⟩
          case measure => simp [intOf]; omega
        | succ j =>
          obtain ⟨ad', e', -, hc'⟩ := HI.out.at_ (show j < n by omega)
          obtain rfl : ad = ad' := by injection e'
          have hc1 : w.cell? ⟨ad.block, ad.off + (j + 1), none⟩ = some (.int .i64 (l.getD (j + 1) 0)) := by simpa [Addr.add] using hc
          clear e'
          by_cases hs : l.getD j 0 < l.getD (j + 1) 0
          · have HG : Hid (OkTo l (j + 1 + 1)) := Lib.hid (fun i hi => by
              rcases Nat.lt_or_ge i (j + 1) with h1 | h1
              · exact HO.out i h1
              · obtain rfl : i = j + 1 := by omega
                exact ⟨hr.1, hr.2, fun _ => hs⟩)
            clear hr
            generalize l.getD j 0 = y at *
            generalize l.getD (j + 1) 0 = x at *
            go_wp2_with (go_at_call 110; refine (HW.out _).mono ?_; rintro e w' ⟨rfl, rfl⟩)
            go_round
            case rel => exact ⟨j + 1 + 1, by omega, by go_num, HG⟩
            case measure => simp [intOf]; omega
          · have HR : Hid (setB l = false) := Lib.hid (HBAD.out fun hh => hs (hh.2.2 (by omega)))
            clear hr
            generalize l.getD j 0 = y at *
            generalize l.getD (j + 1) 0 = x at *
            go_wp2_with (go_at_call 110; refine (HW.out _).mono ?_; rintro e w' ⟨rfl, rfl⟩)
            go_ret
            exact ⟨ret_bool HR.out.symm, rfl⟩
      · have HR : Hid (setB l = false) := Lib.hid (HBAD.out fun hh => hr ⟨hh.1, hh.2.1⟩)
        have hw := fun W : World => within_any (l.getD k 0) W
        rw [decide_eq_false hr] at hw
        have HW := Lib.hid hw
        clear hw hr
        generalize l.getD k 0 = x at *
        go_wp2_with (go_at_call 110; refine (HW.out _).mono ?_; rintro e w' ⟨rfl, rfl⟩)
        go_ret
        exact ⟨ret_bool HR.out.symm, rfl⟩
    · have HR : Hid (setB l = true) := Lib.hid (setB_iff.2 fun i hi => HO.out i (by have := HL.out; omega))
      go_wp2
      go_ret
      exact ⟨ret_bool HR.out.symm, rfl⟩
end Go.Proofs.Ytgamodmenlhedaa.cf
