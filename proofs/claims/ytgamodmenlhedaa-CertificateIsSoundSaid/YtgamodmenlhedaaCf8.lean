/- Contracts: Has and Same of numbers. -/
import Derived.Test.YtgamodmenlhedaaCf2
namespace Go.Proofs.Ytgamodmenlhedaa.cf
open Go.RowKit
set_option linter.unusedVariables false
set_option maxRecDepth 10000

theorem mem_getD {l : List Int} {x : Int} : x ∈ l ↔ ∃ i, i < l.length ∧ l.getD i 0 = x := by
  rw [List.mem_iff_getElem]
  constructor
  · rintro ⟨i, hi, h⟩
    exact ⟨i, hi, by rw [List.getD_eq_getElem?_getD, List.getElem?_eq_getElem hi]; exact h⟩
  · rintro ⟨i, hi, h⟩
    rw [List.getD_eq_getElem?_getD, List.getElem?_eq_getElem hi] at h
    exact ⟨i, hi, h⟩
theorem has_any (A : Option Addr) (n c : Nat) (l : List Int) (x : Int) (w : World) (h : Iz w A n l) (hn : n ≤ maxLen) :
    Calls Try.prog 84 #[.slice A n c, .int .i64 x] w fun e w' => e = .returned (.bool (decide (x ∈ l))) ∧ w = w' := by
  unfold maxLen at hn
  have HL := Lib.hid h.len
  have HI := Lib.hid h
  clear h
  go_enter Try.func84, Try.ntmps84
  go_wp2
  go_loop [5] (fun i => ∃ k : Nat, k ≤ n ∧ i = .int .i64 k ∧ Hid (∀ j, j < k → l.getD j 0 ≠ x)) (fun i => n - (intOf i).toNat)
  case atStart => exact ⟨0, by omega, rfl, Lib.hid (fun i hi => by omega)⟩
  case round =>
    obtain ⟨k, hk, rfl, HO⟩ := hrel
    have hk0 : (0 : Int) ≤ (k : Int) := by omega
    by_cases hlt : k < n
    · obtain ⟨ad, rfl, hbl, hc⟩ := HI.out.at_ hlt
      have hki : (k : Int) < (n : Int) := by omega
      have HY := Lib.hid (fun (h : l.getD k 0 = x) => (by rw [decide_eq_true_iff, mem_getD]; exact ⟨k, by rw [HL.out]; exact hlt, h⟩ : decide (x ∈ l) = true))
      have HN := Lib.hid (fun (h : ¬ l.getD k 0 = x) => (fun j hj => by
        rcases Nat.lt_or_ge j k with a | a
        · exact HO.out j a
        · obtain rfl : j = k := (by omega)
          exact h : ∀ j, j < k + 1 → l.getD j 0 ≠ x))
      generalize l.getD k 0 = y at *
      by_cases hy : y = x
      · have HF := Lib.hid (HY.out hy)
        subst hy
        go_wp2
        go_ret
        exact ⟨ret_bool HF.out.symm, rfl⟩
      · have HG := Lib.hid (HN.out hy)
        go_wp2
        go_round
        case rel => exact ⟨k + 1, by omega, by go_num, HG⟩
        case measure => simp [intOf]; omega
    · have HF : Hid (decide (x ∈ l) = false) := Lib.hid (by
        rw [decide_eq_false_iff_not, mem_getD]
        rintro ⟨i, hi, h⟩
        exact HO.out i (by rw [HL.out] at hi; omega) h)
      go_wp2
      go_ret
      exact ⟨ret_bool HF.out.symm, rfl⟩
theorem list_ext_getD {l m : List Int} (h : l.length = m.length) (h2 : ∀ i, i < l.length → l.getD i 0 = m.getD i 0) : l = m := by
  apply List.ext_getElem h
  intro i h3 h4
  have := h2 i h3
  rwa [List.getD_eq_getElem?_getD, List.getD_eq_getElem?_getD, List.getElem?_eq_getElem h3, List.getElem?_eq_getElem h4] at this
theorem same_any (A A' : Option Addr) (n c n' c' : Nat) (l m : List Int) (w : World) (h : Iz w A n l) (h' : Iz w A' n' m) (hn : n ≤ maxLen) (hn' : n' ≤ maxLen) :
    Calls Try.prog 24 #[.slice A n c, .slice A' n' c'] w fun e w' => e = .returned (.bool (decide (l = m))) ∧ ∃ q, w' = w.drewN q := by
  unfold maxLen at hn hn'
  have HL := Lib.hid h.len
  have HL' := Lib.hid h'.len
  have HI := Lib.hid h
  have HI' := Lib.hid h'
  clear h h'
  by_cases e : n = n'
  · subst e
    go_enter Try.func24, Try.ntmps24
    go_wp2
    go_loopw [5] (fun i wr => ∃ k q : Nat, k ≤ n ∧ i = .int .i64 k ∧ Hid (∀ j, j < k → l.getD j 0 = m.getD j 0) ∧ wr = w.drewN q) (fun i _ => n - (intOf i).toNat)
    case atStart => exact ⟨0, 0, by omega, rfl, Lib.hid (fun i hi => by omega), rfl⟩
    case round =>
      obtain ⟨k, q, hk, rfl, HO, rfl⟩ := hrel
      have hk0 : (0 : Int) ≤ (k : Int) := by omega
      by_cases hlt : k < n
      · obtain ⟨ad, rfl, -, hc⟩ := HI.out.at_ hlt
        obtain ⟨ad', rfl, -, hc'⟩ := HI'.out.at_ hlt
        have hki : (k : Int) < (n : Int) := by omega
        have HN := Lib.hid (fun (h : ¬ l.getD k 0 = m.getD k 0) => (decide_eq_false fun e => h (by rw [e]) : decide (l = m) = false))
        have HY := Lib.hid (fun (h : l.getD k 0 = m.getD k 0) => (fun j hj => by
          rcases Nat.lt_or_ge j k with a | a
          · exact HO.out j a
          · obtain rfl : j = k := (by omega)
            exact h : ∀ j, j < k + 1 → l.getD j 0 = m.getD j 0))
        generalize l.getD k 0 = y at *
        generalize m.getD k 0 = x at *
        by_cases hy : y = x
        · have HG := Lib.hid (HY.out hy)
          subst hy
          go_wp2_with fail
          go_quiet (fail)
          go_wp2
          go_roundw
          case rel => exact ⟨k + 1, q + nq, by omega, by go_num, HG, by first | rfl | exact World.drewN_drewN _ _ _⟩
          case measure => simp [intOf]; omega
        · have HF := Lib.hid (HN.out hy)
          go_wp2_with fail
          go_quiet (fail)
          go_wp2
          go_ret
          exact ⟨ret_bool HF.out.symm, by first | exact ⟨_, rfl⟩ | exact ⟨_, World.drewN_drewN _ _ _⟩⟩
      · have HF := Lib.hid (decide_eq_true (list_ext_getD (l := l) (m := m) (by rw [HL.out, HL'.out]) (fun i hi => HO.out i (by rw [HL.out] at hi; omega))))
        go_wp2
        go_ret
        exact ⟨ret_bool HF.out.symm, _, rfl⟩
  · have HF : Hid (decide (l = m) = false) := Lib.hid (decide_eq_false fun h => e (by rw [← HL.out, ← HL'.out, h]))
    have ei : ¬ (n : Int) = (n' : Int) := by omega
    go_enter Try.func24, Try.ntmps24
    go_wp2
    go_ret
    exact ⟨ret_bool HF.out.symm, 0, rfl⟩
end Go.Proofs.Ytgamodmenlhedaa.cf
