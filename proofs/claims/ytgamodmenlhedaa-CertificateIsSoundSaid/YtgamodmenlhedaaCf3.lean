/- Contracts: what a graph is, of the program and of the reference. -/
import Derived.Test.YtgamodmenlhedaaCf2
namespace Go.Proofs.Ytgamodmenlhedaa.cf
open Go.RowKit
set_option linter.unusedVariables false
set_option maxRecDepth 10000

/-- what is asked of one row of a graph -/
def RowOk (g : List (List Int)) (i : Nat) : Prop := SetOk (g.getD i []) ∧ (0 < (g.getD i []).length → (g.getD i []).getD ((g.getD i []).length - 1) 0 < g.length)
def GrTo (g : List (List Int)) (k : Nat) : Prop := ∀ i, i < k → RowOk g i
theorem grTo_succ {g : List (List Int)} {k : Nat} (h : GrTo g k) (hk : RowOk g k) : GrTo g (k + 1) := fun i hi => by
  rcases Nat.lt_or_ge i k with h1 | h1
  · exact h i h1
  · obtain rfl : i = k := (by omega)
    exact hk
theorem grOk_of {g : List (List Int)} (h1 : 1 ≤ g.length) (h2 : g.length ≤ 80) (h : GrTo g g.length) : grB g = true := grB_iff.2 ⟨h1, h2, h⟩
theorem grB_row {g : List (List Int)} {k : Nat} (hk : k < g.length) (h : ¬ RowOk g k) : grB g = false := grB_not fun hg => h (hg.2.2 k hk)

set_option maxHeartbeats 1000000 in
theorem grcheck_any (A : Option Addr) (n c : Nat) (g : List (List Int)) (w : World) (h : Gz w A n g) (hn : n ≤ maxLen) :
    Calls Try.prog 82 #[.slice A n c] w fun e w' => e = .returned (.bool (grB g)) ∧ w = w' := by
  unfold maxLen at hn
  have hl := h.len
  have HL := Lib.hid hl
  have HI := Lib.hid h
  clear hl h
  go_enter Try.func82, Try.ntmps82
  go_wp2
  go_loop [7] (fun i => ∃ k : Nat, k ≤ n ∧ i = .int .i64 k ∧ Hid (GrTo g k)) (fun i => n - (intOf i).toNat)
  case atStart => exact ⟨0, by omega, rfl, Lib.hid (fun i hi => by omega)⟩
  case round =>
    obtain ⟨k, hk, rfl, HO⟩ := hrel
    by_cases hlt : k < n
    · obtain ⟨ad, A', n', c', rfl, hbl, hc, hi, hm, hcap⟩ := HI.out.at_ hlt
      unfold maxLen at hm
      have hki : (k : Int) < (n : Int) := by omega
      have hk0 : (0 : Int) ≤ (k : Int) := by omega
      have HR := Lib.hid hi
      have HRL := Lib.hid hi.len
      have hb := fun W (h : Iz W A' n' (g.getD k [])) => bscheck_any A' n' c' (g.getD k []) W h (by unfold maxLen; omega)
      have bad : ¬ RowOk g k → grB g = false := fun hh => grB_row (by rw [HL.out]; exact hlt) hh
      have HBAD := Lib.hid bad
      have HNX := Lib.hid (fun (hh : RowOk g k) => grTo_succ HO.out hh)
      clear hi bad
      by_cases hs : setB (g.getD k []) = true
      · rw [hs] at hb
        have HB := Lib.hid hb
        have HS := Lib.hid (setB_iff.1 hs)
        clear hb hs
        cases n' with
        | zero =>
          have HG := Lib.hid (HNX.out ⟨HS.out, fun h => by have := HRL.out; omega⟩)
          go_wp2_with (go_at_call 99; refine (HB.out _ HR.out).mono ?_; rintro e w' ⟨rfl, rfl⟩)
          go_round
          case rel => exact ⟨k + 1, by omega, by go_num, HG⟩
          case measure => simp [intOf]; omega
        | succ m =>
          obtain ⟨bd, rfl, hbl', hc'⟩ := HR.out.at_ (show m < m + 1 by omega)
          have HM := Lib.hid (show (g.getD k []).getD ((g.getD k []).length - 1) 0 = (g.getD k []).getD m 0 by rw [HRL.out]; rfl)
          have hm0 : (0 : Int) ≤ (m : Int) := by omega
          have hm1 : (0 : Int) < (m : Int) + 1 := by omega
          by_cases hx : (g.getD k []).getD m 0 < n
          · have HG := Lib.hid (HNX.out ⟨HS.out, fun _ => by rw [HM.out, HL.out]; exact hx⟩)
            generalize (g.getD k []).getD m 0 = x at *
            go_wp2_with (go_at_call 99; refine (HB.out _ HR.out).mono ?_; rintro e w' ⟨rfl, rfl⟩)
            go_round
            case rel => exact ⟨k + 1, by omega, by go_num, HG⟩
            case measure => simp [intOf]; omega
          · have HF := Lib.hid (HBAD.out fun hh => hx (by have := hh.2 (by rw [HRL.out]; omega); rw [HM.out, HL.out] at this; exact this))
            have hx' : (n : Int) ≤ (g.getD k []).getD m 0 := by omega
            generalize (g.getD k []).getD m 0 = x at *
            go_wp2_with (go_at_call 99; refine (HB.out _ HR.out).mono ?_; rintro e w' ⟨rfl, rfl⟩)
            go_ret
            exact ⟨ret_bool HF.out.symm, rfl⟩
      · have hs' : setB (g.getD k []) = false := by simpa using hs
        rw [hs'] at hb
        have HB := Lib.hid hb
        have HF := Lib.hid (HBAD.out fun hh => hs (setB_iff.2 hh.1))
        clear hb hs hs'
        go_wp2_with (go_at_call 99; refine (HB.out _ HR.out).mono ?_; rintro e w' ⟨rfl, rfl⟩)
        go_ret
        exact ⟨ret_bool HF.out.symm, rfl⟩
    · have hkn : k = n := by omega
      have HT : Hid (GrTo g g.length) := Lib.hid (by rw [HL.out, ← hkn]; exact HO.out)
      clear hkn
      by_cases h1 : 1 ≤ n
      · by_cases h2 : n ≤ 80
        · have HR : Hid (grB g = true) := Lib.hid (grOk_of (by rw [HL.out]; exact h1) (by rw [HL.out]; exact h2) HT.out)
          have h1i : (1 : Int) ≤ (n : Int) := by omega
          have h2i : (n : Int) ≤ 80 := by omega
          go_wp2
          go_ret
          exact ⟨ret_bool (by rw [HR.out]; try (simp; try omega)), rfl⟩
        · have HR : Hid (grB g = false) := Lib.hid (grB_not fun hh => h2 (by have := hh.2.1; rw [HL.out] at this; exact this))
          have h1i : (1 : Int) ≤ (n : Int) := by omega
          go_wp2
          go_ret
          exact ⟨ret_bool (by rw [HR.out]; try (simp; try omega)), rfl⟩
      · have HR : Hid (grB g = false) := Lib.hid (grB_not fun hh => h1 (by have := hh.1; rw [HL.out] at this; exact this))
        have h1i : ¬ (1 : Int) ≤ (n : Int) := by omega
        go_wp2
        go_ret
        exact ⟨ret_bool (by rw [HR.out]; try (simp; try omega)), rfl⟩

set_option maxHeartbeats 1000000 in
theorem refgrcheck_any (A : Option Addr) (n c : Nat) (g : List (List Int)) (w : World) (h : Gz w A n g) (hn : n ≤ maxLen) :
    Calls Try.prog 57 #[.slice A n c] w fun e w' => e = .returned (.bool (grB g)) ∧ ∃ q, w' = w.drewN q := by
  unfold maxLen at hn
  have hl := h.len
  have HL := Lib.hid hl
  have HI := Lib.hid h
  clear hl h
  by_cases h1 : 1 ≤ n
  · by_cases h2 : n ≤ 80
    · have h1i : ¬ (n : Int) < 1 := by omega
      have h2i : ¬ (80 : Int) < (n : Int) := by omega
      have h1b : decide ((n : Int) < 1) = false := by simpa using h1i
      go_enter Try.func57, Try.ntmps57
      go_wp2
      go_loopw [3] (fun i wr => ∃ k q : Nat, k ≤ n ∧ i = .int .i64 k ∧ Hid (GrTo g k) ∧ wr = w.drewN q) (fun i _ => n - (intOf i).toNat)
      case atStart => exact ⟨0, 0, by omega, rfl, Lib.hid (fun i hi => by omega), rfl⟩
      case round =>
        obtain ⟨k, q, hk, rfl, HO, rfl⟩ := hrel
        by_cases hlt : k < n
        · obtain ⟨ad, A', n', c', rfl, hbl, hc, hi, hm, hcap⟩ := HI.out.at_ hlt
          unfold maxLen at hm
          have hki : (k : Int) < (n : Int) := by omega
          have hk0 : (0 : Int) ≤ (k : Int) := by omega
          have HR := Lib.hid hi
          have HRL := Lib.hid hi.len
          have hb := fun W (h : Iz W A' n' (g.getD k [])) => refcheck_any A' n' c' (g.getD k []) W h (by unfold maxLen; omega)
          have bad : ¬ RowOk g k → grB g = false := fun hh => grB_row (by rw [HL.out]; exact hlt) hh
          have HBAD := Lib.hid bad
          have HNX := Lib.hid (fun (hh : RowOk g k) => grTo_succ HO.out hh)
          clear hi bad
          by_cases hs : setB (g.getD k []) = true
          · rw [hs] at hb
            have HB := Lib.hid hb
            have HS := Lib.hid (setB_iff.1 hs)
            clear hb hs
            cases n' with
            | zero =>
              have HG := Lib.hid (HNX.out ⟨HS.out, fun h => by have := HRL.out; omega⟩)
              go_wp2_with fail
              go_quiet ((go_at_call 86; first | exact Calls.quiet_of (HB.out _ (HR.out.drewN _)) | exact quiet_add (HB.out _ (HR.out.drewN _))))
              go_wp2
              go_roundw
              case rel => exact ⟨k + 1, q + nq, by omega, by go_num, HG, by first | rfl | exact World.drewN_drewN _ _ _⟩
              case measure => simp [intOf]; omega
            | succ m =>
              obtain ⟨bd, rfl, hbl', hc'⟩ := HR.out.at_ (show m < m + 1 by omega)
              have HM := Lib.hid (show (g.getD k []).getD ((g.getD k []).length - 1) 0 = (g.getD k []).getD m 0 by rw [HRL.out]; rfl)
              have hm0 : (0 : Int) ≤ (m : Int) := by omega
              have hm1 : (0 : Int) < (m : Int) + 1 := by omega
              by_cases hx : (g.getD k []).getD m 0 < n
              · have HG := Lib.hid (HNX.out ⟨HS.out, fun _ => by rw [HM.out, HL.out]; exact hx⟩)
                generalize (g.getD k []).getD m 0 = x at *
                go_wp2_with fail
                go_quiet ((go_at_call 86; first | exact Calls.quiet_of (HB.out _ (HR.out.drewN _)) | exact quiet_add (HB.out _ (HR.out.drewN _))))
                go_wp2
                go_roundw
                case rel => exact ⟨k + 1, q + nq, by omega, by go_num, HG, by first | rfl | exact World.drewN_drewN _ _ _⟩
                case measure => simp [intOf]; omega
              · have HF := Lib.hid (HBAD.out fun hh => hx (by have := hh.2 (by rw [HRL.out]; omega); rw [HM.out, HL.out] at this; exact this))
                have hx' : (n : Int) ≤ (g.getD k []).getD m 0 := by omega
                generalize (g.getD k []).getD m 0 = x at *
                go_wp2_with fail
                go_quiet ((go_at_call 86; first | exact Calls.quiet_of (HB.out _ (HR.out.drewN _)) | exact quiet_add (HB.out _ (HR.out.drewN _))))
                go_wp2
                go_ret
                exact ⟨ret_bool HF.out.symm, by first | exact ⟨_, rfl⟩ | exact ⟨_, World.drewN_drewN _ _ _⟩⟩
          · have hs' : setB (g.getD k []) = false := by simpa using hs
            rw [hs'] at hb
            have HB := Lib.hid hb
            have HF := Lib.hid (HBAD.out fun hh => hs (setB_iff.2 hh.1))
            clear hb hs hs'
            go_wp2_with fail
            go_quiet ((go_at_call 86; first | exact Calls.quiet_of (HB.out _ (HR.out.drewN _)) | exact quiet_add (HB.out _ (HR.out.drewN _))))
            go_wp2
            go_ret
            exact ⟨ret_bool HF.out.symm, by first | exact ⟨_, rfl⟩ | exact ⟨_, World.drewN_drewN _ _ _⟩⟩
        · have hkn : k = n := by omega
          have HT : Hid (GrTo g g.length) := Lib.hid (by rw [HL.out, ← hkn]; exact HO.out)
          clear hkn
          have HR : Hid (grB g = true) := Lib.hid (grOk_of (by rw [HL.out]; exact h1) (by rw [HL.out]; exact h2) HT.out)
          go_wp2
          go_ret
          exact ⟨ret_bool HR.out.symm, _, rfl⟩
    · have HR : Hid (grB g = false) := Lib.hid (grB_not fun hh => h2 (by have := hh.2.1; rw [HL.out] at this; exact this))
      have h1i : ¬ (n : Int) < 1 := by omega
      have h2i : (80 : Int) < (n : Int) := by omega
      go_enter Try.func57, Try.ntmps57
      go_wp2
      go_ret
      exact ⟨ret_bool HR.out.symm, 0, rfl⟩
  · have HR : Hid (grB g = false) := Lib.hid (grB_not fun hh => h1 (by have := hh.1; rw [HL.out] at this; exact this))
    have h1i : (n : Int) < 1 := by omega
    go_enter Try.func57, Try.ntmps57
    go_wp2
    go_ret
    exact ⟨ret_bool HR.out.symm, 0, rfl⟩
end Go.Proofs.Ytgamodmenlhedaa.cf
