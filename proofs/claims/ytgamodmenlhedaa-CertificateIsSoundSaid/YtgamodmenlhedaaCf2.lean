/- Contracts: sets and graphs of the reference; graphs and weights of the program. -/
import Derived.Test.YtgamodmenlhedaaCf1
namespace Go.Proofs.Ytgamodmenlhedaa.cf
open Go.RowKit
set_option linter.unusedVariables false
set_option maxRecDepth 10000

theorem quiet_left {P : Program} {f : FuncId} {args : Array Value} {w : World} {n : Nat} {v : Value}
    (h : Calls P f args (w.drewN n) fun e w' => e = .returned v ∧ w.drewN n = w') : Calls P f args (w.drewN n) fun e w'' => e = .returned v ∧ ∃ m, w'' = w.drewN m :=
  h.mono fun _ _ ⟨he, hm⟩ => ⟨he, n, hm.symm⟩
theorem quiet_add_left {P : Program} {f : FuncId} {args : Array Value} {w : World} {a n : Nat} {v : Value}
    (h : Calls P f args (w.drewN (a + n)) fun e w' => e = .returned v ∧ w.drewN (a + n) = w') : Calls P f args (w.drewN (a + n)) fun e w'' => e = .returned v ∧ ∃ m, w'' = w.drewN (a + m) :=
  h.mono fun _ _ ⟨he, hm⟩ => ⟨he, n, hm.symm⟩
theorem quiet_add {P : Program} {f : FuncId} {args : Array Value} {w : World} {a n : Nat} {v : Value}
    (h : Calls P f args (w.drewN (a + n)) fun e w' => e = .returned v ∧ ∃ m, w' = (w.drewN (a + n)).drewN m) : Calls P f args (w.drewN (a + n)) fun e w'' => e = .returned v ∧ ∃ m, w'' = w.drewN (a + m) :=
  h.mono fun _ _ ⟨he, m, hm⟩ => ⟨he, n + m, by rw [hm, World.drewN_drewN, Nat.add_assoc]⟩

set_option maxHeartbeats 2000000 in
theorem refcheck_any (A : Option Addr) (n c : Nat) (l : List Int) (w : World) (h : Iz w A n l) (hn : n ≤ maxLen) :
    Calls Try.prog 86 #[.slice A n c] w fun e w' => e = .returned (.bool (setB l)) ∧ ∃ q, w' = w.drewN q := by
  unfold maxLen at hn
  have hl := h.len
  have HL := Lib.hid hl
  have HI := Lib.hid h
  clear hl h
  go_enter Try.func86, Try.ntmps86
  go_wp2
  go_loopw [3] (fun i wr => ∃ k q : Nat, k ≤ n ∧ i = .int .i64 k ∧ Hid (OkTo l k) ∧ wr = w.drewN q) (fun i _ => n - (intOf i).toNat)
  case atStart => exact ⟨0, 0, by omega, rfl, Lib.hid (fun i hi => by omega), rfl⟩
  case round =>
    obtain ⟨k, q, hk, rfl, HO, rfl⟩ := hrel
    by_cases hlt : k < n
    · obtain ⟨ad, rfl, hbl, hc⟩ := HI.out.at_ hlt
      have hki : (k : Int) < (n : Int) := by omega
      have hk0 : (0 : Int) ≤ (k : Int) := by omega
      have bad : ¬ OkAt l k → setB l = false := fun hh => setB_not fun hs => hh (hs k (by rw [HL.out]; exact hlt))
      have HBAD := Lib.hid bad
      clear bad
      by_cases hr : 0 ≤ l.getD k 0 ∧ l.getD k 0 < 512
      · have hw := fun W : World => good_any (l.getD k 0) W
        rw [decide_eq_true hr] at hw
        have HW := Lib.hid hw
        clear hw
        cases k with
        | zero =>
          have HG : Hid (OkTo l 1) := Lib.hid (fun i hi => by
            obtain rfl : i = 0 := (by omega)
            exact ⟨hr.1, hr.2, fun h => absurd h (by omega)⟩)
          have hc0 : w.cell? ad = some (.int .i64 (l.getD 0 0)) := by simpa [Addr.add] using hc
          clear hr
          generalize l.getD 0 0 = x at *
          go_wp2_with fail
          go_quiet ((go_at_call 87; first | exact quiet_left (HW.out _) | exact quiet_add_left (HW.out _)))
          go_wp2
          go_roundw
          case rel => exact ⟨1, q + nq, by omega, by go_num, HG, by first | rfl | exact World.drewN_drewN _ _ _⟩
          case measure => simp [intOf]; omega
        | succ j =>
          obtain ⟨ad', e', -, hc'⟩ := HI.out.at_ (show j < n by omega)
          obtain rfl : ad = ad' := by injection e'
          have hc1 : w.cell? ⟨ad.block, ad.off + (j + 1), none⟩ = some (.int .i64 (l.getD (j + 1) 0)) := by simpa [Addr.add] using hc
          have hj0 : (0 : Int) ≤ (j : Int) := by omega
          have hjn : (j : Int) < (n : Int) := by omega
          have hj1 : (0 : Int) < (j : Int) + 1 := by omega
          clear e'
          by_cases hs : l.getD j 0 < l.getD (j + 1) 0
          · have HG : Hid (OkTo l (j + 1 + 1)) := Lib.hid (fun i hi => by
              rcases Nat.lt_or_ge i (j + 1) with h1 | h1
              · exact HO.out i h1
              · obtain rfl : i = j + 1 := (by omega)
                exact ⟨hr.1, hr.2, fun _ => hs⟩)
            clear hr
            generalize l.getD j 0 = y at *
            generalize l.getD (j + 1) 0 = x at *
            have hd : decide (x ≤ y) = false := by simpa using hs
            go_wp2_with fail
            go_quiet ((go_at_call 87; first | exact quiet_left (HW.out _) | exact quiet_add_left (HW.out _)))
            go_wp2
            go_roundw
            case rel => exact ⟨j + 1 + 1, q + nq, by omega, by go_num, HG, by first | rfl | exact World.drewN_drewN _ _ _⟩
            case measure => simp [intOf]; omega
          · have HR : Hid (setB l = false) := Lib.hid (HBAD.out fun hh => hs (hh.2.2 (by omega)))
            clear hr
            generalize l.getD j 0 = y at *
            generalize l.getD (j + 1) 0 = x at *
            have hd : decide (x ≤ y) = true := by simpa using hs
            go_wp2_with fail
            go_quiet ((go_at_call 87; first | exact quiet_left (HW.out _) | exact quiet_add_left (HW.out _)))
            go_wp2
            go_ret
            exact ⟨ret_bool HR.out.symm, by first | exact ⟨_, rfl⟩ | exact ⟨_, World.drewN_drewN _ _ _⟩⟩
      · have HR : Hid (setB l = false) := Lib.hid (HBAD.out fun hh => hr ⟨hh.1, hh.2.1⟩)
        have hw := fun W : World => good_any (l.getD k 0) W
        rw [decide_eq_false hr] at hw
        have HW := Lib.hid hw
        clear hw hr
        generalize l.getD k 0 = x at *
        go_wp2_with fail
        go_quiet ((go_at_call 87; first | exact quiet_left (HW.out _) | exact quiet_add_left (HW.out _)))
        go_wp2
        go_ret
        exact ⟨ret_bool HR.out.symm, by first | exact ⟨_, rfl⟩ | exact ⟨_, World.drewN_drewN _ _ _⟩⟩
    · have HR : Hid (setB l = true) := Lib.hid (setB_iff.2 fun i hi => HO.out i (by have := HL.out; omega))
      go_wp2
      go_ret
      exact ⟨ret_bool HR.out.symm, by first | exact ⟨_, rfl⟩ | exact ⟨_, World.drewN_drewN _ _ _⟩⟩
end Go.Proofs.Ytgamodmenlhedaa.cf
