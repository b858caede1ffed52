/- VarintIsShortest: the walk of the law. -/
import Derived.Test.YtcpmlcdeddmdmaaRdi
import Derived.Test.YtcpmlcdeddmdmaaRdInv
import Derived.Test.YtcpmlcdeddmdmaaZig
import Derived.Deep.RegionHeld3
namespace Go.Proofs.Ytcpmlcdeddmdmaa.vs
open Go.RowKit
set_option linter.unusedVariables false

theorem bs_nil (w : World) (B : Nat) : Bs w B none 0 [] := ⟨by simpa [nb] using Reads.none_, by simp⟩

set_option maxHeartbeats 2000000 in
set_option maxRecDepth 10000 in
theorem law (A : Option Addr) (n c : Nat) (l : List Nat) (w : World) (hb : Bs w w.heap.size A n l) (hn : n ≤ maxLen) (hcap : n ≤ c) :
    Calls Try.prog 10 #[.slice A n c] w fun e w' => e = .returned (.bool true) ∧ Below w.heap.size w w' := by
  have HM := Lib.hid hn
  have HL := Lib.hid hb.len
  unfold maxLen at hn
  by_cases hle : n ≤ 1000
  · go_enter Try.func10, Try.ntmps10
    go_wp2_with fail
    refine (awake01 w).mono ?_
    rintro e w1 ⟨rfl, rfl⟩
    go_wp2_with fail
    refine (uint_any A n c l 0 (by omega) (by omega) w _ hb (by omega)).mono ?_
    rintro e w1 ⟨rfl, rfl⟩
    have hlt := rdU_lt l 0
    have herr := rdU_err l 0
    have hput := rdU_put l hb.2
    unfold retU
    generalize hR : rdU l 0 = R at *
    obtain ⟨v, q, e⟩ := R
    clear hR
    simp only at hlt herr ⊢
    by_cases he : e = 0
    · subst he
      obtain ⟨hq1, hqn, hpq⟩ := hput v q rfl
      have hq : (put v).length = q := by rw [hpq, List.length_take]; omega
      have hlv := len_any v hlt
      have hpa : ∀ W : World, Calls Try.prog 33 #[.slice none 0 0, .int .u64 v] W fun e w' => ∃ A1 c1, e = .returned (.slice A1 q c1) ∧ Bs w' w'.heap.size A1 q (put v) ∧ Below W.heap.size W w' := fun W =>
        (put_any none 0 0 [] v hlt W 0 (bs_nil W 0) (by omega) (by omega)).mono fun e w' ⟨r, he, own, bel⟩ => by
          obtain ⟨A1, c1, rfl, _, B1⟩ := fresh_bytes (L := put v) own (put_lt v hlt)
          rw [hq] at B1 he
          exact ⟨A1, c1, he, B1, bel⟩
      rw [hq] at hlv
      have HLV := Lib.hid hlv
      have HPA := Lib.hid hpa
      have HPQ := Lib.hid hpq
      have HB := Lib.hid hb
      have HQ := Lib.hid hq
      have hbt := hb.take (show q ≤ n by rw [← HL.out]; exact hqn)
      rw [← hpq] at hbt
      have HBT := Lib.hid hbt
      have hqn' : (q : Int) ≤ (n : Int) := by have := HL.out; omega
      have hqc : (q : Int) ≤ (c : Int) := by omega
      have hqc' : q ≤ c := by omega
      have hq0 : (1 : Int) ≤ (q : Int) := by omega
      have HP := Lib.hid (put_lt v hlt)
      clear hlv hpa hpq hb hq hbt hlt herr hput
      go_wp2_with fail
      go_region_held3 (fun _ => True) (first | exact trivial) (first
        | (go_at_call 37; refine (HLV.out _).mono ?_; rintro e w' ⟨rfl, rfl⟩)
        | (go_at_call 33; refine (HPA.out _).mono ?_; rintro e w5 ⟨A1, c1, rfl, B1, bel1⟩)
        | (go_at_call 32; refine (same_true _ _ _ _ _ _ (put v) _ _ B1 (((show Bs w.drew _ _ _ _ from HBT.out).below bel1).more bel1.size) (by unfold maxLen; omega) (by unfold maxLen; omega)).mono ?_; rintro e w6 ⟨rfl, kk, rfl⟩))
      go_wp2
      go_ret
      exact ⟨rfl, below_drewN ((Below.refl w.heap.size w).drew.trans bel1) _⟩
    · obtain ⟨rfl, rfl⟩ := herr he
      have hne : ((e : Int) != 0) = true := by rw [bne_iff_ne]; omega
      clear hput hb
      go_wp2
      go_ret
      exact ⟨rfl, Below.refl _ _⟩
  · have hgt : (1000 : Int) < (n : Int) := by omega
    go_enter Try.func10, Try.ntmps10
    go_wp2_with fail
    refine (awake01 w).mono ?_
    rintro e w1 ⟨rfl, rfl⟩
    go_wp2
    go_ret
    exact ⟨rfl, Below.refl _ _⟩
end Go.Proofs.Ytcpmlcdeddmdmaa.vs
