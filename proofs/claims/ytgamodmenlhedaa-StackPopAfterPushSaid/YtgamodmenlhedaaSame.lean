/- The contract of SameBytes. -/
import Derived.Test.YtgamodmenlhedaaBase
namespace Go.Proofs.Ytgamodmenlhedaa
open Go.RowKit
set_option linter.unusedVariables false

theorem same_bytes (A A' : Option Addr) (n c m d : Nat) (l r : List Nat) (w : World) (B : Nat) (hb : Bs w B A n l) (hr : Bs w B A' m r) (hn : n ≤ maxLen) (hm : m ≤ maxLen) :
    Calls Try.prog 39 #[.slice A n c, .slice A' m d] w fun e w' => e = .returned (.bool (decide (l = r))) ∧ ∃ k, w' = w.drewN k := by
  have hln := hb.len
  have hlm := hr.len
  have HN := Lib.hid hln
  have HM := Lib.hid hlm
  clear hln hlm
  unfold maxLen at hn hm
  by_cases hnm : n = m
  · subst hnm
    go_enter Try.func39, Try.ntmps39
    go_wp2
    go_loopw [5] (fun i wr => ∃ k : Nat, k ≤ n ∧ i = .int .i64 k ∧ Hid (l.take k = r.take k) ∧ ∃ q, wr = w.drewN q) (fun i _ => n - (intOf i).toNat)
    case atStart => exact ⟨0, by omega, rfl, Lib.hid rfl, 0, rfl⟩
    case round =>
      obtain ⟨k, hk, rfl, H, q, rfl⟩ := hrel
      by_cases hlt : k < n
      · obtain ⟨ad, rfl, hbl, hcell⟩ := hb.at_ hlt
        obtain ⟨ad', rfl, hbl', hcell'⟩ := hr.at_ hlt
        have hl2 := HN.out
        have hr2 := HM.out
        have htl := take_succ_getD l k (by omega)
        have htr := take_succ_getD r k (by omega)
        have hki : (k : Int) < (n : Int) := by omega
        have hk0 : (0 : Int) ≤ (k : Int) := by omega
        by_cases hxy : l.getD k 0 = r.getD k 0
        · have H' := Lib.hid (show l.take (k + 1) = r.take (k + 1) by rw [htl, htr, hxy, H.out])
          rw [← hxy] at hcell'
          clear htl htr hl2 hr2 hxy H hb hr
          generalize l.getD k 0 = x at *
          go_wp2_with fail
          go_quiet (fail)
          go_wp2
          go_roundw
          case rel => exact ⟨k + 1, by omega, by go_num, H', by first | exact ⟨_, rfl⟩ | exact ⟨_, World.drewN_drewN _ _ _⟩⟩
          case measure => simp [intOf]; omega
        · have H' := Lib.hid (show l ≠ r by rintro rfl; exact hxy rfl)
          have hne : (((l.getD k 0 : Nat) : Int) != ((r.getD k 0 : Nat) : Int)) = true := by rw [bne_iff_ne]; omega
          clear htl htr hl2 hr2 hxy H hb hr
          generalize l.getD k 0 = x at *
          generalize r.getD k 0 = y at *
          go_wp2_with fail
          go_quiet (fail)
          go_wp2
          go_ret
          exact ⟨ret_bool (by simpa using H'.out), by first | exact ⟨_, rfl⟩ | exact ⟨_, World.drewN_drewN _ _ _⟩⟩
      · go_wp2_with fail
        go_ret
        refine ⟨ret_bool ?_, _, rfl⟩
        have h1 := H.out
        rw [List.take_of_length_le (by have := HN.out; omega), List.take_of_length_le (by have := HM.out; omega)] at h1
        simpa using h1
  · have hne : ((n : Int) != (m : Int)) = true := by rw [bne_iff_ne]; omega
    go_enter Try.func39, Try.ntmps39
    go_wp2
    go_ret
    refine ⟨ret_bool ?_, 0, rfl⟩
    have : l ≠ r := by
      rintro rfl
      exact hnm (HN.out.symm.trans HM.out)
    simpa using this

theorem same_true (A A' : Option Addr) (n c m d : Nat) (l : List Nat) (w : World) (B : Nat) (hb : Bs w B A n l) (hr : Bs w B A' m l) (hn : n ≤ maxLen) (hm : m ≤ maxLen) :
    Calls Try.prog 39 #[.slice A n c, .slice A' m d] w fun e w' => e = .returned (.bool true) ∧ ∃ k, w' = w.drewN k :=
  (same_bytes A A' n c m d l l w B hb hr hn hm).mono fun e w' ⟨he, h⟩ => ⟨by rw [he]; exact ret_bool (by simp), h⟩
end Go.Proofs.Ytgamodmenlhedaa
