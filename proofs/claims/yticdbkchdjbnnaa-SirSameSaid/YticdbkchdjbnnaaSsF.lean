/- SirSame: which raw programs are looked at; the greatest number of parts. -/
import Derived.Test.YticdbkchdjbnnaaAl
import Derived.BigQuiet
import Derived.Deep.QuietTactic
namespace Go.Proofs.Yticdbkchdjbnnaa.pm
open Go.RowKit
set_option linter.unusedVariables false
set_option maxRecDepth 10000

def fnA (f : Fn) : Int := wrap64 ((f.code.length : Int) + (f.slots.length : Int))
def fnS (p : List Fn) : Nat → Int
  | 0 => p.length
  | k + 1 => if fnS p k ≤ 500 then wrap64 (fnS p k + fnA (p.getD k Fn.z)) else fnS p k
def fineB (p : List Fn) : Bool := decide (fnS p p.length ≤ 500)
theorem fnS_stop (p : List Fn) {k j : Nat} (h : k ≤ j) (hs : ¬ fnS p k ≤ 500) : fnS p j = fnS p k := by
  induction j with
  | zero => obtain rfl : k = 0 := by omega
            rfl
  | succ j ih =>
    rcases Nat.lt_or_ge k (j + 1) with hk | hk
    · have e := ih (by omega)
      show (if fnS p j ≤ 500 then _ else fnS p j) = _
      rw [if_neg (by rw [e]; exact hs), e]
    · obtain rfl : k = j + 1 := by omega
      rfl
set_option maxHeartbeats 800000 in
theorem fine_any (Ap : Option Addr) (p : List Fn) (cp : Nat) (w : World) (lo hi : Nat) (hf : Fx w lo hi Ap p) (hh : hi ≤ w.heap.size) (hm : p.length ≤ maxLen) :
    Calls Try.prog 5 #[.agg #[.slice Ap p.length cp]] w fun e w' => e = .returned (.bool (fineB p)) ∧ Below w.heap.size w w' := by
  obtain ⟨W1, hW1⟩ : ∃ W1, W1 = w.alloc (.cells #[.slice Ap p.length cp] 24) := ⟨_, rfl⟩
  have hB1 : Below w.heap.size w W1 := by rw [hW1]; exact (Below.refl _ _).alloc (Nat.le_refl _) _
  have HKP : Hid (Blk W1 w.heap.size 24 #[.slice Ap p.length cp]) := Lib.hid (by rw [hW1]; exact Blk.new _ _ _)
  have HF1 := Lib.hid (hf.keep (Kp.of_below hB1 hh))
  have HB1 := Lib.hid hB1
  have HW1 := Lib.hid hW1
  have hmi : (p.length : Int) ≤ 9223372036854775807 := by unfold maxLen at hm; omega
  have hz1 : w.heap.size < W1.heap.size := HKP.out.lt
  have hh1 : hi ≤ W1.heap.size := by omega
  clear hf hW1 hB1
  obtain ⟨q0, -, qz⟩ := blk_one HKP.out
  go_enter Try.func5, Try.ntmps5
  go_upto_region 1 with (fail)
  rw [← HW1.out]
  go_wp2
  go_loopw [3, 4] (fun n v wr => ∃ k : Nat, k ≤ p.length ∧ v = .int .i64 k ∧ n = .int .i64 (fnS p k) ∧ Hid (Below W1.heap.size W1 wr)) (fun _ v _ => p.length - (intOf v).toNat)
  case atStart => exact ⟨0, by omega, rfl, rfl, Lib.hid (Below.refl _ _)⟩
  case round =>
    clear q0 qz
    obtain ⟨k, hk, rfl, rfl, HB⟩ := hrel
    have hk0 : (0 : Int) ≤ (k : Int) := by omega
    obtain ⟨q0, -, qz⟩ := blk_one (HKP.out.after HB.out)
    obtain ⟨s, hs⟩ : ∃ s, s = fnS p k := ⟨_, rfl⟩
    have HS := Lib.hid hs
    rw [← hs]
    clear hs
    have HBN : Hid (Below w.heap.size w wr) := Lib.hid (HB1.out.trans (HB.out.mono HB1.out.size))
    by_cases hlt : k < p.length
    · have hki : (k : Int) < (p.length : Int) := by omega
      by_cases h5 : s ≤ 500
      · obtain ⟨ad, As, cs, Ai, ci, rfl, hbl, -, c1, c2, -, -, -, -, -⟩ := (HF1.out.keep (Kp.of_below HB.out hh1)).whole hlt
        have HN' : Hid (fnS p (k + 1) = wrap64 (s + wrap64 (((p.getD k Fn.z).code.length : Int) + ((p.getD k Fn.z).slots.length : Int)))) := Lib.hid (by show (if fnS p k ≤ 500 then _ else _) = _; rw [← HS.out, if_pos h5]; rfl)
        obtain ⟨f, hff⟩ : ∃ f, f = p.getD k Fn.z := ⟨_, rfl⟩
        rw [← hff] at c1 c2 HN'
        clear hff HS
        go_wp2_with fail
        go_quiet (fail)
        go_wp2
        go_roundw
        case rel => exact ⟨k + 1, by omega, by go_num, by rw [HN'.out], Lib.hid (below_drewN HB.out _)⟩
        case measure => simp [intOf]; omega
      · have HE : Hid (fineB p = false) := Lib.hid (by unfold fineB; rw [decide_eq_false_iff_not, fnS_stop p hk (by rw [← HS.out]; exact h5), ← HS.out]; exact h5)
        have h5i : (500 : Int) < s := by omega
        clear HS h5
        go_wp2
        go_ret
        exact ⟨ret_bool (by rw [HE.out]; simp; omega), HBN.out⟩
    · obtain rfl : k = p.length := by omega
      have HE : Hid (fineB p = decide (s ≤ 500)) := Lib.hid (by unfold fineB; rw [HS.out])
      clear HS
      go_wp2
      go_ret
      exact ⟨ret_bool (by rw [HE.out]), HBN.out⟩
end Go.Proofs.Yticdbkchdjbnnaa.pm
