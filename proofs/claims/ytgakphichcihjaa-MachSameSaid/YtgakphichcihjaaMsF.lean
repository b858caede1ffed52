/- MachSame: which raw targets are looked at. -/
import Derived.Test.YtgakphichcihjaaKr
import Derived.Test.YtgakphichcihjaaAl
import Derived.BigQuiet
import Derived.Deep.QuietTactic
namespace Go.Proofs.Ytgakphichcihjaa.pm
open Go.RowKit
set_option linter.unusedVariables false
set_option maxRecDepth 10000

def tgN (t : List Fr) : Nat → Int
  | 0 => t.length
  | k + 1 => if tgN t k ≤ 500 then wrap64 (tgN t k + ((t.getD k Fr.z).code.length : Int)) else tgN t k
def fineT (t : List Fr) : Bool := decide (tgN t t.length ≤ 500)
theorem tgN_stop (t : List Fr) {k j : Nat} (h : k ≤ j) (hs : ¬ tgN t k ≤ 500) : tgN t j = tgN t k := by
  induction j with
  | zero => obtain rfl : k = 0 := by omega
            rfl
  | succ j ih =>
    rcases Nat.lt_or_ge k (j + 1) with hk | hk
    · have e := ih (by omega)
      show (if tgN t j ≤ 500 then _ else tgN t j) = _
      rw [if_neg (by rw [e]; exact hs), e]
    · obtain rfl : k = j + 1 := by omega
      rfl
set_option maxHeartbeats 800000 in
theorem finet_any (al : Int) (At : Option Addr) (t : List Fr) (ct : Nat) (w : World) (lo hi : Nat) (hf : Gx w lo hi At t) (hh : hi ≤ w.heap.size) (hm : t.length ≤ maxLen) :
    Calls Try.prog 11 #[.agg #[.int .i64 al, .slice At t.length ct]] w fun e w' => e = .returned (.bool (fineT t)) ∧ Below w.heap.size w w' := by
  obtain ⟨W1, hW1⟩ : ∃ W1, W1 = w.alloc (.cells #[.int .i64 al, .slice At t.length ct] 24) := ⟨_, rfl⟩
  have hB1 : Below w.heap.size w W1 := by rw [hW1]; exact (Below.refl _ _).alloc (Nat.le_refl _) _
  have HKP : Hid (Blk W1 w.heap.size 24 #[.int .i64 al, .slice At t.length ct]) := Lib.hid (by rw [hW1]; exact Blk.new _ _ _)
  have HF1 := Lib.hid (hf.keep (Kp.of_below hB1 hh))
  have HB1 := Lib.hid hB1
  have HW1 := Lib.hid hW1
  have hmi : (t.length : Int) ≤ 9223372036854775807 := by unfold maxLen at hm; omega
  have hz1 : w.heap.size < W1.heap.size := HKP.out.lt
  have hh1 : hi ≤ W1.heap.size := by omega
  clear hf hW1 hB1
  obtain ⟨q0, q1, -, -, qz⟩ := HKP.out.c2
  go_enter Try.func11, Try.ntmps11
  go_upto_region 1 with (fail)
  rw [← HW1.out]
  go_wp2
  go_loopw [3, 4] (fun n v wr => ∃ k : Nat, k ≤ t.length ∧ v = .int .i64 k ∧ n = .int .i64 (tgN t k) ∧ Hid (Below W1.heap.size W1 wr)) (fun _ v _ => t.length - (intOf v).toNat)
  case atStart => exact ⟨0, by omega, rfl, rfl, Lib.hid (Below.refl _ _)⟩
  case round =>
    clear q0 q1 qz
    obtain ⟨k, hk, rfl, rfl, HB⟩ := hrel
    have hk0 : (0 : Int) ≤ (k : Int) := by omega
    obtain ⟨q0, q1, -, -, qz⟩ := (HKP.out.after HB.out).c2
    obtain ⟨s, hs⟩ : ∃ s, s = tgN t k := ⟨_, rfl⟩
    have HS := Lib.hid hs
    rw [← hs]
    clear hs
    have HBN : Hid (Below w.heap.size w wr) := Lib.hid (HB1.out.trans (HB.out.mono HB1.out.size))
    by_cases hlt : k < t.length
    · have hki : (k : Int) < (t.length : Int) := by omega
      by_cases h5 : s ≤ 500
      · obtain ⟨ad, Ai, ci, rfl, hbl, -, -, c2', -, c2, -, -, -⟩ := (HF1.out.keep (Kp.of_below HB.out hh1)).whole hlt
        have HN' : Hid (tgN t (k + 1) = wrap64 (s + ((t.getD k Fr.z).code.length : Int))) := Lib.hid (by show (if tgN t k ≤ 500 then _ else _) = _; rw [← HS.out, if_pos h5])
        obtain ⟨f, hff⟩ : ∃ f, f = t.getD k Fr.z := ⟨_, rfl⟩
        rw [← hff] at c2 c2' HN'
        clear hff HS
        go_wp2_with fail
        go_roundw
        case rel => exact ⟨k + 1, by omega, by go_num, by rw [HN'.out], HB⟩
        case measure => simp [intOf]; omega
      · have HE : Hid (fineT t = false) := Lib.hid (by unfold fineT; rw [decide_eq_false_iff_not, tgN_stop t hk (by rw [← HS.out]; exact h5), ← HS.out]; exact h5)
        have h5i : (500 : Int) < s := by omega
        clear HS h5
        go_wp2
        go_ret
        exact ⟨ret_bool (by rw [HE.out]; simp; omega), HBN.out⟩
    · obtain rfl : k = t.length := by omega
      have HE : Hid (fineT t = decide (s ≤ 500)) := Lib.hid (by unfold fineT; rw [HS.out])
      clear HS
      go_wp2
      go_ret
      exact ⟨ret_bool (by rw [HE.out]), HBN.out⟩
theorem eqT_refl (x : List Fr) : eqL sameFr x x = true := eqL_all (z := Fr.z) rfl fun j _ => by
  have h2 : ∀ l : List Ins, eqL inEq l l = true := fun l => eqL_all (z := Ins.z) rfl fun j _ => by simp [inEq]
  simp [sameFr, h2]
theorem sameTg_refl (a : Int) (x : List Fr) : sameTg a a x x = true := by simp [sameTg, eqT_refl]
end Go.Proofs.Ytgakphichcihjaa.pm
