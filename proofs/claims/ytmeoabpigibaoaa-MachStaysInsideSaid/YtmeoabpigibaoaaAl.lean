/- Contracts: the greatest alignment of slots and of programs, in the program and in the reference. -/
import Derived.Test.YtmeoabpigibaoaaSc3
import Derived.Test.YtmeoabpigibaoaaRc2
namespace Go.Proofs.Ytmeoabpigibaoaa.pm
open Go.RowKit
set_option linter.unusedVariables false
set_option maxRecDepth 10000

def mxO (g : Nat → Int) : Nat → Int
  | 0 => 16
  | k + 1 => if mxO g k < g k then g k else mxO g k
def alS (sl : List (Int × Int)) : Int := if slotsE sl = 0 then mxO (fun j => (sl.getD j (0, 0)).2) sl.length else 16
def alP (p : List Fn) : Int := mxO (fun j => alS (p.getD j Fn.z).slots) p.length
set_option maxHeartbeats 400000 in
theorem refalign_any (As : Option Addr) (sl : List (Int × Int)) (cs : Nat) (w : World) (lo hi : Nat) (hs : Sx w lo hi As sl) (hcs : sl.length ≤ maxLen) (hr : ∀ s ∈ sl, I64 s.1 ∧ I64 s.2) :
    Calls Try.prog 28 #[.slice As sl.length cs] w fun e w' => e = .returned (.int .i64 (alS sl)) ∧ w = w' := by
  have HC := Lib.hid (refslots_any As sl cs w lo hi hs hcs hr)
  have HS := Lib.hid hs
  have hni : (sl.length : Int) ≤ 9223372036854775807 := by unfold maxLen at hcs; omega
  clear hs hr
  obtain ⟨ev, hev⟩ : ∃ ev, ev = slotsE sl := ⟨_, rfl⟩
  rw [← hev] at HC
  by_cases he : ev = 0
  · have HE : Hid (alS sl = mxO (fun j => (sl.getD j (0, 0)).2) sl.length) := Lib.hid (by unfold alS; rw [if_pos (hev ▸ he)])
    have e1 : (ev != 0) = false := by simp [he]
    clear hev he
    go_enter Try.func28, Try.ntmps28
    go_wp2_with fail
    refine HC.out.mono ?_
    rintro e w1 ⟨rfl, rfl⟩
    clear HC
    go_wp2
    go_loop [3, 4] (fun m v => ∃ k : Nat, k ≤ sl.length ∧ v = .int .i64 k ∧ m = .int .i64 (mxO (fun j => (sl.getD j (0, 0)).2) k)) (fun _ v => sl.length - (intOf v).toNat)
    case atStart => exact ⟨0, by omega, rfl, rfl⟩
    case round =>
      obtain ⟨k, hk, rfl, rfl⟩ := hrel
      have hk0 : (0 : Int) ≤ (k : Int) := by omega
      obtain ⟨mv, hmv⟩ : ∃ mv, mv = mxO (fun j => (sl.getD j (0, 0)).2) k := ⟨_, rfl⟩
      rw [← hmv]
      have HMV := Lib.hid hmv
      clear hmv
      by_cases hlt : k < sl.length
      · have hki : (k : Int) < (sl.length : Int) := by omega
        obtain ⟨ad, rfl, hbl, c0, c1⟩ := HS.out.at_ hlt
        have c1w := c1
        rw [add_pos _ 1 (by omega)] at c1w
        have HM' : Hid ((if mv < (sl.getD k (0, 0)).2 then (sl.getD k (0, 0)).2 else mv) = mxO (fun j => (sl.getD j (0, 0)).2) (k + 1)) := Lib.hid (by rw [HMV.out]; rfl)
        obtain ⟨s, hs⟩ : ∃ s, s = sl.getD k (0, 0) := ⟨_, rfl⟩
        rw [← hs] at c0 c1 c1w HM'
        clear hs HMV
        go_wp2
        go_round
        case rel => exact ⟨k + 1, by omega, by go_num, by rw [HM'.out]⟩
        case measure => simp [intOf]; omega
      · obtain rfl : k = sl.length := by omega
        have HE' : Hid (alS sl = mv) := Lib.hid (by rw [HE.out, HMV.out])
        clear HE HMV
        go_wp2
        go_ret
        exact ⟨ret_int (by rw [HE'.out]), rfl⟩
  · have HE : Hid (alS sl = 16) := Lib.hid (by unfold alS; rw [if_neg (by rw [← hev]; exact he)])
    have e1 : (ev != 0) = true := by simp [he]
    clear hev he
    go_enter Try.func28, Try.ntmps28
    go_wp2_with fail
    refine HC.out.mono ?_
    rintro e w1 ⟨rfl, rfl⟩
    clear HC
    go_wp2
    go_ret
    exact ⟨ret_int (by rw [HE.out]), rfl⟩
set_option maxHeartbeats 400000 in
theorem refprogalign_any (Ap : Option Addr) (p : List Fn) (cp : Nat) (w : World) (lo hi : Nat) (hf : Fx w lo hi Ap p) (hh : hi ≤ w.heap.size) (hm : p.length ≤ maxLen) (hr : ∀ i, i < p.length → FnR (p.getD i Fn.z)) :
    Calls Try.prog 16 #[.agg #[.slice Ap p.length cp]] w fun e w' => e = .returned (.int .i64 (alP p)) ∧ Below w.heap.size w w' := by
  obtain ⟨W1, hW1⟩ : ∃ W1, W1 = w.alloc (.cells #[.slice Ap p.length cp] 51) := ⟨_, rfl⟩
  have hB1 : Below w.heap.size w W1 := by rw [hW1]; exact (Below.refl _ _).alloc (Nat.le_refl _) _
  have HKP : Hid (Blk W1 w.heap.size 51 #[.slice Ap p.length cp]) := Lib.hid (by rw [hW1]; exact Blk.new _ _ _)
  have HF1 := Lib.hid (hf.keep (Kp.of_below hB1 hh))
  have HB1 := Lib.hid hB1
  have HW1 := Lib.hid hW1
  have HR := Lib.hid hr
  have hz1 : w.heap.size < W1.heap.size := HKP.out.lt
  have hh1 : hi ≤ W1.heap.size := by omega
  have hmi : (p.length : Int) ≤ 9223372036854775807 := by unfold maxLen at hm; omega
  clear hf hW1 hB1 hr
  obtain ⟨q0, -, qz⟩ := blk_one HKP.out
  go_enter Try.func16, Try.ntmps16
  go_upto_region 1 with (fail)
  rw [← HW1.out]
  go_wp2
  go_loop [3, 4] (fun m v => ∃ k : Nat, k ≤ p.length ∧ v = .int .i64 k ∧ m = .int .i64 (mxO (fun j => alS (p.getD j Fn.z).slots) k)) (fun _ v => p.length - (intOf v).toNat)
  case atStart => exact ⟨0, by omega, rfl, rfl⟩
  case round =>
    obtain ⟨k, hk, rfl, rfl⟩ := hrel
    have hk0 : (0 : Int) ≤ (k : Int) := by omega
    obtain ⟨mv, hmv⟩ : ∃ mv, mv = mxO (fun j => alS (p.getD j Fn.z).slots) k := ⟨_, rfl⟩
    rw [← hmv]
    have HMV := Lib.hid hmv
    clear hmv
    by_cases hlt : k < p.length
    · have hki : (k : Int) < (p.length : Int) := by omega
      obtain ⟨ad, As, cs, Ai, ci, rfl, hbl, c0, c1, c2, -, -, sx, -, ⟨s1, -⟩, -⟩ := HF1.out.whole hlt
      have HM' : Hid ((if mv < alS (p.getD k Fn.z).slots then alS (p.getD k Fn.z).slots else mv) = mxO (fun j => alS (p.getD j Fn.z).slots) (k + 1)) := Lib.hid (by rw [HMV.out]; rfl)
      have HI : Hid (FnR (p.getD k Fn.z)) := Lib.hid (HR.out _ hlt)
      obtain ⟨f, hff⟩ : ∃ f, f = p.getD k Fn.z := ⟨_, rfl⟩
      rw [← hff] at c0 c1 c2 sx s1 HM' HI
      have HSX := Lib.hid sx
      clear hff HMV sx
      go_wp2_with fail
      refine (refalign_any As f.slots cs _ lo hi HSX.out s1 HI.out).mono ?_
      rintro e w5 ⟨rfl, rfl⟩
      go_wp2
      go_round
      case rel => exact ⟨k + 1, by omega, by go_num, by rw [HM'.out]⟩
      case measure => simp [intOf]; omega
    · obtain rfl : k = p.length := by omega
      have HE' : Hid (alP p = mv) := Lib.hid (by unfold alP; rw [HMV.out])
      clear HMV
      go_wp2
      go_ret
      exact ⟨ret_int (by rw [HE'.out]), HB1.out⟩
end Go.Proofs.Ytmeoabpigibaoaa.pm
