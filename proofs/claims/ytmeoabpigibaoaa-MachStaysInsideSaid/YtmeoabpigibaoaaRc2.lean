/- Contracts of the reference: Slots, CheckInstr. -/
import Derived.Test.YtmeoabpigibaoaaRc1
import Derived.Test.YtmeoabpigibaoaaSc3
namespace Go.Proofs.Ytmeoabpigibaoaa.pm
open Go.RowKit
set_option linter.unusedVariables false
set_option maxRecDepth 10000

theorem not_f {b : Bool} (h : (!b) = false) : b = true := by cases b <;> simp_all
theorem not_t {b : Bool} (h : (!b) = true) : b = false := by cases b <;> simp_all
theorem badS_all {sl : List (Int × Int)} (h : ¬ 512 < sl.length) : slotsE sl = if sl.any badS = true then 5 else 0 := by
  unfold slotsE
  rw [if_neg h]
  have e : sl.all (fun s => sizeB s.1 && powB s.2) = !sl.any badS := by
    clear h
    induction sl with
    | nil => rfl
    | cons s r ih => rw [List.all_cons, List.any_cons, ih]; unfold badS; cases sizeB s.1 <;> cases powB s.2 <;> simp
  rw [e]
  rcases sl.any badS with _ | _ <;> rfl
set_option maxHeartbeats 1000000 in
theorem refslots_any (As : Option Addr) (sl : List (Int × Int)) (cs : Nat) (w : World) (lo hi : Nat) (hs : Sx w lo hi As sl) (hcs : sl.length ≤ maxLen) (hr : ∀ s ∈ sl, I64 s.1 ∧ I64 s.2) :
    Calls Try.prog 43 #[.slice As sl.length cs] w fun e w' => e = .returned (.int .i64 (slotsE sl)) ∧ w = w' := by
  have HS := Lib.hid hs
  have HR := Lib.hid hr
  have hni : (sl.length : Int) ≤ 9223372036854775807 := by unfold maxLen at hcs; omega
  clear hs hr
  by_cases h5 : 512 < sl.length
  · have HE : Hid (slotsE sl = 3) := Lib.hid (by unfold slotsE; rw [if_pos h5])
    have h5i : (512 : Int) < (sl.length : Int) := by omega
    clear h5
    go_enter Try.func43, Try.ntmps43
    go_wp2
    go_ret
    exact ⟨ret_int (by rw [HE.out]), rfl⟩
  · have HE := Lib.hid (badS_all h5)
    have h5i : (sl.length : Int) ≤ 512 := by omega
    clear h5
    go_enter Try.func43, Try.ntmps43
    go_wp2
    go_loop [3] (fun v => ∃ k : Nat, k ≤ sl.length ∧ v = .int .i64 k ∧ Hid (∀ j, j < k → badS (sl.getD j (0, 0)) = false)) (fun v => sl.length - (intOf v).toNat)
    case atStart => exact ⟨0, by omega, rfl, Lib.hid (fun j hj => by omega)⟩
    case round =>
      obtain ⟨k, hk, rfl, HN⟩ := hrel
      have hk0 : (0 : Int) ≤ (k : Int) := by omega
      by_cases hlt : k < sl.length
      · have hki : (k : Int) < (sl.length : Int) := by omega
        obtain ⟨ad, rfl, hbl, c0, c1⟩ := HS.out.at_ hlt
        have c1w := c1
        rw [add_pos _ 1 (by omega)] at c1w
        have HI : Hid (I64 (sl.getD k (0, 0)).1 ∧ I64 (sl.getD k (0, 0)).2) := Lib.hid (HR.out _ (mem_getD hlt))
        obtain ⟨s, hs⟩ : ∃ s, s = sl.getD k (0, 0) := ⟨_, rfl⟩
        rw [← hs] at c0 c1 c1w HI
        have HSS := Lib.hid hs
        clear hs
        have HBAD : Hid (badS s = true → slotsE sl = 5) := Lib.hid (fun h => by rw [HE.out, if_pos (List.any_eq_true.2 ⟨s, by rw [HSS.out]; exact mem_getD hlt, h⟩)])
        go_wp2_with fail
        refine (refsize_any _ HI.out.1.1 HI.out.1.2 _).mono ?_
        rintro e w1 ⟨rfl, rfl⟩
        rcases hz : sizeB s.1 with _ | _
        · have HE5 : Hid (slotsE sl = 5) := Lib.hid (HBAD.out (by unfold badS; rw [hz]; rfl))
          clear hz HN
          go_wp2
          go_ret
          exact ⟨ret_int (by rw [HE5.out]), rfl⟩
        · go_wp2_with fail
          refine (refpower_any _ HI.out.2.1 HI.out.2.2 _).mono ?_
          rintro e w1 ⟨rfl, rfl⟩
          rcases hp : powB s.2 with _ | _
          · have HE5 : Hid (slotsE sl = 5) := Lib.hid (HBAD.out (by unfold badS; rw [hz, hp]; rfl))
            clear hz hp HN
            go_wp2
            go_ret
            exact ⟨ret_int (by rw [HE5.out]), rfl⟩
          · have HN' : Hid (∀ j, j < k + 1 → badS (sl.getD j (0, 0)) = false) := Lib.hid (fun j hj => by
              rcases Nat.lt_or_ge j k with h | h
              · exact HN.out j h
              · obtain rfl : j = k := by omega
                rw [← HSS.out]; unfold badS; rw [hz, hp]; rfl)
            clear hz hp HN
            go_wp2
            go_round
            case rel => exact ⟨k + 1, by omega, by go_num, HN'⟩
            case measure => simp [intOf]; omega
      · have HA : Hid (slotsE sl = 0) := Lib.hid (by
          rw [HE.out, if_neg]
          rw [List.any_eq_true]
          rintro ⟨s, hs, hb⟩
          obtain ⟨j, hj, rfl⟩ := List.mem_iff_getElem.1 hs
          have := HN.out j (by omega)
          rw [List.getD_eq_getElem?_getD, List.getElem?_eq_getElem hj, Option.getD_some, hb] at this
          cases this)
        clear HN
        go_wp2
        go_ret
        exact ⟨ret_int (by rw [HA.out]), rfl⟩
end Go.Proofs.Ytmeoabpigibaoaa.pm
