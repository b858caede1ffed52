/- The reference of chapter 10: shape. -/
import Derived.Test.YtmeoabpigibaoaaKs
import Derived.Test.YtmeoabpigibaoaaKe
import Derived.BigQuiet
import Derived.Deep.QuietTactic
namespace Go.Proofs.Ytmeoabpigibaoaa.pm
open Go.RowKit
set_option linter.unusedVariables false
set_option maxRecDepth 10000
set_option maxHeartbeats 1000000

theorem refshape10_any (al prm sz : Int) (A Ai : Option Addr) (m ct nc ci : Nat) (h64 : I64 al) (hp : I64 prm) (hs : I64 sz) (code : List Ins) (w : World) :
    Calls Try.prog 38 #[.agg #[.int .i64 al, .slice A m ct], .agg #[.int .i64 prm, .int .i64 sz, .slice Ai nc ci]] w fun e w' => e = .returned (.bool (shB al ⟨prm, sz, code⟩)) ∧ Below w.heap.size w w' := by
  obtain ⟨W1, hW1⟩ : ∃ W1, W1 = (w.alloc (.cells #[.int .i64 al, .slice A m ct] 28)).alloc (.cells #[.int .i64 prm, .int .i64 sz, .slice Ai nc ci] 35) := ⟨_, rfl⟩
  have hB1 : Below w.heap.size w W1 := by rw [hW1]; exact ((Below.refl _ _).alloc (Nat.le_refl _) _).alloc (by simp) _
  have HK3 : Hid (Blk W1 w.heap.size 28 #[.int .i64 al, .slice A m ct]) := Lib.hid (by rw [hW1]; exact (Blk.new _ _ _).alloc _)
  have HK4 : Hid (Blk W1 (w.heap.size + 1) 35 #[.int .i64 prm, .int .i64 sz, .slice Ai nc ci]) := Lib.hid (by rw [hW1]; exact Blk.newAt (by simp))
  have HB1 := Lib.hid hB1
  have HW1 := Lib.hid hW1
  have HP := Lib.hid (fun W => refpower_any al h64.1 h64.2 W)
  have HSH : Hid (shB al ⟨prm, sz, code⟩ = (powB al && inB prm 9 && inB sz 2147483520 && (sz % al == 0))) := Lib.hid rfl
  obtain ⟨x0, x1, -, -, xz⟩ := HK3.out.c2
  obtain ⟨y0, y1, y2, -, -, -, yz⟩ := HK4.out.c3
  clear hB1 hW1
  rcases hb : powB al with _ | _
  · rw [hb] at HP HSH
    clear hb
    go_enter Try.func38, Try.ntmps38
    go_upto_region 1 with (fail)
    rw [← HW1.out]
    go_wp2_with fail
    refine (HP.out _).mono ?_
    rintro e w1 ⟨rfl, rfl⟩
    go_wp2
    go_ret
    exact ⟨ret_bool (by rw [HSH.out]; simp), HB1.out⟩
  · have hal := powB_pos hb
    rw [hb] at HP HSH
    clear hb
    by_cases p0 : 0 ≤ prm
    · by_cases p1 : prm ≤ 8
      · by_cases s0 : 0 ≤ sz
        · by_cases s1 : sz ≤ 2147483519
          · have hz : al ≠ 0 := by omega
            have HI : Hid ((true && inB prm 9 && inB sz 2147483520 && (sz % al == 0)) = (sz % al == 0)) := Lib.hid (by rw [inB_t.2 (by omega), inB_t.2 (by omega)]; rfl)
            have HM : Hid (Int.tmod sz al = sz % al) := Lib.hid (Int.tmod_eq_emod_of_nonneg s0)
            go_enter Try.func38, Try.ntmps38
            go_upto_region 1 with (fail)
            rw [← HW1.out]
            go_wp2_with fail
            refine (HP.out _).mono ?_
            rintro e w1 ⟨rfl, rfl⟩
            go_wp2
            go_ret
            exact ⟨ret_bool (by rw [HSH.out]; rw [HI.out]), HB1.out⟩
          · have HI : Hid (inB sz 2147483520 = false) := Lib.hid (inB_f.2 (by omega))
            have s1' : 2147483520 ≤ sz := by omega
            go_enter Try.func38, Try.ntmps38
            go_upto_region 1 with (fail)
            rw [← HW1.out]
            go_wp2_with fail
            refine (HP.out _).mono ?_
            rintro e w1 ⟨rfl, rfl⟩
            go_wp2
            go_ret
            exact ⟨ret_bool (by rw [HSH.out]; rw [HI.out]; simp), HB1.out⟩
        · have HI : Hid (inB sz 2147483520 = false) := Lib.hid (inB_f.2 (by omega))
          go_enter Try.func38, Try.ntmps38
          go_upto_region 1 with (fail)
          rw [← HW1.out]
          go_wp2_with fail
          refine (HP.out _).mono ?_
          rintro e w1 ⟨rfl, rfl⟩
          go_wp2
          go_ret
          exact ⟨ret_bool (by rw [HSH.out]; rw [HI.out]; simp), HB1.out⟩
      · have HI : Hid (inB prm 9 = false) := Lib.hid (inB_f.2 (by omega))
        have p1' : 9 ≤ prm := by omega
        go_enter Try.func38, Try.ntmps38
        go_upto_region 1 with (fail)
        rw [← HW1.out]
        go_wp2_with fail
        refine (HP.out _).mono ?_
        rintro e w1 ⟨rfl, rfl⟩
        go_wp2
        go_ret
        exact ⟨ret_bool (by rw [HSH.out]; rw [HI.out]; simp), HB1.out⟩
    · have HI : Hid (inB prm 9 = false) := Lib.hid (inB_f.2 (by omega))
      go_enter Try.func38, Try.ntmps38
      go_upto_region 1 with (fail)
      rw [← HW1.out]
      go_wp2_with fail
      refine (HP.out _).mono ?_
      rintro e w1 ⟨rfl, rfl⟩
      go_wp2
      go_ret
      exact ⟨ret_bool (by rw [HSH.out]; rw [HI.out]; simp), HB1.out⟩
end Go.Proofs.Ytmeoabpigibaoaa.pm
