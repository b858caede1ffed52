/- Contracts of the reference of chapter 30. -/
import Derived.Test.YtgamodmenlhedaaCf4
import Derived.IntWalk
namespace Go.Proofs.Ytgamodmenlhedaa.cf
open Go.RowKit
set_option linter.unusedVariables false
set_option maxRecDepth 10000

theorem most_take {c l : List Int} {k : Nat} (hk : k < l.length) : most c (l.take (k + 1)) = max (most c (l.take k)) (c.getD (l.getD k 0).toNat 0) := by
  unfold most
  rw [List.take_succ_eq_append_getElem hk, List.foldl_append]
  simp only [List.foldl_cons, List.foldl_nil]
  rw [List.getD_eq_getElem?_getD (l := l), List.getElem?_eq_getElem hk]
  rfl
theorem most_bd {c l : List Int} (h : ∀ k, k < l.length → (c.getD (l.getD k 0).toNat 0) ≤ 2147483647) : 0 ≤ most c l ∧ most c l ≤ 2147483647 :=
  ⟨most_nonneg _ _, most_le.2 ⟨by omega, h⟩⟩
theorem most_take_bd {c l : List Int} (h : ∀ k, k < l.length → (c.getD (l.getD k 0).toNat 0) ≤ 2147483647) (k : Nat) : 0 ≤ most c (l.take k) ∧ most c (l.take k) ≤ 2147483647 :=
  most_bd fun j hj => by
    have hj' : j < l.length := by simp at hj; omega
    have e : (l.take k).getD j 0 = l.getD j 0 := by
      rw [List.getD_eq_getElem?_getD, List.getD_eq_getElem?_getD, List.getElem?_take, if_pos (by simp at hj; omega)]
    rw [e]; exact h j hj'
set_option maxHeartbeats 1000000 in
theorem need_any (Ag Aw Ac : Option Addr) (ng cg nw cw nc cc i : Nat) (g : List (List Int)) (v c : List Int) (w : World) (hg : Gz w Ag ng g) (hv : Iz w Aw nw v) (hc : Iz w Ac nc c) (n1 : ng ≤ maxLen) (n2 : nw ≤ maxLen) (n3 : nc ≤ maxLen)
    (hm : Matched g v c) (hb : ∀ k, k < nc → Bd (c.getD k 0)) (hi : i < ng) :
    Calls Try.prog 54 #[.slice Ag ng cg, .slice Aw nw cw, .slice Ac nc cc, .int .i64 i] w fun e w' => e = .returned (.int .i64 (v.getD i 0 + most c (nx g i))) ∧ ∃ q, w' = w.drewN q := by
  unfold maxLen at n1 n2 n3
  have l1 := hg.len
  have l2 := hv.len
  have l3 := hc.len
  have e2 : nw = ng := by rw [← l1, ← l2]; exact hm.1.2.1
  have e3 : nc = ng := by rw [← l1, ← l3]; exact hm.2
  obtain ⟨av, rfl, -, cv⟩ := hv.at_ (show i < nw by omega)
  obtain ⟨ag, A', n', c', rfl, -, cgr, hr, hm', hcap⟩ := hg.at_ hi
  unfold maxLen at hm'
  have hrl := hr.len
  have hbv : Bd (v.getD i 0) := hm.1.2.2 i (by omega)
  have hval : ∀ k, k < n' → ∃ j : Nat, (nx g i).getD k 0 = (j : Int) ∧ j < nc := fun k hk => by
    have := grOk_lt hm.1.1 i (by omega) k (by unfold nx; omega)
    exact ⟨((nx g i).getD k 0).toNat, by omega, by omega⟩
  have hbound : ∀ k, k < (nx g i).length → c.getD ((nx g i).getD k 0).toNat 0 ≤ 2147483647 := fun k hk => by
    obtain ⟨j, hj, hj'⟩ := hval k (by unfold nx at hk; omega)
    rw [hj]; exact (hb j hj').2
  have HM := Lib.hid (most_take_bd hbound)
  have HTK := Lib.hid (fun k (hk : k < n') => most_take (c := c) (l := nx g i) (k := k) (by unfold nx; omega))
  have HV := Lib.hid hval
  have HB := Lib.hid hb
  have HC := Lib.hid hc
  have HR := Lib.hid (show Iz w A' n' (nx g i) from hr)
  have HNL := Lib.hid (show (nx g i).length = n' from hrl)
  obtain ⟨x, hx⟩ : ∃ x, x = v.getD i 0 := ⟨_, rfl⟩
  rw [← hx] at cv hbv ⊢
  obtain ⟨x0, x1⟩ := hbv
  have hii0 : (0 : Int) ≤ (i : Int) := by omega
  have hii1 : (i : Int) < (ng : Int) := by omega
  have hii2 : (i : Int) < (nw : Int) := by omega
  clear hm hb hval hbound hc hr hrl l1 l2 l3 hx hg hv
  go_enter Try.func54, Try.ntmps54
  go_wp2
  go_loopw [9, 10] (fun m s wr => ∃ (k q : Nat) (t : Int), k ≤ n' ∧ s = .int .i64 k ∧ m = .int .i64 (x + t) ∧ Hid (t = most c ((nx g i).take k)) ∧ 0 ≤ t ∧ t ≤ 2147483647 ∧ wr = w.drewN q) (fun _ s _ => n' - (intOf s).toNat)
  case atStart => exact ⟨0, 0, 0, by omega, rfl, by go_num, Lib.hid (by simp [most]), by omega, by omega, rfl⟩
  case round =>
    obtain ⟨k, q, t, hk, rfl, rfl, HT, t0, t1, rfl⟩ := hrel
    have hk0 : (0 : Int) ≤ (k : Int) := by omega
    by_cases hlt : k < n'
    · have hki : (k : Int) < (n' : Int) := by omega
      obtain ⟨ar, rfl, -, cr⟩ := HR.out.at_ hlt
      obtain ⟨j, hj, hj'⟩ := HV.out k hlt
      rw [hj] at cr
      obtain ⟨ac, rfl, -, cj⟩ := HC.out.at_ hj'
      have hjb := HB.out j hj'
      have hstep := HTK.out k hlt
      have hnew := HM.out (k + 1)
      rw [hstep, hj, ← HT.out] at hnew
      rw [hj, ← HT.out] at hstep
      simp only [Int.toNat_natCast] at hstep hnew
      have HS := Lib.hid hstep
      obtain ⟨y, hy⟩ : ∃ y, y = c.getD j 0 := ⟨_, rfl⟩
      rw [← hy] at cj hjb HS hnew
      obtain ⟨y0, y1⟩ := hjb
      have hji0 : (0 : Int) ≤ (j : Int) := by omega
      have hji1 : (j : Int) < (nc : Int) := by omega
      clear hj hy hstep
      go_wp2_with fail
      go_quiet (fail)
      go_wp2
      go_roundw
      case rel => exact ⟨k + 1, q + nq, max t y, by omega, by go_num, by first | rfl | (congr 1; omega), Lib.hid HS.out.symm, hnew.1, hnew.2, by first | rfl | exact World.drewN_drewN _ _ _⟩
      case measure => simp [intOf]; omega
    · have hkn : k = n' := by omega
      have HE : Hid (t = most c (nx g i)) := Lib.hid (by rw [HT.out, List.take_of_length_le (by rw [HNL.out]; omega)])
      clear hkn
      go_wp2
      go_ret
      exact ⟨ret_int (by rw [HE.out]), _, rfl⟩
end Go.Proofs.Ytgamodmenlhedaa.cf
