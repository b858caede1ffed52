/- Contracts: used, Pop, Load. -/
import Derived.Test.YtgamodmenlhedaaPl
import Derived.Test.YtgamodmenlhedaaVfb
namespace Go.Proofs.Ytgamodmenlhedaa
open Go.RowKit
set_option linter.unusedVariables false
set_option maxRecDepth 10000

theorem Sl.part {α : Type} {f : α → Value} {w : World} {B n k m d : Nat} {A : Option Addr} {l : List α} (h : Sl f w B A n l) (hk : k + m ≤ n) (hm : 0 < m) :
    Sl f w B (A.map (·.add k)) m ((l.drop k).take m) := by
  have h1 := Reads.cut h (k := k) (cap := n) (by omega) (Nat.le_refl _)
  rw [if_neg (by omega), Nat.mul_one, ← List.map_drop] at h1
  exact Sl.take (l := l.drop k) h1 (by omega)
theorem Bs.part {w : World} {B n k m : Nat} {A : Option Addr} {l : List Nat} (h : Bs w B A n l) (hk : k + m ≤ n) (hm : 0 < m) :
    Bs w B (A.map (·.add k)) m ((l.drop k).take m) :=
  ⟨Sl.part (d := 0) (f := fun (x : Nat) => Value.int .u8 (x : Int)) h.1 hk hm, fun x hx => h.2 x (List.mem_of_mem_drop (List.mem_of_mem_take hx))⟩

theorem used_any (A U : Option Addr) (n c d sp k m : Nat) (lu : List Bool) (w : World) (B : Nat) (hb : Sl Value.bool w B U n lu) (hB : B ≤ w.heap.size) (hn : n ≤ 1048576) (hd : n ≤ d) (hk : k + m ≤ n) (hm : 0 < m) :
    Calls Try.prog 67 #[.agg #[.slice A n c, .slice U n d, .int .i64 sp], .int .i64 k, .int .i64 m] w fun e w' => e = .returned (.bool (usedV lu k m)) ∧ Below w.heap.size w w' := by
  have HC := Lib.hid (fun (W : World) (h : Sl Value.bool W B U n lu) => contains_any (U.map (·.add k)) m (d - k) _ W B (h.part (d := 0) hk hm) (by unfold maxLen; omega))
  cases U with
  | none => have := hb.none_n; omega
  | some a =>
    have HS := Lib.hid (hb.alloc hB (.cells #[.slice A n c, .slice (some a) n d, .int .i64 sp] 55))
    have HV : Hid (usedV lu k m = !((lu.drop k).take m).contains false) := rfl
    clear hb
    have hkd : k ≠ d := by omega
    go_enter Try.func67, Try.ntmps67
    go_wp2_with fail
    refine Calls.mono (HC.out _ HS.out) ?_
    rintro e w1 ⟨rfl, rfl⟩
    clear HC HS
    generalize ((lu.drop k).take m).contains false = b at *
    go_wp2
    go_ret
    exact ⟨ret_bool HV.out.symm, by go_grown⟩

theorem usedV_iff (lu : List Bool) (k m : Nat) : usedV lu k m = true ↔ ((lu.drop k).take m).contains false = false := by simp [usedV]
theorem Sl.at_drop {α : Type} {f : α → Value} {w : World} {B n k j m : Nat} {A : Option Addr} {l : List α} (h : Sl f w B A n l) (hk : k + m ≤ n) (hj : j < m) :
    ∃ ad x, A = some ad ∧ ad.block < B ∧ ((l.drop k).take m)[j]? = some x ∧ w.cell? (ad.add (k + j)) = some (f x) := by
  obtain ⟨ad, x, e, hb, hx, hc⟩ := h.at_ (k := k + j) (by omega)
  exact ⟨ad, x, e, hb, by rw [List.getElem?_take, if_pos hj, List.getElem?_drop]; exact hx, hc⟩
set_option maxHeartbeats 1000000 in
theorem refused_any (A U : Option Addr) (n c d sp k m : Nat) (lu : List Bool) (w : World) (B : Nat) (hb : Sl Value.bool w B U n lu) (hB : B ≤ w.heap.size) (hn : n ≤ 1048576) (hk : sp + k + m ≤ n) :
    Calls Try.prog 93 #[.agg #[.slice A n c, .slice U n d, .int .i64 sp], .int .i64 k, .int .i64 m] w fun e w' => e = .returned (.bool (usedV lu (sp + k) m)) ∧ Below w.heap.size w w' := by
  have HV : Hid (usedV lu (sp + k) m = !((lu.drop (sp + k)).take m).contains false) := rfl
  have HL := Lib.hid hb.len
  go_enter Try.func93, Try.ntmps93
  go_wp2_with fail
  go_loop [7] (fun i => ∃ j : Nat, j ≤ m ∧ i = .int .i64 j ∧ Hid ((((lu.drop (sp + k)).take m).take j).contains false = false)) (fun i => m - (intOf i).toNat)
  case atStart => exact ⟨0, by omega, rfl, Lib.hid (by simp)⟩
  case round =>
    obtain ⟨j, hj, rfl, HC⟩ := hrel
    by_cases hlt : j < m
    · obtain ⟨ad, x, rfl, hbl, hx, hcell⟩ := hb.at_drop (k := sp + k) hk hlt
      have hki : (j : Int) < (m : Int) := by omega
      have hk0 : (0 : Int) ≤ (sp : Int) + k + j := by omega
      have hk1 : (sp : Int) + k + j < n := by omega
      have HX := Lib.hid hx
      have hsz : (ad.add (sp + k + j)).block < w.heap.size := cell_lt hcell
      clear hb hx
      cases x with
      | false =>
        go_wp2
        go_ret
        have : false ∈ (lu.drop (sp + k)).take m := List.mem_of_getElem? HX.out
        refine ⟨ret_bool ?_, by go_grown⟩
        rw [HV.out]
        simp [this]
      | true =>
        go_wp2
        go_round
        case rel =>
          refine ⟨j + 1, by omega, by go_num, Lib.hid ?_⟩
          have hl : j < ((lu.drop (sp + k)).take m).length := by rw [List.length_take, List.length_drop, HL.out]; omega
          have h2 := HX.out
          rw [List.getElem?_eq_getElem hl] at h2
          rw [List.take_succ_eq_append_getElem hl, Option.some.inj h2]
          simpa using HC.out
        case measure => simp [intOf]; omega
    · have hkm : j = m := by omega
      subst hkm
      clear hb
      go_wp2
      go_ret
      refine ⟨ret_bool ?_, by go_grown⟩
      have h2 := HC.out
      rw [List.take_of_length_le (by rw [List.length_take]; omega)] at h2
      rw [HV.out, h2]
      rfl

/-- what Pop gives: the error and the new stack pointer -/
def popV (n sp : Nat) (k : Int) : Int × Nat := if 0 ≤ k ∧ k ≤ (n : Int) - sp then (0, sp + k.toNat) else (4, sp)
theorem popV_le {n sp : Nat} {k : Int} (h : sp ≤ n) : (popV n sp k).2 ≤ n := by
  unfold popV
  split
  · simp only; omega
  · exact h
theorem pop_any (A U : Option Addr) (n c m d sp : Nat) (k : Int) (h0 : -9223372036854775808 ≤ k) (h1 : k ≤ 9223372036854775807) (hn : n ≤ 1048576) (hsp : sp ≤ n) (w : World) :
    Calls Try.prog 38 #[.agg #[.slice A n c, .slice U m d, .int .i64 sp], .int .i64 k] w fun e w' => e = .returned (.tuple #[.agg #[.slice A n c, .slice U m d, .int .i64 (popV n sp k).2], .int .i64 (popV n sp k).1]) ∧ Below w.heap.size w w' := by
  have hcase : k < 0 ∨ (n : Int) - sp < k ∨ (0 ≤ k ∧ k ≤ (n : Int) - sp) := by omega
  rcases hcase with h | h | ⟨h, h'⟩
  · have hr : popV n sp k = (4, sp) := by unfold popV; rw [if_neg (by omega)]
    rw [hr]
    clear hr
    go_enter Try.func38, Try.ntmps38
    go_wp2
    go_returns
    exact ⟨rfl, by go_grown⟩
  · have hr : popV n sp k = (4, sp) := by unfold popV; rw [if_neg (by omega)]
    rw [hr]
    clear hr
    go_enter Try.func38, Try.ntmps38
    go_wp2
    go_returns
    exact ⟨rfl, by go_grown⟩
  · obtain ⟨j, rfl⟩ := Int.eq_ofNat_of_zero_le h
    have hr : popV n sp (j : Int) = (0, sp + j) := by unfold popV; rw [if_pos ⟨h, h'⟩]; rfl
    rw [hr]
    clear hr
    go_enter Try.func38, Try.ntmps38
    go_wp2
    go_returns
    exact ⟨rfl, by go_grown⟩
theorem refpop_any (A U : Option Addr) (n c m d sp : Nat) (k : Int) (h0 : -9223372036854775808 ≤ k) (h1 : k ≤ 9223372036854775807) (hn : n ≤ 1048576) (hsp : sp ≤ n) (w : World) :
    Calls Try.prog 74 #[.agg #[.slice A n c, .slice U m d, .int .i64 sp], .int .i64 k] w fun e w' => e = .returned (.tuple #[.agg #[.slice A n c, .slice U m d, .int .i64 (popV n sp k).2], .int .i64 (popV n sp k).1]) ∧ Below w.heap.size w w' := by
  have hcase : k < 0 ∨ (n : Int) - sp < k ∨ (0 ≤ k ∧ k ≤ (n : Int) - sp) := by omega
  rcases hcase with h | h | ⟨h, h'⟩
  · have hr : popV n sp k = (4, sp) := by unfold popV; rw [if_neg (by omega)]
    rw [hr]
    clear hr
    go_enter Try.func74, Try.ntmps74
    go_wp2
    go_returns
    exact ⟨rfl, by go_grown⟩
  · have hr : popV n sp k = (4, sp) := by unfold popV; rw [if_neg (by omega)]
    rw [hr]
    clear hr
    go_enter Try.func74, Try.ntmps74
    go_wp2
    go_returns
    exact ⟨rfl, by go_grown⟩
  · obtain ⟨j, rfl⟩ := Int.eq_ofNat_of_zero_le h
    have hr : popV n sp (j : Int) = (0, sp + j) := by unfold popV; rw [if_pos ⟨h, h'⟩]; rfl
    rw [hr]
    clear hr
    go_enter Try.func74, Try.ntmps74
    go_wp2
    go_returns
    exact ⟨rfl, by go_grown⟩
end Go.Proofs.Ytgamodmenlhedaa
