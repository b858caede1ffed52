/- Contracts of the reference of chapter 5: within, register, Terminator, Operands, operands. -/
import Derived.Test.YtdpcpiejbhjgoaaDoorGSc
namespace Go.Proofs.YtdpcpiejbhjgoaaDoor.pm
open Go.RowKit
set_option linter.unusedVariables false
set_option maxRecDepth 10000

theorem results_tmp4 {fn : Func} {t u v x : Tmp} (h : fn.results = #[.tmp t, .tmp u, .tmp v, .tmp x]) (tmps : Array Value) (P : Program) (w : World) :
    (results fn tmps).run P w = .ok (.tuple #[tmps.getD t undef, tmps.getD u undef, tmps.getD v undef, tmps.getD x undef]) w := by simp [results, h]
theorem refterm_any (op : Int) (w : World) :
    Calls Tryd.prog 81 #[.int .i64 op] w fun e w' => e = .returned (.bool (termB op)) ∧ w = w' := by
  by_cases h1 : op = 20
  · subst h1
    go_enter Tryd.func81, Tryd.ntmps81
    go_wp2
    go_ret
    exact ⟨rfl, rfl⟩
  · by_cases h2 : op = 23
    · subst h2
      go_enter Tryd.func81, Tryd.ntmps81
      go_wp2
      go_ret
      exact ⟨rfl, rfl⟩
    · have b1 : (op == 20) = false := by simpa using h1
      have b2 : (op == 23) = false := by simpa using h2
      have HT : Hid (termB op = (op == 24)) := Lib.hid (by unfold termB; rw [b1, b2]; simp)
      clear h1 h2
      go_enter Tryd.func81, Tryd.ntmps81
      go_wp2
      go_ret
      exact ⟨ret_bool (by rw [HT.out]), rfl⟩
/-- which operands are used -/
def useA (o : Nat) : Bool := (shp o).1 != 0
def useB (o : Nat) : Bool := (shp o).2.1 != 0
def useC (o : Nat) : Bool := (shp o).2.2.1 != 0
def useI (o : Nat) : Bool := (shp o).2.2.2
theorem operands_0 (w : World) : Calls Tryd.prog 61 #[.int .i64 0] w fun e w' => e = .returned (.tuple #[.bool (useA 0), .bool (useB 0), .bool (useC 0), .bool (useI 0)]) ∧ w = w' := by
  go_enter Tryd.func61, Tryd.ntmps61
  go_wp2
  exact bodyPost_ret (results_tmp4 rfl _ _ _) rfl ⟨rfl, rfl⟩
theorem operands_1 (w : World) : Calls Tryd.prog 61 #[.int .i64 1] w fun e w' => e = .returned (.tuple #[.bool (useA 1), .bool (useB 1), .bool (useC 1), .bool (useI 1)]) ∧ w = w' := by
  go_enter Tryd.func61, Tryd.ntmps61
  go_wp2
  exact bodyPost_ret (results_tmp4 rfl _ _ _) rfl ⟨rfl, rfl⟩
theorem operands_2 (w : World) : Calls Tryd.prog 61 #[.int .i64 2] w fun e w' => e = .returned (.tuple #[.bool (useA 2), .bool (useB 2), .bool (useC 2), .bool (useI 2)]) ∧ w = w' := by
  go_enter Tryd.func61, Tryd.ntmps61
  go_wp2
  exact bodyPost_ret (results_tmp4 rfl _ _ _) rfl ⟨rfl, rfl⟩
theorem operands_3 (w : World) : Calls Tryd.prog 61 #[.int .i64 3] w fun e w' => e = .returned (.tuple #[.bool (useA 3), .bool (useB 3), .bool (useC 3), .bool (useI 3)]) ∧ w = w' := by
  go_enter Tryd.func61, Tryd.ntmps61
  go_wp2
  exact bodyPost_ret (results_tmp4 rfl _ _ _) rfl ⟨rfl, rfl⟩
theorem operands_4 (w : World) : Calls Tryd.prog 61 #[.int .i64 4] w fun e w' => e = .returned (.tuple #[.bool (useA 4), .bool (useB 4), .bool (useC 4), .bool (useI 4)]) ∧ w = w' := by
  go_enter Tryd.func61, Tryd.ntmps61
  go_wp2
  exact bodyPost_ret (results_tmp4 rfl _ _ _) rfl ⟨rfl, rfl⟩
theorem operands_5 (w : World) : Calls Tryd.prog 61 #[.int .i64 5] w fun e w' => e = .returned (.tuple #[.bool (useA 5), .bool (useB 5), .bool (useC 5), .bool (useI 5)]) ∧ w = w' := by
  go_enter Tryd.func61, Tryd.ntmps61
  go_wp2
  exact bodyPost_ret (results_tmp4 rfl _ _ _) rfl ⟨rfl, rfl⟩
theorem operands_6 (w : World) : Calls Tryd.prog 61 #[.int .i64 6] w fun e w' => e = .returned (.tuple #[.bool (useA 6), .bool (useB 6), .bool (useC 6), .bool (useI 6)]) ∧ w = w' := by
  go_enter Tryd.func61, Tryd.ntmps61
  go_wp2
  exact bodyPost_ret (results_tmp4 rfl _ _ _) rfl ⟨rfl, rfl⟩
theorem operands_7 (w : World) : Calls Tryd.prog 61 #[.int .i64 7] w fun e w' => e = .returned (.tuple #[.bool (useA 7), .bool (useB 7), .bool (useC 7), .bool (useI 7)]) ∧ w = w' := by
  go_enter Tryd.func61, Tryd.ntmps61
  go_wp2
  exact bodyPost_ret (results_tmp4 rfl _ _ _) rfl ⟨rfl, rfl⟩
theorem operands_8 (w : World) : Calls Tryd.prog 61 #[.int .i64 8] w fun e w' => e = .returned (.tuple #[.bool (useA 8), .bool (useB 8), .bool (useC 8), .bool (useI 8)]) ∧ w = w' := by
  go_enter Tryd.func61, Tryd.ntmps61
  go_wp2
  exact bodyPost_ret (results_tmp4 rfl _ _ _) rfl ⟨rfl, rfl⟩
theorem operands_9 (w : World) : Calls Tryd.prog 61 #[.int .i64 9] w fun e w' => e = .returned (.tuple #[.bool (useA 9), .bool (useB 9), .bool (useC 9), .bool (useI 9)]) ∧ w = w' := by
  go_enter Tryd.func61, Tryd.ntmps61
  go_wp2
  exact bodyPost_ret (results_tmp4 rfl _ _ _) rfl ⟨rfl, rfl⟩
theorem operands_10 (w : World) : Calls Tryd.prog 61 #[.int .i64 10] w fun e w' => e = .returned (.tuple #[.bool (useA 10), .bool (useB 10), .bool (useC 10), .bool (useI 10)]) ∧ w = w' := by
  go_enter Tryd.func61, Tryd.ntmps61
  go_wp2
  exact bodyPost_ret (results_tmp4 rfl _ _ _) rfl ⟨rfl, rfl⟩
theorem operands_11 (w : World) : Calls Tryd.prog 61 #[.int .i64 11] w fun e w' => e = .returned (.tuple #[.bool (useA 11), .bool (useB 11), .bool (useC 11), .bool (useI 11)]) ∧ w = w' := by
  go_enter Tryd.func61, Tryd.ntmps61
  go_wp2
  exact bodyPost_ret (results_tmp4 rfl _ _ _) rfl ⟨rfl, rfl⟩
theorem operands_12 (w : World) : Calls Tryd.prog 61 #[.int .i64 12] w fun e w' => e = .returned (.tuple #[.bool (useA 12), .bool (useB 12), .bool (useC 12), .bool (useI 12)]) ∧ w = w' := by
  go_enter Tryd.func61, Tryd.ntmps61
  go_wp2
  exact bodyPost_ret (results_tmp4 rfl _ _ _) rfl ⟨rfl, rfl⟩
theorem operands_13 (w : World) : Calls Tryd.prog 61 #[.int .i64 13] w fun e w' => e = .returned (.tuple #[.bool (useA 13), .bool (useB 13), .bool (useC 13), .bool (useI 13)]) ∧ w = w' := by
  go_enter Tryd.func61, Tryd.ntmps61
  go_wp2
  exact bodyPost_ret (results_tmp4 rfl _ _ _) rfl ⟨rfl, rfl⟩
theorem operands_14 (w : World) : Calls Tryd.prog 61 #[.int .i64 14] w fun e w' => e = .returned (.tuple #[.bool (useA 14), .bool (useB 14), .bool (useC 14), .bool (useI 14)]) ∧ w = w' := by
  go_enter Tryd.func61, Tryd.ntmps61
  go_wp2
  exact bodyPost_ret (results_tmp4 rfl _ _ _) rfl ⟨rfl, rfl⟩
theorem operands_15 (w : World) : Calls Tryd.prog 61 #[.int .i64 15] w fun e w' => e = .returned (.tuple #[.bool (useA 15), .bool (useB 15), .bool (useC 15), .bool (useI 15)]) ∧ w = w' := by
  go_enter Tryd.func61, Tryd.ntmps61
  go_wp2
  exact bodyPost_ret (results_tmp4 rfl _ _ _) rfl ⟨rfl, rfl⟩
theorem operands_16 (w : World) : Calls Tryd.prog 61 #[.int .i64 16] w fun e w' => e = .returned (.tuple #[.bool (useA 16), .bool (useB 16), .bool (useC 16), .bool (useI 16)]) ∧ w = w' := by
  go_enter Tryd.func61, Tryd.ntmps61
  go_wp2
  exact bodyPost_ret (results_tmp4 rfl _ _ _) rfl ⟨rfl, rfl⟩
theorem operands_17 (w : World) : Calls Tryd.prog 61 #[.int .i64 17] w fun e w' => e = .returned (.tuple #[.bool (useA 17), .bool (useB 17), .bool (useC 17), .bool (useI 17)]) ∧ w = w' := by
  go_enter Tryd.func61, Tryd.ntmps61
  go_wp2
  exact bodyPost_ret (results_tmp4 rfl _ _ _) rfl ⟨rfl, rfl⟩
theorem operands_18 (w : World) : Calls Tryd.prog 61 #[.int .i64 18] w fun e w' => e = .returned (.tuple #[.bool (useA 18), .bool (useB 18), .bool (useC 18), .bool (useI 18)]) ∧ w = w' := by
  go_enter Tryd.func61, Tryd.ntmps61
  go_wp2
  exact bodyPost_ret (results_tmp4 rfl _ _ _) rfl ⟨rfl, rfl⟩
theorem operands_19 (w : World) : Calls Tryd.prog 61 #[.int .i64 19] w fun e w' => e = .returned (.tuple #[.bool (useA 19), .bool (useB 19), .bool (useC 19), .bool (useI 19)]) ∧ w = w' := by
  go_enter Tryd.func61, Tryd.ntmps61
  go_wp2
  exact bodyPost_ret (results_tmp4 rfl _ _ _) rfl ⟨rfl, rfl⟩
theorem operands_20 (w : World) : Calls Tryd.prog 61 #[.int .i64 20] w fun e w' => e = .returned (.tuple #[.bool (useA 20), .bool (useB 20), .bool (useC 20), .bool (useI 20)]) ∧ w = w' := by
  go_enter Tryd.func61, Tryd.ntmps61
  go_wp2
  exact bodyPost_ret (results_tmp4 rfl _ _ _) rfl ⟨rfl, rfl⟩
theorem operands_21 (w : World) : Calls Tryd.prog 61 #[.int .i64 21] w fun e w' => e = .returned (.tuple #[.bool (useA 21), .bool (useB 21), .bool (useC 21), .bool (useI 21)]) ∧ w = w' := by
  go_enter Tryd.func61, Tryd.ntmps61
  go_wp2
  exact bodyPost_ret (results_tmp4 rfl _ _ _) rfl ⟨rfl, rfl⟩
theorem operands_22 (w : World) : Calls Tryd.prog 61 #[.int .i64 22] w fun e w' => e = .returned (.tuple #[.bool (useA 22), .bool (useB 22), .bool (useC 22), .bool (useI 22)]) ∧ w = w' := by
  go_enter Tryd.func61, Tryd.ntmps61
  go_wp2
  exact bodyPost_ret (results_tmp4 rfl _ _ _) rfl ⟨rfl, rfl⟩
theorem operands_23 (w : World) : Calls Tryd.prog 61 #[.int .i64 23] w fun e w' => e = .returned (.tuple #[.bool (useA 23), .bool (useB 23), .bool (useC 23), .bool (useI 23)]) ∧ w = w' := by
  go_enter Tryd.func61, Tryd.ntmps61
  go_wp2
  exact bodyPost_ret (results_tmp4 rfl _ _ _) rfl ⟨rfl, rfl⟩
theorem operands_24 (w : World) : Calls Tryd.prog 61 #[.int .i64 24] w fun e w' => e = .returned (.tuple #[.bool (useA 24), .bool (useB 24), .bool (useC 24), .bool (useI 24)]) ∧ w = w' := by
  go_enter Tryd.func61, Tryd.ntmps61
  go_wp2
  exact bodyPost_ret (results_tmp4 rfl _ _ _) rfl ⟨rfl, rfl⟩
theorem operands_any (o : Nat) (h : o < 25) (w : World) : Calls Tryd.prog 61 #[.int .i64 (o : Int)] w fun e w' => e = .returned (.tuple #[.bool (useA o), .bool (useB o), .bool (useC o), .bool (useI o)]) ∧ w = w' := by
  have h' : o = 0 ∨ o = 1 ∨ o = 2 ∨ o = 3 ∨ o = 4 ∨ o = 5 ∨ o = 6 ∨ o = 7 ∨ o = 8 ∨ o = 9 ∨ o = 10 ∨ o = 11 ∨ o = 12 ∨ o = 13 ∨ o = 14 ∨ o = 15 ∨ o = 16 ∨ o = 17 ∨ o = 18 ∨ o = 19 ∨ o = 20 ∨ o = 21 ∨ o = 22 ∨ o = 23 ∨ o = 24 := by omega
  rcases h' with rfl | rfl | rfl | rfl | rfl | rfl | rfl | rfl | rfl | rfl | rfl | rfl | rfl | rfl | rfl | rfl | rfl | rfl | rfl | rfl | rfl | rfl | rfl | rfl | rfl
  · exact operands_0 w
  · exact operands_1 w
  · exact operands_2 w
  · exact operands_3 w
  · exact operands_4 w
  · exact operands_5 w
  · exact operands_6 w
  · exact operands_7 w
  · exact operands_8 w
  · exact operands_9 w
  · exact operands_10 w
  · exact operands_11 w
  · exact operands_12 w
  · exact operands_13 w
  · exact operands_14 w
  · exact operands_15 w
  · exact operands_16 w
  · exact operands_17 w
  · exact operands_18 w
  · exact operands_19 w
  · exact operands_20 w
  · exact operands_21 w
  · exact operands_22 w
  · exact operands_23 w
  · exact operands_24 w
/-- the operands name what there is -/
def okO (nf : Nat) (prm : Int) (ns nc o : Nat) (a b c : Int) : Bool := !(outK nf prm ns nc (shp o).1 a || outK nf prm ns nc (shp o).2.1 b || outK nf prm ns nc (shp o).2.2.1 c)
end Go.Proofs.YtdpcpiejbhjgoaaDoor.pm
namespace Go.Proofs.YtdpcpiejbhjgoaaDoor.pm
open Go.RowKit
set_option linter.unusedVariables false
set_option maxRecDepth 10000

theorem not_f {b : Bool} (h : (!b) = false) : b = true := by cases b <;> simp_all
theorem not_t {b : Bool} (h : (!b) = true) : b = false := by cases b <;> simp_all
theorem badS_all {sl : List (Int × Int)} (h : ¬ 512 < sl.length) : slotsE sl = if sl.any badS = true then 5 else 0 := by
  unfold slotsE
  rw [if_neg h]
  have e : sl.all (fun s => sizeB s.1 && powB s.2) = !sl.any badS := by
    clear h
    induction sl with
    | nil => rfl
    | cons s r ih => rw [List.all_cons, List.any_cons, ih]; unfold badS; cases sizeB s.1 <;> cases powB s.2 <;> simp
  rw [e]
  rcases sl.any badS with _ | _ <;> rfl
set_option maxHeartbeats 1000000 in
theorem refslots_any (As : Option Addr) (sl : List (Int × Int)) (cs : Nat) (w : World) (lo hi : Nat) (hs : Sx w lo hi As sl) (hcs : sl.length ≤ maxLen) (hr : ∀ s ∈ sl, I64 s.1 ∧ I64 s.2) :
    Calls Tryd.prog 68 #[.slice As sl.length cs] w fun e w' => e = .returned (.int .i64 (slotsE sl)) ∧ w = w' := by
  have HS := Lib.hid hs
  have HR := Lib.hid hr
  have hni : (sl.length : Int) ≤ 9223372036854775807 := by unfold maxLen at hcs; omega
  clear hs hr
  by_cases h5 : 512 < sl.length
  · have HE : Hid (slotsE sl = 3) := Lib.hid (by unfold slotsE; rw [if_pos h5])
    have h5i : (512 : Int) < (sl.length : Int) := by omega
    clear h5
    go_enter Tryd.func68, Tryd.ntmps68
    go_wp2
    go_ret
    exact ⟨ret_int (by rw [HE.out]), rfl⟩
  · have HE := Lib.hid (badS_all h5)
    have h5i : (sl.length : Int) ≤ 512 := by omega
    clear h5
    go_enter Tryd.func68, Tryd.ntmps68
    go_wp2
    go_loop [3] (fun v => ∃ k : Nat, k ≤ sl.length ∧ v = .int .i64 k ∧ Hid (∀ j, j < k → badS (sl.getD j (0, 0)) = false)) (fun v => sl.length - (intOf v).toNat)
    case atStart => exact ⟨0, by omega, rfl, Lib.hid (fun j hj => by omega)⟩
    case round =>
      obtain ⟨k, hk, rfl, HN⟩ := hrel
      have hk0 : (0 : Int) ≤ (k : Int) := by omega
      by_cases hlt : k < sl.length
      · have hki : (k : Int) < (sl.length : Int) := by omega
        obtain ⟨ad, rfl, hbl, c0, c1⟩ := HS.out.at_ hlt
        have c1w := c1
        rw [add_pos _ 1 (by omega)] at c1w
        have HI : Hid (I64 (sl.getD k (0, 0)).1 ∧ I64 (sl.getD k (0, 0)).2) := Lib.hid (HR.out _ (mem_getD hlt))
        obtain ⟨s, hs⟩ : ∃ s, s = sl.getD k (0, 0) := ⟨_, rfl⟩
        rw [← hs] at c0 c1 c1w HI
        have HSS := Lib.hid hs
        clear hs
        have HBAD : Hid (badS s = true → slotsE sl = 5) := Lib.hid (fun h => by rw [HE.out, if_pos (List.any_eq_true.2 ⟨s, by rw [HSS.out]; exact mem_getD hlt, h⟩)])
        go_wp2_with fail
        refine (refsize_any _ HI.out.1.1 HI.out.1.2 _).mono ?_
        rintro e w1 ⟨rfl, rfl⟩
        rcases hz : sizeB s.1 with _ | _
        · have HE5 : Hid (slotsE sl = 5) := Lib.hid (HBAD.out (by unfold badS; rw [hz]; rfl))
          clear hz HN
          go_wp2
          go_ret
          exact ⟨ret_int (by rw [HE5.out]), rfl⟩
        · go_wp2_with fail
          refine (refpower_any _ HI.out.2.1 HI.out.2.2 _).mono ?_
          rintro e w1 ⟨rfl, rfl⟩
          rcases hp : powB s.2 with _ | _
          · have HE5 : Hid (slotsE sl = 5) := Lib.hid (HBAD.out (by unfold badS; rw [hz, hp]; rfl))
            clear hz hp HN
            go_wp2
            go_ret
            exact ⟨ret_int (by rw [HE5.out]), rfl⟩
          · have HN' : Hid (∀ j, j < k + 1 → badS (sl.getD j (0, 0)) = false) := Lib.hid (fun j hj => by
              rcases Nat.lt_or_ge j k with h | h
              · exact HN.out j h
              · obtain rfl : j = k := by omega
                rw [← HSS.out]; unfold badS; rw [hz, hp]; rfl)
            clear hz hp HN
            go_wp2
            go_round
            case rel => exact ⟨k + 1, by omega, by go_num, HN'⟩
            case measure => simp [intOf]; omega
      · have HA : Hid (slotsE sl = 0) := Lib.hid (by
          rw [HE.out, if_neg]
          rw [List.any_eq_true]
          rintro ⟨s, hs, hb⟩
          obtain ⟨j, hj, rfl⟩ := List.mem_iff_getElem.1 hs
          have := HN.out j (by omega)
          rw [List.getD_eq_getElem?_getD, List.getElem?_eq_getElem hj, Option.getD_some, hb] at this
          cases this)
        clear HN
        go_wp2
        go_ret
        exact ⟨ret_int (by rw [HA.out]), rfl⟩
end Go.Proofs.YtdpcpiejbhjgoaaDoor.pm
namespace Go.Proofs.YtdpcpiejbhjgoaaDoor.pm
open Go.RowKit
set_option linter.unusedVariables false
set_option maxRecDepth 10000

def mxO (g : Nat → Int) : Nat → Int
  | 0 => 16
  | k + 1 => if mxO g k < g k then g k else mxO g k
def alS (sl : List (Int × Int)) : Int := if slotsE sl = 0 then mxO (fun j => (sl.getD j (0, 0)).2) sl.length else 16
def alP (p : List Fn) : Int := mxO (fun j => alS (p.getD j Fn.z).slots) p.length
set_option maxHeartbeats 400000 in
theorem refalign_any (As : Option Addr) (sl : List (Int × Int)) (cs : Nat) (w : World) (lo hi : Nat) (hs : Sx w lo hi As sl) (hcs : sl.length ≤ maxLen) (hr : ∀ s ∈ sl, I64 s.1 ∧ I64 s.2) :
    Calls Tryd.prog 45 #[.slice As sl.length cs] w fun e w' => e = .returned (.int .i64 (alS sl)) ∧ w = w' := by
  have HC := Lib.hid (refslots_any As sl cs w lo hi hs hcs hr)
  have HS := Lib.hid hs
  have hni : (sl.length : Int) ≤ 9223372036854775807 := by unfold maxLen at hcs; omega
  clear hs hr
  obtain ⟨ev, hev⟩ : ∃ ev, ev = slotsE sl := ⟨_, rfl⟩
  rw [← hev] at HC
  by_cases he : ev = 0
  · have HE : Hid (alS sl = mxO (fun j => (sl.getD j (0, 0)).2) sl.length) := Lib.hid (by unfold alS; rw [if_pos (hev ▸ he)])
    have e1 : (ev != 0) = false := by simp [he]
    clear hev he
    go_enter Tryd.func45, Tryd.ntmps45
    go_wp2_with fail
    refine HC.out.mono ?_
    rintro e w1 ⟨rfl, rfl⟩
    clear HC
    go_wp2
    go_loop [3, 4] (fun m v => ∃ k : Nat, k ≤ sl.length ∧ v = .int .i64 k ∧ m = .int .i64 (mxO (fun j => (sl.getD j (0, 0)).2) k)) (fun _ v => sl.length - (intOf v).toNat)
    case atStart => exact ⟨0, by omega, rfl, rfl⟩
    case round =>
      obtain ⟨k, hk, rfl, rfl⟩ := hrel
      have hk0 : (0 : Int) ≤ (k : Int) := by omega
      obtain ⟨mv, hmv⟩ : ∃ mv, mv = mxO (fun j => (sl.getD j (0, 0)).2) k := ⟨_, rfl⟩
      rw [← hmv]
      have HMV := Lib.hid hmv
      clear hmv
      by_cases hlt : k < sl.length
      · have hki : (k : Int) < (sl.length : Int) := by omega
        obtain ⟨ad, rfl, hbl, c0, c1⟩ := HS.out.at_ hlt
        have c1w := c1
        rw [add_pos _ 1 (by omega)] at c1w
        have HM' : Hid ((if mv < (sl.getD k (0, 0)).2 then (sl.getD k (0, 0)).2 else mv) = mxO (fun j => (sl.getD j (0, 0)).2) (k + 1)) := Lib.hid (by rw [HMV.out]; rfl)
        obtain ⟨s, hs⟩ : ∃ s, s = sl.getD k (0, 0) := ⟨_, rfl⟩
        rw [← hs] at c0 c1 c1w HM'
        clear hs HMV
        go_wp2
        go_round
        case rel => exact ⟨k + 1, by omega, by go_num, by rw [HM'.out]⟩
        case measure => simp [intOf]; omega
      · obtain rfl : k = sl.length := by omega
        have HE' : Hid (alS sl = mv) := Lib.hid (by rw [HE.out, HMV.out])
        clear HE HMV
        go_wp2
        go_ret
        exact ⟨ret_int (by rw [HE'.out]), rfl⟩
  · have HE : Hid (alS sl = 16) := Lib.hid (by unfold alS; rw [if_neg (by rw [← hev]; exact he)])
    have e1 : (ev != 0) = true := by simp [he]
    clear hev he
    go_enter Tryd.func45, Tryd.ntmps45
    go_wp2_with fail
    refine HC.out.mono ?_
    rintro e w1 ⟨rfl, rfl⟩
    clear HC
    go_wp2
    go_ret
    exact ⟨ret_int (by rw [HE.out]), rfl⟩
set_option maxHeartbeats 400000 in
theorem refprogalign_any (Ap : Option Addr) (p : List Fn) (cp : Nat) (w : World) (lo hi : Nat) (hf : Fx w lo hi Ap p) (hh : hi ≤ w.heap.size) (hm : p.length ≤ maxLen) (hr : ∀ i, i < p.length → FnR (p.getD i Fn.z)) :
    Calls Tryd.prog 20 #[.agg #[.slice Ap p.length cp]] w fun e w' => e = .returned (.int .i64 (alP p)) ∧ Below w.heap.size w w' := by
  obtain ⟨W1, hW1⟩ : ∃ W1, W1 = w.alloc (.cells #[.slice Ap p.length cp] 56) := ⟨_, rfl⟩
  have hB1 : Below w.heap.size w W1 := by rw [hW1]; exact (Below.refl _ _).alloc (Nat.le_refl _) _
  have HKP : Hid (Blk W1 w.heap.size 56 #[.slice Ap p.length cp]) := Lib.hid (by rw [hW1]; exact Blk.new _ _ _)
  have HF1 := Lib.hid (hf.keep (Kp.of_below hB1 hh))
  have HB1 := Lib.hid hB1
  have HW1 := Lib.hid hW1
  have HR := Lib.hid hr
  have hz1 : w.heap.size < W1.heap.size := HKP.out.lt
  have hh1 : hi ≤ W1.heap.size := by omega
  have hmi : (p.length : Int) ≤ 9223372036854775807 := by unfold maxLen at hm; omega
  clear hf hW1 hB1 hr
  obtain ⟨q0, -, qz⟩ := blk_one HKP.out
  go_enter Tryd.func20, Tryd.ntmps20
  go_upto_region 1 with (fail)
  rw [← HW1.out]
  go_wp2
  go_loop [3, 4] (fun m v => ∃ k : Nat, k ≤ p.length ∧ v = .int .i64 k ∧ m = .int .i64 (mxO (fun j => alS (p.getD j Fn.z).slots) k)) (fun _ v => p.length - (intOf v).toNat)
  case atStart => exact ⟨0, by omega, rfl, rfl⟩
  case round =>
    obtain ⟨k, hk, rfl, rfl⟩ := hrel
    have hk0 : (0 : Int) ≤ (k : Int) := by omega
    obtain ⟨mv, hmv⟩ : ∃ mv, mv = mxO (fun j => alS (p.getD j Fn.z).slots) k := ⟨_, rfl⟩
    rw [← hmv]
    have HMV := Lib.hid hmv
    clear hmv
    by_cases hlt : k < p.length
    · have hki : (k : Int) < (p.length : Int) := by omega
      obtain ⟨ad, As, cs, Ai, ci, rfl, hbl, c0, c1, c2, -, -, sx, -, ⟨s1, -⟩, -⟩ := HF1.out.whole hlt
      have HM' : Hid ((if mv < alS (p.getD k Fn.z).slots then alS (p.getD k Fn.z).slots else mv) = mxO (fun j => alS (p.getD j Fn.z).slots) (k + 1)) := Lib.hid (by rw [HMV.out]; rfl)
      have HI : Hid (FnR (p.getD k Fn.z)) := Lib.hid (HR.out _ hlt)
      obtain ⟨f, hff⟩ : ∃ f, f = p.getD k Fn.z := ⟨_, rfl⟩
      rw [← hff] at c0 c1 c2 sx s1 HM' HI
      have HSX := Lib.hid sx
      clear hff HMV sx
      go_wp2_with fail
      refine (refalign_any As f.slots cs _ lo hi HSX.out s1 HI.out).mono ?_
      rintro e w5 ⟨rfl, rfl⟩
      go_wp2
      go_round
      case rel => exact ⟨k + 1, by omega, by go_num, by rw [HM'.out]⟩
      case measure => simp [intOf]; omega
    · obtain rfl : k = p.length := by omega
      have HE' : Hid (alP p = mv) := Lib.hid (by unfold alP; rw [HMV.out])
      clear HMV
      go_wp2
      go_ret
      exact ⟨ret_int (by rw [HE'.out]), HB1.out⟩
end Go.Proofs.YtdpcpiejbhjgoaaDoor.pm
