/- Contracts of the reference of chapter 5: within, register, Terminator, Operands, operands. -/
import Derived.Test.YtcnndoefgjbmiaaGreatGSc
set_option linter.unusedVariables false
set_option maxRecDepth 10000
set_option maxHeartbeats 8000000
namespace Go.Proofs.YtcnndoefgjbmiaaGreat.pm
open Go.RowKit
theorem results_tmp4 {fn : Func} {t u v x : Tmp} (h : fn.results = #[.tmp t, .tmp u, .tmp v, .tmp x]) (tmps : Array Value) (P : Program) (w : World) :
 (results fn tmps).run P w = .ok (.tuple #[tmps.getD t undef, tmps.getD u undef, tmps.getD v undef, tmps.getD x undef]) w := by simp [results, h]
theorem refterm_any (op : Int) (w : World) :
 Calls Tryz.prog 77 #[.int .i64 op] w fun e w' => e = .returned (.bool (termB op)) ∧ w = w' := by
 by_cases h1 : op = 20
 · subst h1
   go_enter Tryz.func77, Tryz.ntmps77
   go_wp2
   go_ret
   exact ⟨rfl, rfl⟩
 · by_cases h2 : op = 23
   · subst h2
     go_enter Tryz.func77, Tryz.ntmps77
     go_wp2
     go_ret
     exact ⟨rfl, rfl⟩
   · have b1 : (op == 20) = false := by simpa using h1
     have b2 : (op == 23) = false := by simpa using h2
     have HT : Hid (termB op = (op == 24)) := hQ (by unfold termB; rw [b1, b2]; simp)
     clear h1 h2
     go_enter Tryz.func77, Tryz.ntmps77
     go_wp2
     go_ret
     exact ⟨ret_bool (by rw [HT.out]), rfl⟩
def useA (o : Nat) : Bool := (shp o).1 != 0
def useB (o : Nat) : Bool := (shp o).2.1 != 0
def useC (o : Nat) : Bool := (shp o).2.2.1 != 0
def useI (o : Nat) : Bool := (shp o).2.2.2
theorem operands_any (o : Nat) (h : o < 25) (w : World) : Calls Tryz.prog 127 #[.int .i64 (o : Int)] w fun e w' => e = .returned (.tuple #[.bool (useA o), .bool (useB o), .bool (useC o), .bool (useI o)]) ∧ w = w' := by
 have h' : o = 0 ∨ o = 1 ∨ o = 2 ∨ o = 3 ∨ o = 4 ∨ o = 5 ∨ o = 6 ∨ o = 7 ∨ o = 8 ∨ o = 9 ∨ o = 10 ∨ o = 11 ∨ o = 12 ∨ o = 13 ∨ o = 14 ∨ o = 15 ∨ o = 16 ∨ o = 17 ∨ o = 18 ∨ o = 19 ∨ o = 20 ∨ o = 21 ∨ o = 22 ∨ o = 23 ∨ o = 24 := by omega
 obtain ⟨x, hx⟩ : ∃ x, x = (o : Int) := ⟨_, rfl⟩
 rw [← hx]
 clear h
 rcases h' with rfl | rfl | rfl | rfl | rfl | rfl | rfl | rfl | rfl | rfl | rfl | rfl | rfl | rfl | rfl | rfl | rfl | rfl | rfl | rfl | rfl | rfl | rfl | rfl | rfl
 all_goals
  simp at hx
  subst hx
  go_enter Tryz.func127, Tryz.ntmps127
  go_wp2
  exact bodyPost_ret (results_tmp4 rfl _ _ _) rfl ⟨rfl, rfl⟩
theorem not_f {b : Bool} (h : (!b) = false) : b = true := by cases b <;> simp_all
theorem not_t {b : Bool} (h : (!b) = true) : b = false := by cases b <;> simp_all
theorem badS_all {sl : List (Int × Int)} (h : ¬ 512 < sl.length) : slotsE sl = if sl.any badS = true then 5 else 0 := by
 unfold slotsE
 rw [if_neg h]
 have e : sl.all (fun s => sizeB s.1 && powB s.2) = !sl.any badS := by
  clear h
  induction sl with
  | nil => rfl
  | cons s r ih => rw [List.all_cons, List.any_cons, ih]; unfold badS; cases sizeB s.1 <;> cases powB s.2 <;> simp
 rw [e]
 rcases sl.any badS with _ | _ <;> rfl
theorem refslots_any (As : Option Addr) (sl : List (Int × Int)) (cs : Nat) (w : World) (lo hi : Nat) (hs : Sx w lo hi As sl) (hcs : sl.length ≤ maxLen) (hr : ∀ s ∈ sl, I64 s.1 ∧ I64 s.2) :
 Calls Tryz.prog 59 #[.slice As sl.length cs] w fun e w' => e = .returned (.int .i64 (slotsE sl)) ∧ w = w' := by
 have HS := hQ hs
 have HR := hQ hr
 have hni : (sl.length : Int) ≤ 9223372036854775807 := by unfold maxLen at hcs; omega
 clear hs hr
 by_cases h5 : 512 < sl.length
 · have HE : Hid (slotsE sl = 3) := hQ (by unfold slotsE; rw [if_pos h5])
   have h5i : (512 : Int) < (sl.length : Int) := by omega
   clear h5
   go_enter Tryz.func59, Tryz.ntmps59
   go_wp2
   go_ret
   exact ⟨ret_int (by rw [HE.out]), rfl⟩
 · have HE := hQ (badS_all h5)
   have h5i : (sl.length : Int) ≤ 512 := by omega
   clear h5
   go_enter Tryz.func59, Tryz.ntmps59
   go_wp2
   go_loop [3] (fun v => ∃ k : Nat, k ≤ sl.length ∧ v = .int .i64 k ∧ Hid (∀ j, j < k → badS (sl.getD j (0, 0)) = false)) (fun v => sl.length - (intOf v).toNat)
   case atStart => exact ⟨0, by omega, rfl, hQ (fun j hj => by omega)⟩
   case round =>
    obtain ⟨k, hk, rfl, HN⟩ := hrel
    have hk0 : (0 : Int) ≤ (k : Int) := by omega
    by_cases hlt : k < sl.length
    · have hki : (k : Int) < (sl.length : Int) := by omega
      obtain ⟨ad, rfl, hbl, c0, c1⟩ := HS.out.at_ hlt
      have c1w := c1
      rw [add_pos _ 1 (by omega)] at c1w
      have HI : Hid (I64 (sl.getD k (0, 0)).1 ∧ I64 (sl.getD k (0, 0)).2) := hQ (HR.out _ (mem_getD hlt))
      obtain ⟨s, hs⟩ : ∃ s, s = sl.getD k (0, 0) := ⟨_, rfl⟩
      rw [← hs] at c0 c1 c1w HI
      have HSS := hQ hs
      clear hs
      have HBAD : Hid (badS s = true → slotsE sl = 5) := hQ (fun h => by rw [HE.out, if_pos (List.any_eq_true.2 ⟨s, by rw [HSS.out]; exact mem_getD hlt, h⟩)])
      go_wp2_with fail
      refine (refsize_any _ HI.out.1.1 HI.out.1.2 _).mono ?_
      rintro e w1 ⟨rfl, rfl⟩
      rcases hz : sizeB s.1 with _ | _
      · have HE5 : Hid (slotsE sl = 5) := hQ (HBAD.out (by unfold badS; rw [hz]; rfl))
        clear hz HN
        go_wp2
        go_ret
        exact ⟨ret_int (by rw [HE5.out]), rfl⟩
      · go_wp2_with fail
        refine (refpower_any _ HI.out.2.1 HI.out.2.2 _).mono ?_
        rintro e w1 ⟨rfl, rfl⟩
        rcases hp : powB s.2 with _ | _
        · have HE5 : Hid (slotsE sl = 5) := hQ (HBAD.out (by unfold badS; rw [hz, hp]; rfl))
          clear hz hp HN
          go_wp2
          go_ret
          exact ⟨ret_int (by rw [HE5.out]), rfl⟩
        · have HN' : Hid (∀ j, j < k + 1 → badS (sl.getD j (0, 0)) = false) := hQ (fun j hj => by
           rcases Nat.lt_or_ge j k with h | h
           · exact HN.out j h
           · obtain rfl : j = k := by omega
             rw [← HSS.out]; unfold badS; rw [hz, hp]; rfl)
          clear hz hp HN
          go_wp2
          go_round
          case rel => exact ⟨k + 1, by omega, by go_num, HN'⟩
          case measure => simp [intOf]; omega
    · have HA : Hid (slotsE sl = 0) := hQ (by
       rw [HE.out, if_neg]
       rw [List.any_eq_true]
       rintro ⟨s, hs, hb⟩
       obtain ⟨j, hj, rfl⟩ := List.mem_iff_getElem.1 hs
       have := HN.out j (by omega)
       rw [List.getD_eq_getElem?_getD, List.getElem?_eq_getElem hj, Option.getD_some, hb] at this
       cases this)
      clear HN
      go_wp2
      go_ret
      exact ⟨ret_int (by rw [HA.out]), rfl⟩
def mxO (g : Nat → Int) : Nat → Int
 | 0 => 16
 | k + 1 => if mxO g k < g k then g k else mxO g k
def alS (sl : List (Int × Int)) : Int := if slotsE sl = 0 then mxO (fun j => (sl.getD j (0, 0)).2) sl.length else 16
def alP (p : List Fn) : Int := mxO (fun j => alS (p.getD j Fn.z).slots) p.length
theorem refalign_any (As : Option Addr) (sl : List (Int × Int)) (cs : Nat) (w : World) (lo hi : Nat) (hs : Sx w lo hi As sl) (hcs : sl.length ≤ maxLen) (hr : ∀ s ∈ sl, I64 s.1 ∧ I64 s.2) :
 Calls Tryz.prog 37 #[.slice As sl.length cs] w fun e w' => e = .returned (.int .i64 (alS sl)) ∧ w = w' := by
 have HC := hQ (refslots_any As sl cs w lo hi hs hcs hr)
 have HS := hQ hs
 have hni : (sl.length : Int) ≤ 9223372036854775807 := by unfold maxLen at hcs; omega
 clear hs hr
 obtain ⟨ev, hev⟩ : ∃ ev, ev = slotsE sl := ⟨_, rfl⟩
 rw [← hev] at HC
 by_cases he : ev = 0
 · have HE : Hid (alS sl = mxO (fun j => (sl.getD j (0, 0)).2) sl.length) := hQ (by unfold alS; rw [if_pos (hev ▸ he)])
   have e1 : (ev != 0) = false := by simp [he]
   clear hev he
   go_enter Tryz.func37, Tryz.ntmps37
   go_wp2_with fail
   refine HC.out.mono ?_
   rintro e w1 ⟨rfl, rfl⟩
   clear HC
   go_wp2
   go_loop [3, 4] (fun m v => ∃ k : Nat, k ≤ sl.length ∧ v = .int .i64 k ∧ m = .int .i64 (mxO (fun j => (sl.getD j (0, 0)).2) k)) (fun _ v => sl.length - (intOf v).toNat)
   case atStart => exact ⟨0, by omega, rfl, rfl⟩
   case round =>
    obtain ⟨k, hk, rfl, rfl⟩ := hrel
    have hk0 : (0 : Int) ≤ (k : Int) := by omega
    obtain ⟨mv, hmv⟩ : ∃ mv, mv = mxO (fun j => (sl.getD j (0, 0)).2) k := ⟨_, rfl⟩
    rw [← hmv]
    have HMV := hQ hmv
    clear hmv
    by_cases hlt : k < sl.length
    · have hki : (k : Int) < (sl.length : Int) := by omega
      obtain ⟨ad, rfl, hbl, c0, c1⟩ := HS.out.at_ hlt
      have c1w := c1
      rw [add_pos _ 1 (by omega)] at c1w
      have HM' : Hid ((if mv < (sl.getD k (0, 0)).2 then (sl.getD k (0, 0)).2 else mv) = mxO (fun j => (sl.getD j (0, 0)).2) (k + 1)) := hQ (by rw [HMV.out]; rfl)
      obtain ⟨s, hs⟩ : ∃ s, s = sl.getD k (0, 0) := ⟨_, rfl⟩
      rw [← hs] at c0 c1 c1w HM'
      clear hs HMV
      go_wp2
      go_round
      case rel => exact ⟨k + 1, by omega, by go_num, by rw [HM'.out]⟩
      case measure => simp [intOf]; omega
    · obtain rfl : k = sl.length := by omega
      have HE' : Hid (alS sl = mv) := hQ (by rw [HE.out, HMV.out])
      clear HE HMV
      go_wp2
      go_ret
      exact ⟨ret_int (by rw [HE'.out]), rfl⟩
 · have HE : Hid (alS sl = 16) := hQ (by unfold alS; rw [if_neg (by rw [← hev]; exact he)])
   have e1 : (ev != 0) = true := by simp [he]
   clear hev he
   go_enter Tryz.func37, Tryz.ntmps37
   go_wp2_with fail
   refine HC.out.mono ?_
   rintro e w1 ⟨rfl, rfl⟩
   clear HC
   go_wp2
   go_ret
   exact ⟨ret_int (by rw [HE.out]), rfl⟩
theorem refprogalign_any (Ap : Option Addr) (p : List Fn) (cp : Nat) (w : World) (lo hi : Nat) (hf : Fx w lo hi Ap p) (hh : hi ≤ w.heap.size) (hm : p.length ≤ maxLen) (hr : ∀ i, i < p.length → FnR (p.getD i Fn.z)) :
 Calls Tryz.prog 23 #[.agg #[.slice Ap p.length cp]] w fun e w' => e = .returned (.int .i64 (alP p)) ∧ Below w.heap.size w w' := by
 obtain ⟨W1, hW1⟩ : ∃ W1, W1 = w.alloc (.cells #[.slice Ap p.length cp] 78) := ⟨_, rfl⟩
 have hB1 : Below w.heap.size w W1 := by rw [hW1]; exact bR.alloc nL _
 have HKP : Hid (Blk W1 w.heap.size 78 #[.slice Ap p.length cp]) := hQ (by rw [hW1]; exact Blk.new _ _ _)
 have HF1 := hQ (hf.keep (Kp.of_below hB1 hh))
 have HB1 := hQ hB1
 have HW1 := hQ hW1
 have HR := hQ hr
 have hz1 : w.heap.size < W1.heap.size := HKP.out.lt
 have hh1 : hi ≤ W1.heap.size := by omega
 have hmi : (p.length : Int) ≤ 9223372036854775807 := by unfold maxLen at hm; omega
 clear hf hW1 hB1 hr
 obtain ⟨q0, -, qz⟩ := blk_one HKP.out
 go_enter Tryz.func23, Tryz.ntmps23
 go_upto_region 1 with (fail)
 rw [← HW1.out]
 go_wp2
 go_loop [3, 4] (fun m v => ∃ k : Nat, k ≤ p.length ∧ v = .int .i64 k ∧ m = .int .i64 (mxO (fun j => alS (p.getD j Fn.z).slots) k)) (fun _ v => p.length - (intOf v).toNat)
 case atStart => exact ⟨0, by omega, rfl, rfl⟩
 case round =>
  obtain ⟨k, hk, rfl, rfl⟩ := hrel
  have hk0 : (0 : Int) ≤ (k : Int) := by omega
  obtain ⟨mv, hmv⟩ : ∃ mv, mv = mxO (fun j => alS (p.getD j Fn.z).slots) k := ⟨_, rfl⟩
  rw [← hmv]
  have HMV := hQ hmv
  clear hmv
  by_cases hlt : k < p.length
  · have hki : (k : Int) < (p.length : Int) := by omega
    obtain ⟨ad, As, cs, Ai, ci, rfl, hbl, c0, c1, c2, -, -, sx, -, ⟨s1, -⟩, -⟩ := HF1.out.whole hlt
    have HM' : Hid ((if mv < alS (p.getD k Fn.z).slots then alS (p.getD k Fn.z).slots else mv) = mxO (fun j => alS (p.getD j Fn.z).slots) (k + 1)) := hQ (by rw [HMV.out]; rfl)
    have HI : Hid (FnR (p.getD k Fn.z)) := hQ (HR.out _ hlt)
    obtain ⟨f, hff⟩ : ∃ f, f = p.getD k Fn.z := ⟨_, rfl⟩
    rw [← hff] at c0 c1 c2 sx s1 HM' HI
    have HSX := hQ sx
    clear hff HMV sx
    go_wp2_with fail
    refine (refalign_any As f.slots cs _ lo hi HSX.out s1 HI.out).mono ?_
    rintro e w5 ⟨rfl, rfl⟩
    go_wp2
    go_round
    case rel => exact ⟨k + 1, by omega, by go_num, by rw [HM'.out]⟩
    case measure => simp [intOf]; omega
  · obtain rfl : k = p.length := by omega
    have HE' : Hid (alP p = mv) := hQ (by unfold alP; rw [HMV.out])
    clear HMV
    go_wp2
    go_ret
    exact ⟨ret_int (by rw [HE'.out]), HB1.out⟩
end Go.Proofs.YtcnndoefgjbmiaaGreat.pm
