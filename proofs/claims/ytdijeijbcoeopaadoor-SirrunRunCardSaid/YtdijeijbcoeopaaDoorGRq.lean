/- Contracts of the reference of chapter 5: within, register, Terminator, Operands, operands. -/
import Derived.Test.YtdijeijbcoeopaaDoorGSc
import Derived.Test.YtdijeijbcoeopaaDoorGVa
set_option linter.unusedVariables false
set_option maxRecDepth 10000
set_option maxHeartbeats 8000000
namespace Go.Proofs.YtdijeijbcoeopaaDoor.pm
open Go.RowKit
theorem results_tmp4 {fn : Func} {t u v x : Tmp} (h : fn.results = #[.tmp t, .tmp u, .tmp v, .tmp x]) (tmps : Array Value) (P : Program) (w : World) :
 (results fn tmps).run P w = .ok (.tuple #[tmps.getD t undef, tmps.getD u undef, tmps.getD v undef, tmps.getD x undef]) w := by simp [results, h]
theorem refwithin_any (n l : Int) (w : World) :
 Calls Tryd.prog 58 #[.int .i64 n, .int .i64 l] w fun e w' => e = .returned (.bool (inB n l)) ∧ w = w' := by
 rcases hb : inB n l with _ | _
 · have h := inB_f.1 hb
   clear hb
   by_cases h0 : 0 ≤ n
   · have h1 : l ≤ n := by omega
     clear h
     go_enter Tryd.func58, Tryd.ntmps58
     go_wp2
     go_ret
     exact ⟨ret_bool (by simp; omega), rfl⟩
   · clear h
     go_enter Tryd.func58, Tryd.ntmps58
     go_wp2
     go_ret
     exact ⟨rfl, rfl⟩
 · obtain ⟨h0, h1⟩ := inB_t.1 hb
   clear hb
   go_enter Tryd.func58, Tryd.ntmps58
   go_wp2
   go_ret
   exact ⟨rfl, rfl⟩
theorem register_any (n : Int) (w : World) :
 Calls Tryd.prog 95 #[.int .i64 n] w fun e w' => e = .returned (.bool (inB n 8)) ∧ w = w' := by
 rcases hb : inB n 8 with _ | _
 · have h := inB_f.1 hb
   clear hb
   by_cases h0 : 0 ≤ n
   · have h1 : 8 ≤ n := by omega
     clear h
     go_enter Tryd.func95, Tryd.ntmps95
     go_wp2
     go_ret
     exact ⟨ret_bool (by simp; omega), rfl⟩
   · clear h
     go_enter Tryd.func95, Tryd.ntmps95
     go_wp2
     go_ret
     exact ⟨rfl, rfl⟩
 · obtain ⟨h0, h1⟩ := inB_t.1 hb
   clear hb
   go_enter Tryd.func95, Tryd.ntmps95
   go_wp2
   go_ret
   exact ⟨rfl, rfl⟩
theorem refterm_any (op : Int) (w : World) :
 Calls Tryd.prog 61 #[.int .i64 op] w fun e w' => e = .returned (.bool (termB op)) ∧ w = w' := by
 by_cases h1 : op = 20
 · subst h1
   go_enter Tryd.func61, Tryd.ntmps61
   go_wp2
   go_ret
   exact ⟨rfl, rfl⟩
 · by_cases h2 : op = 23
   · subst h2
     go_enter Tryd.func61, Tryd.ntmps61
     go_wp2
     go_ret
     exact ⟨rfl, rfl⟩
   · have b1 : (op == 20) = false := by simpa using h1
     have b2 : (op == 23) = false := by simpa using h2
     have HT : Hid (termB op = (op == 24)) := hQ (by unfold termB; rw [b1, b2]; simp)
     clear h1 h2
     go_enter Tryd.func61, Tryd.ntmps61
     go_wp2
     go_ret
     exact ⟨ret_bool (by rw [HT.out]), rfl⟩
def useA (o : Nat) : Bool := (shp o).1 != 0
def useB (o : Nat) : Bool := (shp o).2.1 != 0
def useC (o : Nat) : Bool := (shp o).2.2.1 != 0
def useI (o : Nat) : Bool := (shp o).2.2.2
theorem operands_any (o : Nat) (h : o < 25) (w : World) : Calls Tryd.prog 80 #[.int .i64 (o : Int)] w fun e w' => e = .returned (.tuple #[.bool (useA o), .bool (useB o), .bool (useC o), .bool (useI o)]) ∧ w = w' := by
 have h' : o = 0 ∨ o = 1 ∨ o = 2 ∨ o = 3 ∨ o = 4 ∨ o = 5 ∨ o = 6 ∨ o = 7 ∨ o = 8 ∨ o = 9 ∨ o = 10 ∨ o = 11 ∨ o = 12 ∨ o = 13 ∨ o = 14 ∨ o = 15 ∨ o = 16 ∨ o = 17 ∨ o = 18 ∨ o = 19 ∨ o = 20 ∨ o = 21 ∨ o = 22 ∨ o = 23 ∨ o = 24 := by omega
 obtain ⟨x, hx⟩ : ∃ x, x = (o : Int) := ⟨_, rfl⟩
 rw [← hx]
 clear h
 rcases h' with rfl | rfl | rfl | rfl | rfl | rfl | rfl | rfl | rfl | rfl | rfl | rfl | rfl | rfl | rfl | rfl | rfl | rfl | rfl | rfl | rfl | rfl | rfl | rfl | rfl
 all_goals
  simp at hx
  subst hx
  go_enter Tryd.func80, Tryd.ntmps80
  go_wp2
  exact bodyPost_ret (results_tmp4 rfl _ _ _) rfl ⟨rfl, rfl⟩
def okO (nf : Nat) (prm : Int) (ns nc o : Nat) (a b c : Int) : Bool := !(outK nf prm ns nc (shp o).1 a || outK nf prm ns nc (shp o).2.1 b || outK nf prm ns nc (shp o).2.2.1 c)
theorem not_f {b : Bool} (h : (!b) = false) : b = true := by cases b <;> simp_all
theorem not_t {b : Bool} (h : (!b) = true) : b = false := by cases b <;> simp_all
theorem inB01 : inB 0 1 = true := by decide
theorem ask_r (n : Int) (w : World) : Calls Tryd.prog 95 #[.int .i64 n] w fun e w' => ∃ q, Hid (inB n 8 = q) ∧ e = .returned (.bool q) ∧ w = w' := (register_any n w).mono (by rintro e w' ⟨rfl, rfl⟩; exact ⟨_, rfl, rfl, rfl⟩)
theorem ask_w (n l : Int) (w : World) : Calls Tryd.prog 58 #[.int .i64 n, .int .i64 l] w fun e w' => ∃ q, Hid (inB n l = q) ∧ e = .returned (.bool q) ∧ w = w' := (refwithin_any n l w).mono (by rintro e w' ⟨rfl, rfl⟩; exact ⟨_, rfl, rfl, rfl⟩)
theorem okops_any (Ap : Option Addr) (nf cp : Nat) (prm : Int) (As : Option Addr) (sl : List (Int × Int)) (cs : Nat) (Ai : Option Addr) (nc ci : Nat) (o : Nat) (a b c im : Int) (w : World) (h : o < 25) (hz : (badK (shp o).1 a || badK (shp o).2.1 b || badK (shp o).2.2.1 c) = false) :
 Calls Tryd.prog 81 #[.agg #[.slice Ap nf cp], .agg #[.int .i64 prm, .slice As sl.length cs, .slice Ai nc ci], .agg #[.int .i64 (o : Int), .int .i64 a, .int .i64 b, .int .i64 c, .int .u64 im]] w fun e w' => e = .returned (.bool (okO nf prm sl.length nc o a b c)) ∧ Below w.heap.size w w' := by
 have ha : (shp o).1 = 0 → a = 0 := fun e => by simp [badK, e] at hz; exact hz.1.1
 have hb : (shp o).2.1 = 0 → b = 0 := fun e => by simp [badK, e] at hz; exact hz.1.2
 have hc : (shp o).2.2.1 = 0 → c = 0 := fun e => by simp [badK, e] at hz; exact hz.2
 clear hz
 have h' : o = 0 ∨ o = 1 ∨ o = 2 ∨ o = 3 ∨ o = 4 ∨ o = 5 ∨ o = 6 ∨ o = 7 ∨ o = 8 ∨ o = 9 ∨ o = 10 ∨ o = 11 ∨ o = 12 ∨ o = 13 ∨ o = 14 ∨ o = 15 ∨ o = 16 ∨ o = 17 ∨ o = 18 ∨ o = 19 ∨ o = 20 ∨ o = 21 ∨ o = 22 ∨ o = 23 ∨ o = 24 := by omega
 obtain ⟨x, hx⟩ : ∃ x, x = (o : Int) := ⟨_, rfl⟩
 rw [← hx]
 clear h
 rcases h' with rfl | rfl | rfl | rfl | rfl | rfl | rfl | rfl | rfl | rfl | rfl | rfl | rfl | rfl | rfl | rfl | rfl | rfl | rfl | rfl | rfl | rfl | rfl | rfl | rfl
 all_goals
  try obtain rfl := ha rfl
  try obtain rfl := hb rfl
  try obtain rfl := hc rfl
  simp at hx
  subst hx
  clear ha hb hc
  go_enter Tryd.func81, Tryd.ntmps81
  first
  | (go_wp2_with fail; go_ret; exact ⟨ret_bool (by simp [okO, outK, shp, shps, lim, lims, inB01]), ((bR.alloc nL _).alloc (by simp) _).alloc (by simp; omega) _⟩)
  | (go_wp2_with fail; (first | refine (ask_r _ _).mono ?_ | refine (ask_w _ _ _).mono ?_); rintro e w1 ⟨q, Q1, rfl, rfl⟩; cases q
     all_goals first
     | (go_wp2_with fail; go_ret; exact ⟨ret_bool (by simp [okO, outK, shp, shps, lim, lims, inB01, Q1.out]), ((bR.alloc nL _).alloc (by simp) _).alloc (by simp; omega) _⟩)
     | (go_wp2_with fail; (first | refine (ask_r _ _).mono ?_ | refine (ask_w _ _ _).mono ?_); rintro e w1 ⟨q, Q2, rfl, rfl⟩; cases q
        all_goals first
        | (go_wp2_with fail; go_ret; exact ⟨ret_bool (by simp [okO, outK, shp, shps, lim, lims, inB01, Q1.out, Q2.out]), ((bR.alloc nL _).alloc (by simp) _).alloc (by simp; omega) _⟩)
        | (go_wp2_with fail; (first | refine (ask_r _ _).mono ?_ | refine (ask_w _ _ _).mono ?_); rintro e w1 ⟨q, Q3, rfl, rfl⟩; cases q <;> (go_wp2_with fail; go_ret; exact ⟨ret_bool (by simp [okO, outK, shp, shps, lim, lims, Q1.out, Q2.out, Q3.out]), ((bR.alloc nL _).alloc (by simp) _).alloc (by simp; omega) _⟩))))
theorem badS_all {sl : List (Int × Int)} (h : ¬ 512 < sl.length) : slotsE sl = if sl.any badS = true then 5 else 0 := by
 unfold slotsE
 rw [if_neg h]
 have e : sl.all (fun s => sizeB s.1 && powB s.2) = !sl.any badS := by
  clear h
  induction sl with
  | nil => rfl
  | cons s r ih => rw [List.all_cons, List.any_cons, ih]; unfold badS; cases sizeB s.1 <;> cases powB s.2 <;> simp
 rw [e]
 rcases sl.any badS with _ | _ <;> rfl
theorem refslots_any (As : Option Addr) (sl : List (Int × Int)) (cs : Nat) (w : World) (lo hi : Nat) (hs : Sx w lo hi As sl) (hcs : sl.length ≤ maxLen) (hr : ∀ s ∈ sl, I64 s.1 ∧ I64 s.2) :
 Calls Tryd.prog 59 #[.slice As sl.length cs] w fun e w' => e = .returned (.int .i64 (slotsE sl)) ∧ w = w' := by
 have HS := hQ hs
 have HR := hQ hr
 have hni : (sl.length : Int) ≤ 9223372036854775807 := by unfold maxLen at hcs; omega
 clear hs hr
 by_cases h5 : 512 < sl.length
 · have HE : Hid (slotsE sl = 3) := hQ (by unfold slotsE; rw [if_pos h5])
   have h5i : (512 : Int) < (sl.length : Int) := by omega
   clear h5
   go_enter Tryd.func59, Tryd.ntmps59
   go_wp2
   go_ret
   exact ⟨ret_int (by rw [HE.out]), rfl⟩
 · have HE := hQ (badS_all h5)
   have h5i : (sl.length : Int) ≤ 512 := by omega
   clear h5
   go_enter Tryd.func59, Tryd.ntmps59
   go_wp2
   go_loop [3] (fun v => ∃ k : Nat, k ≤ sl.length ∧ v = .int .i64 k ∧ Hid (∀ j, j < k → badS (sl.getD j (0, 0)) = false)) (fun v => sl.length - (intOf v).toNat)
   case atStart => exact ⟨0, by omega, rfl, hQ (fun j hj => by omega)⟩
   case round =>
    obtain ⟨k, hk, rfl, HN⟩ := hrel
    have hk0 : (0 : Int) ≤ (k : Int) := by omega
    by_cases hlt : k < sl.length
    · have hki : (k : Int) < (sl.length : Int) := by omega
      obtain ⟨ad, rfl, hbl, c0, c1⟩ := HS.out.at_ hlt
      have c1w := c1
      rw [add_pos _ 1 (by omega)] at c1w
      have HI : Hid (I64 (sl.getD k (0, 0)).1 ∧ I64 (sl.getD k (0, 0)).2) := hQ (HR.out _ (mem_getD hlt))
      obtain ⟨s, hs⟩ : ∃ s, s = sl.getD k (0, 0) := ⟨_, rfl⟩
      rw [← hs] at c0 c1 c1w HI
      have HSS := hQ hs
      clear hs
      have HBAD : Hid (badS s = true → slotsE sl = 5) := hQ (fun h => by rw [HE.out, if_pos (List.any_eq_true.2 ⟨s, by rw [HSS.out]; exact mem_getD hlt, h⟩)])
      go_wp2_with fail
      refine (refsize_any _ HI.out.1.1 HI.out.1.2 _).mono ?_
      rintro e w1 ⟨rfl, rfl⟩
      rcases hz : sizeB s.1 with _ | _
      · have HE5 : Hid (slotsE sl = 5) := hQ (HBAD.out (by unfold badS; rw [hz]; rfl))
        clear hz HN
        go_wp2
        go_ret
        exact ⟨ret_int (by rw [HE5.out]), rfl⟩
      · go_wp2_with fail
        refine (refpower_any _ HI.out.2.1 HI.out.2.2 _).mono ?_
        rintro e w1 ⟨rfl, rfl⟩
        rcases hp : powB s.2 with _ | _
        · have HE5 : Hid (slotsE sl = 5) := hQ (HBAD.out (by unfold badS; rw [hz, hp]; rfl))
          clear hz hp HN
          go_wp2
          go_ret
          exact ⟨ret_int (by rw [HE5.out]), rfl⟩
        · have HN' : Hid (∀ j, j < k + 1 → badS (sl.getD j (0, 0)) = false) := hQ (fun j hj => by
           rcases Nat.lt_or_ge j k with h | h
           · exact HN.out j h
           · obtain rfl : j = k := by omega
             rw [← HSS.out]; unfold badS; rw [hz, hp]; rfl)
          clear hz hp HN
          go_wp2
          go_round
          case rel => exact ⟨k + 1, by omega, by go_num, HN'⟩
          case measure => simp [intOf]; omega
    · have HA : Hid (slotsE sl = 0) := hQ (by
       rw [HE.out, if_neg]
       rw [List.any_eq_true]
       rintro ⟨s, hs, hb⟩
       obtain ⟨j, hj, rfl⟩ := List.mem_iff_getElem.1 hs
       have := HN.out j (by omega)
       rw [List.getD_eq_getElem?_getD, List.getElem?_eq_getElem hj, Option.getD_some, hb] at this
       cases this)
      clear HN
      go_wp2
      go_ret
      exact ⟨ret_int (by rw [HA.out]), rfl⟩
theorem refcheckinstr_any (Ap : Option Addr) (p : List Fn) (cp i k : Nat) (w : World) (lo hi : Nat) (hf : Fx w lo hi Ap p) (hh : hi ≤ w.heap.size) (hm : p.length ≤ maxLen) (hi' : i < p.length) (hk' : k < (p.getD i Fn.z).code.length) :
 Calls Tryd.prog 60 #[.agg #[.slice Ap p.length cp], .int .i64 (i : Int), .int .i64 (k : Int)] w fun e w' =>
  e = .returned (.int .i64 (instrE p.length (p.getD i Fn.z).params (p.getD i Fn.z).slots (p.getD i Fn.z).code.length ((p.getD i Fn.z).code.getD k Ins.z))) ∧ Below w.heap.size w w' := by
 obtain ⟨W1, hW1⟩ : ∃ W1, W1 = w.alloc (.cells #[.slice Ap p.length cp] 26) := ⟨_, rfl⟩
 have hB1 : Below w.heap.size w W1 := by rw [hW1]; exact bR.alloc nL _
 have HKP : Hid (Blk W1 w.heap.size 26 #[.slice Ap p.length cp]) := hQ (by rw [hW1]; exact Blk.new _ _ _)
 obtain ⟨ad, As, cs, Ai, ci, rfl, hbl, c0, c1, c2, -, c4, sx, nx, ⟨hs1, hs2⟩, hn1, hn2⟩ := (hf.keep (Kp.of_below hB1 hh)).whole hi'
 have HB1 := hQ hB1
 have HW1 := hQ hW1
 have hz1 : w.heap.size < W1.heap.size := HKP.out.lt
 obtain ⟨nf, hnf⟩ : ∃ nf, nf = p.length := ⟨_, rfl⟩
 rw [← hnf] at HKP hi' hm HW1 ⊢
 obtain ⟨f, hff⟩ : ∃ f, f = p.getD i Fn.z := ⟨_, rfl⟩
 rw [← hff] at c0 c1 c2 c4 sx nx hs1 hs2 hn1 hn2 hk' ⊢
 have hh1 : hi ≤ W1.heap.size := by omega
 have HS1 := hQ sx
 have HN1 := hQ nx
 obtain ⟨⟨op, a, b, c, im⟩, hx⟩ : ∃ x, x = f.code.getD k Ins.z := ⟨_, rfl⟩
 rw [← hx]
 have HX := hQ hx
 clear hf hW1 hB1 hff hnf sx nx hx
 have hii : (i : Int) < (nf : Int) := by omega
 have hi0 : (0 : Int) ≤ (i : Int) := by omega
 have hkk : (k : Int) < (f.code.length : Int) := by omega
 have hk0 : (0 : Int) ≤ (k : Int) := by omega
 have HBI : Hid (inB (i : Int) (nf : Int) = true) := hQ (inB_t.2 ⟨hi0, hii⟩)
 have HBK : Hid (inB (k : Int) (f.code.length : Int) = true) := hQ (inB_t.2 ⟨hk0, hkk⟩)
 have hni : (f.code.length : Int) ≤ 9223372036854775807 := by unfold maxLen at hn1; omega
 have hmi : (nf : Int) ≤ 9223372036854775807 := by unfold maxLen at hm; omega
 have hsi : (f.slots.length : Int) ≤ 9223372036854775807 := by unfold maxLen at hs1; omega
 obtain ⟨q0, -, -⟩ := blk_one HKP.out
 go_enter Tryd.func60, Tryd.ntmps60
 go_upto_region 1 with (fail)
 rw [← HW1.out]
 go_wp2_with fail
 refine (refwithin_any _ _ _).mono ?_
 rintro e w' ⟨rfl, rfl⟩
 rw [HBI.out]
 go_wp2_with fail
 refine (refwithin_any _ _ _).mono ?_
 rintro e w' ⟨rfl, rfl⟩
 rw [HBK.out]
 go_upto_region 4 with (fail)
 obtain ⟨W2, hW2⟩ : ∃ W2, W2 = W1.alloc (.cells #[.int .i64 f.params, .slice As f.slots.length cs, .slice Ai f.code.length ci] 54) := ⟨_, rfl⟩
 rw [← hW2]
 have HB2 : Hid (Below W1.heap.size W1 W2) := hQ (by rw [hW2]; exact bR.alloc nL _)
 have HKF : Hid (Blk W2 W1.heap.size 54 #[.int .i64 f.params, .slice As f.slots.length cs, .slice Ai f.code.length ci]) := hQ (by rw [hW2]; exact Blk.new _ _ _)
 have HKP2 := hQ (HKP.out.after HB2.out)
 obtain ⟨g7, hg7⟩ : ∃ g, g = W1.heap.size := ⟨_, rfl⟩
 rw [← hg7] at HKF ⊢
 have HG7 := hQ hg7
 obtain ⟨ad2, rfl, hbl2, i0, i1, i2, i3, i4⟩ := (HN1.out.keep (Kp.of_below HB2.out hh1)).whole hk'
 rw [← HX.out] at i0 i1 i2 i3 i4
 simp only at i0 i1 i2 i3 i4
 have hh2 : hi ≤ W2.heap.size := by have := HB2.out.size; omega
 clear hW2 hg7 c0 c1 c2 c4 q0 HKP
 obtain ⟨f0, f1, f2, -, -, -, fz⟩ := HKF.out.c3
 go_upto_region 5 with (fail)
 obtain ⟨W3, hW3⟩ : ∃ W3, W3 = W2.alloc (.cells #[.int .i64 op, .int .i64 a, .int .i64 b, .int .i64 c, .int .u64 im] 50) := ⟨_, rfl⟩
 rw [← hW3]
 have HB3 : Hid (Below W2.heap.size W2 W3) := hQ (by rw [hW3]; exact bR.alloc nL _)
 have HKX : Hid (Blk W3 W2.heap.size 50 #[.int .i64 op, .int .i64 a, .int .i64 b, .int .i64 c, .int .u64 im]) := hQ (by rw [hW3]; exact Blk.new _ _ _)
 have HKF3 := hQ (HKF.out.after HB3.out)
 have HKP3 := hQ (HKP2.out.after HB3.out)
 have HBN : Hid (Below w.heap.size w W3) := hQ (HB1.out.trans ((HB2.out.trans (HB3.out.mono HB2.out.size)).mono HB1.out.size))
 have HS3 : Hid (Sx W3 lo hi As f.slots) := hQ ((HS1.out.keep (Kp.of_below HB2.out hh1)).keep (Kp.of_below HB3.out hh2))
 have hh3 : hi ≤ W3.heap.size := by have := HB3.out.size; omega
 obtain ⟨g8, hg8⟩ : ∃ g, g = W2.heap.size := ⟨_, rfl⟩
 rw [← hg8] at HKX ⊢
 have HG8 := hQ hg8
 clear hW3 hg8 f0 f1 f2 fz i0 i1 i2 i3 i4 HKF HKP2 HB2 HB3 HB1 HW1 HN1 HS1
 obtain ⟨x0, x1, x2, x3, x4, -, -, -, -, -, xz⟩ := HKX.out.c5
 go_wp2_with fail
 refine (refwithin_any _ _ _).mono ?_
 rintro e w' ⟨rfl, rfl⟩
 rcases ho : inB op 25 with _ | _
 · have HE : Hid (instrE nf f.params f.slots f.code.length ⟨op, a, b, c, im⟩ = 4) := hQ (by unfold instrE; rw [if_pos ho])
   clear ho
   go_wp2
   go_ret
   exact ⟨ret_int (by rw [HE.out]), HBN.out⟩
 · have hop := inB_t.1 ho
   obtain ⟨o, rfl⟩ := Int.eq_ofNat_of_zero_le hop.1
   have HO := hQ ho
   have ho25 : o < 25 := by omega
   clear ho hop
   go_wp2_with fail
   refine (operands_any o ho25 _).mono ?_
   rintro e w' ⟨rfl, rfl⟩
   obtain ⟨ua, hua⟩ : ∃ u, u = useA o := ⟨_, rfl⟩
   obtain ⟨ub, hub⟩ : ∃ u, u = useB o := ⟨_, rfl⟩
   obtain ⟨uc, huc⟩ : ∃ u, u = useC o := ⟨_, rfl⟩
   obtain ⟨ui, hui⟩ : ∃ u, u = useI o := ⟨_, rfl⟩
   rw [← hua, ← hub, ← huc, ← hui]
   have HU := hQ (And.intro hua (And.intro hub (And.intro huc hui)))
   clear hua hub huc hui
   go_upto_region 8 with (fail)
   obtain ⟨bb, hbb⟩ : ∃ bb, bb = ((!ua && a != 0) || (!ub && b != 0) || (!uc && c != 0) || (!ui && im != 0)) := ⟨_, rfl⟩
   go_cut [86] (fun s wx => s = .bool bb ∧ W3 = wx)
   case first =>
    (cases ua; rcases e0 : (a != 0) with _ | _)
    all_goals try (go_wp2; go_meet; exact ⟨by rw [hbb]; simp [*], rfl⟩)
    all_goals (cases ub; rcases e1 : (b != 0) with _ | _)
    all_goals try (go_wp2; go_meet; exact ⟨by rw [hbb]; simp [*], rfl⟩)
    all_goals (cases uc; rcases e2 : (c != 0) with _ | _)
    all_goals try (go_wp2; go_meet; exact ⟨by rw [hbb]; simp [*], rfl⟩)
    all_goals (cases ui; rcases e3 : (im != 0) with _ | _)
    all_goals (go_wp2; go_meet; exact ⟨by rw [hbb]; simp [*], rfl⟩)
   case rest =>
    obtain ⟨rfl, rfl⟩ := hcut
    have HBBB := hQ hbb
    clear hbb
    cases bb
    · have HBAD : Hid ((badK (shp o).1 a || badK (shp o).2.1 b || badK (shp o).2.2.1 c) = false ∧ (!(shp o).2.2.2 && im != 0) = false) := hQ (by
       have h := HBBB.out
       obtain ⟨u1, u2, u3, u4⟩ := HU.out
       rw [u1, u2, u3, u4] at h
       have e1 : (!useA o && a != 0) = badK (shp o).1 a := by unfold useA badK; cases hq : ((shp o).1 == 0) <;> simp_all
       have e2 : (!useB o && b != 0) = badK (shp o).2.1 b := by unfold useB badK; cases hq : ((shp o).2.1 == 0) <;> simp_all
       have e3 : (!useC o && c != 0) = badK (shp o).2.2.1 c := by unfold useC badK; cases hq : ((shp o).2.2.1 == 0) <;> simp_all
       rw [e1, e2, e3] at h
       exact (Bool.or_eq_false_iff.1 h.symm))
      clear HBBB
      obtain ⟨f0, f1, f2, -, -, -, fz⟩ := HKF3.out.c3
      obtain ⟨q0, -, qz⟩ := blk_one HKP3.out
      go_wp2_with fail
      refine (okops_any _ nf cp f.params As f.slots cs _ f.code.length ci o a b c im _ ho25 HBAD.out.1).mono ?_
      rintro e W4 ⟨rfl, bel4⟩
      have HB4 := hQ bel4
      have HKX4 := hQ (HKX.out.after bel4)
      have HKF4 := hQ (HKF3.out.after bel4)
      have HBN4 : Hid (Below w.heap.size w W4) := hQ (HBN.out.trans (bel4.mono HBN.out.size))
      have HS4 : Hid (Sx W4 lo hi As f.slots) := hQ (HS3.out.keep (Kp.of_below bel4 hh3))
      clear bel4 f0 f1 f2 fz q0 qz x0 x1 x2 x3 x4 xz
      obtain ⟨x0, x1, x2, x3, x4, -, -, -, -, -, xz⟩ := HKX4.out.c5
      obtain ⟨f0, f1, f2, -, -, -, fz⟩ := HKF4.out.c3
      rcases hok : okO nf f.params f.slots.length f.code.length o a b c with _ | _
      · have HE : Hid (instrE nf f.params f.slots f.code.length ⟨(o : Int), a, b, c, im⟩ = 4) := hQ (instrE_out HO.out HBAD.out.1 HBAD.out.2 (not_f hok))
        clear hok
        go_wp2
        go_ret
        exact ⟨ret_int (by rw [HE.out]), HBN4.out⟩
      · have HOK : Hid ((outK nf f.params f.slots.length f.code.length (shp o).1 a || outK nf f.params f.slots.length f.code.length (shp o).2.1 b || outK nf f.params f.slots.length f.code.length (shp o).2.2.1 c) = false) := hQ (not_t hok)
        have HEND := hQ (instrE_end HO.out HBAD.out.1 HBAD.out.2 HOK.out)
        clear hok
        go_upto_region 12 with (fail)
        go_cut [111] (fun s wx => s = .bool ((o : Int) == 17 && (f.slots.getD a.toNat (0, 0)).1 != (f.slots.getD b.toNat (0, 0)).1) ∧ ∃ q, wx = W4.drewN q)
        case first =>
         by_cases h17 : o = 17
         · obtain ⟨hl1, hl2⟩ : inB a (f.slots.length : Int) = true ∧ inB b (f.slots.length : Int) = true := by
            have h := HOK.out
            rw [h17] at h
            simp [outK, lim, lims, shp, shps] at h
            exact h.1
           have i1 := inB_t.1 hl1
           have i2 := inB_t.1 hl2
           obtain ⟨an, rfl⟩ := Int.eq_ofNat_of_zero_le i1.1
           obtain ⟨bn, rfl⟩ := Int.eq_ofNat_of_zero_le i2.1
           have han : an < f.slots.length := by omega
           have hbn : bn < f.slots.length := by omega
           obtain ⟨ad3, rfl, hbl3, c1', -⟩ := HS4.out.at_ han
           obtain ⟨ad3', e', -, c2', -⟩ := HS4.out.at_ hbn
           obtain rfl : ad3 = ad3' := by injection e'
           have b17 : ((o : Int) == 17) = true := by simp [h17]
           have hv : ((o : Int) == 17 && (f.slots.getD ((an : Int)).toNat (0, 0)).1 != (f.slots.getD ((bn : Int)).toNat (0, 0)).1) = ((f.slots.getD an (0, 0)).1 != (f.slots.getD bn (0, 0)).1) := by rw [b17, Int.toNat_natCast, Int.toNat_natCast, Bool.true_and]
           have HV := hQ hv
           clear hv
           generalize (f.slots.getD an (0, 0)).1 = sx at c1' HV
           generalize (f.slots.getD bn (0, 0)).1 = sy at c2' HV
           have hai : (an : Int) < (f.slots.length : Int) := i1.2
           have hbi : (bn : Int) < (f.slots.length : Int) := i2.2
           have ha0 : (0 : Int) ≤ (an : Int) := by omega
           have hb0 : (0 : Int) ≤ (bn : Int) := by omega
           clear hl1 hl2 i1 i2 e' h17 HEND HOK HBAD
           go_wp2_with fail
           go_quiet (fail)
           go_wp2
           go_meet
           exact ⟨by rw [HV.out], nq, rfl⟩
         · have b17 : ((o : Int) == 17) = false := by simp; omega
           have HV : Hid (((o : Int) == 17 && (f.slots.getD a.toNat (0, 0)).1 != (f.slots.getD b.toNat (0, 0)).1) = false) := hQ (by rw [b17, Bool.false_and])
           clear h17
           go_wp2_with fail
           go_quiet (fail)
           go_wp2
           go_meet
           exact ⟨by rw [HV.out], nq, rfl⟩
        case rest =>
         obtain ⟨rfl, q, hq⟩ := hcut
         subst hq
         have HBNq : Hid (Below w.heap.size w (W4.drewN q)) := hQ (below_drewN HBN4.out q)
         rcases hmv : ((o : Int) == 17 && (f.slots.getD a.toNat (0, 0)).1 != (f.slots.getD b.toNat (0, 0)).1) with _ | _
         · have HE0 : Hid (instrE nf f.params f.slots f.code.length ⟨(o : Int), a, b, c, im⟩ = if (tgtK nf f.params f.slots.length f.code.length (shp o).1 a || tgtK nf f.params f.slots.length f.code.length (shp o).2.1 b || tgtK nf f.params f.slots.length f.code.length (shp o).2.2.1 c) = true then 6 else 0) := hQ (by rw [HEND.out, hmv]; simp)
           clear hmv HEND
           by_cases h20 : o = 20
           · have HT : Hid ((tgtK nf f.params f.slots.length f.code.length (shp o).1 a || tgtK nf f.params f.slots.length f.code.length (shp o).2.1 b || tgtK nf f.params f.slots.length f.code.length (shp o).2.2.1 c) = !inB a (f.code.length : Int)) := hQ (by rw [h20]; simp [tgtK, lim, lims, shp, shps])
             have b20 : ((o : Int) == 20) = true := by simp [h20]
             have bn : ((o : Int) == 21) = false := by rw [h20]; rfl
             clear h20
             go_wp2_with fail
             refine (refwithin_any _ _ _).mono ?_
             rintro e w' ⟨rfl, rfl⟩
             rcases hv : inB a (f.code.length : Int) with _ | _
             · have HE : Hid (instrE nf f.params f.slots f.code.length ⟨(o : Int), a, b, c, im⟩ = 6) := hQ (by rw [HE0.out, HT.out, hv]; rfl)
               clear hv
               go_wp2
               go_ret
               exact ⟨ret_int (by rw [HE.out]), HBNq.out⟩
             · have HE : Hid (instrE nf f.params f.slots f.code.length ⟨(o : Int), a, b, c, im⟩ = 0) := hQ (by rw [HE0.out, HT.out, hv]; rfl)
               clear hv
               go_wp2
               go_ret
               exact ⟨ret_int (by rw [HE.out]), HBNq.out⟩
           · by_cases h21 : o = 21
             · have HT : Hid ((tgtK nf f.params f.slots.length f.code.length (shp o).1 a || tgtK nf f.params f.slots.length f.code.length (shp o).2.1 b || tgtK nf f.params f.slots.length f.code.length (shp o).2.2.1 c) = !inB b (f.code.length : Int)) := hQ (by rw [h21]; simp [tgtK, lim, lims, shp, shps])
               have b21 : ((o : Int) == 21) = true := by simp [h21]
               have bn : ((o : Int) == 20) = false := by rw [h21]; rfl
               clear h21
               go_wp2_with fail
               refine (refwithin_any _ _ _).mono ?_
               rintro e w' ⟨rfl, rfl⟩
               rcases hv : inB b (f.code.length : Int) with _ | _
               · have HE : Hid (instrE nf f.params f.slots f.code.length ⟨(o : Int), a, b, c, im⟩ = 6) := hQ (by rw [HE0.out, HT.out, hv]; rfl)
                 clear hv
                 go_wp2
                 go_ret
                 exact ⟨ret_int (by rw [HE.out]), HBNq.out⟩
               · have HE : Hid (instrE nf f.params f.slots f.code.length ⟨(o : Int), a, b, c, im⟩ = 0) := hQ (by rw [HE0.out, HT.out, hv]; rfl)
                 clear hv
                 go_wp2
                 go_ret
                 exact ⟨ret_int (by rw [HE.out]), HBNq.out⟩
             · have HE : Hid (instrE nf f.params f.slots f.code.length ⟨(o : Int), a, b, c, im⟩ = 0) := hQ (by
                rw [HE0.out, if_neg]
                have hk : (shp o).1 ≠ 6 ∧ (shp o).2.1 ≠ 6 ∧ (shp o).2.2.1 ≠ 6 := by
                 have h' : ∀ m, m < 25 → m ≠ 20 → m ≠ 21 → (shp m).1 ≠ 6 ∧ (shp m).2.1 ≠ 6 ∧ (shp m).2.2.1 ≠ 6 := by decide
                 exact h' o ho25 h20 h21
                simp [tgtK, hk.1, hk.2.1, hk.2.2])
               have b20 : ((o : Int) == 20) = false := by simp; omega
               have b21 : ((o : Int) == 21) = false := by simp; omega
               clear h20 h21
               go_wp2
               go_ret
               exact ⟨ret_int (by rw [HE.out]), HBNq.out⟩
         · have HE : Hid (instrE nf f.params f.slots f.code.length ⟨(o : Int), a, b, c, im⟩ = 5) := hQ (by rw [HEND.out, hmv]; simp)
           clear hmv HEND
           go_wp2
           go_ret
           exact ⟨ret_int (by rw [HE.out]), HBNq.out⟩
    · have HE : Hid (instrE nf f.params f.slots f.code.length ⟨(o : Int), a, b, c, im⟩ = 2) := hQ (by
       have h := HBBB.out
       obtain ⟨u1, u2, u3, u4⟩ := HU.out
       by_cases h1 : (badK (shp o).1 a || badK (shp o).2.1 b || badK (shp o).2.2.1 c) = true
       · exact instrE_bad HO.out h1
       · have h1' : (badK (shp o).1 a || badK (shp o).2.1 b || badK (shp o).2.2.1 c) = false := by simpa using h1
         refine instrE_imm HO.out h1' ?_
         rw [u1, u2, u3, u4] at h
         have e1 : (!useA o && a != 0) = badK (shp o).1 a := by unfold useA badK; cases hq : ((shp o).1 == 0) <;> simp_all
         have e2 : (!useB o && b != 0) = badK (shp o).2.1 b := by unfold useB badK; cases hq : ((shp o).2.1 == 0) <;> simp_all
         have e3 : (!useC o && c != 0) = badK (shp o).2.2.1 c := by unfold useC badK; cases hq : ((shp o).2.2.1 == 0) <;> simp_all
         rw [e1, e2, e3, h1', Bool.false_or] at h
         exact h.symm)
      clear HBBB
      go_wp2
      go_ret
      exact ⟨ret_int (by rw [HE.out]), HBN.out⟩
theorem refcheckfunc_any (Ap : Option Addr) (p : List Fn) (cp i : Nat) (w : World) (lo hi : Nat) (hf : Fx w lo hi Ap p) (hh : hi ≤ w.heap.size) (hm : p.length ≤ maxLen) (hi' : i < p.length) (hr : FnR (p.getD i Fn.z)) :
 Calls Tryd.prog 45 #[.agg #[.slice Ap p.length cp], .int .i64 (i : Int)] w fun e w' => e = .returned (.int .i64 (funcE p.length (p.getD i Fn.z))) ∧ Below w.heap.size w w' := by
 obtain ⟨W1, hW1⟩ : ∃ W1, W1 = w.alloc (.cells #[.slice Ap p.length cp] 26) := ⟨_, rfl⟩
 have hB1 : Below w.heap.size w W1 := by rw [hW1]; exact bR.alloc nL _
 have HKP : Hid (Blk W1 w.heap.size 26 #[.slice Ap p.length cp]) := hQ (by rw [hW1]; exact Blk.new _ _ _)
 have hF1 := hf.keep (Kp.of_below hB1 hh)
 obtain ⟨ad, As, cs, Ai, ci, rfl, hbl, c0, c1, c2, -, -, sx, nx, ⟨hs1, hs2⟩, hn1, hn2⟩ := hF1.whole hi'
 have HF1 := hQ hF1
 have HB1 := hQ hB1
 have HW1 := hQ hW1
 have hz1 : w.heap.size < W1.heap.size := HKP.out.lt
 obtain ⟨f, hff⟩ : ∃ f, f = p.getD i Fn.z := ⟨_, rfl⟩
 rw [← hff] at c0 c1 c2 sx nx hs1 hs2 hn1 hn2 hr ⊢
 have HS1 := hQ sx
 have HN1 := hQ nx
 have HR := hQ hr
 have hh1 : hi ≤ W1.heap.size := by omega
 have HCI : Hid (∀ (k : Nat) (W : World), k < f.code.length → Below W1.heap.size W1 W → Calls Tryd.prog 60 #[.agg #[.slice (some ad) p.length cp], .int .i64 (i : Int), .int .i64 (k : Int)] W fun e w' =>
  e = .returned (.int .i64 (instrE p.length f.params f.slots f.code.length (f.code.getD k Ins.z))) ∧ Below W.heap.size W w') := hQ (fun k W hk hb => by
  rw [hff] at hk ⊢
  exact refcheckinstr_any (some ad) p cp i k W lo hi (HF1.out.keep (Kp.of_below hb hh1)) (by have := hb.size; omega) hm hi' hk)
 clear hf hF1 hW1 hB1 hff sx nx hr
 have hii : (i : Int) < (p.length : Int) := by omega
 have hi0 : (0 : Int) ≤ (i : Int) := by omega
 have hmi : (p.length : Int) ≤ 9223372036854775807 := by unfold maxLen at hm; omega
 have HBI : Hid (inB (i : Int) (p.length : Int) = true) := hQ (inB_t.2 ⟨hi0, hii⟩)
 obtain ⟨q0, -, -⟩ := blk_one HKP.out
 have hni : (f.code.length : Int) ≤ 9223372036854775807 := by unfold maxLen at hn1; omega
 go_enter Tryd.func45, Tryd.ntmps45
 go_upto_region 1 with (fail)
 rw [← HW1.out]
 go_wp2_with fail
 refine (refwithin_any _ _ _).mono ?_
 rintro e w' ⟨rfl, rfl⟩
 rw [HBI.out]
 go_upto_region 4 with (fail)
 obtain ⟨W2, hW2⟩ : ∃ W2, W2 = W1.alloc (.cells #[.int .i64 f.params, .slice As f.slots.length cs, .slice Ai f.code.length ci] 54) := ⟨_, rfl⟩
 rw [← hW2]
 have HB2 : Hid (Below W1.heap.size W1 W2) := hQ (by rw [hW2]; exact bR.alloc nL _)
 have HKF : Hid (Blk W2 W1.heap.size 54 #[.int .i64 f.params, .slice As f.slots.length cs, .slice Ai f.code.length ci]) := hQ (by rw [hW2]; exact Blk.new _ _ _)
 have HKP2 := hQ (HKP.out.after HB2.out)
 have HBN : Hid (Below w.heap.size w W2) := hQ (HB1.out.trans (HB2.out.mono HB1.out.size))
 have HS2 : Hid (Sx W2 lo hi As f.slots) := hQ (HS1.out.keep (Kp.of_below HB2.out hh1))
 have HN2 : Hid (Nx W2 lo hi Ai f.code) := hQ (HN1.out.keep (Kp.of_below HB2.out hh1))
 have hh2 : hi ≤ W2.heap.size := by have := HB2.out.size; omega
 obtain ⟨g5, hg5⟩ : ∃ g5, g5 = W1.heap.size := ⟨_, rfl⟩
 rw [← hg5] at HKF ⊢
 have HG5 := hQ hg5
 clear hW2 hg5 c0 c1 c2 q0 HKP HS1 HN1 HW1 HBI HB1
 obtain ⟨f0, f1, f2, -, -, -, fz⟩ := HKF.out.c3
 by_cases h10 : 1024 < f.code.length
 · have HE : Hid (funcE p.length f = 3) := hQ (funcE_1 h10)
   have h10i : (1024 : Int) < (f.code.length : Int) := by omega
   clear h10
   go_wp2
   go_ret
   exact ⟨ret_int (by rw [HE.out]), HBN.out⟩
 · have H10 := hQ h10
   have h10i : (f.code.length : Int) ≤ 1024 := by omega
   clear h10
   go_wp2_with fail
   refine (refslots_any As f.slots cs _ lo hi HS2.out hs1 HR.out).mono ?_
   rintro e W3 ⟨rfl, rfl⟩
   by_cases hse : slotsE f.slots = 0
   · have HSE := hQ hse
     have e0 : (slotsE f.slots != 0) = false := by simp [hse]
     clear hse
     rcases h9 : inB f.params 9 with _ | _
     · have HE : Hid (funcE p.length f = 4) := hQ (funcE_3 H10.out HSE.out h9)
       have h9' := inB_f.1 h9
       clear h9
       by_cases hp0 : f.params < 0
       · clear h9'
         go_wp2
         go_ret
         exact ⟨ret_int (by rw [HE.out]), HBN.out⟩
       · have hp1 : 8 < f.params := by omega
         clear h9'
         go_wp2
         go_ret
         exact ⟨ret_int (by rw [HE.out]), HBN.out⟩
     · have H9 := hQ h9
       obtain ⟨p0, p9⟩ := inB_t.1 h9
       have p8 : f.params ≤ 8 := by omega
       clear h9 p9
       go_wp2
       go_loopw [7] (fun v wr => ∃ k : Nat, k ≤ f.code.length ∧ v = .int .i64 k ∧ Hid (∀ j, j < k → instrE p.length f.params f.slots f.code.length (f.code.getD j Ins.z) = 0) ∧ Hid (Below W2.heap.size W2 wr)) (fun v _ => f.code.length - (intOf v).toNat)
       case atStart => exact ⟨0, by omega, rfl, hQ (fun j hj => by omega), hQ bR⟩
       case round =>
        clear f0 f1 f2 fz
        obtain ⟨k, hk, rfl, HZ, HBR⟩ := hrel
        have hk0 : (0 : Int) ≤ (k : Int) := by omega
        have HKFr := hQ (HKF.out.after HBR.out)
        have HKPr := hQ (HKP2.out.after HBR.out)
        obtain ⟨f0, f1, f2, -, -, -, fz⟩ := HKFr.out.c3
        obtain ⟨q0, -, qz⟩ := blk_one HKPr.out
        have HB1r : Hid (Below W1.heap.size W1 wr) := hQ (HB2.out.trans (HBR.out.mono HB2.out.size))
        by_cases hlt : k < f.code.length
        · have hki : (k : Int) < (f.code.length : Int) := by omega
          go_wp2_with fail
          refine (HCI.out k _ hlt HB1r.out).mono ?_
          rintro e w5 ⟨rfl, bel5⟩
          have HB5 : Hid (Below W2.heap.size W2 w5) := hQ (HBR.out.trans (bel5.mono HBR.out.size))
          have HBN5 : Hid (Below w.heap.size w w5) := hQ (HBN.out.trans (HB5.out.mono HBN.out.size))
          obtain ⟨ev, hev⟩ : ∃ ev, ev = instrE p.length f.params f.slots f.code.length (f.code.getD k Ins.z) := ⟨_, rfl⟩
          rw [← hev]
          have HEV := hQ hev
          clear bel5 f0 f1 f2 fz q0 qz hev
          by_cases he : ev = 0
          · have HZ' : Hid (∀ j, j < k + 1 → instrE p.length f.params f.slots f.code.length (f.code.getD j Ins.z) = 0) := hQ (fun j hj => by
             rcases Nat.lt_or_ge j k with h | h
             · exact HZ.out j h
             · obtain rfl : j = k := by omega
               rw [← HEV.out]; exact he)
            have e1 : (ev != 0) = false := by simp [he]
            clear he HZ HEV
            go_wp2
            go_roundw
            case rel => exact ⟨k + 1, by omega, by go_num, HZ', HB5⟩
            case measure => simp [intOf]; omega
          · have HE : Hid (funcE p.length f = ev) := hQ (by rw [HEV.out]; exact funcE_4 H10.out HSE.out H9.out hlt HZ.out (by rw [← HEV.out]; exact he))
            have e1 : (ev != 0) = true := by simp [he]
            clear he HZ HEV
            go_wp2
            go_ret
            exact ⟨ret_int (by rw [HE.out]), HBN5.out⟩
        · obtain rfl : k = f.code.length := by omega
          have HBNr : Hid (Below w.heap.size w wr) := hQ (HBN.out.trans (HBR.out.mono HBN.out.size))
          have HE : Hid (funcE p.length f = if (f.code.length == 0 || !termB (f.code.getD (f.code.length - 1) Ins.z).op) = true then 6 else 0) := hQ (funcE_5 H10.out HSE.out H9.out HZ.out)
          by_cases h0 : f.code.length = 0
          · have HE' : Hid (funcE p.length f = 6) := hQ (by rw [HE.out, h0]; rfl)
            have e0 : ((f.code.length : Int) == 0) = true := by simp [h0]
            clear HE HZ h0 hlt
            go_wp2
            go_ret
            exact ⟨ret_int (by rw [HE'.out]), HBNr.out⟩
          · have hpos : 0 < f.code.length := by omega
            have e0 : ((f.code.length : Int) == 0) = false := by rw [beq_eq_false_iff_ne]; omega
            obtain ⟨ad2, rfl, hbl2, i0, -⟩ := (HN2.out.keep (Kp.of_below HBR.out hh2)).whole (show f.code.length - 1 < f.code.length by omega)
            obtain ⟨lop, hlop⟩ : ∃ lop, lop = (f.code.getD (f.code.length - 1) Ins.z).op := ⟨_, rfl⟩
            rw [← hlop] at i0 HE
            clear hlop
            have htn : ((f.code.length : Int) - 1).toNat = f.code.length - 1 := by omega
            have hp1 : (1 : Int) ≤ (f.code.length : Int) := by omega
            rcases ht : termB lop with _ | _
            · have HE' : Hid (funcE p.length f = 6) := hQ (by rw [HE.out, ht]; simp)
              have HTB := hQ ht
              clear HE HZ h0 hlt ht
              go_wp2_with fail
              refine (refterm_any _ _).mono ?_
              rintro e w' ⟨rfl, rfl⟩
              rw [HTB.out]
              go_wp2
              go_ret
              exact ⟨ret_int (by rw [HE'.out]), HBNr.out⟩
            · have HE' : Hid (funcE p.length f = 0) := hQ (by rw [HE.out, ht, show (f.code.length == 0) = false by rw [beq_eq_false_iff_ne]; omega]; rfl)
              have HTB := hQ ht
              clear HE HZ h0 hlt ht
              go_wp2_with fail
              refine (refterm_any _ _).mono ?_
              rintro e w' ⟨rfl, rfl⟩
              rw [HTB.out]
              go_wp2
              go_ret
              exact ⟨ret_int (by rw [HE'.out]), HBNr.out⟩
   · have HE : Hid (funcE p.length f = slotsE f.slots) := hQ (funcE_2 H10.out hse)
     have e0 : (slotsE f.slots != 0) = true := by simp [hse]
     clear hse
     go_wp2
     go_ret
     exact ⟨ret_int (by rw [HE.out]), HBN.out⟩
theorem refcheck_any (Ap : Option Addr) (p : List Fn) (cp : Nat) (w : World) (lo hi : Nat) (hf : Fx w lo hi Ap p) (hh : hi ≤ w.heap.size) (hm : p.length ≤ maxLen) (hr : ∀ i, i < p.length → FnR (p.getD i Fn.z)) :
 Calls Tryd.prog 33 #[.agg #[.slice Ap p.length cp]] w fun e w' => e = .returned (.int .i64 (progE p)) ∧ Below w.heap.size w w' := by
 obtain ⟨W1, hW1⟩ : ∃ W1, W1 = w.alloc (.cells #[.slice Ap p.length cp] 26) := ⟨_, rfl⟩
 have hB1 : Below w.heap.size w W1 := by rw [hW1]; exact bR.alloc nL _
 have HKP : Hid (Blk W1 w.heap.size 26 #[.slice Ap p.length cp]) := hQ (by rw [hW1]; exact Blk.new _ _ _)
 have HF1 := hQ (hf.keep (Kp.of_below hB1 hh))
 have HB1 := hQ hB1
 have HW1 := hQ hW1
 have HR := hQ hr
 have hz1 : w.heap.size < W1.heap.size := HKP.out.lt
 have hh1 : hi ≤ W1.heap.size := by omega
 have hmi : (p.length : Int) ≤ 9223372036854775807 := by unfold maxLen at hm; omega
 clear hf hW1 hB1 hr
 obtain ⟨q0, -, -⟩ := blk_one HKP.out
 by_cases h80 : 80 < p.length
 · have HE : Hid (progE p = 3) := hQ (by unfold progE; rw [if_pos h80])
   have h80i : (80 : Int) < (p.length : Int) := by omega
   clear h80
   go_enter Tryd.func33, Tryd.ntmps33
   go_upto_region 1 with (fail)
   rw [← HW1.out]
   go_wp2
   go_ret
   exact ⟨ret_int (by rw [HE.out]), HB1.out⟩
 · have H80 := hQ h80
   have h80i : (p.length : Int) ≤ 80 := by omega
   clear h80
   by_cases h0 : p.length = 0
   · have HE : Hid (progE p = 4) := hQ (by unfold progE; rw [if_neg H80.out, if_pos h0])
     have e0 : ((p.length : Int) == 0) = true := by simp [h0]
     clear h0
     go_enter Tryd.func33, Tryd.ntmps33
     go_upto_region 1 with (fail)
     rw [← HW1.out]
     go_wp2
     go_ret
     exact ⟨ret_int (by rw [HE.out]), HB1.out⟩
   · have H0 := hQ h0
     have e0 : ((p.length : Int) == 0) = false := by rw [beq_eq_false_iff_ne]; omega
     have hpos : (0 : Int) < (p.length : Int) := by omega
     obtain ⟨ad, As, cs, Ai, ci, rfl, hbl, c0, -⟩ := HF1.out.whole (show 0 < p.length by omega)
     have c0' : W1.cell? ad = some (.int .i64 (p.getD 0 Fn.z).params) := by simpa [Addr.add] using c0
     obtain ⟨prm, hprm⟩ : ∃ prm, prm = (p.getD 0 Fn.z).params := ⟨_, rfl⟩
     rw [← hprm] at c0 c0'
     clear h0
     by_cases hp : prm = 0
     · have HP0 : Hid ((p.getD 0 Fn.z).params = 0) := hQ (by rw [← hprm]; exact hp)
       have ep : (prm != 0) = false := by simp [hp]
       clear hprm hp
       go_enter Tryd.func33, Tryd.ntmps33
       go_upto_region 1 with (fail)
       rw [← HW1.out]
       go_wp2
       go_loopw [3] (fun v wr => ∃ k : Nat, k ≤ p.length ∧ v = .int .i64 k ∧ Hid (∀ j, j < k → funcE p.length (p.getD j Fn.z) = 0) ∧ Hid (Below W1.heap.size W1 wr)) (fun v _ => p.length - (intOf v).toNat)
       case atStart => exact ⟨0, by omega, rfl, hQ (fun j hj => by omega), hQ bR⟩
       case round =>
        clear q0 c0 c0'
        obtain ⟨k, hk, rfl, HZ, HBR⟩ := hrel
        have hk0 : (0 : Int) ≤ (k : Int) := by omega
        obtain ⟨q0, -, qz⟩ := blk_one (HKP.out.after HBR.out)
        have HBNr : Hid (Below w.heap.size w wr) := hQ (HB1.out.trans (HBR.out.mono HB1.out.size))
        by_cases hlt : k < p.length
        · have hki : (k : Int) < (p.length : Int) := by omega
          go_wp2_with fail
          refine (refcheckfunc_any _ p cp k wr lo hi (HF1.out.keep (Kp.of_below HBR.out hh1)) (by have := HBR.out.size; omega) hm hlt (HR.out k hlt)).mono ?_
          rintro e w5 ⟨rfl, bel5⟩
          have HB5 : Hid (Below W1.heap.size W1 w5) := hQ (HBR.out.trans (bel5.mono HBR.out.size))
          have HBN5 : Hid (Below w.heap.size w w5) := hQ (HBNr.out.trans (bel5.mono HBNr.out.size))
          obtain ⟨ev, hev⟩ : ∃ ev, ev = funcE p.length (p.getD k Fn.z) := ⟨_, rfl⟩
          rw [← hev]
          have HEV := hQ hev
          clear bel5 q0 qz hev
          by_cases he : ev = 0
          · have HZ' : Hid (∀ j, j < k + 1 → funcE p.length (p.getD j Fn.z) = 0) := hQ (fun j hj => by
             rcases Nat.lt_or_ge j k with h | h
             · exact HZ.out j h
             · obtain rfl : j = k := by omega
               rw [← HEV.out]; exact he)
            have e1 : (ev != 0) = false := by simp [he]
            clear he HZ HEV
            go_wp2
            go_roundw
            case rel => exact ⟨k + 1, by omega, by go_num, HZ', HB5⟩
            case measure => simp [intOf]; omega
          · have HE : Hid (progE p = ev) := hQ (by rw [HEV.out]; exact progE_4 H80.out H0.out HP0.out hlt HZ.out (by rw [← HEV.out]; exact he))
            have e1 : (ev != 0) = true := by simp [he]
            clear he HZ HEV
            go_wp2
            go_ret
            exact ⟨ret_int (by rw [HE.out]), HBN5.out⟩
        · obtain rfl : k = p.length := by omega
          have HE : Hid (progE p = 0) := hQ (progE_5 H80.out H0.out HP0.out HZ.out)
          clear HZ
          go_wp2
          go_ret
          exact ⟨ret_int (by rw [HE.out]), HBNr.out⟩
     · have HE : Hid (progE p = 7) := hQ (by unfold progE; rw [if_neg H80.out, if_neg H0.out, if_pos (by rw [← hprm]; exact hp)])
       have ep : (prm != 0) = true := by simp [hp]
       clear hprm hp
       go_enter Tryd.func33, Tryd.ntmps33
       go_upto_region 1 with (fail)
       rw [← HW1.out]
       go_wp2
       go_ret
       exact ⟨ret_int (by rw [HE.out]), HB1.out⟩
end Go.Proofs.YtdijeijbcoeopaaDoor.pm
