/- Contracts of the reference: CheckFunc, Check. -/
import Derived.Test.YtinfeglhjmnlaaaDoorGRc
namespace Go.Proofs.YtinfeglhjmnlaaaDoor.pm
open Go.RowKit
set_option linter.unusedVariables false
set_option maxRecDepth 10000

set_option maxHeartbeats 4000000 in
theorem refcheckfunc_any (Ap : Option Addr) (p : List Fn) (cp i : Nat) (w : World) (lo hi : Nat) (hf : Fx w lo hi Ap p) (hh : hi ≤ w.heap.size) (hm : p.length ≤ maxLen) (hi' : i < p.length) (hr : FnR (p.getD i Fn.z)) :
    Calls Tryd.prog 95 #[.agg #[.slice Ap p.length cp], .int .i64 (i : Int)] w fun e w' => e = .returned (.int .i64 (funcE p.length (p.getD i Fn.z))) ∧ Below w.heap.size w w' := by
  obtain ⟨W1, hW1⟩ : ∃ W1, W1 = w.alloc (.cells #[.slice Ap p.length cp] 44) := ⟨_, rfl⟩
  have hB1 : Below w.heap.size w W1 := by rw [hW1]; exact (Below.refl _ _).alloc (Nat.le_refl _) _
  have HKP : Hid (Blk W1 w.heap.size 44 #[.slice Ap p.length cp]) := Lib.hid (by rw [hW1]; exact Blk.new _ _ _)
  have hF1 := hf.keep (Kp.of_below hB1 hh)
  obtain ⟨ad, As, cs, Ai, ci, rfl, hbl, c0, c1, c2, -, -, sx, nx, ⟨hs1, hs2⟩, hn1, hn2⟩ := hF1.whole hi'
  have HF1 := Lib.hid hF1
  have HB1 := Lib.hid hB1
  have HW1 := Lib.hid hW1
  have hz1 : w.heap.size < W1.heap.size := HKP.out.lt
  obtain ⟨f, hff⟩ : ∃ f, f = p.getD i Fn.z := ⟨_, rfl⟩
  rw [← hff] at c0 c1 c2 sx nx hs1 hs2 hn1 hn2 hr ⊢
  have HS1 := Lib.hid sx
  have HN1 := Lib.hid nx
  have HR := Lib.hid hr
  have hh1 : hi ≤ W1.heap.size := by omega
  have HCI : Hid (∀ (k : Nat) (W : World), k < f.code.length → Below W1.heap.size W1 W → Calls Tryd.prog 126 #[.agg #[.slice (some ad) p.length cp], .int .i64 (i : Int), .int .i64 (k : Int)] W fun e w' =>
      e = .returned (.int .i64 (instrE p.length f.params f.slots f.code.length (f.code.getD k Ins.z))) ∧ Below W.heap.size W w') := Lib.hid (fun k W hk hb => by
    rw [hff] at hk ⊢
    exact refcheckinstr_any (some ad) p cp i k W lo hi (HF1.out.keep (Kp.of_below hb hh1)) (by have := hb.size; omega) hm hi' hk)
  clear hf hF1 hW1 hB1 hff sx nx hr
  have hii : (i : Int) < (p.length : Int) := by omega
  have hi0 : (0 : Int) ≤ (i : Int) := by omega
  have hmi : (p.length : Int) ≤ 9223372036854775807 := by unfold maxLen at hm; omega
  have HBI : Hid (inB (i : Int) (p.length : Int) = true) := Lib.hid (inB_t.2 ⟨hi0, hii⟩)
  obtain ⟨q0, -, -⟩ := blk_one HKP.out
  have hni : (f.code.length : Int) ≤ 9223372036854775807 := by unfold maxLen at hn1; omega
  go_enter Tryd.func95, Tryd.ntmps95
  go_upto_region 1 with (fail)
  rw [← HW1.out]
  go_wp2_with fail
  refine (refwithin_any _ _ _).mono ?_
  rintro e w' ⟨rfl, rfl⟩
  rw [HBI.out]
  go_upto_region 4 with (fail)
  obtain ⟨W2, hW2⟩ : ∃ W2, W2 = W1.alloc (.cells #[.int .i64 f.params, .slice As f.slots.length cs, .slice Ai f.code.length ci] 97) := ⟨_, rfl⟩
  rw [← hW2]
  have HB2 : Hid (Below W1.heap.size W1 W2) := Lib.hid (by rw [hW2]; exact (Below.refl _ _).alloc (Nat.le_refl _) _)
  have HKF : Hid (Blk W2 W1.heap.size 97 #[.int .i64 f.params, .slice As f.slots.length cs, .slice Ai f.code.length ci]) := Lib.hid (by rw [hW2]; exact Blk.new _ _ _)
  have HKP2 := Lib.hid (HKP.out.after HB2.out)
  have HBN : Hid (Below w.heap.size w W2) := Lib.hid (HB1.out.trans (HB2.out.mono HB1.out.size))
  have HS2 : Hid (Sx W2 lo hi As f.slots) := Lib.hid (HS1.out.keep (Kp.of_below HB2.out hh1))
  have HN2 : Hid (Nx W2 lo hi Ai f.code) := Lib.hid (HN1.out.keep (Kp.of_below HB2.out hh1))
  have hh2 : hi ≤ W2.heap.size := by have := HB2.out.size; omega
  obtain ⟨g5, hg5⟩ : ∃ g5, g5 = W1.heap.size := ⟨_, rfl⟩
  rw [← hg5] at HKF ⊢
  have HG5 := Lib.hid hg5
  clear hW2 hg5 c0 c1 c2 q0 HKP HS1 HN1 HW1 HBI HB1
  obtain ⟨f0, f1, f2, -, -, -, fz⟩ := HKF.out.c3
  by_cases h10 : 1024 < f.code.length
  · have HE : Hid (funcE p.length f = 3) := Lib.hid (funcE_1 h10)
    have h10i : (1024 : Int) < (f.code.length : Int) := by omega
    clear h10
    go_wp2
    go_ret
    exact ⟨ret_int (by rw [HE.out]), HBN.out⟩
  · have H10 := Lib.hid h10
    have h10i : (f.code.length : Int) ≤ 1024 := by omega
    clear h10
    go_wp2_with fail
    refine (refslots_any As f.slots cs _ lo hi HS2.out hs1 HR.out).mono ?_
    rintro e W3 ⟨rfl, rfl⟩
    by_cases hse : slotsE f.slots = 0
    · have HSE := Lib.hid hse
      have e0 : (slotsE f.slots != 0) = false := by simp [hse]
      clear hse
      rcases h9 : inB f.params 9 with _ | _
      · have HE : Hid (funcE p.length f = 4) := Lib.hid (funcE_3 H10.out HSE.out h9)
        have h9' := inB_f.1 h9
        clear h9
        by_cases hp0 : f.params < 0
        · clear h9'
          go_wp2
          go_ret
          exact ⟨ret_int (by rw [HE.out]), HBN.out⟩
        · have hp1 : 8 < f.params := by omega
          clear h9'
          go_wp2
          go_ret
          exact ⟨ret_int (by rw [HE.out]), HBN.out⟩
      · have H9 := Lib.hid h9
        obtain ⟨p0, p9⟩ := inB_t.1 h9
        have p8 : f.params ≤ 8 := by omega
        clear h9 p9
        go_wp2
        go_loopw [7] (fun v wr => ∃ k : Nat, k ≤ f.code.length ∧ v = .int .i64 k ∧ Hid (∀ j, j < k → instrE p.length f.params f.slots f.code.length (f.code.getD j Ins.z) = 0) ∧ Hid (Below W2.heap.size W2 wr)) (fun v _ => f.code.length - (intOf v).toNat)
        case atStart => exact ⟨0, by omega, rfl, Lib.hid (fun j hj => by omega), Lib.hid (Below.refl _ _)⟩
        case round =>
          clear f0 f1 f2 fz
          obtain ⟨k, hk, rfl, HZ, HBR⟩ := hrel
          have hk0 : (0 : Int) ≤ (k : Int) := by omega
          have HKFr := Lib.hid (HKF.out.after HBR.out)
          have HKPr := Lib.hid (HKP2.out.after HBR.out)
          obtain ⟨f0, f1, f2, -, -, -, fz⟩ := HKFr.out.c3
          obtain ⟨q0, -, qz⟩ := blk_one HKPr.out
          have HB1r : Hid (Below W1.heap.size W1 wr) := Lib.hid (HB2.out.trans (HBR.out.mono HB2.out.size))
          by_cases hlt : k < f.code.length
          · have hki : (k : Int) < (f.code.length : Int) := by omega
            go_wp2_with fail
            refine (HCI.out k _ hlt HB1r.out).mono ?_
            rintro e w5 ⟨rfl, bel5⟩
            have HB5 : Hid (Below W2.heap.size W2 w5) := Lib.hid (HBR.out.trans (bel5.mono HBR.out.size))
            have HBN5 : Hid (Below w.heap.size w w5) := Lib.hid (HBN.out.trans (HB5.out.mono HBN.out.size))
            obtain ⟨ev, hev⟩ : ∃ ev, ev = instrE p.length f.params f.slots f.code.length (f.code.getD k Ins.z) := ⟨_, rfl⟩
            rw [← hev]
            have HEV := Lib.hid hev
            clear bel5 f0 f1 f2 fz q0 qz hev
            by_cases he : ev = 0
            · have HZ' : Hid (∀ j, j < k + 1 → instrE p.length f.params f.slots f.code.length (f.code.getD j Ins.z) = 0) := Lib.hid (fun j hj => by
                rcases Nat.lt_or_ge j k with h | h
                · exact HZ.out j h
                · obtain rfl : j = k := by omega
                  rw [← HEV.out]; exact he)
              have e1 : (ev != 0) = false := by simp [he]
              clear he HZ HEV
              go_wp2
              go_roundw
              case rel => exact ⟨k + 1, by omega, by go_num, HZ', HB5⟩
              case measure => simp [intOf]; omega
            · have HE : Hid (funcE p.length f = ev) := Lib.hid (by rw [HEV.out]; exact funcE_4 H10.out HSE.out H9.out hlt HZ.out (by rw [← HEV.out]; exact he))
              have e1 : (ev != 0) = true := by simp [he]
              clear he HZ HEV
              go_wp2
              go_ret
              exact ⟨ret_int (by rw [HE.out]), HBN5.out⟩
          · obtain rfl : k = f.code.length := by omega
            have HBNr : Hid (Below w.heap.size w wr) := Lib.hid (HBN.out.trans (HBR.out.mono HBN.out.size))
            have HE : Hid (funcE p.length f = if (f.code.length == 0 || !termB (f.code.getD (f.code.length - 1) Ins.z).op) = true then 6 else 0) := Lib.hid (funcE_5 H10.out HSE.out H9.out HZ.out)
            by_cases h0 : f.code.length = 0
            · have HE' : Hid (funcE p.length f = 6) := Lib.hid (by rw [HE.out, h0]; rfl)
              have e0 : ((f.code.length : Int) == 0) = true := by simp [h0]
              clear HE HZ h0 hlt
              go_wp2
              go_ret
              exact ⟨ret_int (by rw [HE'.out]), HBNr.out⟩
            · have hpos : 0 < f.code.length := by omega
              have e0 : ((f.code.length : Int) == 0) = false := by rw [beq_eq_false_iff_ne]; omega
              obtain ⟨ad2, rfl, hbl2, i0, -⟩ := (HN2.out.keep (Kp.of_below HBR.out hh2)).whole (show f.code.length - 1 < f.code.length by omega)
              obtain ⟨lop, hlop⟩ : ∃ lop, lop = (f.code.getD (f.code.length - 1) Ins.z).op := ⟨_, rfl⟩
              rw [← hlop] at i0 HE
              clear hlop
              have htn : ((f.code.length : Int) - 1).toNat = f.code.length - 1 := by omega
              have hp1 : (1 : Int) ≤ (f.code.length : Int) := by omega
              rcases ht : termB lop with _ | _
              · have HE' : Hid (funcE p.length f = 6) := Lib.hid (by rw [HE.out, ht]; simp)
                have HTB := Lib.hid ht
                clear HE HZ h0 hlt ht
                go_wp2_with fail
                refine (refterm_any _ _).mono ?_
                rintro e w' ⟨rfl, rfl⟩
                rw [HTB.out]
                go_wp2
                go_ret
                exact ⟨ret_int (by rw [HE'.out]), HBNr.out⟩
              · have HE' : Hid (funcE p.length f = 0) := Lib.hid (by rw [HE.out, ht, show (f.code.length == 0) = false by rw [beq_eq_false_iff_ne]; omega]; rfl)
                have HTB := Lib.hid ht
                clear HE HZ h0 hlt ht
                go_wp2_with fail
                refine (refterm_any _ _).mono ?_
                rintro e w' ⟨rfl, rfl⟩
                rw [HTB.out]
                go_wp2
                go_ret
                exact ⟨ret_int (by rw [HE'.out]), HBNr.out⟩
    · have HE : Hid (funcE p.length f = slotsE f.slots) := Lib.hid (funcE_2 H10.out hse)
      have e0 : (slotsE f.slots != 0) = true := by simp [hse]
      clear hse
      go_wp2
      go_ret
      exact ⟨ret_int (by rw [HE.out]), HBN.out⟩
set_option maxHeartbeats 4000000 in
theorem refcheck_any (Ap : Option Addr) (p : List Fn) (cp : Nat) (w : World) (lo hi : Nat) (hf : Fx w lo hi Ap p) (hh : hi ≤ w.heap.size) (hm : p.length ≤ maxLen) (hr : ∀ i, i < p.length → FnR (p.getD i Fn.z)) :
    Calls Tryd.prog 65 #[.agg #[.slice Ap p.length cp]] w fun e w' => e = .returned (.int .i64 (progE p)) ∧ Below w.heap.size w w' := by
  obtain ⟨W1, hW1⟩ : ∃ W1, W1 = w.alloc (.cells #[.slice Ap p.length cp] 44) := ⟨_, rfl⟩
  have hB1 : Below w.heap.size w W1 := by rw [hW1]; exact (Below.refl _ _).alloc (Nat.le_refl _) _
  have HKP : Hid (Blk W1 w.heap.size 44 #[.slice Ap p.length cp]) := Lib.hid (by rw [hW1]; exact Blk.new _ _ _)
  have HF1 := Lib.hid (hf.keep (Kp.of_below hB1 hh))
  have HB1 := Lib.hid hB1
  have HW1 := Lib.hid hW1
  have HR := Lib.hid hr
  have hz1 : w.heap.size < W1.heap.size := HKP.out.lt
  have hh1 : hi ≤ W1.heap.size := by omega
  have hmi : (p.length : Int) ≤ 9223372036854775807 := by unfold maxLen at hm; omega
  clear hf hW1 hB1 hr
  obtain ⟨q0, -, -⟩ := blk_one HKP.out
  by_cases h80 : 80 < p.length
  · have HE : Hid (progE p = 3) := Lib.hid (by unfold progE; rw [if_pos h80])
    have h80i : (80 : Int) < (p.length : Int) := by omega
    clear h80
    go_enter Tryd.func65, Tryd.ntmps65
    go_upto_region 1 with (fail)
    rw [← HW1.out]
    go_wp2
    go_ret
    exact ⟨ret_int (by rw [HE.out]), HB1.out⟩
  · have H80 := Lib.hid h80
    have h80i : (p.length : Int) ≤ 80 := by omega
    clear h80
    by_cases h0 : p.length = 0
    · have HE : Hid (progE p = 4) := Lib.hid (by unfold progE; rw [if_neg H80.out, if_pos h0])
      have e0 : ((p.length : Int) == 0) = true := by simp [h0]
      clear h0
      go_enter Tryd.func65, Tryd.ntmps65
      go_upto_region 1 with (fail)
      rw [← HW1.out]
      go_wp2
      go_ret
      exact ⟨ret_int (by rw [HE.out]), HB1.out⟩
    · have H0 := Lib.hid h0
      have e0 : ((p.length : Int) == 0) = false := by rw [beq_eq_false_iff_ne]; omega
      have hpos : (0 : Int) < (p.length : Int) := by omega
      obtain ⟨ad, As, cs, Ai, ci, rfl, hbl, c0, -⟩ := HF1.out.whole (show 0 < p.length by omega)
      have c0' : W1.cell? ad = some (.int .i64 (p.getD 0 Fn.z).params) := by simpa [Addr.add] using c0
      obtain ⟨prm, hprm⟩ : ∃ prm, prm = (p.getD 0 Fn.z).params := ⟨_, rfl⟩
      rw [← hprm] at c0 c0'
      clear h0
      by_cases hp : prm = 0
      · have HP0 : Hid ((p.getD 0 Fn.z).params = 0) := Lib.hid (by rw [← hprm]; exact hp)
        have ep : (prm != 0) = false := by simp [hp]
        clear hprm hp
        go_enter Tryd.func65, Tryd.ntmps65
        go_upto_region 1 with (fail)
        rw [← HW1.out]
        go_wp2
        go_loopw [3] (fun v wr => ∃ k : Nat, k ≤ p.length ∧ v = .int .i64 k ∧ Hid (∀ j, j < k → funcE p.length (p.getD j Fn.z) = 0) ∧ Hid (Below W1.heap.size W1 wr)) (fun v _ => p.length - (intOf v).toNat)
        case atStart => exact ⟨0, by omega, rfl, Lib.hid (fun j hj => by omega), Lib.hid (Below.refl _ _)⟩
        case round =>
          clear q0 c0 c0'
          obtain ⟨k, hk, rfl, HZ, HBR⟩ := hrel
          have hk0 : (0 : Int) ≤ (k : Int) := by omega
          obtain ⟨q0, -, qz⟩ := blk_one (HKP.out.after HBR.out)
          have HBNr : Hid (Below w.heap.size w wr) := Lib.hid (HB1.out.trans (HBR.out.mono HB1.out.size))
          by_cases hlt : k < p.length
          · have hki : (k : Int) < (p.length : Int) := by omega
            go_wp2_with fail
            refine (refcheckfunc_any _ p cp k wr lo hi (HF1.out.keep (Kp.of_below HBR.out hh1)) (by have := HBR.out.size; omega) hm hlt (HR.out k hlt)).mono ?_
            rintro e w5 ⟨rfl, bel5⟩
            have HB5 : Hid (Below W1.heap.size W1 w5) := Lib.hid (HBR.out.trans (bel5.mono HBR.out.size))
            have HBN5 : Hid (Below w.heap.size w w5) := Lib.hid (HBNr.out.trans (bel5.mono HBNr.out.size))
            obtain ⟨ev, hev⟩ : ∃ ev, ev = funcE p.length (p.getD k Fn.z) := ⟨_, rfl⟩
            rw [← hev]
            have HEV := Lib.hid hev
            clear bel5 q0 qz hev
            by_cases he : ev = 0
            · have HZ' : Hid (∀ j, j < k + 1 → funcE p.length (p.getD j Fn.z) = 0) := Lib.hid (fun j hj => by
                rcases Nat.lt_or_ge j k with h | h
                · exact HZ.out j h
                · obtain rfl : j = k := by omega
                  rw [← HEV.out]; exact he)
              have e1 : (ev != 0) = false := by simp [he]
              clear he HZ HEV
              go_wp2
              go_roundw
              case rel => exact ⟨k + 1, by omega, by go_num, HZ', HB5⟩
              case measure => simp [intOf]; omega
            · have HE : Hid (progE p = ev) := Lib.hid (by rw [HEV.out]; exact progE_4 H80.out H0.out HP0.out hlt HZ.out (by rw [← HEV.out]; exact he))
              have e1 : (ev != 0) = true := by simp [he]
              clear he HZ HEV
              go_wp2
              go_ret
              exact ⟨ret_int (by rw [HE.out]), HBN5.out⟩
          · obtain rfl : k = p.length := by omega
            have HE : Hid (progE p = 0) := Lib.hid (progE_5 H80.out H0.out HP0.out HZ.out)
            clear HZ
            go_wp2
            go_ret
            exact ⟨ret_int (by rw [HE.out]), HBNr.out⟩
      · have HE : Hid (progE p = 7) := Lib.hid (by unfold progE; rw [if_neg H80.out, if_neg H0.out, if_pos (by rw [← hprm]; exact hp)])
        have ep : (prm != 0) = true := by simp [hp]
        clear hprm hp
        go_enter Tryd.func65, Tryd.ntmps65
        go_upto_region 1 with (fail)
        rw [← HW1.out]
        go_wp2
        go_ret
        exact ⟨ret_int (by rw [HE.out]), HB1.out⟩
end Go.Proofs.YtinfeglhjmnlaaaDoor.pm
