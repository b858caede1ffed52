/- Contracts: sir.CheckFunc, Check, CheckInstr. -/
import Derived.Test.YtillopkcmpcokaaDoorSc2
namespace Go.Proofs.YtillopkcmpcokaaDoor.pm
open Go.RowKit
set_option linter.unusedVariables false
set_option maxRecDepth 10000

theorem blk_one {w : World} {g : Nat} {t : TypeId} {a : Value} (h : Blk w g t #[a]) : w.cell? ⟨g, 0, none⟩ = some a ∧ w.frozen? ⟨g, 0, none⟩ = false ∧ g < w.heap.size := ⟨Blk.cell h 0, Blk.frozen h 0, Blk.lt h⟩
def FnR (f : Fn) : Prop := ∀ s ∈ f.slots, I64 s.1 ∧ I64 s.2
section
variable {nf : Nat} {f : Fn}
theorem funcE_1 (h : 1024 < f.code.length) : funcE nf f = 3 := by unfold funcE; rw [if_pos h]
theorem funcE_2 (h : ¬ 1024 < f.code.length) (h2 : slotsE f.slots ≠ 0) : funcE nf f = slotsE f.slots := by unfold funcE; rw [if_neg h, if_pos h2]
theorem funcE_3 (h : ¬ 1024 < f.code.length) (h2 : slotsE f.slots = 0) (h3 : inB f.params 9 = false) : funcE nf f = 4 := by unfold funcE; rw [if_neg h, if_neg (by simpa using h2), if_pos h3]
theorem funcE_4 {k : Nat} (h : ¬ 1024 < f.code.length) (h2 : slotsE f.slots = 0) (h3 : inB f.params 9 = true) (hk : k < f.code.length) (h4 : ∀ j, j < k → instrE nf f.params f.slots f.code.length (f.code.getD j Ins.z) = 0) (h5 : instrE nf f.params f.slots f.code.length (f.code.getD k Ins.z) ≠ 0) :
    funcE nf f = instrE nf f.params f.slots f.code.length (f.code.getD k Ins.z) := by
  have e := firstE_take (f := instrE nf f.params f.slots f.code.length) hk h4 h5
  unfold funcE
  rw [if_neg h, if_neg (by simpa using h2), if_neg (by rw [h3]; simp), if_pos (by rw [e]; exact h5), e]
theorem funcE_5 (h : ¬ 1024 < f.code.length) (h2 : slotsE f.slots = 0) (h3 : inB f.params 9 = true) (h4 : ∀ j, j < f.code.length → instrE nf f.params f.slots f.code.length (f.code.getD j Ins.z) = 0) :
    funcE nf f = if (f.code.length == 0 || !termB (f.code.getD (f.code.length - 1) Ins.z).op) = true then 6 else 0 := by
  have e : firstE (f.code.map (instrE nf f.params f.slots f.code.length)) = 0 := firstE_zero (fun y hy => by
    obtain ⟨x, hx, rfl⟩ := List.mem_map.1 hy
    obtain ⟨j, hj, rfl⟩ := List.mem_iff_getElem.1 hx
    have := h4 j hj
    rw [List.getD_eq_getElem?_getD, List.getElem?_eq_getElem hj] at this
    exact this)
  unfold funcE
  rw [if_neg h, if_neg (by simpa using h2), if_neg (by rw [h3]; simp), if_neg (by simpa using e)]
end
set_option maxHeartbeats 4000000 in
theorem checkfunc_any (Ap : Option Addr) (p : List Fn) (cp i : Nat) (w : World) (lo hi : Nat) (hT : Tb w) (hf : Fx w lo hi Ap p) (hh : hi ≤ w.heap.size) (hm : p.length ≤ maxLen) (hi' : i < p.length) (hr : FnR (p.getD i Fn.z)) :
    Calls Tryd.prog 47 #[.agg #[.slice Ap p.length cp], .int .i64 (i : Int)] w fun e w' => e = .returned (.int .i64 (funcE p.length (p.getD i Fn.z))) ∧ Below w.heap.size w w' := by
  obtain ⟨W1, hW1⟩ : ∃ W1, W1 = w.alloc (.cells #[.slice Ap p.length cp] 26) := ⟨_, rfl⟩
  have hB1 : Below w.heap.size w W1 := by rw [hW1]; exact (Below.refl _ _).alloc (Nat.le_refl _) _
  have HKP : Hid (Blk W1 w.heap.size 26 #[.slice Ap p.length cp]) := Lib.hid (by rw [hW1]; exact Blk.new _ _ _)
  have HT1 := Lib.hid (hT.below hB1)
  obtain ⟨ad, As, cs, Ai, ci, rfl, hbl, c0, c1, c2, -, -, sx, nx, ⟨hs1, hs2⟩, hn1, hn2⟩ := (hf.keep (Kp.of_below hB1 hh)).whole hi'
  have HB1 := Lib.hid hB1
  have HW1 := Lib.hid hW1
  have hz1 : w.heap.size < W1.heap.size := HKP.out.lt
  obtain ⟨nf, hnf⟩ : ∃ nf, nf = p.length := ⟨_, rfl⟩
  rw [← hnf] at HKP hi' hm HW1 ⊢
  obtain ⟨f, hff⟩ : ∃ f, f = p.getD i Fn.z := ⟨_, rfl⟩
  rw [← hff] at c0 c1 c2 sx nx hs1 hs2 hn1 hn2 hr ⊢
  have HS1 := Lib.hid sx
  have HN1 := Lib.hid nx
  have HR := Lib.hid hr
  clear hT hf hW1 hB1 hff hnf sx nx hr
  have hii : (i : Int) < (nf : Int) := by omega
  have hi0 : (0 : Int) ≤ (i : Int) := by omega
  have hmi : (nf : Int) ≤ 9223372036854775807 := by unfold maxLen at hm; omega
  have hbi : inB (i : Int) (nf : Int) = true := inB_t.2 ⟨hi0, hii⟩
  have HBI := Lib.hid hbi
  obtain ⟨q0, -, -⟩ := blk_one HKP.out
  have hni : (f.code.length : Int) ≤ 9223372036854775807 := by unfold maxLen at hn1; omega
  have hh1 : hi ≤ W1.heap.size := by omega
  clear hbi
  go_enter Tryd.func47, Tryd.ntmps47
  go_upto_region 1 with (fail)
  rw [← HW1.out]
  go_wp2_with fail
  refine (within_any _ _ _).mono ?_
  rintro e w' ⟨rfl, rfl⟩
  rw [HBI.out]
  go_upto_region 4 with (fail)
  obtain ⟨W2, hW2⟩ : ∃ W2, W2 = W1.alloc (.cells #[.int .i64 f.params, .slice As f.slots.length cs, .slice Ai f.code.length ci] 51) := ⟨_, rfl⟩
  rw [← hW2]
  have HB2 : Hid (Below W1.heap.size W1 W2) := Lib.hid (by rw [hW2]; exact (Below.refl _ _).alloc (Nat.le_refl _) _)
  have HKF : Hid (Blk W2 W1.heap.size 51 #[.int .i64 f.params, .slice As f.slots.length cs, .slice Ai f.code.length ci]) := Lib.hid (by rw [hW2]; exact Blk.new _ _ _)
  have HKP2 := Lib.hid (HKP.out.after HB2.out)
  have HT2 := Lib.hid (HT1.out.below HB2.out)
  have HBN : Hid (Below w.heap.size w W2) := Lib.hid (HB1.out.trans (HB2.out.mono HB1.out.size))
  have HS2 : Hid (Sx W2 lo hi As f.slots) := Lib.hid (HS1.out.keep (Kp.of_below HB2.out hh1))
  have HN2 : Hid (Nx W2 lo hi Ai f.code) := Lib.hid (HN1.out.keep (Kp.of_below HB2.out hh1))
  have hh2 : hi ≤ W2.heap.size := by have := HB2.out.size; omega
  clear hW2 c0 c1 c2 q0 HB2 HB1 HT1 HKP HS1 HN1 HW1 HBI
  obtain ⟨f0, f1, f2, -, -, -, fz⟩ := HKF.out.c3
  obtain ⟨g5, hg5⟩ : ∃ g5, g5 = W1.heap.size := ⟨_, rfl⟩
  rw [← hg5] at HKF f0 f1 f2 fz ⊢
  have HG5 := Lib.hid hg5
  clear hg5
  by_cases h10 : 1024 < f.code.length
  · have HE : Hid (funcE nf f = 3) := Lib.hid (funcE_1 h10)
    have h10i : (1024 : Int) < (f.code.length : Int) := by omega
    clear h10
    go_wp2
    go_ret
    exact ⟨ret_int (by rw [HE.out]), HBN.out⟩
  · have H10 := Lib.hid h10
    have h10i : (f.code.length : Int) ≤ 1024 := by omega
    clear h10
    go_wp2_with fail
    refine (slots_any As f.slots cs _ lo hi HS2.out hh2 hs1 HR.out).mono ?_
    rintro e W3 ⟨rfl, bel3⟩
    have HB3 := Lib.hid bel3
    have HKF3 := Lib.hid (HKF.out.after HB3.out)
    have HKP3 := Lib.hid (HKP2.out.after HB3.out)
    have HT3 := Lib.hid (HT2.out.below HB3.out)
    have HS3 : Hid (Sx W3 lo hi As f.slots) := Lib.hid (HS2.out.keep (Kp.of_below HB3.out hh2))
    have HN3 : Hid (Nx W3 lo hi Ai f.code) := Lib.hid (HN2.out.keep (Kp.of_below HB3.out hh2))
    have hh3 : hi ≤ W3.heap.size := by have := HB3.out.size; omega
    have HBN3 : Hid (Below w.heap.size w W3) := Lib.hid (HBN.out.trans (HB3.out.mono HBN.out.size))
    clear bel3 HB3 HKF HKP2 HT2 HS2 HN2 HBN f0 f1 f2 fz
    obtain ⟨f0, f1, f2, -, -, -, fz⟩ := HKF3.out.c3
    by_cases hse : slotsE f.slots = 0
    · have HSE := Lib.hid hse
      have e0 : (slotsE f.slots != 0) = false := by simp [hse]
      clear hse
      go_wp2_with fail
      refine (within_any _ _ _).mono ?_
      rintro e w' ⟨rfl, rfl⟩
      rcases h9 : inB f.params 9 with _ | _
      · have HE : Hid (funcE nf f = 4) := Lib.hid (funcE_3 H10.out HSE.out h9)
        clear h9
        go_wp2
        go_ret
        exact ⟨ret_int (by rw [HE.out]), HBN3.out⟩
      · have H9 := Lib.hid h9
        clear h9
        go_wp2
        go_loopw [39] (fun v wr => ∃ k : Nat, k ≤ f.code.length ∧ v = .int .i64 k ∧ Hid (∀ j, j < k → instrE nf f.params f.slots f.code.length (f.code.getD j Ins.z) = 0) ∧ Hid (Below W3.heap.size W3 wr)) (fun v _ => f.code.length - (intOf v).toNat)
        case atStart => exact ⟨0, by omega, rfl, Lib.hid (fun j hj => by omega), Lib.hid (Below.refl _ _)⟩
        case round =>
          clear f0 f1 f2 fz
          obtain ⟨k, hk, rfl, HZ, HBR⟩ := hrel
          have hk0 : (0 : Int) ≤ (k : Int) := by omega
          have HKFr := Lib.hid (HKF3.out.after HBR.out)
          have HKPr := Lib.hid (HKP3.out.after HBR.out)
          obtain ⟨f0, f1, f2, -, -, -, fz⟩ := HKFr.out.c3
          obtain ⟨q0, -, qz⟩ := blk_one HKPr.out
          by_cases hlt : k < f.code.length
          · have hki : (k : Int) < (f.code.length : Int) := by omega
            obtain ⟨ad2, rfl, hbl2, i0, i1, i2, i3, i4⟩ := (HN3.out.keep (Kp.of_below HBR.out hh3)).whole hlt
            obtain ⟨x, hx⟩ : ∃ x, x = f.code.getD k Ins.z := ⟨_, rfl⟩
            rw [← hx] at i0 i1 i2 i3 i4
            have HX := Lib.hid hx
            clear hx
            go_wp2_with fail
            refine (instr_any _ nf cp f.params As f.slots cs _ f.code.length ci x _ lo hi ((HT3.out.below HBR.out).below ((Below.refl _ _).alloc (Nat.le_refl _) _)) ((HS3.out.keep (Kp.of_below HBR.out hh3)).keep ((Kp.refl _ _ _).alloc (by have := HBR.out.size; omega) _)) (by have := HBR.out.size; simp; omega) hs1).mono ?_
            rintro e w5 ⟨rfl, bel5⟩
            have HB5 : Hid (Below W3.heap.size W3 w5) := Lib.hid ((HBR.out.alloc HBR.out.size _).trans (bel5.mono (by have := HBR.out.size; simp; omega)))
            have HBN5 : Hid (Below w.heap.size w w5) := Lib.hid (HBN3.out.trans (HB5.out.mono HBN3.out.size))
            clear bel5 i0 i1 i2 i3 i4 f0 f1 f2 fz q0 qz
            by_cases he : instrE nf f.params f.slots f.code.length x = 0
            · have HZ' : Hid (∀ j, j < k + 1 → instrE nf f.params f.slots f.code.length (f.code.getD j Ins.z) = 0) := Lib.hid (fun j hj => by
                rcases Nat.lt_or_ge j k with h | h
                · exact HZ.out j h
                · obtain rfl : j = k := by omega
                  rw [← HX.out]; exact he)
              have e1 : (instrE nf f.params f.slots f.code.length x != 0) = false := by simp [he]
              clear he HZ HX
              go_wp2
              go_roundw
              case rel => exact ⟨k + 1, by omega, by go_num, HZ', HB5⟩
              case measure => simp [intOf]; omega
            · have HE : Hid (funcE nf f = instrE nf f.params f.slots f.code.length x) := Lib.hid (by rw [HX.out]; exact funcE_4 H10.out HSE.out H9.out hlt HZ.out (by rw [← HX.out]; exact he))
              have e1 : (instrE nf f.params f.slots f.code.length x != 0) = true := by simp [he]
              clear he HZ HX
              go_wp2
              go_ret
              exact ⟨ret_int (by rw [HE.out]), HBN5.out⟩
          · obtain rfl : k = f.code.length := by omega
            have HBNr : Hid (Below w.heap.size w wr) := Lib.hid (HBN3.out.trans (HBR.out.mono HBN3.out.size))
            have HE : Hid (funcE nf f = if (f.code.length == 0 || !termB (f.code.getD (f.code.length - 1) Ins.z).op) = true then 6 else 0) := Lib.hid (funcE_5 H10.out HSE.out H9.out HZ.out)
            by_cases h0 : f.code.length = 0
            · have HE' : Hid (funcE nf f = 6) := Lib.hid (by rw [HE.out, h0]; rfl)
              have e0 : ((f.code.length : Int) == 0) = true := by simp [h0]
              clear HE HZ h0 hlt
              go_wp2
              go_ret
              exact ⟨ret_int (by rw [HE'.out]), HBNr.out⟩
            · have hpos : 0 < f.code.length := by omega
              have e0 : ((f.code.length : Int) == 0) = false := by rw [beq_eq_false_iff_ne]; omega
              obtain ⟨ad2, rfl, hbl2, i0, -⟩ := (HN3.out.keep (Kp.of_below HBR.out hh3)).whole (show f.code.length - 1 < f.code.length by omega)
              obtain ⟨lop, hlop⟩ : ∃ lop, lop = (f.code.getD (f.code.length - 1) Ins.z).op := ⟨_, rfl⟩
              rw [← hlop] at i0 HE
              clear hlop
              have htn : ((f.code.length : Int) - 1).toNat = f.code.length - 1 := by omega
              have hp1 : (1 : Int) ≤ (f.code.length : Int) := by omega
              rcases ht : termB lop with _ | _
              · have HE' : Hid (funcE nf f = 6) := Lib.hid (by rw [HE.out, ht]; simp)
                have HTB := Lib.hid ht
                clear HE HZ h0 hlt ht
                go_wp2_with fail
                refine (term_any _ _).mono ?_
                rintro e w' ⟨rfl, rfl⟩
                rw [HTB.out]
                go_wp2
                go_ret
                exact ⟨ret_int (by rw [HE'.out]), HBNr.out⟩
              · have HE' : Hid (funcE nf f = 0) := Lib.hid (by rw [HE.out, ht, show (f.code.length == 0) = false by rw [beq_eq_false_iff_ne]; omega]; rfl)
                have HTB := Lib.hid ht
                clear HE HZ h0 hlt ht
                go_wp2_with fail
                refine (term_any _ _).mono ?_
                rintro e w' ⟨rfl, rfl⟩
                rw [HTB.out]
                go_wp2
                go_ret
                exact ⟨ret_int (by rw [HE'.out]), HBNr.out⟩
    · have HE : Hid (funcE nf f = slotsE f.slots) := Lib.hid (funcE_2 H10.out hse)
      have e0 : (slotsE f.slots != 0) = true := by simp [hse]
      clear hse
      go_wp2
      go_ret
      exact ⟨ret_int (by rw [HE.out]), HBN3.out⟩
theorem progE_4 {p : List Fn} {k : Nat} (h : ¬ 80 < p.length) (h2 : ¬ p.length = 0) (h3 : (p.getD 0 Fn.z).params = 0) (hk : k < p.length) (h4 : ∀ j, j < k → funcE p.length (p.getD j Fn.z) = 0) (h5 : funcE p.length (p.getD k Fn.z) ≠ 0) : progE p = funcE p.length (p.getD k Fn.z) := by
  unfold progE
  rw [if_neg h, if_neg h2, if_neg (by simpa using h3), firstE_take hk h4 h5]
theorem progE_5 {p : List Fn} (h : ¬ 80 < p.length) (h2 : ¬ p.length = 0) (h3 : (p.getD 0 Fn.z).params = 0) (h4 : ∀ j, j < p.length → funcE p.length (p.getD j Fn.z) = 0) : progE p = 0 := by
  unfold progE
  rw [if_neg h, if_neg h2, if_neg (by simpa using h3)]
  exact firstE_zero (fun y hy => by
    obtain ⟨x, hx, rfl⟩ := List.mem_map.1 hy
    obtain ⟨j, hj, rfl⟩ := List.mem_iff_getElem.1 hx
    have := h4 j hj
    rw [List.getD_eq_getElem?_getD, List.getElem?_eq_getElem hj] at this
    exact this)
set_option maxHeartbeats 4000000 in
theorem check_any (Ap : Option Addr) (p : List Fn) (cp : Nat) (w : World) (lo hi : Nat) (hT : Tb w) (hf : Fx w lo hi Ap p) (hh : hi ≤ w.heap.size) (hm : p.length ≤ maxLen) (hr : ∀ i, i < p.length → FnR (p.getD i Fn.z)) :
    Calls Tryd.prog 36 #[.agg #[.slice Ap p.length cp]] w fun e w' => e = .returned (.int .i64 (progE p)) ∧ Below w.heap.size w w' := by
  obtain ⟨W1, hW1⟩ : ∃ W1, W1 = w.alloc (.cells #[.slice Ap p.length cp] 26) := ⟨_, rfl⟩
  have hB1 : Below w.heap.size w W1 := by rw [hW1]; exact (Below.refl _ _).alloc (Nat.le_refl _) _
  have HKP : Hid (Blk W1 w.heap.size 26 #[.slice Ap p.length cp]) := Lib.hid (by rw [hW1]; exact Blk.new _ _ _)
  have HT1 := Lib.hid (hT.below hB1)
  have HF1 := Lib.hid (hf.keep (Kp.of_below hB1 hh))
  have HB1 := Lib.hid hB1
  have HW1 := Lib.hid hW1
  have HR := Lib.hid hr
  have hz1 : w.heap.size < W1.heap.size := HKP.out.lt
  have hh1 : hi ≤ W1.heap.size := by omega
  have hmi : (p.length : Int) ≤ 9223372036854775807 := by unfold maxLen at hm; omega
  clear hT hf hW1 hB1 hr
  obtain ⟨q0, -, -⟩ := blk_one HKP.out
  by_cases h80 : 80 < p.length
  · have HE : Hid (progE p = 3) := Lib.hid (by unfold progE; rw [if_pos h80])
    have h80i : (80 : Int) < (p.length : Int) := by omega
    clear h80
    go_enter Tryd.func36, Tryd.ntmps36
    go_upto_region 1 with (fail)
    rw [← HW1.out]
    go_wp2
    go_ret
    exact ⟨ret_int (by rw [HE.out]), HB1.out⟩
  · have H80 := Lib.hid h80
    have h80i : (p.length : Int) ≤ 80 := by omega
    clear h80
    by_cases h0 : p.length = 0
    · have HE : Hid (progE p = 4) := Lib.hid (by unfold progE; rw [if_neg H80.out, if_pos h0])
      have e0 : ((p.length : Int) == 0) = true := by simp [h0]
      clear h0
      go_enter Tryd.func36, Tryd.ntmps36
      go_upto_region 1 with (fail)
      rw [← HW1.out]
      go_wp2
      go_ret
      exact ⟨ret_int (by rw [HE.out]), HB1.out⟩
    · have H0 := Lib.hid h0
      have e0 : ((p.length : Int) == 0) = false := by rw [beq_eq_false_iff_ne]; omega
      have hpos : (0 : Int) < (p.length : Int) := by omega
      obtain ⟨ad, As, cs, Ai, ci, rfl, hbl, c0, -⟩ := HF1.out.whole (show 0 < p.length by omega)
      have c0' : W1.cell? ad = some (.int .i64 (p.getD 0 Fn.z).params) := by simpa [Addr.add] using c0
      obtain ⟨prm, hprm⟩ : ∃ prm, prm = (p.getD 0 Fn.z).params := ⟨_, rfl⟩
      rw [← hprm] at c0 c0'
      clear h0
      by_cases hp : prm = 0
      · have HP0 : Hid ((p.getD 0 Fn.z).params = 0) := Lib.hid (by rw [← hprm]; exact hp)
        have ep : (prm != 0) = false := by simp [hp]
        clear hprm hp
        go_enter Tryd.func36, Tryd.ntmps36
        go_upto_region 1 with (fail)
        rw [← HW1.out]
        go_wp2
        go_loopw [25] (fun v wr => ∃ k : Nat, k ≤ p.length ∧ v = .int .i64 k ∧ Hid (∀ j, j < k → funcE p.length (p.getD j Fn.z) = 0) ∧ Hid (Below W1.heap.size W1 wr)) (fun v _ => p.length - (intOf v).toNat)
        case atStart => exact ⟨0, by omega, rfl, Lib.hid (fun j hj => by omega), Lib.hid (Below.refl _ _)⟩
        case round =>
          clear q0 c0 c0'
          obtain ⟨k, hk, rfl, HZ, HBR⟩ := hrel
          have hk0 : (0 : Int) ≤ (k : Int) := by omega
          obtain ⟨q0, -, qz⟩ := blk_one (HKP.out.after HBR.out)
          have HBNr : Hid (Below w.heap.size w wr) := Lib.hid (HB1.out.trans (HBR.out.mono HB1.out.size))
          by_cases hlt : k < p.length
          · have hki : (k : Int) < (p.length : Int) := by omega
            go_wp2_with fail
            refine (checkfunc_any _ p cp k wr lo hi (HT1.out.below HBR.out) (HF1.out.keep (Kp.of_below HBR.out hh1)) (by have := HBR.out.size; omega) hm hlt (HR.out k hlt)).mono ?_
            rintro e w5 ⟨rfl, bel5⟩
            have HB5 : Hid (Below W1.heap.size W1 w5) := Lib.hid (HBR.out.trans (bel5.mono HBR.out.size))
            have HBN5 : Hid (Below w.heap.size w w5) := Lib.hid (HBNr.out.trans (bel5.mono HBNr.out.size))
            obtain ⟨ev, hev⟩ : ∃ ev, ev = funcE p.length (p.getD k Fn.z) := ⟨_, rfl⟩
            rw [← hev]
            have HEV := Lib.hid hev
            clear bel5 q0 qz hev
            by_cases he : ev = 0
            · have HZ' : Hid (∀ j, j < k + 1 → funcE p.length (p.getD j Fn.z) = 0) := Lib.hid (fun j hj => by
                rcases Nat.lt_or_ge j k with h | h
                · exact HZ.out j h
                · obtain rfl : j = k := by omega
                  rw [← HEV.out]; exact he)
              have e1 : (ev != 0) = false := by simp [he]
              clear he HZ HEV
              go_wp2
              go_roundw
              case rel => exact ⟨k + 1, by omega, by go_num, HZ', HB5⟩
              case measure => simp [intOf]; omega
            · have HE : Hid (progE p = ev) := Lib.hid (by rw [HEV.out]; exact progE_4 H80.out H0.out HP0.out hlt HZ.out (by rw [← HEV.out]; exact he))
              have e1 : (ev != 0) = true := by simp [he]
              clear he HZ HEV
              go_wp2
              go_ret
              exact ⟨ret_int (by rw [HE.out]), HBN5.out⟩
          · obtain rfl : k = p.length := by omega
            have HE : Hid (progE p = 0) := Lib.hid (progE_5 H80.out H0.out HP0.out HZ.out)
            clear HZ
            go_wp2
            go_ret
            exact ⟨ret_int (by rw [HE.out]), HBNr.out⟩
      · have HE : Hid (progE p = 7) := Lib.hid (by unfold progE; rw [if_neg H80.out, if_neg H0.out, if_pos (by rw [← hprm]; exact hp)])
        have ep : (prm != 0) = true := by simp [hp]
        clear hprm hp
        go_enter Tryd.func36, Tryd.ntmps36
        go_upto_region 1 with (fail)
        rw [← HW1.out]
        go_wp2
        go_ret
        exact ⟨ret_int (by rw [HE.out]), HB1.out⟩
end Go.Proofs.YtillopkcmpcokaaDoor.pm
