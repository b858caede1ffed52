/- Contracts: mach.Check. -/
import Derived.Test.YtmeoabpigibaoaaKg
import Derived.Deep.CutBlock
namespace Go.Proofs.Ytmeoabpigibaoaa.pm
open Go.RowKit
set_option linter.unusedVariables false
set_option maxRecDepth 10000

theorem inE_call {nf nc : Nat} {prm sz : Int} {x : Ins} (h : inE nf prm sz nc x = 0) (h22 : x.op = 22) : inB x.a nf = true := by
  unfold inE at h
  split at h
  · cases h
  split at h
  · cases h
  split at h
  · cases h
  · rename_i h3
    rw [h22] at h3
    rcases hb : inB x.a nf with _ | _
    · rw [hb] at h3; simp at h3
    · rfl
theorem frE_ok {nf : Nat} {al : Int} {f : Fr} (h : frE nf al f = 0) : shB al f = true ∧ f.code.length ≤ 1024 ∧ (∀ x ∈ f.code, inE nf f.params f.size f.code.length x = 0) ∧ (f.code.length ≠ 0 ∧ termB (f.code.getD (f.code.length - 1) Ins.z).op = true) := by
  unfold frE at h
  split at h
  · cases h
  split at h
  · cases h
  split at h
  · rename_i h1 h2 h3; exact absurd h h3
  split at h
  · cases h
  · rename_i h1 h2 h3 h4
    refine ⟨by simpa using h1, by omega, fun x hx => firstE_mem (by simpa using h3) _ (List.mem_map_of_mem hx), ?_⟩
    simp only [Bool.or_eq_true, beq_iff_eq, Bool.not_eq_true', not_or] at h4
    exact ⟨h4.1, by simpa using h4.2⟩
theorem shB_ok {al : Int} {f : Fr} (h : shB al f = true) : powB al = true ∧ (0 ≤ f.params ∧ f.params ≤ 8) ∧ (0 ≤ f.size ∧ f.size < 2147483520) ∧ f.size % al = 0 := by
  unfold shB at h
  simp only [Bool.and_eq_true, beq_iff_eq] at h
  obtain ⟨⟨⟨h1, h2⟩, h3⟩, h4⟩ := h
  have := inB_t.1 h2
  have := inB_t.1 h3
  exact ⟨h1, by omega, by omega, h4⟩
section
variable {al : Int} {t : List Fr}
theorem tgE_3 (h : 80 < t.length) : tgE al t = 3 := by unfold tgE; rw [if_pos h]
theorem tgE_4 (h : t.length = 0) : tgE al t = 4 := by unfold tgE; rw [if_neg (by omega), if_pos h]
theorem tgE_5 (h1 : ¬ 80 < t.length) (h2 : t.length ≠ 0) (h : (!powB al || decide (al < 16)) = true) : tgE al t = 5 := by unfold tgE; rw [if_neg h1, if_neg h2, if_pos h]
theorem tgE_7 (h1 : ¬ 80 < t.length) (h2 : t.length ≠ 0) (h3 : (!powB al || decide (al < 16)) = false) (h : (t.getD 0 Fr.z).params ≠ 0) : tgE al t = 7 := by unfold tgE; rw [if_neg h1, if_neg h2, if_neg (by rw [h3]; simp), if_pos h]
theorem tgE_f (h1 : ¬ 80 < t.length) (h2 : t.length ≠ 0) (h3 : (!powB al || decide (al < 16)) = false) (h4 : (t.getD 0 Fr.z).params = 0) : tgE al t = if firstE (t.map (frE t.length al)) ≠ 0 then firstE (t.map (frE t.length al)) else
  if t.all (fun f => f.code.all (roomB t f.size)) = true then 0 else 7 := by unfold tgE; rw [if_neg h1, if_neg h2, if_neg (by rw [h3]; simp), if_neg (by omega)]
set_option maxHeartbeats 4000000 in
theorem mcheck_any (A : Option Addr) (ct : Nat) (h64 : TgR al t) (w : World) (lo hi : Nat) (hg : Gx w lo hi A t) (hh : hi ≤ w.heap.size) (hm : t.length ≤ maxLen) :
    Calls Try.prog 8 #[.agg #[.int .i64 al, .slice A t.length ct]] w fun e w' => e = .returned (.int .i64 (tgE al t)) ∧ Below w.heap.size w w' := by
  obtain ⟨W1, hW1⟩ : ∃ W1, W1 = w.alloc (.cells #[.int .i64 al, .slice A t.length ct] 28) := ⟨_, rfl⟩
  have hB1 : Below w.heap.size w W1 := by rw [hW1]; exact (Below.refl _ _).alloc (Nat.le_refl _) _
  have HT : Hid (Blk W1 w.heap.size 28 #[.int .i64 al, .slice A t.length ct]) := Lib.hid (by rw [hW1]; exact Blk.new _ _ _)
  have HG : Hid (Gx W1 lo hi A t) := Lib.hid (hg.of_blk hB1 hh)
  have hh1 : hi ≤ W1.heap.size := by have := hB1.size; omega
  have hni : (t.length : Int) ≤ 9223372036854775807 := by unfold maxLen at hm; omega
  have HB1 := Lib.hid hB1
  have HW1 := Lib.hid hW1
  have HR := Lib.hid h64
  have a0 := h64.1.1
  have a1 := h64.1.2
  clear hW1 hB1 hg h64 hh
  obtain ⟨x0, x1, -, -, xz⟩ := HT.out.c2
  by_cases h80 : 80 < t.length
  · have HE := Lib.hid (tgE_3 (al := al) h80)
    have h80i : (80 : Int) < (t.length : Int) := by omega
    clear h80
    go_enter Try.func8, Try.ntmps8
    go_upto_region 1 with (fail)
    rw [← HW1.out]
    go_wp2
    go_ret
    exact ⟨ret_int (by rw [HE.out]), HB1.out⟩
  have h80i : (t.length : Int) ≤ 80 := by omega
  by_cases h0 : t.length = 0
  · have HE := Lib.hid (tgE_4 (al := al) h0)
    have h0b : ((t.length : Int) == 0) = true := by simp [h0]
    clear h0
    go_enter Try.func8, Try.ntmps8
    go_upto_region 1 with (fail)
    rw [← HW1.out]
    go_wp2
    go_ret
    exact ⟨ret_int (by rw [HE.out]), HB1.out⟩
  have h0b : ((t.length : Int) == 0) = false := by rw [beq_eq_false_iff_ne]; omega
  have HP : Hid (∀ W, Calls Try.prog 19 #[.int .i64 al] W fun e w' => e = .returned (.bool (powB al)) ∧ W = w') := Lib.hid (fun W => power_any al a0 a1 W)
  rcases hp : powB al with _ | _
  · have HE := Lib.hid (tgE_5 (al := al) h80 h0 (by rw [hp]; rfl))
    have HPB := Lib.hid hp
    clear hp h0
    go_enter Try.func8, Try.ntmps8
    go_upto_region 1 with (fail)
    rw [← HW1.out]
    go_wp2_with fail
    refine (HP.out _).mono ?_
    rintro e w1 ⟨rfl, rfl⟩
    rw [HPB.out]
    go_wp2
    go_ret
    exact ⟨ret_int (by rw [HE.out]), HB1.out⟩
  have HPB := Lib.hid hp
  by_cases h16 : al < 16
  · have HE := Lib.hid (tgE_5 (al := al) h80 h0 (by rw [hp]; simp [h16]))
    clear hp h0
    go_enter Try.func8, Try.ntmps8
    go_upto_region 1 with (fail)
    rw [← HW1.out]
    go_wp2_with fail
    refine (HP.out _).mono ?_
    rintro e w1 ⟨rfl, rfl⟩
    rw [HPB.out]
    go_wp2
    go_ret
    exact ⟨ret_int (by rw [HE.out]), HB1.out⟩
  have h35 : (!powB al || decide (al < 16)) = false := by rw [hp]; simp [h16]
  have h16' : ¬ al < 16 := h16
  have hpos : 0 < t.length := by omega
  obtain ⟨ad, Ai0, ci0, rfl, hb, y0, -⟩ := HG.out.whole hpos
  rw [Nat.zero_mul] at y0
  have had : ad.add 0 = ad := rfl
  rw [had] at y0
  by_cases h7 : (t.getD 0 Fr.z).params = 0
  case neg =>
    have HE := Lib.hid (tgE_7 (al := al) h80 h0 h35 h7)
    obtain ⟨q, hq⟩ : ∃ q, q = (t.getD 0 Fr.z).params := ⟨_, rfl⟩
    rw [← hq] at y0 h7
    have hqb : (q != 0) = true := by simpa using h7
    have hp1 : (0 : Int) < (t.length : Int) := by omega
    clear hp h0 hq h35
    go_enter Try.func8, Try.ntmps8
    go_upto_region 1 with (fail)
    rw [← HW1.out]
    go_wp2_with fail
    refine (HP.out _).mono ?_
    rintro e w1 ⟨rfl, rfl⟩
    rw [HPB.out]
    go_wp2
    go_ret
    exact ⟨ret_int (by rw [HE.out]), HB1.out⟩
  have HE := Lib.hid (tgE_f (al := al) h80 h0 h35 h7)
  rw [h7] at y0
  have hp1 : (0 : Int) < (t.length : Int) := by omega
  clear hp h0 h35 h7
  go_enter Try.func8, Try.ntmps8
  go_upto_region 1 with (fail)
  rw [← HW1.out]
  clear HW1
  go_wp2_with fail
  refine (HP.out _).mono ?_
  rintro e w1 ⟨rfl, rfl⟩
  rw [HPB.out]
  go_wp2
  clear y0
  go_loopw [38] (fun v wr => ∃ k : Nat, k ≤ t.length ∧ v = .int .i64 k ∧ Hid (∀ j, j < k → frE t.length al (t.getD j Fr.z) = 0) ∧ Hid (Below W1.heap.size W1 wr)) (fun v _ => t.length - (intOf v).toNat)
  case atStart => exact ⟨0, by omega, rfl, Lib.hid (fun j hj => by omega), Lib.hid (Below.refl _ _)⟩
  case round =>
    clear x0 x1 xz
    obtain ⟨k, hk, rfl, HZ, HB⟩ := hrel
    have hk0 : (0 : Int) ≤ (k : Int) := by omega
    have hszr := HB.out.size
    obtain ⟨x0, x1, -, -, xz⟩ := (HT.out.after HB.out).c2
    by_cases hlt : k < t.length
    · have hki : (k : Int) < (t.length : Int) := by omega
      have HC := Lib.hid (checkframe_in al t (some ad) ct k hlt HR.out.1 wr lo hi (HG.out.of_blk HB.out hh1) (by omega) hm (HR.out.2 _ (getD_mem' hlt)))
      go_wp2_with fail
      refine HC.out.mono ?_
      rintro e w5 ⟨rfl, bel⟩
      have HB5 : Hid (Below W1.heap.size W1 w5) := Lib.hid (HB.out.trans (bel.mono HB.out.size))
      clear bel x0 x1 xz
      by_cases hq : frE t.length al (t.getD k Fr.z) = 0
      · have HZ' : Hid (∀ i, i < k + 1 → frE t.length al (t.getD i Fr.z) = 0) := Lib.hid (fun i hi => by
          rcases Nat.lt_or_ge i k with h | h
          · exact HZ.out i h
          · obtain rfl : i = k := by omega
            exact hq)
        rw [hq]
        clear hq HZ HC
        go_wp2
        go_roundw
        case rel => exact ⟨k + 1, by omega, by go_num, HZ', HB5⟩
        case measure => simp [intOf]; omega
      · have HE' : Hid (tgE al t = frE t.length al (t.getD k Fr.z)) := Lib.hid (by
          have h1 := firstE_take (f := frE t.length al) (z := Fr.z) hlt HZ.out hq
          rw [HE.out, h1, if_pos hq])
        generalize frE t.length al (t.getD k Fr.z) = er at *
        have hne : (er != 0) = true := by simpa using hq
        go_wp2
        go_ret
        exact ⟨ret_int (by rw [HE'.out]), HB1.out.trans (HB5.out.mono HB1.out.size)⟩
    · obtain rfl : k = t.length := by omega
      have HF0 : Hid (∀ f ∈ t, frE t.length al f = 0) := Lib.hid (fun f hf => by
        obtain ⟨i, hi, rfl⟩ := List.mem_iff_getElem.1 hf
        have := HZ.out i hi
        rwa [List.getD_eq_getElem?_getD, List.getElem?_eq_getElem hi, Option.getD_some] at this)
      have HE2 : Hid (tgE al t = if t.all (fun f => f.code.all (roomB t f.size)) = true then 0 else 7) := Lib.hid (by
        rw [HE.out, if_neg]
        rw [firstE_zero (fun y hy => by
          obtain ⟨u, hu, rfl⟩ := List.mem_map.1 hy
          exact HF0.out u hu)]
        simp)
      have HP8 : Hid (∀ f ∈ t, 0 ≤ f.params ∧ f.params ≤ 8) := Lib.hid (fun f hf => (shB_ok (frE_ok (HF0.out f hf)).1).2.1)
      clear HZ HE
      generalize wr = wo at *
      go_wp2
      go_loopw [51] (fun v wr => ∃ k : Nat, k ≤ t.length ∧ v = .int .i64 k ∧ Hid (∀ j, j < k → (t.getD j Fr.z).code.all (roomB t (t.getD j Fr.z).size) = true) ∧ Hid (Below W1.heap.size W1 wr)) (fun v _ => t.length - (intOf v).toNat)
      case atStart => exact ⟨0, by omega, rfl, Lib.hid (fun j hj => by omega), HB⟩
      case round =>
        clear x0 x1 xz HB hszr
        obtain ⟨k, hk, rfl, HZ, HB⟩ := hrel
        have hk0 : (0 : Int) ≤ (k : Int) := by omega
        have hszr := HB.out.size
        obtain ⟨x0, x1, -, -, xz⟩ := (HT.out.after HB.out).c2
        by_cases hlt : k < t.length
        · have hki : (k : Int) < (t.length : Int) := by omega
          obtain ⟨ad', Ai, ci, e', hb', c0, c1, c2, -, -, hnx, hml, hcl⟩ := (HG.out.of_blk HB.out hh1).whole hlt
          obtain rfl : ad = ad' := by injection e'
          have hfm : t.getD k Fr.z ∈ t := getD_mem' hlt
          have hok := frE_ok (HF0.out _ hfm)
          obtain ⟨f, hf⟩ : ∃ f, f = t.getD k Fr.z := ⟨_, rfl⟩
          rw [← hf] at c0 c1 c2 hnx hml hcl hfm hok
          have HF := Lib.hid hf
          clear hf e'
          obtain ⟨prm, sz, code⟩ := f
          simp only at c0 c1 c2 hnx hml hcl hok
          have HOF := Lib.hid (of_any al prm sz code t.length ct k code.length ci Ai ad HR.out.1 hlt hm wr (by omega) c0 c1 c2)
          have HSH := Lib.hid hok.1
          have HCX : Hid (∀ x ∈ code, x.op = 22 → inB x.a t.length = true) := Lib.hid (fun x hx h22 => inE_call (hok.2.2.1 x hx) h22)
          have HN := Lib.hid hnx
          clear c0 c1 c2 hnx hok hfm
          go_wp2_with fail
          refine HOF.out.mono ?_
          rintro e w5 ⟨rfl, bel⟩
          rw [HSH.out]
          have HB5 : Hid (Below W1.heap.size W1 w5) := Lib.hid (HB.out.trans (bel.mono HB.out.size))
          have HN5 : Hid (Nx w5 lo hi Ai code) := Lib.hid (HN.out.keep (Kp.of_below bel (by omega)))
          have hz5 : wr.heap.size ≤ w5.heap.size := bel.size
          clear bel x0 x1 xz HN
          go_upto_region 21 with (fail)
          obtain ⟨W6, hW6⟩ : ∃ W6, W6 = w5.alloc (.cells #[.int .i64 prm, .int .i64 sz, .slice Ai code.length ci, .int .i64 al, .int .i64 (t.length : Int)] 62) := ⟨_, rfl⟩
          rw [← hW6]
          have HB6 : Hid (Below W1.heap.size W1 W6) := Lib.hid (by rw [hW6]; exact Below.al HB5.out _)
          have HK6 : Hid (Blk W6 w5.heap.size 62 #[.int .i64 prm, .int .i64 sz, .slice Ai code.length ci, .int .i64 al, .int .i64 (t.length : Int)]) := Lib.hid (by rw [hW6]; exact Blk.new _ _ _)
          have HN6 : Hid (Nx W6 lo hi Ai code) := Lib.hid (by rw [hW6]; exact HN5.out.keep (Kp.of_below ((Below.refl _ _).alloc (Nat.le_refl _) _) (by omega)))
          have hz6 : hi ≤ W6.heap.size := by have := HB6.out.size; omega
          clear hW6 HB5 HN5
          generalize w5.heap.size = gF at *
          obtain ⟨f0, f1, f2, f3, f4, -, -, -, -, -, fz⟩ := HK6.out.c5
          obtain ⟨x0, x1, -, -, xz⟩ := (HT.out.after HB6.out).c2
          have HCL := Lib.hid (mcalls_any (al := al) (prm := prm) (sz := sz) (nf := t.length) (ct := ct) (ci := ci) code HCX.out HP8.out hm hml W6 (HG.out.of_blk HB6.out hh1) HN6.out hz6)
          go_wp2_with fail
          refine HCL.out.mono ?_
          rintro e w7 ⟨rfl, bel⟩
          have HB7 : Hid (Below W1.heap.size W1 w7) := Lib.hid (HB6.out.trans (bel.mono HB6.out.size))
          clear bel x0 x1 xz f0 f1 f2 f3 f4 fz
          rcases ho : code.all (roomB t sz) with _ | _
          · have HE' : Hid (tgE al t = 7) := Lib.hid (by
              rw [HE2.out, if_neg]
              rw [Bool.not_eq_true, List.all_eq_false]
              refine ⟨t.getD k Fr.z, getD_mem' hlt, ?_⟩
              rw [← HF.out, ho]
              simp)
            clear ho
            go_wp2
            go_ret
            exact ⟨ret_int (by rw [HE'.out]), HB1.out.trans (HB7.out.mono HB1.out.size)⟩
          · have HZ' : Hid (∀ i, i < k + 1 → (t.getD i Fr.z).code.all (roomB t (t.getD i Fr.z).size) = true) := Lib.hid (fun i hi => by
              rcases Nat.lt_or_ge i k with h | h
              · exact HZ.out i h
              · obtain rfl : i = k := by omega
                rw [← HF.out]; exact ho)
            clear ho HZ HCL HOF
            go_wp2
            go_roundw
            case rel => exact ⟨k + 1, by omega, by go_num, HZ', HB7⟩
            case measure => simp [intOf]; omega
        · obtain rfl : k = t.length := by omega
          have HE' : Hid (tgE al t = 0) := Lib.hid (by
            rw [HE2.out, if_pos]
            refine List.all_eq_true.2 (fun f hf => ?_)
            obtain ⟨i, hi, rfl⟩ := List.mem_iff_getElem.1 hf
            have := HZ.out i hi
            rwa [List.getD_eq_getElem?_getD, List.getElem?_eq_getElem hi, Option.getD_some] at this)
          clear HZ
          go_wp2
          go_ret
          exact ⟨ret_int (by rw [HE'.out]), HB1.out.trans (HB.out.mono HB1.out.size)⟩
end
end Go.Proofs.Ytmeoabpigibaoaa.pm
