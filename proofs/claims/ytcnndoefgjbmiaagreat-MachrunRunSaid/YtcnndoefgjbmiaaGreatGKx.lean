/- The reference of chapter 10: CheckFrame where the frame exists, calls. -/
import Derived.Test.YtcnndoefgjbmiaaGreatKw
set_option linter.unusedVariables false
set_option maxRecDepth 10000
set_option maxHeartbeats 8000000
namespace Go.Proofs.YtcnndoefgjbmiaaGreat.pm
open Go.RowKit
theorem refcheckframe_in (al : Int) (t : List Fr) (A : Option Addr) (ct i : Nat) (hi' : i < t.length) (h64 : I64 al) (w : World) (lo hi : Nat) (hg : Gx w lo hi A t) (hh : hi ≤ w.heap.size) (hm : t.length ≤ maxLen) (hr : FrR (t.getD i Fr.z)) :
 Calls Tryz.prog 51 #[.agg #[.int .i64 al, .slice A t.length ct], .int .i64 (i : Int)] w fun e w' => e = .returned (.int .i64 (frE t.length al (t.getD i Fr.z))) ∧ Below w.heap.size w w' := by
 obtain ⟨W1, hW1⟩ : ∃ W1, W1 = w.alloc (.cells #[.int .i64 al, .slice A t.length ct] 26) := ⟨_, rfl⟩
 have hB1 : Below w.heap.size w W1 := by rw [hW1]; exact bR.alloc nL _
 have HKT : Hid (Blk W1 w.heap.size 26 #[.int .i64 al, .slice A t.length ct]) := hQ (by rw [hW1]; exact Blk.new _ _ _)
 have hG1 := hg.keep (Kp.of_below hB1 hh)
 obtain ⟨ad, Ai, ci, rfl, hbl, c0, c1, c2, -, -, nx, hn1, hn2⟩ := hG1.whole hi'
 have HG1 := hQ hG1
 have HB1 := hQ hB1
 have HW1 := hQ hW1
 have hz1 : w.heap.size < W1.heap.size := HKT.out.lt
 obtain ⟨f, hff⟩ : ∃ f, f = t.getD i Fr.z := ⟨_, rfl⟩
 have HFF := hQ hff
 rw [← hff] at c0 c1 c2 nx hn1 hn2 hr ⊢
 have hh1 : hi ≤ W1.heap.size := by omega
 have HN1 := hQ nx
 have HFR := hQ hr
 have hii : (i : Int) < (t.length : Int) := by omega
 have hi0 : (0 : Int) ≤ (i : Int) := by omega
 have hmi : (t.length : Int) ≤ 9223372036854775807 := by unfold maxLen at hm; omega
 have HCI : Hid (shB al f = true → ∀ (k : Nat) (W : World), k < f.code.length → Below W1.heap.size W1 W → Calls Tryz.prog 76 #[.agg #[.int .i64 al, .slice (some ad) t.length ct], .int .i64 (i : Int), .int .i64 (k : Int)] W fun e w' =>
  e = .returned (.int .i64 (inE t.length f.params f.size f.code.length (f.code.getD k Ins.z))) ∧ Below W.heap.size W w') := hQ (fun hsh k W hk hb => by
  have hr' := HFR.out
  rw [HFF.out] at hk hsh hr' ⊢
  exact refci10_in al t (some ad) ct i k hi' h64 W lo hi (HG1.out.keep (Kp.of_below hb hh1)) (by have := hb.size; omega) hm hr' hk hsh)
 obtain ⟨prm, sz, code⟩ := f
 simp only at c0 c1 c2 hn1 hn2
 have hni : (code.length : Int) ≤ 9223372036854775807 := by unfold maxLen at hn1; omega
 have HSHP := hQ (fun W => refshape10_any al prm sz (some ad) Ai t.length ct code.length ci h64 hr.1 hr.2.1 code W)
 have HWI : Hid (∀ W, Calls Tryz.prog 74 #[.int .i64 (i : Int), .int .i64 (t.length : Int)] W fun e w' => e = .returned (.bool true) ∧ W = w') := hQ (fun W => (inB_t.2 ⟨hi0, hii⟩ : inB (i : Int) (t.length : Int) = true) ▸ refwithin10_any _ _ W)
 clear hg hW1 hB1 hff nx hr hG1
 obtain ⟨q0, q1, -, -, -⟩ := HKT.out.c2
 have HKS : Hid (∀ W, Below W1.heap.size W1 W → (W.cell? ⟨w.heap.size, 0, none⟩ = some (.int .i64 al) ∧ W.cell? ⟨w.heap.size, 1, none⟩ = some (.slice (some ad) t.length ct)) ∧ (W.cell? (ad.add (i * 3)) = some (.int .i64 prm) ∧ W.cell? ⟨(ad.add (i * 3)).block, (ad.add (i * 3)).off + 1, none⟩ = some (.int .i64 sz) ∧ W.cell? ⟨(ad.add (i * 3)).block, (ad.add (i * 3)).off + 2, none⟩ = some (.slice Ai code.length ci)) ∧ Below W1.heap.size W1 W) := hQ (fun W h => ⟨⟨(h.cell (cell_lt q0)).trans q0, (h.cell (cell_lt q1)).trans q1⟩, ⟨(h.cell (cell_lt c0)).trans c0, (h.cell (cell_lt c1)).trans c1, (h.cell (cell_lt c2)).trans c2⟩, h⟩)
 clear q0 q1 c0 c1 c2
 have HD0 : Hid (Below W1.heap.size W1 W1.drew) := hQ (bR.drew)
 obtain ⟨sh, hsh⟩ : ∃ sh, sh = shB al ⟨prm, sz, code⟩ := ⟨_, rfl⟩
 rw [← hsh] at HSHP
 have HSV := hQ hsh
 clear hsh
 go_enter Tryz.func51, Tryz.ntmps51
 go_upto_region 1 with (fail)
 rw [← HW1.out]
 obtain ⟨⟨q0, q1⟩, ⟨c0, c1, c2⟩, -⟩ := HKS.out _ HD0.out
 go_cut [23] (fun s wx => s = .bool (!sh) ∧ Hid (Below W1.heap.size W1 wx))
 case first =>
  go_region_held3 (fun W => (W.cell? ⟨w.heap.size, 0, none⟩ = some (.int .i64 al) ∧ W.cell? ⟨w.heap.size, 1, none⟩ = some (.slice (some ad) t.length ct)) ∧ (W.cell? (ad.add (i * 3)) = some (.int .i64 prm) ∧ W.cell? ⟨(ad.add (i * 3)).block, (ad.add (i * 3)).off + 1, none⟩ = some (.int .i64 sz) ∧ W.cell? ⟨(ad.add (i * 3)).block, (ad.add (i * 3)).off + 2, none⟩ = some (.slice Ai code.length ci)) ∧ Below W1.heap.size W1 W)
   (first | exact HKS.out _ HA1.out | exact HKS.out _ HD0.out)
   (first
   | (go_at_call 74; (with_reducible refine (HWI.out _).mono ?_); rintro e v1 ⟨rfl, rfl⟩)
   | (go_at_call 75; (with_reducible refine (HSHP.out _).mono ?_); rintro e v1 ⟨rfl, bv1⟩; have HA1 : Hid (Below W1.heap.size W1 v1) := hQ (HD0.out.trans (bv1.mono HD0.out.size)); clear bv1))
  all_goals go_wp2_with fail
  all_goals go_meet
  all_goals exact ⟨by simp, HA1⟩
 case rest =>
  obtain ⟨rfl, HA1⟩ := hcut
  obtain ⟨V1, hV1⟩ : ∃ V1, V1 = wc := ⟨_, rfl⟩
  subst hV1
  clear HWI HSHP HD0 q0 q1 c0 c1 c2
  obtain ⟨⟨q0, q1⟩, ⟨c0, c1, c2⟩, -⟩ := HKS.out _ HA1.out
  rcases sh with _ | _
  · have HE : Hid (frE t.length al ⟨prm, sz, code⟩ = 4) := hQ (by unfold frE; rw [if_pos HSV.out.symm])
    go_wp2
    go_ret
    exact ⟨ret_int (by rw [HE.out]), HB1.out.trans (HA1.out.mono HB1.out.size)⟩
  have HCI' := hQ (HCI.out HSV.out.symm)
  go_upto_region 4 with (fail)
  obtain ⟨W2, hW2⟩ : ∃ W2, W2 = V1.alloc (.cells #[.int .i64 prm, .int .i64 sz, .slice Ai code.length ci] 53) := ⟨_, rfl⟩
  rw [← hW2]
  have hB2 : Below V1.heap.size V1 W2 := by rw [hW2]; exact bR.alloc nL _
  have HKF : Hid (Blk W2 V1.heap.size 53 #[.int .i64 prm, .int .i64 sz, .slice Ai code.length ci]) := hQ (by rw [hW2]; exact Blk.new _ _ _)
  have HB12 : Hid (Below W1.heap.size W1 W2) := hQ (HA1.out.trans (hB2.mono HA1.out.size))
  have HKT2 := hQ (HKT.out.after HB12.out)
  have HN2 : Hid (Nx W2 lo hi Ai code) := hQ (HN1.out.keep (Kp.of_below HB12.out hh1))
  have hh2 : hi ≤ W2.heap.size := by have := HB12.out.size; omega
  have HBN : Hid (Below w.heap.size w W2) := hQ (HB1.out.trans (HB12.out.mono HB1.out.size))
  obtain ⟨g5, hg5⟩ : ∃ g5, g5 = V1.heap.size := ⟨_, rfl⟩
  rw [← hg5] at HKF ⊢
  clear hW2 hB2 hg5 q0 q1 c0 c1 c2 HKS HKT HN1 HW1 HB1
  obtain ⟨f0, f1, f2, -, -, -, fz⟩ := HKF.out.c3
  by_cases hlen : 1024 < code.length
  · have HE : Hid (frE t.length al ⟨prm, sz, code⟩ = 3) := hQ (by unfold frE; rw [if_neg (by rw [← HSV.out]; simp), if_pos hlen])
    have hli : (1024 : Int) < (code.length : Int) := by omega
    clear hlen
    go_wp2
    go_ret
    exact ⟨ret_int (by rw [HE.out]), HBN.out⟩
  have HE : Hid (frE t.length al ⟨prm, sz, code⟩ = if firstE (code.map (inE t.length prm sz code.length)) ≠ 0 then firstE (code.map (inE t.length prm sz code.length)) else
   if (code.length == 0 || !termB (code.getD (code.length - 1) Ins.z).op) = true then 6 else 0) := hQ (by unfold frE; rw [if_neg (by rw [← HSV.out]; simp), if_neg hlen])
  have hli : (code.length : Int) ≤ 1024 := by omega
  clear hlen
  go_wp2
  go_loopw [6] (fun v wr => ∃ k : Nat, k ≤ code.length ∧ v = .int .i64 k ∧ Hid (∀ j, j < k → inE t.length prm sz code.length (code.getD j Ins.z) = 0) ∧ Hid (Below W2.heap.size W2 wr)) (fun v _ => code.length - (intOf v).toNat)
  case atStart => exact ⟨0, by omega, rfl, hQ (fun j hj => by omega), hQ bR⟩
  case round =>
   clear f0 f1 f2 fz
   obtain ⟨k, hk, rfl, HZ, HBR⟩ := hrel
   have hk0 : (0 : Int) ≤ (k : Int) := by omega
   obtain ⟨f0, f1, f2, -, -, -, fz⟩ := (HKF.out.after HBR.out).c3
   obtain ⟨q0, q1, -, -, qz⟩ := (HKT2.out.after HBR.out).c2
   have HB1r : Hid (Below W1.heap.size W1 wr) := hQ (HB12.out.trans (HBR.out.mono HB12.out.size))
   by_cases hlt : k < code.length
   · have hki : (k : Int) < (code.length : Int) := by omega
     go_wp2_with fail
     refine (HCI'.out k _ hlt HB1r.out).mono ?_
     rintro e w5 ⟨rfl, bel5⟩
     have HB5 : Hid (Below W2.heap.size W2 w5) := hQ (HBR.out.trans (bel5.mono HBR.out.size))
     have HBN5 : Hid (Below w.heap.size w w5) := hQ (HBN.out.trans (HB5.out.mono HBN.out.size))
     obtain ⟨ev, hev⟩ : ∃ ev, ev = inE t.length prm sz code.length (code.getD k Ins.z) := ⟨_, rfl⟩
     rw [← hev]
     have HEV := hQ hev
     clear bel5 f0 f1 f2 fz q0 q1 qz hev
     by_cases he : ev = 0
     · have HZ' : Hid (∀ j, j < k + 1 → inE t.length prm sz code.length (code.getD j Ins.z) = 0) := hQ (fun j hj => by
        rcases Nat.lt_or_ge j k with h | h
        · exact HZ.out j h
        · obtain rfl : j = k := by omega
          rw [← HEV.out]; exact he)
       have e1 : (ev != 0) = false := by simp [he]
       clear he HZ HEV
       go_wp2
       go_roundw
       case rel => exact ⟨k + 1, by omega, by go_num, HZ', HB5⟩
       case measure => simp [intOf]; omega
     · have HE2 : Hid (frE t.length al ⟨prm, sz, code⟩ = ev) := hQ (by
        have h1 := firstE_take (f := inE t.length prm sz code.length) (z := Ins.z) hlt HZ.out (by rw [← HEV.out]; exact he)
        rw [← HEV.out] at h1
        rw [HE.out, h1, if_pos he])
       have e1 : (ev != 0) = true := by simp [he]
       clear he HZ HEV
       go_wp2
       go_ret
       exact ⟨ret_int (by rw [HE2.out]), HBN5.out⟩
   · obtain rfl : k = code.length := by omega
     have HZ0 : Hid (firstE (code.map (inE t.length prm sz code.length)) = 0) := hQ (firstE_zero (fun y hy => by
      obtain ⟨u, hu, rfl⟩ := List.mem_map.1 hy
      obtain ⟨i, hi, rfl⟩ := List.mem_iff_getElem.1 hu
      have := HZ.out i hi
      rwa [List.getD_eq_getElem?_getD, List.getElem?_eq_getElem hi, Option.getD_some] at this))
     have HBNr : Hid (Below w.heap.size w wr) := hQ (HBN.out.trans (HBR.out.mono HBN.out.size))
     clear HZ
     by_cases h0 : code.length = 0
     · have HE' : Hid (frE t.length al ⟨prm, sz, code⟩ = 6) := hQ (by rw [HE.out, if_neg (by rw [HZ0.out]; simp), if_pos (by rw [h0]; rfl)])
       have e0 : ((code.length : Int) == 0) = true := by simp [h0]
       clear HE h0 hlt
       go_wp2
       go_ret
       exact ⟨ret_int (by rw [HE'.out]), HBNr.out⟩
     · have hpos : 0 < code.length := by omega
       have e0 : ((code.length : Int) == 0) = false := by rw [beq_eq_false_iff_ne]; omega
       obtain ⟨ad2, rfl, hbl2, i0, -⟩ := (HN2.out.keep (Kp.of_below HBR.out hh2)).whole (show code.length - 1 < code.length by omega)
       obtain ⟨lop, hlop⟩ : ∃ lop, lop = (code.getD (code.length - 1) Ins.z).op := ⟨_, rfl⟩
       rw [← hlop] at i0 HE
       clear hlop
       have htn : ((code.length : Int) - 1).toNat = code.length - 1 := by omega
       have hp1 : (1 : Int) ≤ (code.length : Int) := by omega
       have HTB := hQ (fun W => refterm_any lop W)
       rcases ht : termB lop with _ | _
       · have HE' : Hid (frE t.length al ⟨prm, sz, code⟩ = 6) := hQ (by rw [HE.out, if_neg (by rw [HZ0.out]; simp), ht]; simp)
         rw [ht] at HTB
         clear HE h0 hlt ht
         go_wp2_with fail
         refine (HTB.out _).mono ?_
         rintro e w' ⟨rfl, rfl⟩
         go_wp2
         go_ret
         exact ⟨ret_int (by rw [HE'.out]), HBNr.out⟩
       · have HE' : Hid (frE t.length al ⟨prm, sz, code⟩ = 0) := hQ (by rw [HE.out, if_neg (by rw [HZ0.out]; simp), ht, show (code.length == 0) = false by rw [beq_eq_false_iff_ne]; omega]; rfl)
         rw [ht] at HTB
         clear HE h0 hlt ht
         go_wp2_with fail
         refine (HTB.out _).mono ?_
         rintro e w' ⟨rfl, rfl⟩
         go_wp2
         go_ret
         exact ⟨ret_int (by rw [HE'.out]), HBNr.out⟩
section
variable {al prm sz : Int} {t : List Fr} {A Ai : Option Addr} {ct ci lo hi : Nat}
theorem refcalls_any (code : List Ins) (hx : ∀ x ∈ code, x.op = 22 → inB x.a t.length = true) (hp : ∀ f ∈ t, 0 ≤ f.params ∧ f.params ≤ 8) (hm : t.length ≤ maxLen) (hmc : code.length ≤ maxLen) (w : World) (hg : Gx w lo hi A t) (hn : Nx w lo hi Ai code) (hh : hi ≤ w.heap.size) :
 Calls Tryz.prog 52 #[.agg #[.int .i64 al, .slice A t.length ct], .agg #[.int .i64 prm, .int .i64 sz, .slice Ai code.length ci]] w fun e w' => e = .returned (.bool (code.all (roomB t sz))) ∧ Below w.heap.size w w' := by
 obtain ⟨W1, hW1⟩ : ∃ W1, W1 = (w.alloc (.cells #[.int .i64 al, .slice A t.length ct] 26)).alloc (.cells #[.int .i64 prm, .int .i64 sz, .slice Ai code.length ci] 53) := ⟨_, rfl⟩
 have hB1 : Below w.heap.size w W1 := by rw [hW1]; exact (bR.alloc nL _).alloc (by simp) _
 have HT : Hid (Blk W1 w.heap.size 26 #[.int .i64 al, .slice A t.length ct]) := hQ (by rw [hW1]; exact (Blk.new _ _ _).alloc _)
 have HF : Hid (Blk W1 (w.heap.size + 1) 53 #[.int .i64 prm, .int .i64 sz, .slice Ai code.length ci]) := hQ (by rw [hW1]; exact Blk.newAt (by simp))
 have HG := hQ (hg.of_blk hB1 hh)
 have HN := hQ (hn.keep (Kp.of_below hB1 hh))
 have hh1 : hi ≤ W1.heap.size := by have := hB1.size; omega
 have HB1 := hQ hB1
 have HW1 := hQ hW1
 have HX := hQ hx
 have HP := hQ hp
 have hni : (code.length : Int) ≤ 9223372036854775807 := by unfold maxLen at hmc; omega
 have hti : (t.length : Int) ≤ 9223372036854775807 := by unfold maxLen at hm; omega
 clear hW1 hB1 hx hp hg hn
 obtain ⟨x0, x1, -, -, xz⟩ := HT.out.c2
 obtain ⟨f0, f1, f2, -, -, -, fz⟩ := HF.out.c3
 go_enter Tryz.func52, Tryz.ntmps52
 go_upto_region 1 with (fail)
 rw [← HW1.out]
 go_wp2
 go_loopw [5] (fun v wr => ∃ k : Nat, k ≤ code.length ∧ v = .int .i64 k ∧ Hid (∀ j, j < k → roomB t sz (code.getD j Ins.z) = true) ∧ Hid (Below W1.heap.size W1 wr)) (fun v _ => code.length - (intOf v).toNat)
 case atStart => exact ⟨0, by omega, rfl, hQ (fun j hj => by omega), hQ bR⟩
 case round =>
  clear x0 x1 xz f0 f1 f2 fz
  obtain ⟨k, hk, rfl, HZ, HB⟩ := hrel
  have hk0 : (0 : Int) ≤ (k : Int) := by omega
  have hszr := HB.out.size
  obtain ⟨x0, x1, -, -, xz⟩ := (HT.out.after HB.out).c2
  obtain ⟨f0, f1, f2, -, -, -, fz⟩ := (HF.out.after HB.out).c3
  by_cases hlt : k < code.length
  · have hki : (k : Int) < (code.length : Int) := by omega
    obtain ⟨a1, rfl, hb1, y0, y1, -⟩ := (HN.out.keep (Kp.of_below HB.out hh1)).whole hlt
    obtain ⟨x, hx⟩ : ∃ x, x = code.getD k Ins.z := ⟨_, rfl⟩
    have hxm : x ∈ code := by rw [hx]; exact getD_mem' hlt
    rw [← hx] at y0 y1
    have HXX := hQ hx
    have hx22 := HX.out x hxm
    have hb2 : (a1.add (k * 5)).block < wr.heap.size := by rw [block_of_add]; omega
    clear hx hxm
    obtain ⟨op, xa, xb, xc, im⟩ := x
    simp only at y0 y1 hx22
    by_cases h22 : op = 22
    · subst h22
      obtain ⟨ha0, ha1⟩ := inB_t.1 (hx22 rfl)
      have hkt : xa.toNat < t.length := by omega
      obtain ⟨ad, As', cs', rfl, hb, c0, -⟩ := (HG.out.of_blk HB.out hh1).whole hkt
      obtain ⟨j, hj⟩ : ∃ j, j = xa.toNat := ⟨_, rfl⟩
      have hpk := HP.out _ (getD_mem' (z := Fr.z) hkt)
      have HR : Hid (roomB t sz ⟨22, xa, xb, xc, im⟩ = !decide (sz < 16 * (t.getD xa.toNat Fr.z).params)) := hQ rfl
      obtain ⟨q, hq⟩ : ∃ q, q = (t.getD xa.toNat Fr.z).params := ⟨_, rfl⟩
      rw [← hq] at c0 hpk HR
      rw [← hj] at c0
      obtain ⟨q0, q1⟩ := hpk
      have hxj : xa = (j : Int) := by omega
      have hj0 : (0 : Int) ≤ (j : Int) := by omega
      have hj1 : (j : Int) < (t.length : Int) := by omega
      subst hxj
      clear hj hq ha0 ha1 hx22
      rcases hrm : decide (sz < 16 * q) with _ | _
      · have hr' : 16 * q ≤ sz := by have := of_decide_eq_false hrm; omega
        have HZ' : Hid (∀ i, i < k + 1 → roomB t sz (code.getD i Ins.z) = true) := hQ (fun i hi => by
         rcases Nat.lt_or_ge i k with h | h
         · exact HZ.out i h
         · obtain rfl : i = k := by omega
           rw [← HXX.out, HR.out, hrm]; rfl)
        clear hrm HZ
        go_upto_region 4 with (fail)
        go_quiet (fail)
        go_wp2
        go_roundw
        case rel => exact ⟨k + 1, by omega, by go_num, HZ', hQ (below_drewN HB.out _)⟩
        case measure => simp [intOf]; omega
      · have hr' : sz < 16 * q := of_decide_eq_true hrm
        have HA : Hid (code.all (roomB t sz) = false) := hQ (by
         rw [List.all_eq_false]
         exact ⟨code.getD k Ins.z, getD_mem' hlt, by rw [← HXX.out, HR.out, hrm]; simp⟩)
        clear hrm HZ
        go_upto_region 4 with (fail)
        go_quiet (fail)
        go_wp2
        go_ret
        exact ⟨ret_bool (by rw [HA.out]), HB1.out.trans ((below_drewN HB.out _).mono HB1.out.size)⟩
    · have h22' : (op == 22) = false := by rw [beq_eq_false_iff_ne]; exact h22
      have HZ' : Hid (∀ i, i < k + 1 → roomB t sz (code.getD i Ins.z) = true) := hQ (fun i hi => by
       rcases Nat.lt_or_ge i k with h | h
       · exact HZ.out i h
       · obtain rfl : i = k := by omega
         rw [← HXX.out]; unfold roomB; simp only; rw [h22']; rfl)
      clear HZ hx22 h22
      go_upto_region 4 with (fail)
      go_quiet (fail)
      go_wp2
      go_roundw
      case rel => exact ⟨k + 1, by omega, by go_num, HZ', hQ (below_drewN HB.out _)⟩
      case measure => simp [intOf]; omega
  · obtain rfl : k = code.length := by omega
    have HA : Hid (code.all (roomB t sz) = true) := hQ (List.all_eq_true.2 (fun r hr => by
     obtain ⟨j, hj, rfl⟩ := List.mem_iff_getElem.1 hr
     have := HZ.out j hj
     rwa [List.getD_eq_getElem?_getD, List.getElem?_eq_getElem hj, Option.getD_some] at this))
    clear HZ
    go_wp2
    go_ret
    exact ⟨ret_bool (by rw [HA.out]), HB1.out.trans (HB.out.mono HB1.out.size)⟩
theorem refcheck10_any (A : Option Addr) (ct : Nat) (h64 : TgR al t) (w : World) (lo hi : Nat) (hg : Gx w lo hi A t) (hh : hi ≤ w.heap.size) (hm : t.length ≤ maxLen) :
 Calls Tryz.prog 31 #[.agg #[.int .i64 al, .slice A t.length ct]] w fun e w' => e = .returned (.int .i64 (tgE al t)) ∧ Below w.heap.size w w' := by
 obtain ⟨W1, hW1⟩ : ∃ W1, W1 = w.alloc (.cells #[.int .i64 al, .slice A t.length ct] 26) := ⟨_, rfl⟩
 have hB1 : Below w.heap.size w W1 := by rw [hW1]; exact bR.alloc nL _
 have HT : Hid (Blk W1 w.heap.size 26 #[.int .i64 al, .slice A t.length ct]) := hQ (by rw [hW1]; exact Blk.new _ _ _)
 have HG : Hid (Gx W1 lo hi A t) := hQ (hg.of_blk hB1 hh)
 have hh1 : hi ≤ W1.heap.size := by have := hB1.size; omega
 have hni : (t.length : Int) ≤ 9223372036854775807 := by unfold maxLen at hm; omega
 have HB1 := hQ hB1
 have HW1 := hQ hW1
 have HR := hQ h64
 have a0 := h64.1.1
 have a1 := h64.1.2
 clear hW1 hB1 hg h64 hh
 obtain ⟨x0, x1, -, -, xz⟩ := HT.out.c2
 by_cases h80 : 80 < t.length
 · have HE := hQ (tgE_3 (al := al) h80)
   have h80i : (80 : Int) < (t.length : Int) := by omega
   clear h80
   go_enter Tryz.func31, Tryz.ntmps31
   go_upto_region 1 with (fail)
   rw [← HW1.out]
   go_wp2
   go_ret
   exact ⟨ret_int (by rw [HE.out]), HB1.out⟩
 have h80i : (t.length : Int) ≤ 80 := by omega
 by_cases h0 : t.length = 0
 · have HE := hQ (tgE_4 (al := al) h0)
   have h0b : ((t.length : Int) == 0) = true := by simp [h0]
   clear h0
   go_enter Tryz.func31, Tryz.ntmps31
   go_upto_region 1 with (fail)
   rw [← HW1.out]
   go_wp2
   go_ret
   exact ⟨ret_int (by rw [HE.out]), HB1.out⟩
 have h0b : ((t.length : Int) == 0) = false := by rw [beq_eq_false_iff_ne]; omega
 have HP : Hid (∀ W, Calls Tryz.prog 50 #[.int .i64 al] W fun e w' => e = .returned (.bool (powB al)) ∧ W = w') := hQ (fun W => refpower_any al a0 a1 W)
 rcases hp : powB al with _ | _
 · have HE := hQ (tgE_5 (al := al) h80 h0 (by rw [hp]; rfl))
   have HPB := hQ hp
   clear hp h0
   go_enter Tryz.func31, Tryz.ntmps31
   go_upto_region 1 with (fail)
   rw [← HW1.out]
   go_wp2_with fail
   refine (HP.out _).mono ?_
   rintro e w1 ⟨rfl, rfl⟩
   rw [HPB.out]
   go_wp2
   go_ret
   exact ⟨ret_int (by rw [HE.out]), HB1.out⟩
 have HPB := hQ hp
 by_cases h16 : al < 16
 · have HE := hQ (tgE_5 (al := al) h80 h0 (by rw [hp]; simp [h16]))
   clear hp h0
   go_enter Tryz.func31, Tryz.ntmps31
   go_upto_region 1 with (fail)
   rw [← HW1.out]
   go_wp2_with fail
   refine (HP.out _).mono ?_
   rintro e w1 ⟨rfl, rfl⟩
   rw [HPB.out]
   go_wp2
   go_ret
   exact ⟨ret_int (by rw [HE.out]), HB1.out⟩
 have h35 : (!powB al || decide (al < 16)) = false := by rw [hp]; simp [h16]
 have h16' : ¬ al < 16 := h16
 have hpos : 0 < t.length := by omega
 obtain ⟨ad, Ai0, ci0, rfl, hb, y0, -⟩ := HG.out.whole hpos
 rw [Nat.zero_mul] at y0
 have had : ad.add 0 = ad := rfl
 rw [had] at y0
 by_cases h7 : (t.getD 0 Fr.z).params = 0
 case neg =>
  have HE := hQ (tgE_7 (al := al) h80 h0 h35 h7)
  obtain ⟨q, hq⟩ : ∃ q, q = (t.getD 0 Fr.z).params := ⟨_, rfl⟩
  rw [← hq] at y0 h7
  have hqb : (q != 0) = true := by simpa using h7
  have hp1 : (0 : Int) < (t.length : Int) := by omega
  clear hp h0 hq h35
  go_enter Tryz.func31, Tryz.ntmps31
  go_upto_region 1 with (fail)
  rw [← HW1.out]
  go_wp2_with fail
  refine (HP.out _).mono ?_
  rintro e w1 ⟨rfl, rfl⟩
  rw [HPB.out]
  go_wp2
  go_ret
  exact ⟨ret_int (by rw [HE.out]), HB1.out⟩
 have HE := hQ (tgE_f (al := al) h80 h0 h35 h7)
 rw [h7] at y0
 have hp1 : (0 : Int) < (t.length : Int) := by omega
 clear hp h0 h35 h7
 go_enter Tryz.func31, Tryz.ntmps31
 go_upto_region 1 with (fail)
 rw [← HW1.out]
 clear HW1
 go_wp2_with fail
 refine (HP.out _).mono ?_
 rintro e w1 ⟨rfl, rfl⟩
 rw [HPB.out]
 go_wp2
 clear y0
 go_loopw [3] (fun v wr => ∃ k : Nat, k ≤ t.length ∧ v = .int .i64 k ∧ Hid (∀ j, j < k → frE t.length al (t.getD j Fr.z) = 0) ∧ Hid (Below W1.heap.size W1 wr)) (fun v _ => t.length - (intOf v).toNat)
 case atStart => exact ⟨0, by omega, rfl, hQ (fun j hj => by omega), hQ bR⟩
 case round =>
  clear x0 x1 xz
  obtain ⟨k, hk, rfl, HZ, HB⟩ := hrel
  have hk0 : (0 : Int) ≤ (k : Int) := by omega
  have hszr := HB.out.size
  obtain ⟨x0, x1, -, -, xz⟩ := (HT.out.after HB.out).c2
  by_cases hlt : k < t.length
  · have hki : (k : Int) < (t.length : Int) := by omega
    have HC := hQ (refcheckframe_in al t (some ad) ct k hlt HR.out.1 wr lo hi (HG.out.of_blk HB.out hh1) (by omega) hm (HR.out.2 _ (getD_mem' hlt)))
    go_wp2_with fail
    refine HC.out.mono ?_
    rintro e w5 ⟨rfl, bel⟩
    have HB5 : Hid (Below W1.heap.size W1 w5) := hQ (HB.out.trans (bel.mono HB.out.size))
    clear bel x0 x1 xz
    by_cases hq : frE t.length al (t.getD k Fr.z) = 0
    · have HZ' : Hid (∀ i, i < k + 1 → frE t.length al (t.getD i Fr.z) = 0) := hQ (fun i hi => by
       rcases Nat.lt_or_ge i k with h | h
       · exact HZ.out i h
       · obtain rfl : i = k := by omega
         exact hq)
      rw [hq]
      clear hq HZ HC
      go_wp2
      go_roundw
      case rel => exact ⟨k + 1, by omega, by go_num, HZ', HB5⟩
      case measure => simp [intOf]; omega
    · have HE' : Hid (tgE al t = frE t.length al (t.getD k Fr.z)) := hQ (by
       have h1 := firstE_take (f := frE t.length al) (z := Fr.z) hlt HZ.out hq
       rw [HE.out, h1, if_pos hq])
      generalize frE t.length al (t.getD k Fr.z) = er at *
      have hne : (er != 0) = true := by simpa using hq
      go_wp2
      go_ret
      exact ⟨ret_int (by rw [HE'.out]), HB1.out.trans (HB5.out.mono HB1.out.size)⟩
  · obtain rfl : k = t.length := by omega
    have HF0 : Hid (∀ f ∈ t, frE t.length al f = 0) := hQ (fun f hf => by
     obtain ⟨i, hi, rfl⟩ := List.mem_iff_getElem.1 hf
     have := HZ.out i hi
     rwa [List.getD_eq_getElem?_getD, List.getElem?_eq_getElem hi, Option.getD_some] at this)
    have HE2 : Hid (tgE al t = if t.all (fun f => f.code.all (roomB t f.size)) = true then 0 else 7) := hQ (by
     rw [HE.out, if_neg]
     rw [firstE_zero (fun y hy => by
      obtain ⟨u, hu, rfl⟩ := List.mem_map.1 hy
      exact HF0.out u hu)]
     simp)
    have HP8 : Hid (∀ f ∈ t, 0 ≤ f.params ∧ f.params ≤ 8) := hQ (fun f hf => (shB_ok (frE_ok (HF0.out f hf)).1).2.1)
    clear HZ HE
    generalize wr = wo at *
    go_wp2
    go_loopw [5] (fun v wr => ∃ k : Nat, k ≤ t.length ∧ v = .int .i64 k ∧ Hid (∀ j, j < k → (t.getD j Fr.z).code.all (roomB t (t.getD j Fr.z).size) = true) ∧ Hid (Below W1.heap.size W1 wr)) (fun v _ => t.length - (intOf v).toNat)
    case atStart => exact ⟨0, by omega, rfl, hQ (fun j hj => by omega), HB⟩
    case round =>
     clear x0 x1 xz HB hszr
     obtain ⟨k, hk, rfl, HZ, HB⟩ := hrel
     have hk0 : (0 : Int) ≤ (k : Int) := by omega
     have hszr := HB.out.size
     obtain ⟨x0, x1, -, -, xz⟩ := (HT.out.after HB.out).c2
     by_cases hlt : k < t.length
     · have hki : (k : Int) < (t.length : Int) := by omega
       obtain ⟨ad', Ai, ci, e', hb', c0, c1, c2, -, -, hnx, hml, hcl⟩ := (HG.out.of_blk HB.out hh1).whole hlt
       obtain rfl : ad = ad' := by injection e'
       have hfm : t.getD k Fr.z ∈ t := getD_mem' hlt
       have hok := frE_ok (HF0.out _ hfm)
       obtain ⟨f, hf⟩ : ∃ f, f = t.getD k Fr.z := ⟨_, rfl⟩
       rw [← hf] at c0 c1 c2 hnx hml hcl hfm hok
       have HF := hQ hf
       clear hf e'
       obtain ⟨prm, sz, code⟩ := f
       simp only at c0 c1 c2 hnx hml hcl hok
       have HCX : Hid (∀ x ∈ code, x.op = 22 → inB x.a t.length = true) := hQ (fun x hx h22 => inE_call (hok.2.2.1 x hx) h22)
       have HN := hQ hnx
       have HD0 : Hid (Below W1.heap.size W1 wr.drew) := hQ (HB.out.drew)
       have HCL := hQ (refcalls_any (al := al) (prm := prm) (sz := sz) (ct := ct) (ci := ci) code HCX.out HP8.out hm hml wr.drew (HG.out.of_blk HD0.out hh1) (HN.out.keep (Kp.of_below (bR.drew) (by omega))) (by have := HD0.out.size; omega))
       clear hnx hok hfm
       go_upto_region 18 with (fail)
       go_cut [56] (fun s wx => s = .bool (!code.all (roomB t sz)) ∧ Hid (Below W1.heap.size W1 wx))
       case first =>
        go_region_held3 (fun W => (W.cell? ⟨w.heap.size, 0, none⟩ = some (.int .i64 al) ∧ W.cell? ⟨w.heap.size, 1, none⟩ = some (.slice (some ad) t.length ct)) ∧ (W.cell? (ad.add (k * 3)) = some (.int .i64 prm) ∧ W.cell? ⟨(ad.add (k * 3)).block, (ad.add (k * 3)).off + 1, none⟩ = some (.int .i64 sz) ∧ W.cell? ⟨(ad.add (k * 3)).block, (ad.add (k * 3)).off + 2, none⟩ = some (.slice Ai code.length ci)))
         (first | exact ⟨⟨x0, x1⟩, c0, c1, c2⟩ | exact HK7.out | go_keep)
         (first
         | (go_at_call 52; (with_reducible refine HCL.out.mono ?_); rintro e w7 ⟨rfl, bel⟩; have HB7 : Hid (Below W1.heap.size W1 w7) := hQ (HD0.out.trans (bel.mono HD0.out.size)); have HK7 : Hid ((w7.cell? ⟨w.heap.size, 0, none⟩ = some (.int .i64 al) ∧ w7.cell? ⟨w.heap.size, 1, none⟩ = some (.slice (some ad) t.length ct)) ∧ (w7.cell? (ad.add (k * 3)) = some (.int .i64 prm) ∧ w7.cell? ⟨(ad.add (k * 3)).block, (ad.add (k * 3)).off + 1, none⟩ = some (.int .i64 sz) ∧ w7.cell? ⟨(ad.add (k * 3)).block, (ad.add (k * 3)).off + 2, none⟩ = some (.slice Ai code.length ci))) := hQ ⟨⟨(bel.cell (cell_lt x0)).trans x0, (bel.cell (cell_lt x1)).trans x1⟩, (bel.cell (cell_lt c0)).trans c0, (bel.cell (cell_lt c1)).trans c1, (bel.cell (cell_lt c2)).trans c2⟩; clear bel))
        all_goals go_wp2_with fail
        all_goals go_meet
        all_goals exact ⟨rfl, HB7⟩
       case rest =>
       obtain ⟨rfl, HB7⟩ := hcut
       obtain ⟨w7, hw7⟩ : ∃ w7, w7 = wc := ⟨_, rfl⟩
       subst hw7
       clear x0 x1 xz c0 c1 c2 HCL HD0
       rcases ho : code.all (roomB t sz) with _ | _
       · have HE' : Hid (tgE al t = 7) := hQ (by
          rw [HE2.out, if_neg]
          rw [Bool.not_eq_true, List.all_eq_false]
          refine ⟨t.getD k Fr.z, getD_mem' hlt, ?_⟩
          rw [← HF.out, ho]
          simp)
         clear ho
         go_wp2
         go_ret
         exact ⟨ret_int (by rw [HE'.out]), HB1.out.trans (HB7.out.mono HB1.out.size)⟩
       · have HZ' : Hid (∀ i, i < k + 1 → (t.getD i Fr.z).code.all (roomB t (t.getD i Fr.z).size) = true) := hQ (fun i hi => by
          rcases Nat.lt_or_ge i k with h | h
          · exact HZ.out i h
          · obtain rfl : i = k := by omega
            rw [← HF.out]; exact ho)
         clear ho HZ
         go_wp2
         go_roundw
         case rel => exact ⟨k + 1, by omega, by go_num, HZ', HB7⟩
         case measure => simp [intOf]; omega
     · obtain rfl : k = t.length := by omega
       have HE' : Hid (tgE al t = 0) := hQ (by
        rw [HE2.out, if_pos]
        refine List.all_eq_true.2 (fun f hf => ?_)
        obtain ⟨i, hi, rfl⟩ := List.mem_iff_getElem.1 hf
        have := HZ.out i hi
        rwa [List.getD_eq_getElem?_getD, List.getElem?_eq_getElem hi, Option.getD_some] at this)
       clear HZ
       go_wp2
       go_ret
       exact ⟨ret_int (by rw [HE'.out]), HB1.out.trans (HB.out.mono HB1.out.size)⟩
end
end Go.Proofs.YtcnndoefgjbmiaaGreat.pm
