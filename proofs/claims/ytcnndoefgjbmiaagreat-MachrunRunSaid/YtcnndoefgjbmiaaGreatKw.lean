/- The reference of chapter 10: CheckInstr, where the frame's shape is right. -/
import Derived.Test.YtcnndoefgjbmiaaGreatKv
import Derived.Test.YtcnndoefgjbmiaaGreatGKg
set_option linter.unusedVariables false
set_option maxRecDepth 10000
set_option maxHeartbeats 8000000
namespace Go.Proofs.YtcnndoefgjbmiaaGreat.pm
open Go.RowKit
theorem unB_use (x : Ins) : ((!(useT x.op).1 && x.a != 0) || (!(useT x.op).2.1 && x.b != 0) || (!(useT x.op).2.2.1 && x.c != 0) || (!(useT x.op).2.2.2 && x.imm != 0)) = unB x := by
 unfold unB useT
 generalize opN x.op = n
 have e1 : decide (1 ≤ n) = !decide (n < 1) := by rcases n with _ | n <;> simp
 have e2 : decide (2 ≤ n) = !decide (n < 2) := by rcases n with _ | _ | n <;> simp
 have e3 : decide (3 ≤ n) = !decide (n < 3) := by rcases n with _ | _ | _ | n <;> simp
 simp only [e1, e2, e3]
 generalize (x.a != 0) = A
 generalize (x.b != 0) = B
 generalize (x.c != 0) = C
 generalize (x.imm != 0) = D
 generalize (x.op == 0 || x.op == 24) = E
 generalize decide (n < 1) = P
 generalize decide (n < 2) = Q
 generalize decide (n < 3) = R
 cases A <;> cases B <;> cases C <;> cases D <;> cases E <;> cases P <;> cases Q <;> cases R <;> rfl
theorem refci10_in (al : Int) (t : List Fr) (A : Option Addr) (ct i k : Nat) (hi' : i < t.length) (h64 : I64 al) (w : World) (lo hi : Nat) (hg : Gx w lo hi A t) (hh : hi ≤ w.heap.size) (hm : t.length ≤ maxLen) (hr : FrR (t.getD i Fr.z)) (hk' : k < (t.getD i Fr.z).code.length) (hsh : shB al (t.getD i Fr.z) = true) :
 Calls Tryz.prog 76 #[.agg #[.int .i64 al, .slice A t.length ct], .int .i64 (i : Int), .int .i64 (k : Int)] w fun e w' => e = .returned (.int .i64 (inE t.length (t.getD i Fr.z).params (t.getD i Fr.z).size (t.getD i Fr.z).code.length ((t.getD i Fr.z).code.getD k Ins.z))) ∧ Below w.heap.size w w' := by
 obtain ⟨W1, hW1⟩ : ∃ W1, W1 = w.alloc (.cells #[.int .i64 al, .slice A t.length ct] 26) := ⟨_, rfl⟩
 have hB1 : Below w.heap.size w W1 := by rw [hW1]; exact bR.alloc nL _
 have HKT : Hid (Blk W1 w.heap.size 26 #[.int .i64 al, .slice A t.length ct]) := hQ (by rw [hW1]; exact Blk.new _ _ _)
 obtain ⟨ad, Ai, ci, rfl, hbl, c0, c1, c2, -, -, nx, hn1, hn2⟩ := (hg.keep (Kp.of_below hB1 hh)).whole hi'
 have HB1 := hQ hB1
 have HW1 := hQ hW1
 have hz1 : w.heap.size < W1.heap.size := HKT.out.lt
 obtain ⟨nf, hnf⟩ : ∃ nf, nf = t.length := ⟨_, rfl⟩
 rw [← hnf] at HKT hi' hm HW1 ⊢
 obtain ⟨f, hff⟩ : ∃ f, f = t.getD i Fr.z := ⟨_, rfl⟩
 rw [← hff] at c0 c1 c2 nx hn1 hn2 hk' hr hsh ⊢
 have hh1 : hi ≤ W1.heap.size := by omega
 have HN1 := hQ nx
 have HFR := hQ hr
 obtain ⟨prm, sz, code⟩ := f
 simp only at c0 c1 c2 hn1 hn2 hk'
 obtain ⟨nc, hnc⟩ : ∃ nc, nc = code.length := ⟨_, rfl⟩
 have HNC := hQ hnc
 show Calls _ _ _ _ fun e w' => e = .returned (.int .i64 (inE nf prm sz code.length (code.getD k Ins.z))) ∧ Below w.heap.size w w'
 rw [← hnc] at c2 hn1 hn2 hk' ⊢
 obtain ⟨⟨op, a, b, c, im⟩, hx⟩ : ∃ x, x = code.getD k Ins.z := ⟨_, rfl⟩
 rw [← hx]
 have HX := hQ hx
 have HSHP := hQ (fun W => hsh ▸ refshape10_any al prm sz (some ad) Ai nf ct nc ci h64 hr.1 hr.2.1 code W)
 have HSV := hQ hsh
 clear hg hW1 hB1 hff hnf nx hx hr hsh hnc
 have hii : (i : Int) < (nf : Int) := by omega
 have hi0 : (0 : Int) ≤ (i : Int) := by omega
 have hkk : (k : Int) < (nc : Int) := by omega
 have hk0 : (0 : Int) ≤ (k : Int) := by omega
 have HWI : Hid (∀ W, Calls Tryz.prog 74 #[.int .i64 (i : Int), .int .i64 (nf : Int)] W fun e w' => e = .returned (.bool true) ∧ W = w') := hQ (fun W => (inB_t.2 ⟨hi0, hii⟩ : inB (i : Int) (nf : Int) = true) ▸ refwithin10_any _ _ W)
 have HWK : Hid (∀ W, Calls Tryz.prog 74 #[.int .i64 (k : Int), .int .i64 (nc : Int)] W fun e w' => e = .returned (.bool true) ∧ W = w') := hQ (fun W => (inB_t.2 ⟨hk0, hkk⟩ : inB (k : Int) (nc : Int) = true) ▸ refwithin10_any _ _ W)
 have hni : (nc : Int) ≤ 9223372036854775807 := by unfold maxLen at hn1; omega
 have hmi : (nf : Int) ≤ 9223372036854775807 := by unfold maxLen at hm; omega
 obtain ⟨q0, q1, -, -, -⟩ := HKT.out.c2
 go_enter Tryz.func76, Tryz.ntmps76
 go_upto_region 1 with (fail)
 rw [← HW1.out]
 have HKS : Hid (∀ W, Below W1.heap.size W1 W → (W.cell? ⟨w.heap.size, 0, none⟩ = some (.int .i64 al) ∧ W.cell? ⟨w.heap.size, 1, none⟩ = some (.slice (some ad) nf ct)) ∧ (W.cell? (ad.add (i * 3)) = some (.int .i64 prm) ∧ W.cell? ⟨(ad.add (i * 3)).block, (ad.add (i * 3)).off + 1, none⟩ = some (.int .i64 sz) ∧ W.cell? ⟨(ad.add (i * 3)).block, (ad.add (i * 3)).off + 2, none⟩ = some (.slice Ai nc ci)) ∧ Below W1.heap.size W1 W) := hQ (fun W h => ⟨⟨(h.cell (cell_lt q0)).trans q0, (h.cell (cell_lt q1)).trans q1⟩, ⟨(h.cell (cell_lt c0)).trans c0, (h.cell (cell_lt c1)).trans c1, (h.cell (cell_lt c2)).trans c2⟩, h⟩)
 clear q0 q1 c0 c1 c2
 have HD0 : Hid (Below W1.heap.size W1 W1.drew) := hQ (bR.drew)
 obtain ⟨⟨q0, q1⟩, ⟨c0, c1, c2⟩, -⟩ := HKS.out _ HD0.out
 go_region_held3 (fun W => (W.cell? ⟨w.heap.size, 0, none⟩ = some (.int .i64 al) ∧ W.cell? ⟨w.heap.size, 1, none⟩ = some (.slice (some ad) nf ct)) ∧ (W.cell? (ad.add (i * 3)) = some (.int .i64 prm) ∧ W.cell? ⟨(ad.add (i * 3)).block, (ad.add (i * 3)).off + 1, none⟩ = some (.int .i64 sz) ∧ W.cell? ⟨(ad.add (i * 3)).block, (ad.add (i * 3)).off + 2, none⟩ = some (.slice Ai nc ci)) ∧ Below W1.heap.size W1 W)
  (first | exact HKS.out _ HA1.out | exact HKS.out _ HD0.out)
  (first
  | (go_at_call 74; (with_reducible refine (HWI.out _).mono ?_); rintro e v1 ⟨rfl, rfl⟩)
  | (go_at_call 74; (with_reducible refine (HWK.out _).mono ?_); rintro e v1 ⟨rfl, rfl⟩)
  | (go_at_call 75; (with_reducible refine (HSHP.out _).mono ?_); rintro e v1 ⟨rfl, bv1⟩; have HA1 : Hid (Below W1.heap.size W1 v1) := hQ (HD0.out.trans (bv1.mono HD0.out.size)); clear bv1))
 clear HWI HWK HSHP HD0 q0 q1 c0 c1 c2
 obtain ⟨⟨q0, q1⟩, ⟨c0, c1, c2⟩, -⟩ := HKS.out _ HA1.out
 go_upto_region 4 with (fail)
 obtain ⟨W2, hW2⟩ : ∃ W2, W2 = v1.alloc (.cells #[.int .i64 prm, .int .i64 sz, .slice Ai nc ci] 53) := ⟨_, rfl⟩
 rw [← hW2]
 have HB2 : Hid (Below v1.heap.size v1 W2) := hQ (by rw [hW2]; exact bR.alloc nL _)
 have HKF : Hid (Blk W2 v1.heap.size 53 #[.int .i64 prm, .int .i64 sz, .slice Ai nc ci]) := hQ (by rw [hW2]; exact Blk.new _ _ _)
 have HB12 : Hid (Below W1.heap.size W1 W2) := hQ (HA1.out.trans (HB2.out.mono HA1.out.size))
 have HKT2 := hQ (HKT.out.after HB12.out)
 obtain ⟨g7, hg7⟩ : ∃ g, g = v1.heap.size := ⟨_, rfl⟩
 rw [← hg7] at HKF ⊢
 obtain ⟨ad2, rfl, hbl2, i0, i1, i2, i3, i4⟩ := (HN1.out.keep (Kp.of_below HB12.out hh1)).whole (show k < code.length by rw [← HNC.out]; exact hk')
 rw [← HX.out] at i0 i1 i2 i3 i4
 simp only at i0 i1 i2 i3 i4
 clear hW2 hg7 c0 c1 c2 q0 q1 HKT HKS HA1 HB2 hbl hbl2
 obtain ⟨f0, f1, f2, -, -, -, fz⟩ := HKF.out.c3
 go_upto_region 5 with (fail)
 obtain ⟨W3, hW3⟩ : ∃ W3, W3 = W2.alloc (.cells #[.int .i64 op, .int .i64 a, .int .i64 b, .int .i64 c, .int .u64 im] 50) := ⟨_, rfl⟩
 rw [← hW3]
 have HB3 : Hid (Below W2.heap.size W2 W3) := hQ (by rw [hW3]; exact bR.alloc nL _)
 have HKX : Hid (Blk W3 W2.heap.size 50 #[.int .i64 op, .int .i64 a, .int .i64 b, .int .i64 c, .int .u64 im]) := hQ (by rw [hW3]; exact Blk.new _ _ _)
 have HKF3 := hQ (HKF.out.after HB3.out)
 have HKT3 := hQ (HKT2.out.after HB3.out)
 have HBN : Hid (Below w.heap.size w W3) := hQ (HB1.out.trans ((HB12.out.trans (HB3.out.mono HB12.out.size)).mono HB1.out.size))
 obtain ⟨g8, hg8⟩ : ∃ g, g = W2.heap.size := ⟨_, rfl⟩
 rw [← hg8] at HKX ⊢
 clear hW3 hg8 f0 f1 f2 fz i0 i1 i2 i3 i4 HKF HKT2 HB3 HB12 HB1 HW1 HN1
 obtain ⟨x0, x1, x2, x3, x4, -, -, -, -, -, xz⟩ := HKX.out.c5
 have HBO := hQ (fun W => refwithin10_any op 25 W)
 rcases ho : inB op 25 with _ | _
 · rw [ho] at HBO
   have HE : Hid (inE nf prm sz nc ⟨op, a, b, c, im⟩ = 4) := hQ (by unfold inE; simp [ho])
   clear ho
   go_wp2_with fail
   refine (HBO.out _).mono ?_
   rintro e w' ⟨rfl, rfl⟩
   go_wp2
   go_ret
   exact ⟨ret_int (by rw [HE.out]), HBN.out⟩
 · have hop := inB_t.1 ho
   rw [ho] at HBO
   obtain ⟨o, rfl⟩ := Int.eq_ofNat_of_zero_le hop.1
   have HO := hQ ho
   have ho25 : o < 25 := by omega
   clear ho hop
   by_cases h8 : o = 18
   · subst h8
     have HE : Hid (inE nf prm sz nc ⟨((18 : Nat) : Int), a, b, c, im⟩ = 4) := hQ (by unfold inE; simp)
     go_wp2_with fail
     refine (HBO.out _).mono ?_
     rintro e w' ⟨rfl, rfl⟩
     go_wp2
     go_ret
     exact ⟨ret_int (by rw [HE.out]), HBN.out⟩
   · by_cases h9 : o = 19
     · subst h9
       have HE : Hid (inE nf prm sz nc ⟨((19 : Nat) : Int), a, b, c, im⟩ = 4) := hQ (by unfold inE; simp)
       go_wp2_with fail
       refine (HBO.out _).mono ?_
       rintro e w' ⟨rfl, rfl⟩
       go_wp2
       go_ret
       exact ⟨ret_int (by rw [HE.out]), HBN.out⟩
     · have b8 : ((o : Int) == 18) = false := by rw [beq_eq_false_iff_ne]; omega
       have b9 : ((o : Int) == 19) = false := by rw [beq_eq_false_iff_ne]; omega
       obtain ⟨ua, hua⟩ : ∃ u, u = (useT (o : Int)).1 := ⟨_, rfl⟩
       obtain ⟨ub, hub⟩ : ∃ u, u = (useT (o : Int)).2.1 := ⟨_, rfl⟩
       obtain ⟨uc, huc⟩ : ∃ u, u = (useT (o : Int)).2.2.1 := ⟨_, rfl⟩
       obtain ⟨ui, hui⟩ : ∃ u, u = (useT (o : Int)).2.2.2 := ⟨_, rfl⟩
       have hop0 := fun W => refoperands10_any o ho25 h8 h9 W
       rw [← hua, ← hub, ← huc, ← hui] at hop0
       have HOP := hQ hop0
       have HUA := hQ (⟨hua, hub, huc, hui⟩ : ua = (useT (o : Int)).1 ∧ ub = (useT (o : Int)).2.1 ∧ uc = (useT (o : Int)).2.2.1 ∧ ui = (useT (o : Int)).2.2.2)
       clear hop0 hua hub huc hui
       have HNM := hQ (fun W => named_any al (some ad) nf ct o a b c im ho25 h8 h9 W)
       go_wp2_with fail
       refine (HBO.out _).mono ?_
       rintro e w' ⟨rfl, rfl⟩
       go_wp2_with fail
       refine (HOP.out _).mono ?_
       rintro e w' ⟨rfl, rfl⟩
       go_upto_region 8 with (fail)
       obtain ⟨bb, hbb⟩ : ∃ bb, bb = ((!ua && a != 0) || (!ub && b != 0) || (!uc && c != 0) || (!ui && im != 0)) := ⟨_, rfl⟩
       have HUN : Hid (unB ⟨(o : Int), a, b, c, im⟩ = bb) := hQ (by rw [hbb, HUA.out.1, HUA.out.2.1, HUA.out.2.2.1, HUA.out.2.2.2]; exact (unB_use ⟨(o : Int), a, b, c, im⟩).symm)
       clear HUA HBO HOP
       go_cut [110] (fun s wx => s = .bool bb ∧ W3 = wx)
       case first =>
        clear HNM HUN HKX HKF3 HKT3 HBN HO b8 b9 HSV HFR HNC HX
        as_aux_lemma =>
        go_wp2
        all_goals (try (have e : ua = false := Bool.eq_false_iff.2 (by assumption); subst e))
        all_goals (try (have e : ub = false := Bool.eq_false_iff.2 (by assumption); subst e))
        all_goals (try (have e : uc = false := Bool.eq_false_iff.2 (by assumption); subst e))
        all_goals (try (have e : ui = false := Bool.eq_false_iff.2 (by assumption); subst e))
        all_goals subst_vars
        all_goals go_meet
        all_goals exact ⟨(by first | (simp; done) | simp_all), rfl⟩
       case rest =>
        obtain ⟨rfl, rfl⟩ := hcut
        clear hbb
        obtain ⟨q0, q1, -, -, qz⟩ := HKT3.out.c2
        as_aux_lemma =>
        rcases bb with _ | _
        · rcases hnm : namB nf ⟨(o : Int), a, b, c, im⟩ with _ | _
          · rw [hnm] at HNM
            have HE : Hid (inE nf prm sz nc ⟨(o : Int), a, b, c, im⟩ = 4) := hQ (by
             have hn' : (outB (regL ⟨(o : Int), a, b, c, im⟩) || ((o : Int) == 22 && !inB a nf)) = true := by have h1 := hnm; unfold namB at h1; exact not_f h1
             unfold inE
             simp only [HO.out, b8, b9, HUN.out, hn']
             rfl)
            clear hnm
            go_wp2_with fail
            (try go_at_call 107)
            refine (HNM.out _).mono ?_
            rintro e w4 ⟨rfl, bel⟩
            have HB4 := hQ (HBN.out.trans (bel.mono HBN.out.size))
            clear bel
            go_wp2
            go_ret
            exact ⟨ret_int (by rw [HE.out]), HB4.out⟩
          · rw [hnm] at HNM
            have HN' : Hid ((outB (regL ⟨(o : Int), a, b, c, im⟩) || ((o : Int) == 22 && !inB a nf)) = false) := hQ (by have h1 := hnm; unfold namB at h1; exact not_t h1)
            clear hnm
            go_wp2_with fail
            (try go_at_call 107)
            refine (HNM.out _).mono ?_
            rintro e w4 ⟨rfl, bel⟩
            have HB4 := hQ (HBN.out.trans (bel.mono HBN.out.size))
            have HKX4 := hQ (HKX.out.after bel)
            have HKF4 := hQ (HKF3.out.after bel)
            clear bel HNM x0 x1 x2 x3 x4 xz HKX HKF3 HKT3 q0 q1 qz
            obtain ⟨x0, x1, x2, x3, x4, -, -, -, -, -, xz⟩ := HKX4.out.c5
            obtain ⟨f0, f1, f2, -, -, -, fz⟩ := HKF4.out.c3
            obtain ⟨hcx, hsp⟩ : I64 c ∧ ((0 ≤ prm ∧ prm ≤ 8) ∧ (0 ≤ sz ∧ sz < 2147483520)) := by
             refine ⟨?_, (shB_ok HSV.out).2.1, (shB_ok HSV.out).2.2.1⟩
             have h := HFR.out.2.2 _ (getD_mem' (z := Ins.z) (show k < code.length by rw [← HNC.out]; exact hk'))
             rw [← HX.out] at h
             exact h.2.2.2
            obtain ⟨⟨hp0, hp1⟩, hz0, hz1⟩ := hsp
            have hw1 : IntKind.i64.wrap (16 * prm) = 16 * prm := IntWalk.i64_in _ (by omega)
            have hw2 : IntKind.i64.wrap (sz + 16 * prm) = sz + 16 * prm := IntWalk.i64_in _ (by omega)
            have HEI : Hid (inE nf prm sz nc ⟨(o : Int), a, b, c, im⟩ = if (memB (o : Int) && !sizeB c) = true then 5 else if wildB prm sz ⟨(o : Int), a, b, c, im⟩ = true then 4 else if tgtB nc ⟨(o : Int), a, b, c, im⟩ = true then 6 else 0) := hQ (by
             unfold inE
             simp only [HO.out, b8, b9, HUN.out, HN'.out]
             rfl)
            clear HUN
            by_cases h15 : (o : Int) = 15
            · have hmb : memB (o : Int) = true := by rw [h15]; rfl
              have hrd : rdB (o : Int) = true := by rw [h15]; rfl
              have hwr : wrB (o : Int) = false := by rw [h15]; rfl
              have b20 : ((o : Int) == 20) = false := by rw [beq_eq_false_iff_ne]; omega
              have b21 : ((o : Int) == 21) = false := by rw [beq_eq_false_iff_ne]; omega
              have HMM : Hid (∀ W, Calls Tryz.prog 108 #[.int .i64 (o : Int)] W fun e w' => e = .returned (.bool true) ∧ W = w') := hQ (fun W => by have h := refmem10_any (o : Int) W; rw [hmb] at h; exact h)
              have HRD : Hid (∀ W, Calls Tryz.prog 109 #[.agg #[.int .i64 prm, .int .i64 sz, .slice (some ad2) nc ci], .agg #[.int .i64 (o : Int), .int .i64 a, .int .i64 b, .int .i64 c, .int .u64 im]] W fun e w' => e = .returned (.tuple #[.agg #[.int .i64 b, .int .i64 c], .bool true]) ∧ Below W.heap.size W w') := hQ (fun W => by have h := refreads10_any (.int .i64 prm) (.int .i64 sz) (.slice (some ad2) nc ci) ⟨(o : Int), a, b, c, im⟩ W; have hp : rdP ⟨(o : Int), a, b, c, im⟩ = (b, c, true) := (by unfold rdP; rw [if_pos (by dsimp only; omega)]); rw [hp] at h; exact h)
              have HWR : Hid (∀ W, Calls Tryz.prog 110 #[.agg #[.int .i64 prm, .int .i64 sz, .slice (some ad2) nc ci], .agg #[.int .i64 (o : Int), .int .i64 a, .int .i64 b, .int .i64 c, .int .u64 im]] W fun e w' => e = .returned (.tuple #[.agg #[.int .i64 0, .int .i64 0], .bool false]) ∧ Below W.heap.size W w') := hQ (fun W => by have h := refwrites10_any (.int .i64 prm) (.int .i64 sz) (.slice (some ad2) nc ci) ⟨(o : Int), a, b, c, im⟩ W; have hp : wrP ⟨(o : Int), a, b, c, im⟩ = (0, 0, false) := (by unfold wrP; rw [if_neg (by dsimp only; omega)]); rw [hp] at h; exact h)
              clear h15
              rcases hsz : sizeB c with _ | _
              · have HSZ : Hid (∀ W, Calls Tryz.prog 88 #[.int .i64 c] W fun e w' => e = .returned (.bool false) ∧ W = w') := hQ (fun W => by have h := refsize_any c hcx.1 hcx.2 W; rw [hsz] at h; exact h)
                have HE : Hid (inE nf prm sz nc ⟨(o : Int), a, b, c, im⟩ = 5) := hQ (by rw [HEI.out, if_pos (by rw [hmb, hsz]; rfl)])
                go_wp2_with (first | (go_at_call 108; (with_reducible refine (HMM.out _).mono ?_); rintro e v1 ⟨rfl, rfl⟩) | (go_at_call 88; (with_reducible refine (HSZ.out _).mono ?_); rintro e v1 ⟨rfl, rfl⟩))
                go_ret
                exact ⟨ret_int (by rw [HE.out]), HB4.out⟩
              · have HSZ : Hid (∀ W, Calls Tryz.prog 88 #[.int .i64 c] W fun e w' => e = .returned (.bool true) ∧ W = w') := hQ (fun W => by have h := refsize_any c hcx.1 hcx.2 W; rw [hsz] at h; exact h)
                go_upto_region 14 with (first | (go_at_call 108; (with_reducible refine (HMM.out _).mono ?_); rintro e v1 ⟨rfl, rfl⟩) | (go_at_call 88; (with_reducible refine (HSZ.out _).mono ?_); rintro e v1 ⟨rfl, rfl⟩))
                go_upto_region 15 with (go_at_call 109; (with_reducible refine (HRD.out _).mono ?_); rintro e u5 ⟨rfl, bel5⟩)
                obtain ⟨V5, hV5⟩ : ∃ V, V = u5.alloc (.cells #[.int .i64 b, .int .i64 c] 139) := ⟨_, rfl⟩
                rw [← hV5]
                have hbl5 : Below w4.heap.size w4 V5 := by rw [hV5]; exact bel5.alloc bel5.size _
                have HKI5 : Hid (Blk V5 u5.heap.size 139 #[.int .i64 b, .int .i64 c]) := hQ (by rw [hV5]; exact Blk.new _ _ _)
                have HB5 := hQ (HB4.out.trans (hbl5.mono HB4.out.size))
                have HKX5 := hQ (HKX4.out.after hbl5)
                have HKF5 := hQ (HKF4.out.after hbl5)
                obtain ⟨gi5, hgi5⟩ : ∃ g, g = u5.heap.size := ⟨_, rfl⟩
                rw [← hgi5] at HKI5 ⊢
                clear hV5 bel5 hbl5 hgi5 x0 x1 x2 x3 x4 xz f0 f1 f2 fz
                obtain ⟨x0, x1, x2, x3, x4, -, -, -, -, -, xz⟩ := HKX5.out.c5
                obtain ⟨f0, f1, f2, -, -, -, fz⟩ := HKF5.out.c3
                obtain ⟨i0, i1, -, -, iz⟩ := HKI5.out.c2
                rcases hin6 : insB b c (sz + 16 * prm) with _ | _
                · have HIN : Hid (∀ W, Calls Tryz.prog 62 #[.agg #[.int .i64 b, .int .i64 c], .int .i64 (sz + 16 * prm)] W fun e w' => e = .returned (.bool false) ∧ Below W.heap.size W w') := hQ (fun W => by have h := inside03_any b c (sz + 16 * prm) W; rw [hin6] at h; exact h)
                  have HE : Hid (inE nf prm sz nc ⟨(o : Int), a, b, c, im⟩ = 4) := hQ (by rw [HEI.out, if_neg (by rw [hmb, hsz]; simp), if_pos (by unfold wildB; simp only [hrd, hwr, hin6]; rfl)])
                  go_wp2_with (go_at_call 62; (with_reducible refine (HIN.out _).mono ?_); rintro e v1 ⟨rfl, bv1⟩)
                  go_ret
                  exact ⟨ret_int (by rw [HE.out]), (HB5.out.trans (bv1.mono HB5.out.size))⟩
                · have HIN : Hid (∀ W, Calls Tryz.prog 62 #[.agg #[.int .i64 b, .int .i64 c], .int .i64 (sz + 16 * prm)] W fun e w' => e = .returned (.bool true) ∧ Below W.heap.size W w') := hQ (fun W => by have h := inside03_any b c (sz + 16 * prm) W; rw [hin6] at h; exact h)
                  go_upto_region 17 with (go_at_call 62; (with_reducible refine (HIN.out _).mono ?_); rintro e w6 ⟨rfl, bw6⟩)
                  have HB6 := hQ (HB5.out.trans (bw6.mono HB5.out.size))
                  have HKX6 := hQ (HKX5.out.after bw6)
                  have HKF6 := hQ (HKF5.out.after bw6)
                  clear bw6 i0 i1 iz x0 x1 x2 x3 x4 xz f0 f1 f2 fz
                  obtain ⟨x0, x1, x2, x3, x4, -, -, -, -, -, xz⟩ := HKX6.out.c5
                  obtain ⟨f0, f1, f2, -, -, -, fz⟩ := HKF6.out.c3
                  go_upto_region 18 with (go_at_call 110; (with_reducible refine (HWR.out _).mono ?_); rintro e u7 ⟨rfl, bel7⟩)
                  obtain ⟨V7, hV7⟩ : ∃ V, V = u7.alloc (.cells #[.int .i64 0, .int .i64 0] 139) := ⟨_, rfl⟩
                  rw [← hV7]
                  have hbl7 : Below w6.heap.size w6 V7 := by rw [hV7]; exact bel7.alloc bel7.size _
                  have HKI7 : Hid (Blk V7 u7.heap.size 139 #[.int .i64 0, .int .i64 0]) := hQ (by rw [hV7]; exact Blk.new _ _ _)
                  have HB7 := hQ (HB6.out.trans (hbl7.mono HB6.out.size))
                  have HKX7 := hQ (HKX6.out.after hbl7)
                  have HKF7 := hQ (HKF6.out.after hbl7)
                  obtain ⟨gi7, hgi7⟩ : ∃ g, g = u7.heap.size := ⟨_, rfl⟩
                  rw [← hgi7] at HKI7 ⊢
                  clear hV7 bel7 hbl7 hgi7 x0 x1 x2 x3 x4 xz f0 f1 f2 fz
                  obtain ⟨x0, x1, x2, x3, x4, -, -, -, -, -, xz⟩ := HKX7.out.c5
                  obtain ⟨f0, f1, f2, -, -, -, fz⟩ := HKF7.out.c3
                  obtain ⟨i0, i1, -, -, iz⟩ := HKI7.out.c2
                  go_upto_region 20 with (fail)
                  clear i0 i1 iz
                  obtain ⟨w8, hw8⟩ : ∃ w', w' = V7 := ⟨_, rfl⟩
                  rw [← hw8]
                  have HB8 := HB7
                  have HKX8 := HKX7
                  have HKF8 := HKF7
                  rw [← hw8] at HB8 HKX8 HKF8
                  clear hw8 x0 x1 x2 x3 x4 xz f0 f1 f2 fz
                  obtain ⟨x0, x1, x2, x3, x4, -, -, -, -, -, xz⟩ := HKX8.out.c5
                  obtain ⟨f0, f1, f2, -, -, -, fz⟩ := HKF8.out.c3
                  have HE : Hid (inE nf prm sz nc ⟨(o : Int), a, b, c, im⟩ = 0) := hQ (by rw [HEI.out, if_neg (by rw [hmb, hsz]; simp), if_neg (by unfold wildB; simp only [hrd, hwr, hin6]; simp), if_neg (by unfold tgtB; simp only [b20, b21]; simp)])
                  go_wp2
                  go_ret
                  exact ⟨ret_int (by rw [HE.out]), HB8.out⟩
            by_cases h16 : (o : Int) = 16
            · have hmb : memB (o : Int) = true := by rw [h16]; rfl
              have hrd : rdB (o : Int) = false := by rw [h16]; rfl
              have hwr : wrB (o : Int) = true := by rw [h16]; rfl
              have b20 : ((o : Int) == 20) = false := by rw [beq_eq_false_iff_ne]; omega
              have b21 : ((o : Int) == 21) = false := by rw [beq_eq_false_iff_ne]; omega
              have HMM : Hid (∀ W, Calls Tryz.prog 108 #[.int .i64 (o : Int)] W fun e w' => e = .returned (.bool true) ∧ W = w') := hQ (fun W => by have h := refmem10_any (o : Int) W; rw [hmb] at h; exact h)
              have HRD : Hid (∀ W, Calls Tryz.prog 109 #[.agg #[.int .i64 prm, .int .i64 sz, .slice (some ad2) nc ci], .agg #[.int .i64 (o : Int), .int .i64 a, .int .i64 b, .int .i64 c, .int .u64 im]] W fun e w' => e = .returned (.tuple #[.agg #[.int .i64 0, .int .i64 0], .bool false]) ∧ Below W.heap.size W w') := hQ (fun W => by have h := refreads10_any (.int .i64 prm) (.int .i64 sz) (.slice (some ad2) nc ci) ⟨(o : Int), a, b, c, im⟩ W; have hp : rdP ⟨(o : Int), a, b, c, im⟩ = (0, 0, false) := (by unfold rdP; rw [if_neg (by dsimp only; omega)]); rw [hp] at h; exact h)
              have HWR : Hid (∀ W, Calls Tryz.prog 110 #[.agg #[.int .i64 prm, .int .i64 sz, .slice (some ad2) nc ci], .agg #[.int .i64 (o : Int), .int .i64 a, .int .i64 b, .int .i64 c, .int .u64 im]] W fun e w' => e = .returned (.tuple #[.agg #[.int .i64 a, .int .i64 c], .bool true]) ∧ Below W.heap.size W w') := hQ (fun W => by have h := refwrites10_any (.int .i64 prm) (.int .i64 sz) (.slice (some ad2) nc ci) ⟨(o : Int), a, b, c, im⟩ W; have hp : wrP ⟨(o : Int), a, b, c, im⟩ = (a, c, true) := (by unfold wrP; rw [if_pos (by dsimp only; omega)]); rw [hp] at h; exact h)
              clear h16
              rcases hsz : sizeB c with _ | _
              · have HSZ : Hid (∀ W, Calls Tryz.prog 88 #[.int .i64 c] W fun e w' => e = .returned (.bool false) ∧ W = w') := hQ (fun W => by have h := refsize_any c hcx.1 hcx.2 W; rw [hsz] at h; exact h)
                have HE : Hid (inE nf prm sz nc ⟨(o : Int), a, b, c, im⟩ = 5) := hQ (by rw [HEI.out, if_pos (by rw [hmb, hsz]; rfl)])
                go_wp2_with (first | (go_at_call 108; (with_reducible refine (HMM.out _).mono ?_); rintro e v1 ⟨rfl, rfl⟩) | (go_at_call 88; (with_reducible refine (HSZ.out _).mono ?_); rintro e v1 ⟨rfl, rfl⟩))
                go_ret
                exact ⟨ret_int (by rw [HE.out]), HB4.out⟩
              · have HSZ : Hid (∀ W, Calls Tryz.prog 88 #[.int .i64 c] W fun e w' => e = .returned (.bool true) ∧ W = w') := hQ (fun W => by have h := refsize_any c hcx.1 hcx.2 W; rw [hsz] at h; exact h)
                go_upto_region 14 with (first | (go_at_call 108; (with_reducible refine (HMM.out _).mono ?_); rintro e v1 ⟨rfl, rfl⟩) | (go_at_call 88; (with_reducible refine (HSZ.out _).mono ?_); rintro e v1 ⟨rfl, rfl⟩))
                go_upto_region 15 with (go_at_call 109; (with_reducible refine (HRD.out _).mono ?_); rintro e u5 ⟨rfl, bel5⟩)
                obtain ⟨V5, hV5⟩ : ∃ V, V = u5.alloc (.cells #[.int .i64 0, .int .i64 0] 139) := ⟨_, rfl⟩
                rw [← hV5]
                have hbl5 : Below w4.heap.size w4 V5 := by rw [hV5]; exact bel5.alloc bel5.size _
                have HKI5 : Hid (Blk V5 u5.heap.size 139 #[.int .i64 0, .int .i64 0]) := hQ (by rw [hV5]; exact Blk.new _ _ _)
                have HB5 := hQ (HB4.out.trans (hbl5.mono HB4.out.size))
                have HKX5 := hQ (HKX4.out.after hbl5)
                have HKF5 := hQ (HKF4.out.after hbl5)
                obtain ⟨gi5, hgi5⟩ : ∃ g, g = u5.heap.size := ⟨_, rfl⟩
                rw [← hgi5] at HKI5 ⊢
                clear hV5 bel5 hbl5 hgi5 x0 x1 x2 x3 x4 xz f0 f1 f2 fz
                obtain ⟨x0, x1, x2, x3, x4, -, -, -, -, -, xz⟩ := HKX5.out.c5
                obtain ⟨f0, f1, f2, -, -, -, fz⟩ := HKF5.out.c3
                obtain ⟨i0, i1, -, -, iz⟩ := HKI5.out.c2
                go_upto_region 17 with (fail)
                clear i0 i1 iz
                obtain ⟨w6, hw6⟩ : ∃ w', w' = V5 := ⟨_, rfl⟩
                rw [← hw6]
                have HB6 := HB5
                have HKX6 := HKX5
                have HKF6 := HKF5
                rw [← hw6] at HB6 HKX6 HKF6
                clear hw6 x0 x1 x2 x3 x4 xz f0 f1 f2 fz
                obtain ⟨x0, x1, x2, x3, x4, -, -, -, -, -, xz⟩ := HKX6.out.c5
                obtain ⟨f0, f1, f2, -, -, -, fz⟩ := HKF6.out.c3
                go_upto_region 18 with (go_at_call 110; (with_reducible refine (HWR.out _).mono ?_); rintro e u7 ⟨rfl, bel7⟩)
                obtain ⟨V7, hV7⟩ : ∃ V, V = u7.alloc (.cells #[.int .i64 a, .int .i64 c] 139) := ⟨_, rfl⟩
                rw [← hV7]
                have hbl7 : Below w6.heap.size w6 V7 := by rw [hV7]; exact bel7.alloc bel7.size _
                have HKI7 : Hid (Blk V7 u7.heap.size 139 #[.int .i64 a, .int .i64 c]) := hQ (by rw [hV7]; exact Blk.new _ _ _)
                have HB7 := hQ (HB6.out.trans (hbl7.mono HB6.out.size))
                have HKX7 := hQ (HKX6.out.after hbl7)
                have HKF7 := hQ (HKF6.out.after hbl7)
                obtain ⟨gi7, hgi7⟩ : ∃ g, g = u7.heap.size := ⟨_, rfl⟩
                rw [← hgi7] at HKI7 ⊢
                clear hV7 bel7 hbl7 hgi7 x0 x1 x2 x3 x4 xz f0 f1 f2 fz
                obtain ⟨x0, x1, x2, x3, x4, -, -, -, -, -, xz⟩ := HKX7.out.c5
                obtain ⟨f0, f1, f2, -, -, -, fz⟩ := HKF7.out.c3
                obtain ⟨i0, i1, -, -, iz⟩ := HKI7.out.c2
                rcases hin8 : insB a c (sz) with _ | _
                · have HIN : Hid (∀ W, Calls Tryz.prog 62 #[.agg #[.int .i64 a, .int .i64 c], .int .i64 (sz)] W fun e w' => e = .returned (.bool false) ∧ Below W.heap.size W w') := hQ (fun W => by have h := inside03_any a c (sz) W; rw [hin8] at h; exact h)
                  have HE : Hid (inE nf prm sz nc ⟨(o : Int), a, b, c, im⟩ = 4) := hQ (by rw [HEI.out, if_neg (by rw [hmb, hsz]; simp), if_pos (by unfold wildB; simp only [hrd, hwr, hin8]; rfl)])
                  go_wp2_with (go_at_call 62; (with_reducible refine (HIN.out _).mono ?_); rintro e v1 ⟨rfl, bv1⟩)
                  go_ret
                  exact ⟨ret_int (by rw [HE.out]), (HB7.out.trans (bv1.mono HB7.out.size))⟩
                · have HIN : Hid (∀ W, Calls Tryz.prog 62 #[.agg #[.int .i64 a, .int .i64 c], .int .i64 (sz)] W fun e w' => e = .returned (.bool true) ∧ Below W.heap.size W w') := hQ (fun W => by have h := inside03_any a c (sz) W; rw [hin8] at h; exact h)
                  go_upto_region 20 with (go_at_call 62; (with_reducible refine (HIN.out _).mono ?_); rintro e w8 ⟨rfl, bw8⟩)
                  have HB8 := hQ (HB7.out.trans (bw8.mono HB7.out.size))
                  have HKX8 := hQ (HKX7.out.after bw8)
                  have HKF8 := hQ (HKF7.out.after bw8)
                  clear bw8 i0 i1 iz x0 x1 x2 x3 x4 xz f0 f1 f2 fz
                  obtain ⟨x0, x1, x2, x3, x4, -, -, -, -, -, xz⟩ := HKX8.out.c5
                  obtain ⟨f0, f1, f2, -, -, -, fz⟩ := HKF8.out.c3
                  have HE : Hid (inE nf prm sz nc ⟨(o : Int), a, b, c, im⟩ = 0) := hQ (by rw [HEI.out, if_neg (by rw [hmb, hsz]; simp), if_neg (by unfold wildB; simp only [hrd, hwr, hin8]; simp), if_neg (by unfold tgtB; simp only [b20, b21]; simp)])
                  go_wp2
                  go_ret
                  exact ⟨ret_int (by rw [HE.out]), HB8.out⟩
            by_cases h17 : (o : Int) = 17
            · have hmb : memB (o : Int) = true := by rw [h17]; rfl
              have hrd : rdB (o : Int) = true := by rw [h17]; rfl
              have hwr : wrB (o : Int) = true := by rw [h17]; rfl
              have b20 : ((o : Int) == 20) = false := by rw [beq_eq_false_iff_ne]; omega
              have b21 : ((o : Int) == 21) = false := by rw [beq_eq_false_iff_ne]; omega
              have HMM : Hid (∀ W, Calls Tryz.prog 108 #[.int .i64 (o : Int)] W fun e w' => e = .returned (.bool true) ∧ W = w') := hQ (fun W => by have h := refmem10_any (o : Int) W; rw [hmb] at h; exact h)
              have HRD : Hid (∀ W, Calls Tryz.prog 109 #[.agg #[.int .i64 prm, .int .i64 sz, .slice (some ad2) nc ci], .agg #[.int .i64 (o : Int), .int .i64 a, .int .i64 b, .int .i64 c, .int .u64 im]] W fun e w' => e = .returned (.tuple #[.agg #[.int .i64 b, .int .i64 c], .bool true]) ∧ Below W.heap.size W w') := hQ (fun W => by have h := refreads10_any (.int .i64 prm) (.int .i64 sz) (.slice (some ad2) nc ci) ⟨(o : Int), a, b, c, im⟩ W; have hp : rdP ⟨(o : Int), a, b, c, im⟩ = (b, c, true) := (by unfold rdP; rw [if_pos (by dsimp only; omega)]); rw [hp] at h; exact h)
              have HWR : Hid (∀ W, Calls Tryz.prog 110 #[.agg #[.int .i64 prm, .int .i64 sz, .slice (some ad2) nc ci], .agg #[.int .i64 (o : Int), .int .i64 a, .int .i64 b, .int .i64 c, .int .u64 im]] W fun e w' => e = .returned (.tuple #[.agg #[.int .i64 a, .int .i64 c], .bool true]) ∧ Below W.heap.size W w') := hQ (fun W => by have h := refwrites10_any (.int .i64 prm) (.int .i64 sz) (.slice (some ad2) nc ci) ⟨(o : Int), a, b, c, im⟩ W; have hp : wrP ⟨(o : Int), a, b, c, im⟩ = (a, c, true) := (by unfold wrP; rw [if_pos (by dsimp only; omega)]); rw [hp] at h; exact h)
              clear h17
              rcases hsz : sizeB c with _ | _
              · have HSZ : Hid (∀ W, Calls Tryz.prog 88 #[.int .i64 c] W fun e w' => e = .returned (.bool false) ∧ W = w') := hQ (fun W => by have h := refsize_any c hcx.1 hcx.2 W; rw [hsz] at h; exact h)
                have HE : Hid (inE nf prm sz nc ⟨(o : Int), a, b, c, im⟩ = 5) := hQ (by rw [HEI.out, if_pos (by rw [hmb, hsz]; rfl)])
                go_wp2_with (first | (go_at_call 108; (with_reducible refine (HMM.out _).mono ?_); rintro e v1 ⟨rfl, rfl⟩) | (go_at_call 88; (with_reducible refine (HSZ.out _).mono ?_); rintro e v1 ⟨rfl, rfl⟩))
                go_ret
                exact ⟨ret_int (by rw [HE.out]), HB4.out⟩
              · have HSZ : Hid (∀ W, Calls Tryz.prog 88 #[.int .i64 c] W fun e w' => e = .returned (.bool true) ∧ W = w') := hQ (fun W => by have h := refsize_any c hcx.1 hcx.2 W; rw [hsz] at h; exact h)
                go_upto_region 14 with (first | (go_at_call 108; (with_reducible refine (HMM.out _).mono ?_); rintro e v1 ⟨rfl, rfl⟩) | (go_at_call 88; (with_reducible refine (HSZ.out _).mono ?_); rintro e v1 ⟨rfl, rfl⟩))
                go_upto_region 15 with (go_at_call 109; (with_reducible refine (HRD.out _).mono ?_); rintro e u5 ⟨rfl, bel5⟩)
                obtain ⟨V5, hV5⟩ : ∃ V, V = u5.alloc (.cells #[.int .i64 b, .int .i64 c] 139) := ⟨_, rfl⟩
                rw [← hV5]
                have hbl5 : Below w4.heap.size w4 V5 := by rw [hV5]; exact bel5.alloc bel5.size _
                have HKI5 : Hid (Blk V5 u5.heap.size 139 #[.int .i64 b, .int .i64 c]) := hQ (by rw [hV5]; exact Blk.new _ _ _)
                have HB5 := hQ (HB4.out.trans (hbl5.mono HB4.out.size))
                have HKX5 := hQ (HKX4.out.after hbl5)
                have HKF5 := hQ (HKF4.out.after hbl5)
                obtain ⟨gi5, hgi5⟩ : ∃ g, g = u5.heap.size := ⟨_, rfl⟩
                rw [← hgi5] at HKI5 ⊢
                clear hV5 bel5 hbl5 hgi5 x0 x1 x2 x3 x4 xz f0 f1 f2 fz
                obtain ⟨x0, x1, x2, x3, x4, -, -, -, -, -, xz⟩ := HKX5.out.c5
                obtain ⟨f0, f1, f2, -, -, -, fz⟩ := HKF5.out.c3
                obtain ⟨i0, i1, -, -, iz⟩ := HKI5.out.c2
                rcases hin6 : insB b c (sz + 16 * prm) with _ | _
                · have HIN : Hid (∀ W, Calls Tryz.prog 62 #[.agg #[.int .i64 b, .int .i64 c], .int .i64 (sz + 16 * prm)] W fun e w' => e = .returned (.bool false) ∧ Below W.heap.size W w') := hQ (fun W => by have h := inside03_any b c (sz + 16 * prm) W; rw [hin6] at h; exact h)
                  have HE : Hid (inE nf prm sz nc ⟨(o : Int), a, b, c, im⟩ = 4) := hQ (by rw [HEI.out, if_neg (by rw [hmb, hsz]; simp), if_pos (by unfold wildB; simp only [hrd, hwr, hin6]; rfl)])
                  go_wp2_with (go_at_call 62; (with_reducible refine (HIN.out _).mono ?_); rintro e v1 ⟨rfl, bv1⟩)
                  go_ret
                  exact ⟨ret_int (by rw [HE.out]), (HB5.out.trans (bv1.mono HB5.out.size))⟩
                · have HIN : Hid (∀ W, Calls Tryz.prog 62 #[.agg #[.int .i64 b, .int .i64 c], .int .i64 (sz + 16 * prm)] W fun e w' => e = .returned (.bool true) ∧ Below W.heap.size W w') := hQ (fun W => by have h := inside03_any b c (sz + 16 * prm) W; rw [hin6] at h; exact h)
                  go_upto_region 17 with (go_at_call 62; (with_reducible refine (HIN.out _).mono ?_); rintro e w6 ⟨rfl, bw6⟩)
                  have HB6 := hQ (HB5.out.trans (bw6.mono HB5.out.size))
                  have HKX6 := hQ (HKX5.out.after bw6)
                  have HKF6 := hQ (HKF5.out.after bw6)
                  clear bw6 i0 i1 iz x0 x1 x2 x3 x4 xz f0 f1 f2 fz
                  obtain ⟨x0, x1, x2, x3, x4, -, -, -, -, -, xz⟩ := HKX6.out.c5
                  obtain ⟨f0, f1, f2, -, -, -, fz⟩ := HKF6.out.c3
                  go_upto_region 18 with (go_at_call 110; (with_reducible refine (HWR.out _).mono ?_); rintro e u7 ⟨rfl, bel7⟩)
                  obtain ⟨V7, hV7⟩ : ∃ V, V = u7.alloc (.cells #[.int .i64 a, .int .i64 c] 139) := ⟨_, rfl⟩
                  rw [← hV7]
                  have hbl7 : Below w6.heap.size w6 V7 := by rw [hV7]; exact bel7.alloc bel7.size _
                  have HKI7 : Hid (Blk V7 u7.heap.size 139 #[.int .i64 a, .int .i64 c]) := hQ (by rw [hV7]; exact Blk.new _ _ _)
                  have HB7 := hQ (HB6.out.trans (hbl7.mono HB6.out.size))
                  have HKX7 := hQ (HKX6.out.after hbl7)
                  have HKF7 := hQ (HKF6.out.after hbl7)
                  obtain ⟨gi7, hgi7⟩ : ∃ g, g = u7.heap.size := ⟨_, rfl⟩
                  rw [← hgi7] at HKI7 ⊢
                  clear hV7 bel7 hbl7 hgi7 x0 x1 x2 x3 x4 xz f0 f1 f2 fz
                  obtain ⟨x0, x1, x2, x3, x4, -, -, -, -, -, xz⟩ := HKX7.out.c5
                  obtain ⟨f0, f1, f2, -, -, -, fz⟩ := HKF7.out.c3
                  obtain ⟨i0, i1, -, -, iz⟩ := HKI7.out.c2
                  rcases hin8 : insB a c (sz) with _ | _
                  · have HIN : Hid (∀ W, Calls Tryz.prog 62 #[.agg #[.int .i64 a, .int .i64 c], .int .i64 (sz)] W fun e w' => e = .returned (.bool false) ∧ Below W.heap.size W w') := hQ (fun W => by have h := inside03_any a c (sz) W; rw [hin8] at h; exact h)
                    have HE : Hid (inE nf prm sz nc ⟨(o : Int), a, b, c, im⟩ = 4) := hQ (by rw [HEI.out, if_neg (by rw [hmb, hsz]; simp), if_pos (by unfold wildB; simp only [hrd, hwr, hin6, hin8]; rfl)])
                    go_wp2_with (go_at_call 62; (with_reducible refine (HIN.out _).mono ?_); rintro e v1 ⟨rfl, bv1⟩)
                    go_ret
                    exact ⟨ret_int (by rw [HE.out]), (HB7.out.trans (bv1.mono HB7.out.size))⟩
                  · have HIN : Hid (∀ W, Calls Tryz.prog 62 #[.agg #[.int .i64 a, .int .i64 c], .int .i64 (sz)] W fun e w' => e = .returned (.bool true) ∧ Below W.heap.size W w') := hQ (fun W => by have h := inside03_any a c (sz) W; rw [hin8] at h; exact h)
                    go_upto_region 20 with (go_at_call 62; (with_reducible refine (HIN.out _).mono ?_); rintro e w8 ⟨rfl, bw8⟩)
                    have HB8 := hQ (HB7.out.trans (bw8.mono HB7.out.size))
                    have HKX8 := hQ (HKX7.out.after bw8)
                    have HKF8 := hQ (HKF7.out.after bw8)
                    clear bw8 i0 i1 iz x0 x1 x2 x3 x4 xz f0 f1 f2 fz
                    obtain ⟨x0, x1, x2, x3, x4, -, -, -, -, -, xz⟩ := HKX8.out.c5
                    obtain ⟨f0, f1, f2, -, -, -, fz⟩ := HKF8.out.c3
                    have HE : Hid (inE nf prm sz nc ⟨(o : Int), a, b, c, im⟩ = 0) := hQ (by rw [HEI.out, if_neg (by rw [hmb, hsz]; simp), if_neg (by unfold wildB; simp only [hrd, hwr, hin6, hin8]; simp), if_neg (by unfold tgtB; simp only [b20, b21]; simp)])
                    go_wp2
                    go_ret
                    exact ⟨ret_int (by rw [HE.out]), HB8.out⟩
            have hmb : memB (o : Int) = false := by unfold memB; rw [show ((o : Int) == 15) = false by rw [beq_eq_false_iff_ne]; omega, show ((o : Int) == 16) = false by rw [beq_eq_false_iff_ne]; omega, show ((o : Int) == 17) = false by rw [beq_eq_false_iff_ne]; omega]; rfl
            have hrd : rdB (o : Int) = false := by unfold rdB; rw [show ((o : Int) == 15) = false by rw [beq_eq_false_iff_ne]; omega, show ((o : Int) == 17) = false by rw [beq_eq_false_iff_ne]; omega]; rfl
            have hwr : wrB (o : Int) = false := by unfold wrB; rw [show ((o : Int) == 16) = false by rw [beq_eq_false_iff_ne]; omega, show ((o : Int) == 17) = false by rw [beq_eq_false_iff_ne]; omega]; rfl
            have HMM : Hid (∀ W, Calls Tryz.prog 108 #[.int .i64 (o : Int)] W fun e w' => e = .returned (.bool false) ∧ W = w') := hQ (fun W => by have h := refmem10_any (o : Int) W; rw [hmb] at h; exact h)
            have HRD : Hid (∀ W, Calls Tryz.prog 109 #[.agg #[.int .i64 prm, .int .i64 sz, .slice (some ad2) nc ci], .agg #[.int .i64 (o : Int), .int .i64 a, .int .i64 b, .int .i64 c, .int .u64 im]] W fun e w' => e = .returned (.tuple #[.agg #[.int .i64 0, .int .i64 0], .bool false]) ∧ Below W.heap.size W w') := hQ (fun W => by have h := refreads10_any (.int .i64 prm) (.int .i64 sz) (.slice (some ad2) nc ci) ⟨(o : Int), a, b, c, im⟩ W; have hp : rdP ⟨(o : Int), a, b, c, im⟩ = (0, 0, false) := (by unfold rdP; rw [if_neg (by dsimp only; omega)]); rw [hp] at h; exact h)
            have HWR : Hid (∀ W, Calls Tryz.prog 110 #[.agg #[.int .i64 prm, .int .i64 sz, .slice (some ad2) nc ci], .agg #[.int .i64 (o : Int), .int .i64 a, .int .i64 b, .int .i64 c, .int .u64 im]] W fun e w' => e = .returned (.tuple #[.agg #[.int .i64 0, .int .i64 0], .bool false]) ∧ Below W.heap.size W w') := hQ (fun W => by have h := refwrites10_any (.int .i64 prm) (.int .i64 sz) (.slice (some ad2) nc ci) ⟨(o : Int), a, b, c, im⟩ W; have hp : wrP ⟨(o : Int), a, b, c, im⟩ = (0, 0, false) := (by unfold wrP; rw [if_neg (by dsimp only; omega)]); rw [hp] at h; exact h)
            go_upto_region 14 with ((go_at_call 108; (with_reducible refine (HMM.out _).mono ?_); rintro e v1 ⟨rfl, rfl⟩))
            go_upto_region 15 with (go_at_call 109; (with_reducible refine (HRD.out _).mono ?_); rintro e u5 ⟨rfl, bel5⟩)
            obtain ⟨V5, hV5⟩ : ∃ V, V = u5.alloc (.cells #[.int .i64 0, .int .i64 0] 139) := ⟨_, rfl⟩
            rw [← hV5]
            have hbl5 : Below w4.heap.size w4 V5 := by rw [hV5]; exact bel5.alloc bel5.size _
            have HKI5 : Hid (Blk V5 u5.heap.size 139 #[.int .i64 0, .int .i64 0]) := hQ (by rw [hV5]; exact Blk.new _ _ _)
            have HB5 := hQ (HB4.out.trans (hbl5.mono HB4.out.size))
            have HKX5 := hQ (HKX4.out.after hbl5)
            have HKF5 := hQ (HKF4.out.after hbl5)
            obtain ⟨gi5, hgi5⟩ : ∃ g, g = u5.heap.size := ⟨_, rfl⟩
            rw [← hgi5] at HKI5 ⊢
            clear hV5 bel5 hbl5 hgi5 x0 x1 x2 x3 x4 xz f0 f1 f2 fz
            obtain ⟨x0, x1, x2, x3, x4, -, -, -, -, -, xz⟩ := HKX5.out.c5
            obtain ⟨f0, f1, f2, -, -, -, fz⟩ := HKF5.out.c3
            obtain ⟨i0, i1, -, -, iz⟩ := HKI5.out.c2
            go_upto_region 17 with (fail)
            clear i0 i1 iz
            obtain ⟨w6, hw6⟩ : ∃ w', w' = V5 := ⟨_, rfl⟩
            rw [← hw6]
            have HB6 := HB5
            have HKX6 := HKX5
            have HKF6 := HKF5
            rw [← hw6] at HB6 HKX6 HKF6
            clear hw6 x0 x1 x2 x3 x4 xz f0 f1 f2 fz
            obtain ⟨x0, x1, x2, x3, x4, -, -, -, -, -, xz⟩ := HKX6.out.c5
            obtain ⟨f0, f1, f2, -, -, -, fz⟩ := HKF6.out.c3
            go_upto_region 18 with (go_at_call 110; (with_reducible refine (HWR.out _).mono ?_); rintro e u7 ⟨rfl, bel7⟩)
            obtain ⟨V7, hV7⟩ : ∃ V, V = u7.alloc (.cells #[.int .i64 0, .int .i64 0] 139) := ⟨_, rfl⟩
            rw [← hV7]
            have hbl7 : Below w6.heap.size w6 V7 := by rw [hV7]; exact bel7.alloc bel7.size _
            have HKI7 : Hid (Blk V7 u7.heap.size 139 #[.int .i64 0, .int .i64 0]) := hQ (by rw [hV7]; exact Blk.new _ _ _)
            have HB7 := hQ (HB6.out.trans (hbl7.mono HB6.out.size))
            have HKX7 := hQ (HKX6.out.after hbl7)
            have HKF7 := hQ (HKF6.out.after hbl7)
            obtain ⟨gi7, hgi7⟩ : ∃ g, g = u7.heap.size := ⟨_, rfl⟩
            rw [← hgi7] at HKI7 ⊢
            clear hV7 bel7 hbl7 hgi7 x0 x1 x2 x3 x4 xz f0 f1 f2 fz
            obtain ⟨x0, x1, x2, x3, x4, -, -, -, -, -, xz⟩ := HKX7.out.c5
            obtain ⟨f0, f1, f2, -, -, -, fz⟩ := HKF7.out.c3
            obtain ⟨i0, i1, -, -, iz⟩ := HKI7.out.c2
            go_upto_region 20 with (fail)
            clear i0 i1 iz
            obtain ⟨w8, hw8⟩ : ∃ w', w' = V7 := ⟨_, rfl⟩
            rw [← hw8]
            have HB8 := HB7
            have HKX8 := HKX7
            have HKF8 := HKF7
            rw [← hw8] at HB8 HKX8 HKF8
            clear hw8 x0 x1 x2 x3 x4 xz f0 f1 f2 fz
            obtain ⟨x0, x1, x2, x3, x4, -, -, -, -, -, xz⟩ := HKX8.out.c5
            obtain ⟨f0, f1, f2, -, -, -, fz⟩ := HKF8.out.c3
            by_cases h20 : (o : Int) = 20
            · have b20 : ((o : Int) == 20) = true := by rw [beq_iff_eq]; exact h20
              have b21 : ((o : Int) == 21) = false := by rw [beq_eq_false_iff_ne]; omega
              clear h20
              rcases htg : inB a nc with _ | _
              · have HWN : Hid (∀ W, Calls Tryz.prog 74 #[.int .i64 a, .int .i64 (nc : Int)] W fun e w' => e = .returned (.bool false) ∧ W = w') := hQ (fun W => by have h := refwithin10_any a (nc : Int) W; rw [htg] at h; exact h)
                have HE : Hid (inE nf prm sz nc ⟨(o : Int), a, b, c, im⟩ = 6) := hQ (by rw [HEI.out, if_neg (by rw [hmb]; simp), if_neg (by unfold wildB; simp only [hrd, hwr]; simp), if_pos (by unfold tgtB; simp only [b20, b21, htg]; rfl)])
                go_wp2_with ((go_at_call 74; (with_reducible refine (HWN.out _).mono ?_); rintro e v1 ⟨rfl, rfl⟩))
                go_ret
                exact ⟨ret_int (by rw [HE.out]), HB8.out⟩
              · have HWN : Hid (∀ W, Calls Tryz.prog 74 #[.int .i64 a, .int .i64 (nc : Int)] W fun e w' => e = .returned (.bool true) ∧ W = w') := hQ (fun W => by have h := refwithin10_any a (nc : Int) W; rw [htg] at h; exact h)
                have HE : Hid (inE nf prm sz nc ⟨(o : Int), a, b, c, im⟩ = 0) := hQ (by rw [HEI.out, if_neg (by rw [hmb]; simp), if_neg (by unfold wildB; simp only [hrd, hwr]; simp), if_neg (by unfold tgtB; simp only [b20, b21, htg]; simp)])
                go_wp2_with ((go_at_call 74; (with_reducible refine (HWN.out _).mono ?_); rintro e v1 ⟨rfl, rfl⟩))
                go_ret
                exact ⟨ret_int (by rw [HE.out]), HB8.out⟩
            have b20 : ((o : Int) == 20) = false := by rw [beq_eq_false_iff_ne]; exact h20
            clear h20
            by_cases h21 : (o : Int) = 21
            · have b21 : ((o : Int) == 21) = true := by rw [beq_iff_eq]; exact h21
              clear h21
              rcases htg : inB b nc with _ | _
              · have HWN : Hid (∀ W, Calls Tryz.prog 74 #[.int .i64 b, .int .i64 (nc : Int)] W fun e w' => e = .returned (.bool false) ∧ W = w') := hQ (fun W => by have h := refwithin10_any b (nc : Int) W; rw [htg] at h; exact h)
                have HE : Hid (inE nf prm sz nc ⟨(o : Int), a, b, c, im⟩ = 6) := hQ (by rw [HEI.out, if_neg (by rw [hmb]; simp), if_neg (by unfold wildB; simp only [hrd, hwr]; simp), if_pos (by unfold tgtB; simp only [b20, b21, htg]; rfl)])
                go_wp2_with ((go_at_call 74; (with_reducible refine (HWN.out _).mono ?_); rintro e v1 ⟨rfl, rfl⟩))
                go_ret
                exact ⟨ret_int (by rw [HE.out]), HB8.out⟩
              · have HWN : Hid (∀ W, Calls Tryz.prog 74 #[.int .i64 b, .int .i64 (nc : Int)] W fun e w' => e = .returned (.bool true) ∧ W = w') := hQ (fun W => by have h := refwithin10_any b (nc : Int) W; rw [htg] at h; exact h)
                have HE : Hid (inE nf prm sz nc ⟨(o : Int), a, b, c, im⟩ = 0) := hQ (by rw [HEI.out, if_neg (by rw [hmb]; simp), if_neg (by unfold wildB; simp only [hrd, hwr]; simp), if_neg (by unfold tgtB; simp only [b20, b21, htg]; simp)])
                go_wp2_with ((go_at_call 74; (with_reducible refine (HWN.out _).mono ?_); rintro e v1 ⟨rfl, rfl⟩))
                go_ret
                exact ⟨ret_int (by rw [HE.out]), HB8.out⟩
            have b21 : ((o : Int) == 21) = false := by rw [beq_eq_false_iff_ne]; exact h21
            clear h21
            have HE : Hid (inE nf prm sz nc ⟨(o : Int), a, b, c, im⟩ = 0) := hQ (by rw [HEI.out, if_neg (by rw [hmb]; simp), if_neg (by unfold wildB; simp only [hrd, hwr]; simp), if_neg (by unfold tgtB; simp only [b20, b21]; simp)])
            go_wp2
            go_ret
            exact ⟨ret_int (by rw [HE.out]), HB8.out⟩
        · have HE : Hid (inE nf prm sz nc ⟨(o : Int), a, b, c, im⟩ = 2) := hQ (by
           unfold inE
           simp only [HO.out, b8, b9, HUN.out]
           rfl)
          go_wp2
          go_ret
          exact ⟨ret_int (by rw [HE.out]), HBN.out⟩
end Go.Proofs.YtcnndoefgjbmiaaGreat.pm
