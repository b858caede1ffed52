/- The draw Target. -/
import Derived.Test.YtcnndoefgjbmiaaGreatGKg
set_option linter.unusedVariables false
set_option maxRecDepth 100000
set_option maxHeartbeats 8000000
namespace Go.Proofs.YtcnndoefgjbmiaaGreat.pm
open Go.RowKit
theorem store_c {nf nc : Nat} {prm sz : Int} {x : Ins} (h : TiOk nf prm sz nc x) (ho : x.op = 16) : 1 ≤ x.c ∧ x.c ≤ 16 := by
 obtain ⟨op, a, b, c, im⟩ := x
 simp only at ho
 subst ho
 obtain ⟨e, -, i0, i1⟩ := h
 simp only at i0 i1
 have him : im = 0 := Decidable.byContradiction (fun h => by simp [inE, inB, unB, opN, h] at e)
 subst him
 have hb : ¬ (b < 0 ∨ 8 ≤ b) := fun h => by simp [inE, inB, unB, opN, regL, outB, h] at e
 have hc : sizeB c = true := by
  rcases hs : sizeB c with _ | _
  · simp [inE, inB, unB, opN, regL, outB, memB, hs, hb] at e
  · rfl
 have := (sizeB_iff c).1 hc
 show 1 ≤ c ∧ c ≤ 16
 omega
def TgtDr (B cb : Nat) (A : Option Addr) (n c : Nat) (l : List Nat) (most : Nat) (w : World) (e : Ending) (w' : World) : Prop :=
 ∃ (al : Int) (t : List Fr) (At : Option Addr) (ct p' : Nat), e = .returned (.agg #[.int .i64 al, .slice At t.length ct]) ∧ TgP most al t ∧ GT w' w.heap.size w'.heap.size At t ∧ t.length ≤ ct ∧ CodesAt w' B cb A n c l p' ∧ w.grownBy w' (some cb)
theorem own_cell {w : World} {base g n cap size : Nat} {e : TypeId} {xs : List Value} (h : w.ownsRow base e size (.slice (some ⟨g, 0, none⟩) n cap) n xs) {i : Nat} {v : Value} (hv : xs[i]? = some v) : w.cell? ⟨g, i, none⟩ = some v := by
 have h1 := h.cells (g := g) rfl i v hv
 have e : (⟨g, 0, none⟩ : Addr).add i = ⟨g, i, none⟩ := by unfold Addr.add; by_cases hj : i = 0 <;> simp [hj]
 rwa [e] at h1
theorem own_ins {w : World} {base g n cap k : Nat} {e : TypeId} {l : List Ins} (h : w.ownsRow base e 5 (.slice (some ⟨g, 0, none⟩) n cap) n (inV l)) (hk : k < l.length) : w.cell? ⟨g, k * 5, none⟩ = some (.int .i64 (l.getD k Ins.z).op) ∧ w.cell? ⟨g, k * 5 + 1, none⟩ = some (.int .i64 (l.getD k Ins.z).a) ∧ w.cell? ⟨g, k * 5 + 2, none⟩ = some (.int .i64 (l.getD k Ins.z).b) ∧ w.cell? ⟨g, k * 5 + 3, none⟩ = some (.int .i64 (l.getD k Ins.z).c) ∧ w.cell? ⟨g, k * 5 + 4, none⟩ = some (.int .u64 (l.getD k Ins.z).imm) := by
 have g0 : ∀ j, j < 5 → (inV l)[k * 5 + j]? = (icells (l.getD k Ins.z))[j]? := fun j hj => flat_get icells_len Ins.z l k j hk hj
 exact ⟨own_cell h (g0 0 (by omega)), own_cell h (g0 1 (by omega)), own_cell h (g0 2 (by omega)), own_cell h (g0 3 (by omega)), own_cell h (g0 4 (by omega))⟩
theorem own_farR {w w' : World} {base n size cb : Nat} {e : TypeId} {v : Value} {xs : List Value} (h : w.ownsRow base e size v n xs) (hg : w.grownBy w' (some cb)) (hlt : cb < base) : w'.ownsRow base e size v n xs :=
 h.kept hg (by
  rcases hq : v.ownBlock with _ | k
  · exact .inl rfl
  · exact .inr (fun e => by injection e with e; have := (h.lt k hq).1; omega))
theorem target_d (B cb : Nat) (A : Option Addr) (n c : Nat) (l : List Nat) (p : Nat) (funcs most : Nat) (w : World) (h : CodesAt w B cb A n c l p) (hf1 : 1 ≤ funcs) (hf : funcs ≤ 80) (hmost : most ≤ 12) :
 Calls Tryz.prog 14 #[.pointer (some ⟨cb, 0, none⟩), .int .i64 (funcs : Int), .int .i64 (most : Int)] w (TgtDr B cb A n c l funcs w) := by
 obtain ⟨i1, hi1, hy0, hy1, hy2⟩ := info_parts info_frm
 obtain ⟨i2, hi2, hw0, hw1, hw2⟩ := info_parts info_ins
 have hcbw := h.1.lt
 obtain ⟨W1, hW1⟩ : ∃ W1, W1 = w.alloc (.cells #[.int .i64 0, .slice none 0 0] 26) := ⟨_, rfl⟩
 have HR1 : Hid (Blk W1 w.heap.size 26 #[.int .i64 0, .slice none 0 0]) := hQ (by rw [hW1]; exact Blk.new _ _ _)
 have HG1 : Hid (w.grownBy W1 (some cb)) := hQ (by rw [hW1]; exact World.grownBy_alloc w _ _)
 have HPD := hQ (program_d B cb A n c l p funcs most W1 (by rw [hW1]; exact h.alloc _) hf1 (by omega) hmost)
 have hz1 : w.heap.size < W1.heap.size := HR1.out.lt
 have HW1 := hQ hW1
 clear hW1 h
 go_enter Tryz.func14, Tryz.ntmps14
 go_upto_region 1 with (fail)
 rw [← HW1.out]
 clear HW1
 go_wp2_with fail
 refine HPD.out.mono ?_
 rintro e w2 ⟨pr, Ap, cp, p2, rfl, hpr, hcp, hfx, hc2, hg2⟩
 have hz2 := hg2.size
 have HC2 := hQ hc2
 have HF2 := hQ hfx
 have HG2 : Hid (w.grownBy w2 (some cb)) := hQ (grownBy_trans HG1.out hg2)
 have HR2 : Hid (Blk w2 w.heap.size 26 #[.int .i64 0, .slice none 0 0]) := hQ (HR1.out.grown hg2 (by intro e; injection e; omega))
 have hok := hpr
 have hpl : pr.length ≤ funcs := hpr.2.1
 have hpl1 : 1 ≤ pr.length := hpr.1
 clear hc2 hfx hg2 HG1 HR1 HPD
 go_upto_region 2 with (fail)
 obtain ⟨W3, hW3⟩ : ∃ W3, W3 = w2.alloc (.cells #[.slice Ap pr.length cp] 78) := ⟨_, rfl⟩
 rw [← hW3]
 have hb3 : Below w2.heap.size w2 W3 := by rw [hW3]; exact Below.al bR _
 have HP3 : Hid (Blk W3 w2.heap.size 78 #[.slice Ap pr.length cp]) := hQ (by rw [hW3]; exact Blk.new _ _ _)
 have HC3 := hQ (HC2.out.after hb3)
 have HF3 : Hid (Fx W3 W1.heap.size w2.heap.size Ap pr) := hQ (HF2.out.keep (Kp.of_below hb3 nL))
 have HG3 : Hid (w.grownBy W3 (some cb)) := hQ (grownBy_trans HG2.out (grownBy_of_below hb3 _))
 have HR3 := hQ (HR2.out.after hb3)
 have hz3 : w2.heap.size < W3.heap.size := HP3.out.lt
 clear hW3 hb3 HC2 HF2 HG2 HR2
 generalize w2.heap.size = gP at *
 have hmx : pr.length ≤ maxLen := by unfold maxLen; omega
 have HAL := hQ (refprogalign_any Ap pr cp W3 _ _ HF3.out (by omega) hmx (fun i hi s hs => by
  have := (hok.2.2.2 _ (getD_mem' (z := Fn.z) hi)).2.2.2.1 s hs
  have h2 := slot_nums this
  unfold I64
  omega))
 have hao := alP_ok hok
 obtain ⟨al, hal⟩ : ∃ al, al = alP pr := ⟨_, rfl⟩
 rw [← hal] at HAL hao
 clear hal
 obtain ⟨x0, -, xz⟩ := blk_one HP3.out
 go_wp2_with fail
 refine HAL.out.mono ?_
 rintro e w4 ⟨rfl, bel4⟩
 have HP4 := hQ (HP3.out.after bel4)
 have HC4 := hQ (HC3.out.after bel4)
 have HF4 : Hid (Fx w4 W1.heap.size gP Ap pr) := hQ (HF3.out.keep (Kp.of_below bel4 (by omega)))
 have HG4 : Hid (w.grownBy w4 (some cb)) := hQ (grownBy_trans HG3.out (grownBy_of_below bel4 _))
 have HR4 := hQ (HR3.out.after bel4)
 have hz4 := bel4.size
 clear bel4 x0 xz HP3 HC3 HF3 HG3 HR3 HAL
 obtain ⟨x0, -, xz⟩ := blk_one HP4.out
 have HBL := hQ (baselines_any Ap pr cp funcs al hao hok w4 _ _ HF4.out (by omega) (by omega))
 go_wp2_with fail
 refine HBL.out.mono ?_
 rintro e w5 ⟨Al, cl, rfl, hlx, -, -, bel5⟩
 rw [List.length_map]
 have HP5 := hQ (HP4.out.after bel5)
 have HC5 := hQ (HC4.out.after bel5)
 have HF5 : Hid (Fx w5 W1.heap.size gP Ap pr) := hQ (HF4.out.keep (Kp.of_below bel5 (by omega)))
 have HG5 : Hid (w.grownBy w5 (some cb)) := hQ (grownBy_trans HG4.out (grownBy_of_below bel5 _))
 have HR5 := hQ (HR4.out.after bel5)
 have HL5 := hQ hlx
 have hz5 := bel5.size
 clear bel5 x0 xz hlx HP4 HC4 HF4 HG4 HR4 HBL
 obtain ⟨x0, -, xz⟩ := blk_one HP5.out
 have HTG := hQ (target26_any Ap Al pr cp cl funcs al hao hok w5 _ _ _ _ HF5.out HL5.out (by omega) nL (by omega))
 go_wp2_with fail
 refine HTG.out.mono ?_
 rintro e w6 ⟨At, ct, rfl, hgt, -, -, bel6⟩
 rw [List.length_map]
 have HC6 := hQ (HC5.out.after bel6)
 have HG6 : Hid (w.grownBy w6 (some cb)) := hQ (grownBy_trans HG5.out (grownBy_of_below bel6 _))
 have HR6 := hQ (HR5.out.after bel6)
 have hz6 := bel6.size
 have HT6 := hQ hgt
 clear bel6 x0 xz hgt HP5 HC5 HF5 HG5 HR5 HL5 HTG
 go_upto_region 5 with (fail)
 obtain ⟨W7, hW7⟩ : ∃ W7, W7 = w6.alloc (.cells #[.int .i64 al, .slice At pr.length ct] 26) := ⟨_, rfl⟩
 rw [← hW7]
 have hb7 : Below w6.heap.size w6 W7 := by rw [hW7]; exact Below.al bR _
 have HK7 : Hid (Blk W7 w6.heap.size 26 #[.int .i64 al, .slice At pr.length ct]) := hQ (by rw [hW7]; exact Blk.new _ _ _)
 have HC7 := hQ (HC6.out.after hb7)
 have HR7 := hQ (HR6.out.after hb7)
 have HG7 : Hid (w.grownBy W7 (some cb)) := hQ (grownBy_trans HG6.out (grownBy_of_below hb7 _))
 have hT7 := HT6.out.keep (Kp.of_below hb7 nL)
 have hz7 : w6.heap.size < W7.heap.size := HK7.out.lt
 clear hW7 hb7 HC6 HR6 HG6 HT6
 generalize w6.heap.size = gT at *
 obtain ⟨vs0, hrx, hwx, htx⟩ := hT7
 rw [List.length_map] at hrx htx
 obtain ⟨N, hN⟩ : ∃ N, N = pr.length := ⟨_, rfl⟩
 obtain ⟨T0, hT0⟩ : ∃ T0, T0 = pr.map (lowF pr al) := ⟨_, rfl⟩
 have HTI : Hid (TInv al (pr.map Fn.params) T0) := hQ (by rw [hT0]; exact tinv_start hf hok hao)
 have hTN : T0.length = N := by rw [hT0, List.length_map, hN]
 obtain ⟨ps, hps⟩ : ∃ ps, ps = pr.map Fn.params := ⟨_, rfl⟩
 have HFIN : Hid (∀ t, TInv al ps t → TgP funcs al t) := hQ (fun t ht => tgp_of hok hao (by rw [← hps]; exact ht))
 rw [← hps] at HTI
 rw [← hT0] at hwx
 rw [← hN] at hrx htx HK7 hpl hpl1 ⊢
 have hvl0 : vs0.length = N * 3 := hrx.1.1
 have hone0 : ∀ u ∈ vs0, u.oneCell' = true := by
  intro u hu
  obtain ⟨j, hj, rfl⟩ := List.mem_iff_getElem.1 hu
  obtain ⟨Ai, ci, h1, h2, h3, _⟩ := hwx (j / 3) (by omega)
  have hj3 : j = j / 3 * 3 ∨ j = j / 3 * 3 + 1 ∨ j = j / 3 * 3 + 2 := by omega
  have e : vs0[j]? = some vs0[j] := List.getElem?_eq_getElem hj
  generalize vs0[j] = u at e ⊢
  rcases hj3 with h0 | h0 | h0 <;> rw [h0] at e
  · rw [h1] at e; injection e with e; rw [← e]; rfl
  · rw [h2] at e; injection e with e; rw [← e]; rfl
  · rw [h3] at e; injection e with e; rw [← e]; rfl
 have HW7 : Hid (Wx W7 w.heap.size W7.heap.size vs0 T0 ∧ Tx W7 vs0 N) := hQ ⟨hwx.more (by omega) (by omega), htx⟩
 have HRX := hQ hrx
 have HONE := hQ hone0
 have hNi : (N : Int) ≤ 9223372036854775807 := by omega
 have hgrw : w.heap.size ≤ W7.heap.size := by omega
 clear hrx hwx htx hone0 hN hT0 hps hok hpr hao hmx hcp
 obtain ⟨k0, k1, -, -, kz⟩ := HK7.out.c2
 go_wp2_with (at_builtin
              refine wpList_append_any _ rfl (.const (.slice none 0 0)) (.tmp 38) _ rfl (gT + 1) 53 i1 _ 3 40 Tryz.underlying24 hi1 hy0 hy1 hy2 rfl (by omega) (.slice none 0 0) 0 [] rfl (World.ownsRow_nil _ _ _ _) W7.heap.size At N ct vs0 rfl (Reads.more HRX.out.1 (by omega)) HONE.out (by unfold maxLen; omega) (by omega) (by omega) ?_
              intro vF w8 own8 hg8 hat8
              have K8 : Hid (Kp 0 W7.heap.size W7 w8) := hQ (Kp.of_grownR hg8 nL (fun j hj => by simp [Value.ownBlock] at hj))
              have hz8 := hg8.size
              have HG8 : Hid (w.grownBy w8 (some cb)) := hQ (grownBy_step HG7.out hg8 (fun j e => by simp [Value.ownBlock] at e))
              have HC8 := hQ (HC7.out.grown' hg8 (by simp [Value.ownBlock]) (fun k e => by simp [Value.ownBlock] at e)))
 have HR8 : Hid (Blk w8 w.heap.size 26 #[.int .i64 0, .slice none 0 0]) := hQ (Blk.kp HR7.out K8.out (Nat.zero_le _) (by omega))
 have HK8 : Hid (Blk w8 gT 26 #[.int .i64 al, .slice At N ct]) := hQ (Blk.kp HK7.out K8.out (Nat.zero_le _) hz7)
 have HW8 : Hid (Wx w8 w.heap.size w8.heap.size vs0 T0 ∧ Tx w8 vs0 N) := hQ (by
  have h1 := Wx.keepK HW7.out.1 (by rw [hTN]; exact HW7.out.2) (Kp.less K8.out (Nat.zero_le _) nL)
  rw [hTN] at h1
  exact ⟨h1.1.more nL hz8, h1.2⟩)
 have own8' : w8.ownsRow (gT + 1) 53 3 vF N vs0 := by
  have h1 := own8
  rw [Nat.zero_add] at h1
  exact h1
 obtain ⟨Af, cf, rfl, -⟩ := own_form own8'
 have hcf := (own_cap own8').2
 clear own8 hg8 hat8 HC7 HR7 HG7 HK7 HW7 HRX HONE K8 k0 k1 kz
 go_loopw [14] (fun v wr => ∃ (j : Nat) (vs : List Value) (T : List Fr) (p' : Nat), j ≤ N ∧ v = .int .i64 j ∧ wr.ownsRow (gT + 1) 53 3 (.slice Af N cf) N vs ∧ T.length = N ∧ Hid (Wx wr w.heap.size wr.heap.size vs T ∧ Tx wr vs N) ∧ Hid (TInv al ps T) ∧ CodesAt wr B cb A n c l p' ∧ Hid (w.grownBy wr (some cb)) ∧ Hid (Blk wr w.heap.size 26 #[.int .i64 0, .slice none 0 0]) ∧ Hid (Blk wr gT 26 #[.int .i64 al, .slice At N ct])) (fun v _ => N - (intOf v).toNat)
 case atStart => exact ⟨0, vs0, T0, _, by omega, rfl, own8', hTN, HW8, HTI, HC8.out, HG8, HR8, HK8⟩
 case round =>
  clear own8' HW8 HTI HC8 HG8 HR8 HK8 hTN
  obtain ⟨j, vs, T, p9, hj, rfl, own, hTl, HW, HTI, hca, HG, HR, HK⟩ := hrel
  have hj0 : (0 : Int) ≤ (j : Int) := by omega
  have hvl : vs.length = N * 3 := own.1
  by_cases hlt : j < N
  · have hji : (j : Int) < (N : Int) := by omega
    obtain ⟨gv, capv, hve, hgb, hgl⟩ := own.form (by omega)
    have hAf : Af = some ⟨gv, 0, none⟩ := by injection hve
    subst hAf
    generalize wr = wo at *
    have hgv1 : gT + 1 ≤ gv := hgb
    have hlt0 : cb < w.heap.size := hcbw
    obtain ⟨Ai, ci, h1, h2, h3, hnx, hml, hcl⟩ := HW.out.1 j (by omega)
    obtain ⟨f, hfe⟩ : ∃ f, f = T.getD j Fr.z := ⟨_, rfl⟩
    rw [← hfe] at h1 h2 h3 hnx hml hcl
    obtain ⟨prm, sz, code⟩ := f
    simp only at h1 h2 h3 hnx hml hcl
    have HFE : Hid ((⟨prm, sz, code⟩ : Fr) = T.getD j Fr.z) := hQ hfe
    have hfp := HTI.out.2 _ (getD_mem' (z := Fr.z) (show j < T.length by omega))
    rw [← hfe] at hfp
    have hsz0 : 0 ≤ sz := hfp.2.2.1
    have hsz1 : sz ≤ 671 := hfp.2.2.2.1
    have hL200 : code.length ≤ 200 := hfp.2.2.2.2.2.2.1
    have hcok := CurOk.of hfp
    simp only at hcok
    obtain ⟨L, hL⟩ : ∃ L, L = code.length := ⟨_, rfl⟩
    have HLE : Hid (code.length = L) := hQ hL.symm
    rw [← hL] at h3 hcok hml hcl hL200
    have HV2 := hQ h3
    have HNX := hQ hnx
    have HCO := hQ hcok
    have OWN := hQ own
    have HVL := hQ hvl
    have b1 := own_cell own h2
    have b2 := own_cell own h3
    have HB1 := hQ h2
    have HLi : (L : Int) ≤ 9223372036854775807 := by omega
    have HCA := hQ hca
    have hzr : W7.heap.size ≤ wo.heap.size + W7.heap.size := by omega
    have hgtr : gT + 1 ≤ wo.heap.size := by have := OWN.out.lt gv rfl; omega
    clear h1 h2 h3 hnx hfp hcok hfe hL own hca hve
    have hrd : Reads wo wo.heap.size 5 Ai L (inV code) := by have := HNX.out.1; rwa [HLE.out] at this
    go_upto_region 9 with (fail)
    go_wp2_with (at_builtin
                 refine wpList_append_any _ rfl (.const (.slice none 0 0)) (.tmp 50) _ rfl wo.heap.size 50 i2 _ 5 40 Tryz.underlying51 hi2 hw0 hw1 hw2 rfl (by omega) (.slice none 0 0) 0 [] rfl (World.ownsRow_nil _ _ _ _) wo.heap.size Ai L ci (inV code) rfl hrd (inV_one code) (by unfold maxLen; omega) (by omega) nL ?_
                 intro vC wa owna hga hata
                 have HGA : Hid (wo.grownBy wa (some cb)) := hQ (grownBy_of_below (bR.grown hga nL (by simp [Value.ownBlock])) _)
                 have HCAa := hQ (HCA.out.grown' hga (by simp [Value.ownBlock]) (fun k e => by simp [Value.ownBlock] at e))
                 have ownb := owna
                 rw [Nat.zero_add] at ownb
                 obtain ⟨Ac, cc, rfl, -⟩ := own_form ownb
                 have OC : Hid (wa.ownsRow wo.heap.size 50 5 (.slice Ac L cc) L (inV code)) := hQ ownb
                 clear owna hga hata ownb b1 b2 HCA)
    go_loopw [16] (fun v wq => ∃ (k : Nat) (cur : List Ins) (p' : Nat), k ≤ L ∧ v = .int .i64 k ∧ wq.ownsRow wo.heap.size 50 5 (.slice Ac L cc) L (inV cur) ∧ Hid (CurOk ps prm sz L cur) ∧ CodesAt wq B cb A n c l p' ∧ Hid (wo.grownBy wq (some cb))) (fun v _ => L - (intOf v).toNat)
    case atStart => exact ⟨0, code, _, by omega, rfl, OC.out, HCO, HCAa.out, HGA⟩
    case round =>
     clear OC HCAa HGA HCO
     obtain ⟨k, cur, p10, hk, rfl, ownc, HCO, hcq, HGq⟩ := hrel
     have hk0 : (0 : Int) ≤ (k : Int) := by omega
     by_cases hkl : k < L
     · have hki : (k : Int) < (L : Int) := by omega
       have hN := hQ (next_d B cb A n c l p10 3 wr hcq (by omega) (by omega))
       go_wp2_with fail
       refine hN.out.mono ?_
       rintro e w10 ⟨v, p11, hv, rfl, hc10, hg10⟩
       have HG10 : Hid (wo.grownBy w10 (some cb)) := hQ (grownBy_trans HGq.out hg10)
       have own10 := own_farR ownc hg10 (by have := hgtr; omega)
       have hz10 := HG10.out.size
       clear hg10 hN ownc
       by_cases hv2 : v = 2
       · subst hv2
         have hcl10 := HCO.out.1
         have hkc : k < cur.length := by omega
         have hfe : ∃ gc, Ac = some ⟨gc, 0, none⟩ ∧ wo.heap.size ≤ gc := by
          obtain ⟨gc, cap, hve, hgb2, _⟩ := own10.form (by omega)
          exact ⟨gc, by injection hve, hgb2⟩
         obtain ⟨gc, hgc, hgcb⟩ := hfe
         subst hgc
         obtain ⟨c0, c1, c2, c3, c4⟩ := own_ins own10 hkc
         have hti := HCO.out.2.1 _ (getD_mem' (z := Ins.z) hkc)
         obtain ⟨x, hx⟩ : ∃ x, x = cur.getD k Ins.z := ⟨_, rfl⟩
         rw [← hx] at c0 c1 c2 c3 c4 hti
         obtain ⟨op, xa, xb, xc, im⟩ := x
         simp only at c0 c1 c2 c3 c4
         have HX := hQ hx
         have HTI1 := hQ hti.1
         clear hx hti
         go_upto_region 14 with (fail)
         obtain ⟨W11, hW11⟩ : ∃ W11, W11 = w10.alloc (.cells #[.int .i64 op, .int .i64 xa, .int .i64 xb, .int .i64 xc, .int .u64 im] 50) := ⟨_, rfl⟩
         rw [← hW11]
         have HKX : Hid (Blk W11 w10.heap.size 50 #[.int .i64 op, .int .i64 xa, .int .i64 xb, .int .i64 xc, .int .u64 im]) := hQ (by rw [hW11]; exact Blk.new _ _ _)
         have HC11 : Hid (CodesAt W11 B cb A n c l p11) := hQ (by rw [hW11]; exact hc10.alloc _)
         have HG11 : Hid (wo.grownBy W11 (some cb)) := hQ (by rw [hW11]; exact grownBy_al HG10.out _)
         have OC11 : Hid (W11.ownsRow wo.heap.size 50 5 (.slice (some ⟨gc, 0, none⟩) L cc) L (inV cur)) := hQ (by rw [hW11]; exact own10.alloc _)
         have hgcl : gc < w10.heap.size := (own10.lt gc rfl).2
         have OF11 : Hid (W11.ownsRow (gT + 1) 53 3 (.slice (some ⟨gv, 0, none⟩) N cf) N vs) := hQ (own_farR OWN.out HG11.out (by omega))
         have hgvl : gv < wo.heap.size := (OWN.out.lt gv rfl).2
         clear hW11 c0 c1 c2 c3 c4 own10 hc10 HG10
         generalize w10.heap.size = gx at *
         obtain ⟨x0, x1, x2, x3, x4, -, -, -, -, -, xz⟩ := HKX.out.c5
         have s1 := own_cell OF11.out HB1.out
         by_cases o16 : op = 16
         · subst o16
           have hstc := store_c HTI1.out rfl
           simp only at hstc
           obtain ⟨hxc1, hxc2⟩ := hstc
           have hjN : (j : Int) < (N : Int) := hji
           by_cases hsc : xc ≤ sz
           · have hscb : decide (xc ≤ sz) = true := by simpa using hsc
             go_wp2_with fail
             go_quiet (fail)
             have HC12 : Hid (CodesAt (W11.drewN nq) B cb A n c l p11) := hQ HC11.out
             have HG12 : Hid (wo.grownBy (W11.drewN nq) (some cb)) := hQ (grownBy_trans HG11.out (grownBy_drewN' _ _ _))
             have OC12 : Hid ((W11.drewN nq).ownsRow wo.heap.size 50 5 (.slice (some ⟨gc, 0, none⟩) L cc) L (inV cur)) := hQ OC11.out
             have OF12 : Hid ((W11.drewN nq).ownsRow (gT + 1) 53 3 (.slice (some ⟨gv, 0, none⟩) N cf) N vs) := hQ OF11.out
             have KX12 : Hid (Blk (W11.drewN nq) gx 50 #[.int .i64 16, .int .i64 xa, .int .i64 xb, .int .i64 xc, .int .u64 im]) := hQ HKX.out
             clear x0 x1 x2 x3 x4 xz s1 HC11 HG11 OC11 OF11 HKX
             generalize W11.drewN nq = W12 at *
             obtain ⟨-, -, -, x3, -, -, -, -, -, -, xz⟩ := KX12.out.c5
             have s1 := own_cell OF12.out HB1.out
             have HS12 : Hid (W12.drew.cell? ⟨gv, j * 3 + 1, none⟩ = some (.int .i64 sz) ∧ W12.drew.cell? ⟨gx, 3, none⟩ = some (.int .i64 xc)) := hQ ⟨s1, x3⟩
             have HN2 := hQ (next_d B cb A n c l p11 (sz - xc + 1) W12.drew HC12.out (by omega) (by omega))
             have hwr1 : IntKind.i64.wrap (sz - xc) = sz - xc := IntWalk.i64_in _ (by omega)
             have hwr2 : IntKind.i64.wrap (sz - xc + 1) = sz - xc + 1 := IntWalk.i64_in _ (by omega)
             go_wp2_with fail
             go_region_held3 (fun W => W.cell? ⟨gv, j * 3 + 1, none⟩ = some (.int .i64 sz) ∧ W.cell? ⟨gx, 3, none⟩ = some (.int .i64 xc))
              (with_reducible first | exact HS12.out | exact HS13.out | exact HS14.out _)
              ((go_at_call 7
                (with_reducible refine HN2.out.mono ?_)
                rintro e w13 ⟨u, p13, hu, rfl, hc13, hg13⟩
                have HG13 : Hid (wo.grownBy w13 (some cb)) := hQ (grownBy_trans (grownBy_trans HG12.out (show W12.grownBy W12.drew (some cb) from grownBy_drewN' W12 1 _)) hg13)
                have OC13 := hQ (own_farR (w := W12.drew) OC12.out hg13 (by omega))
                have OF13 := hQ (own_farR (w := W12.drew) OF12.out hg13 (by omega))
                have KX13 := hQ (Blk.grown (w := W12.drew) KX12.out hg13 (by intro e; injection e; omega))
                have HC13 := hQ hc13
                have HU := hQ hu
                obtain ⟨-, -, -, xx3, -, -, -, -, -, -, -⟩ := KX13.out.c5
                have ss1 := own_cell OF13.out HB1.out
                have HS13 : Hid (w13.cell? ⟨gv, j * 3 + 1, none⟩ = some (.int .i64 sz) ∧ w13.cell? ⟨gx, 3, none⟩ = some (.int .i64 xc)) := hQ ⟨ss1, xx3⟩
                have HS14 : Hid (∀ v, (w13.setCell ⟨gc, k * 5 + 1, none⟩ v).cell? ⟨gv, j * 3 + 1, none⟩ = some (.int .i64 sz) ∧ (w13.setCell ⟨gc, k * 5 + 1, none⟩ v).cell? ⟨gx, 3, none⟩ = some (.int .i64 xc)) := hQ (fun v => ⟨(World.cell?_setCell_other w13 _ _ v (fun e => by injection e; omega)).trans ss1, (World.cell?_setCell_other w13 _ _ v (fun e => by injection e; omega)).trans xx3⟩)
                have y1 := (own_ins OC13.out hkc).2.1
                have y1f := OC13.out.frozenAt (k * 5 + 1)
                clear hc13 hg13 hu xx3 ss1))
             clear hwr1 hwr2
             have hst := OC13.out.stored (k * 5 + 1) (.int .i64 (u : Int))
             rw [inV_setA _ _ _ hkc] at hst
             have hcset := HCO.out.set (u := (u : Int)) hkl (by rw [← HX.out]) (by omega) (by rw [← HX.out]; simp only; have := HU.out; omega) hsz1
             have HCS := hQ (CodesAt.set HC13.out (q := ⟨gc, k * 5 + 1, none⟩) (show cb ≠ gc by omega) (show B ≤ gc by have := HC13.out.2.2.2.1; omega) (.int .i64 (u : Int)))
             have HGS := hQ (grownBy_set HG13.out (p := ⟨gc, k * 5 + 1, none⟩) (show wo.heap.size ≤ gc by omega) (.int .i64 (u : Int)))
             have HOS := hQ hst.1
             have HCC := hQ hcset
             clear hst hcset HS13 HS14 y1 y1f x3 xz s1
             go_wp2
             go_roundw
             case rel => exact ⟨k + 1, _, _, by omega, by go_num, HOS.out, HCC, HCS.out, HGS⟩
             case measure => simp [intOf]; omega
           · have hscb : decide (xc ≤ sz) = false := by simpa using hsc
             go_wp2_with fail
             go_quiet (fail)
             go_wp2
             go_roundw
             case rel => exact ⟨k + 1, cur, _, by omega, by go_num, OC11.out, HCO, HC11.out, (hQ (grownBy_trans HG11.out (grownBy_drewN' _ _ _)))⟩
             case measure => simp [intOf]; omega
         · have o16b : (op == 16) = false := by rw [beq_eq_false_iff_ne]; exact o16
           go_wp2_with fail
           go_quiet (fail)
           go_wp2
           go_roundw
           case rel => exact ⟨k + 1, cur, _, by omega, by go_num, OC11.out, HCO, HC11.out, (hQ (grownBy_trans HG11.out (grownBy_drewN' _ _ _)))⟩
           case measure => simp [intOf]; omega
       · have hv3 : ((v : Int) == 2) = false := by rw [beq_eq_false_iff_ne]; omega
         have OQ : Hid (w10.ownsRow (gT + 1) 53 3 (.slice (some ⟨gv, 0, none⟩) N cf) N vs) := hQ (own_farR OWN.out HG10.out (by omega))
         have WQ : Hid (Wx w10 w.heap.size w10.heap.size vs T ∧ Tx w10 vs N) := hQ (by
          have h1 := Wx.keepK HW.out.1 (by rw [hTl]; exact HW.out.2) (Kp.of_grown HG10.out nL (.inl hlt0))
          rw [hTl] at h1
          exact ⟨h1.1.more nL HG10.out.size, h1.2⟩)
         have hzq := HG10.out.size
         have hst := OQ.out.stored (j * 3 + 2) (.slice Ac L cc)
         have HRQ : Hid (Blk (w10.setCell ⟨gv, j * 3 + 2, none⟩ (.slice Ac L cc)) w.heap.size 26 #[.int .i64 0, .slice none 0 0]) := hQ (Blk.far (Blk.grown HR.out HG10.out (by intro e; injection e; omega)) (show w.heap.size ≠ gv by omega) _)
         have HKQ : Hid (Blk (w10.setCell ⟨gv, j * 3 + 2, none⟩ (.slice Ac L cc)) gT 26 #[.int .i64 al, .slice At N ct]) := hQ (Blk.far (Blk.grown HK.out HG10.out (by intro e; injection e; omega)) (show gT ≠ gv by omega) _)
         have HGQ : Hid (w.grownBy (w10.setCell ⟨gv, j * 3 + 2, none⟩ (.slice Ac L cc)) (some cb)) := hQ (grownBy_set (grownBy_trans HG.out HG10.out) (p := ⟨gv, j * 3 + 2, none⟩) (by show w.heap.size ≤ gv; omega) _)
         have HCQ : Hid (CodesAt (w10.setCell ⟨gv, j * 3 + 2, none⟩ (.slice Ac L cc)) B cb A n c l p11) := hQ (CodesAt.set hc10 (show cb ≠ gv by omega) (show B ≤ gv by have := hc10.2.2.2.1; omega) _)
         have HTI2 : Hid (TInv al ps (T.set j ⟨prm, sz, cur⟩)) := hQ (by
          have h1 := HTI.out.set (j := j) (by omega) (c := cur) (by rw [← HFE.out]; simp only; rw [HLE.out]; exact HCO.out)
          rw [← HFE.out] at h1
          exact h1)
         have HWQ : Hid (Wx (w10.setCell ⟨gv, j * 3 + 2, none⟩ (.slice Ac L cc)) w.heap.size (w10.setCell ⟨gv, j * 3 + 2, none⟩ (.slice Ac L cc)).heap.size (vs.set (j * 3 + 2) (.slice Ac L cc)) (T.set j ⟨prm, sz, cur⟩) ∧ Tx (w10.setCell ⟨gv, j * 3 + 2, none⟩ (.slice Ac L cc)) (vs.set (j * 3 + 2) (.slice Ac L cc)) N) := hQ (by
          have hcl := HCO.out.1
          have hnx : Nx w10 w.heap.size w10.heap.size Ac cur := by
           have h1 := Rx.of_own own10
           unfold Nx
           rw [hcl]
           exact Rx.more h1 (by omega) nL
          have hty : TyA w10 Ac (cur).length 50 := by rw [hcl]; exact TyA.of_own own10
          have hcap := own_cap own10
          have h2 := Wx.set WQ.out.1 (by rw [hTl]; exact WQ.out.2) (by rw [hTl]; exact hvl) (j := j) (by omega) hnx hty (by rw [hcl]; exact hcap.1) (by rw [hcl]; exact hcap.2)
          rw [← HFE.out, hTl, hcl] at h2
          have hk : Kt 53 0 w10.heap.size w10 (w10.setCell ⟨gv, j * 3 + 2, none⟩ (.slice Ac L cc)) := Kt.of_own OQ.out hst.2 nL
          have h3 := Wx.keepT (lo := w.heap.size) h2.1 (by rw [List.length_set, hTl]; exact h2.2) (Kt.less hk (Nat.zero_le _) nL) (show 50 ≠ 53 by decide)
          rw [List.length_set, hTl] at h3
          exact ⟨h3.1.more nL (by simp), h3.2⟩)
         have z0 := own_cell OQ.out (i := j * 3 + 2) (v := .slice Ai L ci) HV2.out
         have z1 := OQ.out.frozenAt (j * 3 + 2)
         have HOQ := hQ hst.1
         clear hst
         go_wp2
         go_roundw
         case rel => exact ⟨j + 1, _, _, _, by omega, by go_num, HOQ.out, by rw [List.length_set]; exact hTl, HWQ, HTI2, HCQ.out, HGQ, HRQ, HKQ⟩
         case measure => simp [intOf]; omega
     · have hki : ¬ (k : Int) < (L : Int) := by omega
       have OQ : Hid (wr.ownsRow (gT + 1) 53 3 (.slice (some ⟨gv, 0, none⟩) N cf) N vs) := hQ (own_farR OWN.out HGq.out (by omega))
       have WQ : Hid (Wx wr w.heap.size wr.heap.size vs T ∧ Tx wr vs N) := hQ (by
        have h1 := Wx.keepK HW.out.1 (by rw [hTl]; exact HW.out.2) (Kp.of_grown HGq.out nL (.inl hlt0))
        rw [hTl] at h1
        exact ⟨h1.1.more nL HGq.out.size, h1.2⟩)
       have hzq := HGq.out.size
       have hst := OQ.out.stored (j * 3 + 2) (.slice Ac L cc)
       have HRQ : Hid (Blk (wr.setCell ⟨gv, j * 3 + 2, none⟩ (.slice Ac L cc)) w.heap.size 26 #[.int .i64 0, .slice none 0 0]) := hQ (Blk.far (Blk.grown HR.out HGq.out (by intro e; injection e; omega)) (show w.heap.size ≠ gv by omega) _)
       have HKQ : Hid (Blk (wr.setCell ⟨gv, j * 3 + 2, none⟩ (.slice Ac L cc)) gT 26 #[.int .i64 al, .slice At N ct]) := hQ (Blk.far (Blk.grown HK.out HGq.out (by intro e; injection e; omega)) (show gT ≠ gv by omega) _)
       have HGQ : Hid (w.grownBy (wr.setCell ⟨gv, j * 3 + 2, none⟩ (.slice Ac L cc)) (some cb)) := hQ (grownBy_set (grownBy_trans HG.out HGq.out) (p := ⟨gv, j * 3 + 2, none⟩) (by show w.heap.size ≤ gv; omega) _)
       have HCQ : Hid (CodesAt (wr.setCell ⟨gv, j * 3 + 2, none⟩ (.slice Ac L cc)) B cb A n c l p10) := hQ (CodesAt.set hcq (show cb ≠ gv by omega) (show B ≤ gv by have := hcq.2.2.2.1; omega) _)
       have HTI2 : Hid (TInv al ps (T.set j ⟨prm, sz, cur⟩)) := hQ (by
        have h1 := HTI.out.set (j := j) (by omega) (c := cur) (by rw [← HFE.out]; simp only; rw [HLE.out]; exact HCO.out)
        rw [← HFE.out] at h1
        exact h1)
       have HWQ : Hid (Wx (wr.setCell ⟨gv, j * 3 + 2, none⟩ (.slice Ac L cc)) w.heap.size (wr.setCell ⟨gv, j * 3 + 2, none⟩ (.slice Ac L cc)).heap.size (vs.set (j * 3 + 2) (.slice Ac L cc)) (T.set j ⟨prm, sz, cur⟩) ∧ Tx (wr.setCell ⟨gv, j * 3 + 2, none⟩ (.slice Ac L cc)) (vs.set (j * 3 + 2) (.slice Ac L cc)) N) := hQ (by
        have hcl := HCO.out.1
        have hnx : Nx wr w.heap.size wr.heap.size Ac cur := by
         have h1 := Rx.of_own ownc
         unfold Nx
         rw [hcl]
         exact Rx.more h1 (by omega) nL
        have hty : TyA wr Ac (cur).length 50 := by rw [hcl]; exact TyA.of_own ownc
        have hcap := own_cap ownc
        have h2 := Wx.set WQ.out.1 (by rw [hTl]; exact WQ.out.2) (by rw [hTl]; exact hvl) (j := j) (by omega) hnx hty (by rw [hcl]; exact hcap.1) (by rw [hcl]; exact hcap.2)
        rw [← HFE.out, hTl, hcl] at h2
        have hk : Kt 53 0 wr.heap.size wr (wr.setCell ⟨gv, j * 3 + 2, none⟩ (.slice Ac L cc)) := Kt.of_own OQ.out hst.2 nL
        have h3 := Wx.keepT (lo := w.heap.size) h2.1 (by rw [List.length_set, hTl]; exact h2.2) (Kt.less hk (Nat.zero_le _) nL) (show 50 ≠ 53 by decide)
        rw [List.length_set, hTl] at h3
        exact ⟨h3.1.more nL (by simp), h3.2⟩)
       have z0 := own_cell OQ.out (i := j * 3 + 2) (v := .slice Ai L ci) HV2.out
       have z1 := OQ.out.frozenAt (j * 3 + 2)
       have HOQ := hQ hst.1
       clear hst
       go_wp2
       go_roundw
       case rel => exact ⟨j + 1, _, _, _, by omega, by go_num, HOQ.out, by rw [List.length_set]; exact hTl, HWQ, HTI2, HCQ.out, HGQ, HRQ, HKQ⟩
       case measure => simp [intOf]; omega
  · obtain rfl : j = N := by omega
    obtain ⟨r0, r1, rf0, rf1, rz⟩ := HR.out.c2
    obtain ⟨k0, k1, -, -, kz⟩ := HK.out.c2
    have HR5 := hQ (Blk.put2 HR.out (.int .i64 al) (.slice Af j cf))
    have HRX := hQ (Rx.of_own own)
    have hgw : w.heap.size ≠ gT := by omega
    have HK5 : Hid (Kp (w.heap.size + 1) wr.heap.size wr ((wr.setCell ⟨w.heap.size, 0, none⟩ (.int .i64 al)).setCell ⟨w.heap.size, 1, none⟩ (.slice Af j cf))) := hQ (((Kp.refl _ _ _).set (p := ⟨w.heap.size, 0, none⟩) (.inl (Nat.lt_succ_self _)) _).set (p := ⟨w.heap.size, 1, none⟩) (.inl (Nat.lt_succ_self _)) _)
    have HG5 : Hid (w.grownBy ((wr.setCell ⟨w.heap.size, 0, none⟩ (.int .i64 al)).setCell ⟨w.heap.size, 1, none⟩ (.slice Af j cf)) (some cb)) := hQ (grownBy_set (grownBy_set HG.out (p := ⟨w.heap.size, 0, none⟩) nL _) (p := ⟨w.heap.size, 1, none⟩) nL _)
    have HC5 : Hid (CodesAt ((wr.setCell ⟨w.heap.size, 0, none⟩ (.int .i64 al)).setCell ⟨w.heap.size, 1, none⟩ (.slice Af j cf)) B cb A n c l p9) := hQ (CodesAt.set (CodesAt.set hca (q := ⟨w.heap.size, 0, none⟩) (show cb ≠ w.heap.size by omega) (show B ≤ w.heap.size by have := hca.2.2.2.1; omega) _) (q := ⟨w.heap.size, 1, none⟩) (show cb ≠ w.heap.size by omega) (show B ≤ w.heap.size by have := hca.2.2.2.1; omega) _)
    have hz9 : ((wr.setCell ⟨w.heap.size, 0, none⟩ (.int .i64 al)).setCell ⟨w.heap.size, 1, none⟩ (.slice Af j cf)).heap.size = wr.heap.size := by simp
    have HTY : Hid (Tx ((wr.setCell ⟨w.heap.size, 0, none⟩ (.int .i64 al)).setCell ⟨w.heap.size, 1, none⟩ (.slice Af j cf)) vs j ∧ Wx ((wr.setCell ⟨w.heap.size, 0, none⟩ (.int .i64 al)).setCell ⟨w.heap.size, 1, none⟩ (.slice Af j cf)) w.heap.size wr.heap.size vs T) := hQ (by
     have k1 : Kt 26 w.heap.size wr.heap.size wr ((wr.setCell ⟨w.heap.size, 0, none⟩ (.int .i64 al)).setCell ⟨w.heap.size, 1, none⟩ (.slice Af j cf)) := fun b h1 h2 h3 => by
      refine HK5.out b ?_ h2
      rcases Nat.lt_or_ge w.heap.size b with h | h
      · exact h
      · obtain rfl : b = w.heap.size := by omega
        exact absurd HR.out (h3 _ _)
     have h1 := Wx.keepT HW.out.1 (by rw [hTl]; exact HW.out.2) k1 (show 50 ≠ 26 by decide)
     rw [hTl] at h1
     exact ⟨h1.2, h1.1⟩)
    clear own hca HK HG HW
    go_wp2
    clear r0 r1 rf0 rf1 rz k0 k1 kz
    generalize (wr.setCell ⟨w.heap.size, 0, none⟩ (.int .i64 al)).setCell ⟨w.heap.size, 1, none⟩ (.slice Af j cf) = Wz at *
    obtain ⟨r0, r1, -, -, rz⟩ := HR5.out.c2
    exact bodyPost_ret (v := .agg #[.int .i64 al, .slice Af j cf]) (by simp [results, Tryz.results14, go_sem, r0, r1]) rfl ⟨al, T, Af, cf, p9, by rw [hTl], HFIN.out T HTI.out, ⟨vs, by
     rw [hTl]
     exact Rx.more (Rx.keep HRX.out (Kp.less HK5.out (by omega) nL)) (by omega) (by omega), HTY.out.2.more nL (by omega), by rw [hTl]; exact HTY.out.1⟩, by rw [hTl]; exact hcf, HC5.out, HG5.out⟩
end Go.Proofs.YtcnndoefgjbmiaaGreat.pm
