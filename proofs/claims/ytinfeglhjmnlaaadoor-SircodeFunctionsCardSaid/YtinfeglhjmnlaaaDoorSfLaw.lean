/- SircodeFunctions: the walk of the law. -/
import Derived.Test.YtinfeglhjmnlaaaDoorYy
import Derived.Test.YtinfeglhjmnlaaaDoorYr
import Derived.Test.YtinfeglhjmnlaaaDoorGYh
import Derived.Test.YtinfeglhjmnlaaaDoorGPe
import Derived.BigQuiet
import Derived.Deep.QuietTactic
namespace Go.Proofs.YtinfeglhjmnlaaaDoor.pm
open Go.RowKit
set_option linter.unusedVariables false
set_option maxRecDepth 10000

theorem parD_bytes {b : List Nat} (hb : ∀ x ∈ b, x < 256) : ∀ d ∈ parD b, ∀ x ∈ d, x < 256 := by
  intro d hd
  by_cases h0 : parE b = 0
  · have h1 := par_desc hb h0
    have h2 := (par_iff (p := parF b) hb).1 ⟨h0, rfl, h1⟩
    rw [h1] at hd
    obtain ⟨f, hf, rfl⟩ := List.mem_map.1 hd
    exact descS_bytes (h2.1.2 f hf)
  · rw [(par_err h0).2.2] at hd
    cases hd
theorem Dx.at_ {w : World} {lo hi k : Nat} {A : Option Addr} {d : List (List Nat)} (h : Dx w lo hi A d) (hb : ∀ e ∈ d, ∀ x ∈ e, x < 256) (hk : k < d.length) :
    ∃ ad Ai ci, A = some ad ∧ ad.block < hi ∧ w.cell? (ad.add k) = some (.slice Ai (d.getD k []).length ci) ∧ Bs w hi Ai (d.getD k []).length (d.getD k []) ∧ (d.getD k []).length ≤ maxLen := by
  obtain ⟨vs, hr, hq⟩ := h
  obtain ⟨ad, e, hbl, hc⟩ := hr.1.2 (by omega)
  obtain ⟨Ai, ci, h1, h2, h3⟩ := hq k hk
  exact ⟨ad, Ai, ci, e, hbl, hc _ _ h1, ⟨h2.1.1, hb _ (getD_mem' hk)⟩, h3.1⟩
theorem quiet_add6 {P : Program} {f : FuncId} {args : Array Value} {w : World} {a n : Nat} {v : Value}
    (h : Calls P f args (w.drewN (a + n)) fun e w' => e = .returned v ∧ ∃ m, w' = (w.drewN (a + n)).drewN m) : Calls P f args (w.drewN (a + n)) fun e w'' => e = .returned v ∧ ∃ m, w'' = w.drewN (a + m) :=
  h.mono fun _ _ ⟨he, m, hm⟩ => ⟨he, n + m, by rw [hm, World.drewN_drewN, Nat.add_assoc]⟩
set_option maxHeartbeats 8000000 in
theorem sf_law (A : Option Addr) (n c : Nat) (l : List Nat) (A2 : Option Addr) (n2 c2 : Nat) (l2 : List Nat) (w : World) (hT : Dt w) (hS : Tb w)
    (hb : Bs w w.heap.size A n l) (hn : n ≤ maxLen) (hc : n ≤ c) (hb2 : Bs w w.heap.size A2 n2 l2) (hn2 : n2 ≤ maxLen) (hc2 : n2 ≤ c2) (hcm2 : c2 ≤ maxLen) :
    Calls Tryd.prog 7 #[.slice A n c, .slice A2 n2 c2] w fun e w' => e = .returned (.bool true) ∧ Below w.heap.size w w' := by
  have HB := Lib.hid hb
  have HBB := Lib.hid hb2
  have HT := Lib.hid hT
  have HSB := Lib.hid hS
  clear hb hb2 hT hS
  by_cases hbig : 500 < n2
  · have hbi : (500 : Int) < (n2 : Int) := by omega
    clear hbig
    go_enter Tryd.func7, Tryd.ntmps7
    go_wp2_with fail
    refine (awake06 _ HT.out HSB.out).mono ?_
    rintro e w1 ⟨rfl, b1⟩
    go_wp2
    go_ret
    exact ⟨rfl, b1⟩
  have hbi : ¬ (500 : Int) < (n2 : Int) := by omega
  have hn500 : n2 ≤ 500 := by omega
  clear hbig
  go_enter Tryd.func7, Tryd.ntmps7
  go_wp2_with fail
  refine (awake06 _ HT.out HSB.out).mono ?_
  rintro e w1 ⟨rfl, b1⟩
  have HB1 := Lib.hid b1
  have hs1 := b1.size
  have HBS1 : Hid (Bs w1 w1.heap.size A n l) := Lib.hid ((HB.out.below b1).more hs1)
  clear b1
  go_wp2_with fail
  refine (newcodes_any A n c l 200 _ hn hc (by omega)).mono ?_
  rintro e w2 ⟨rfl, hw2⟩
  have HC2 : Hid (CodesAt w2 w1.heap.size w1.heap.size A (min n 200) c (l.take (min n 200)) 0) := Lib.hid (by
    rw [hw2]
    exact ⟨Blk.newAt rfl, ((HBS1.out.take (Nat.min_le_left _ _)).alloc (by omega) _), Nat.zero_le _, Nat.le_refl _, by omega⟩)
  have HB2 : Hid (Below w.heap.size w w2) := Lib.hid (by rw [hw2]; exact HB1.out.alloc (by omega) _)
  have hs2 : w2.heap.size = w1.heap.size + 1 := by rw [hw2]; simp
  generalize min n 200 = m at *
  generalize l.take m = l' at *
  clear hw2 HBS1 HB
  go_wp2_with fail
  refine (program_d _ _ _ _ _ _ _ 4 8 _ HC2.out (by omega) (by omega) (by omega)).mono ?_
  rintro e w3 ⟨t0, Ax, cx, p3, rfl, htx, hcx, hgx, c3, g3⟩
  have HB3 : Hid (Below w.heap.size w w3) := Lib.hid (HB2.out.trans (below_of_grown g3 hs1 HB2.out.size))
  have hde := drawn_sen htx (by omega)
  have hx5 : t0.length ≤ maxLen := by have := htx.2.1; unfold maxLen; omega
  have hlb := sen_bytes hde.2.1
  obtain ⟨L, hL⟩ : ∃ L, L = senB t0 := ⟨_, rfl⟩
  rw [← hL] at hde hlb
  obtain ⟨N, hN⟩ : ∃ N, L.length = N := ⟨_, rfl⟩
  have hN1 : 9 ≤ N ∧ N ≤ 600000 := by have := hde.2.2; omega
  have HLB : Hid (∀ x ∈ L, x < 256) := Lib.hid hlb
  have HEN : Hid (Calls Tryd.prog 26 #[.agg #[.slice Ax t0.length cx]] w3 fun e w' => ∃ V c, e = .returned (.tuple #[.slice V N c, .int .i64 0]) ∧ w'.ownsRow w3.heap.size 5 1 (.slice V N c) N (nb L) ∧ Below w3.heap.size w3 w') := Lib.hid ((refsenc_any Ax t0 cx w2.heap.size w3.heap.size w3 hgx (Nat.le_refl _) hx5 (pr_fnr htx) hde.2.1).mono (by
    rintro e w' ⟨V, c, rfl, ho, hb⟩
    rw [← hL, hN] at ho
    exact ⟨V, c, by rw [← hL, hN, hde.1], ho, hb⟩))
  clear c3 g3 hgx htx HC2 hcx HB2 hde hlb hL hN
  go_wp2_with fail
  refine HEN.out.mono ?_
  rintro e w4 ⟨V4, c4, rfl, own4, bel4⟩
  have HB4 := Lib.hid (HB3.out.trans (bel4.mono HB3.out.size))
  have HO4 := Lib.hid own4
  have HC4 := Lib.hid (own_capM own4)
  have hs4 : w.heap.size ≤ w4.heap.size := HB4.out.size
  have HVB : Hid (Bs w4 w4.heap.size A2 n2 l2) := Lib.hid ((HBB.out.below HB4.out).more hs4)
  have HLN2 := Lib.hid HBB.out.len
  have HM2 : Hid ((mend l2).length = n2) := Lib.hid (by rw [mend_len]; exact HLN2.out)
  have HMD : Hid (Calls Tryd.prog 27 #[.slice A2 n2 c2] w4 fun e w' => ∃ V c, e = .returned (.slice V n2 c) ∧ Bs w' w'.heap.size V n2 (mend l2) ∧ (n2 ≤ c ∧ c ≤ maxLen) ∧ Below w4.heap.size w4 w') := Lib.hid ((mended06_any A2 n2 c2 l2 w4 HVB.out (by omega) hc2 hcm2).mono (by
    rintro e w' ⟨V, c, rfl, h1, h2, h3, h4⟩
    rw [HM2.out] at h1 h2
    exact ⟨V, c, by rw [HM2.out], h1, ⟨h2, h3⟩, h4⟩))
  clear own4 bel4 HEN HB3 HB1 HVB
  go_wp2_with fail
  refine HMD.out.mono ?_
  rintro e w11 ⟨V11, c11, rfl, hb11, hc11, bel11⟩
  go_upto_region 5 with (fail)
  obtain ⟨W12, hW12⟩ : ∃ W12, W12 = w11.alloc (.cells #[.slice V4 N c4, .slice A2 n2 c2, .slice V11 n2 c11] 22) := ⟨_, rfl⟩
  obtain ⟨gl, hgl⟩ : ∃ g, g = w11.heap.size := ⟨_, rfl⟩
  rw [← hW12, ← hgl]
  have hb12 : Below w11.heap.size w11 W12 := by rw [hW12]; exact (Below.refl _ _).alloc (Nat.le_refl _) _
  have HKL : Hid (Blk W12 gl 22 #[.slice V4 N c4, .slice A2 n2 c2, .slice V11 n2 c11]) := Lib.hid (by rw [hW12, hgl]; exact Blk.new _ _ _)
  have hb412 : Below w4.heap.size w4 W12 := bel11.trans (hb12.mono bel11.size)
  have HB12 : Hid (Below w.heap.size w W12) := Lib.hid (HB4.out.trans (hb412.mono hs4))
  have hs12 : w.heap.size ≤ W12.heap.size := HB12.out.size
  have HX : Hid (∀ k, k < 3 → SlB W12 gl k) := Lib.hid (by
    intro k hk
    have hk' : k = 0 ∨ k = 1 ∨ k = 2 := by omega
    rcases hk' with rfl | rfl | rfl
    · exact ⟨V4, N, c4, L, HKL.out.cell 0, Bs.of_own (own_keep HO4.out hb412 (Nat.le_refl _)) HLB.out, by omega, HC4.out.1, HC4.out.2⟩
    · exact ⟨A2, n2, c2, l2, HKL.out.cell 1, (HBB.out.below HB12.out).more hs12, by omega, hc2, hcm2⟩
    · exact ⟨V11, n2, c11, mend l2, HKL.out.cell 2, (hb11.below hb12).more hb12.size, by omega, hc11.1, hc11.2⟩)
  have hglz : gl < W12.heap.size := HKL.out.lt
  clear hW12 hgl hb12 hb412 hb11 hc11 bel11 HMD HKL HB4 HO4 HC4 HBB HLB
  go_loopw [37] (fun x wr => ∃ k : Nat, k ≤ 3 ∧ x = .int .i64 k ∧ Hid (Below W12.heap.size W12 wr)) (fun x _ => 3 - (intOf x).toNat)
  case atStart => exact ⟨0, by omega, rfl, Lib.hid (Below.refl _ _)⟩
  case round =>
    obtain ⟨j, hj, rfl, HBr⟩ := hrel
    by_cases hlt : j < 3
    · have hj0 : (0 : Int) ≤ (j : Int) := by omega
      have hj1 : (j : Int) < 3 := by omega
      obtain ⟨A', n', c', lx, hcell, hbs, hn', hc', hcm'⟩ := (HX.out j hlt).after HBr.out
      have hsr := HBr.out.size
      have HD := Lib.hid (sFuncs_any A' n' c' lx wr hbs (by unfold maxLen; omega) hc' hcm')
      have HD2 := Lib.hid (fun (W : World) (h : Below wr.heap.size wr W) => rFuncs_any A' n' c' lx W ((hbs.below h).more h.size) (by unfold maxLen; omega) hc' hcm')
      have HPB := Lib.hid (parD_bytes hbs.2)
      have hglr : gl < wr.heap.size := by omega
      clear hbs
      generalize wr = wo at *
      go_wp2_with fail
      refine HD.out.mono ?_
      rintro e w13 ⟨D1, cd1, rfl, hd1, hcd1, hbl1⟩
      have HB13 := Lib.hid hbl1
      have HD13 := Lib.hid hd1
      have HR := Lib.hid (HD2.out w13 hbl1)
      clear hbl1 hd1 HD HD2
      go_wp2_with fail
      refine HR.out.mono ?_
      rintro e w14 ⟨D2, cd2, rfl, hd2, hcd2, hbl2⟩
      have HB14 : Hid (Below W12.heap.size W12 w14) := Lib.hid (HBr.out.trans ((HB13.out.trans (hbl2.mono HB13.out.size)).mono hsr))
      have HDA : Hid (Dx w14 wo.heap.size w13.heap.size D1 (parD lx)) := Lib.hid (HD13.out.keep (Kp.of_below hbl2 (Nat.le_refl _)))
      have HDB : Hid (Dx w14 w13.heap.size w14.heap.size D2 (parD lx)) := Lib.hid hd2
      have hs14 : w13.heap.size ≤ w14.heap.size := hbl2.size
      clear hbl2 hd2 HR HD13 HB13
      generalize parE lx = pe at *
      obtain ⟨dd, hdd⟩ : ∃ d, d = parD lx := ⟨_, rfl⟩
      rw [← hdd] at HDA HDB HPB hcd1 hcd2 ⊢
      obtain ⟨nd, hnd⟩ : ∃ k, k = dd.length := ⟨_, rfl⟩
      rw [← hnd] at hcd1 hcd2 ⊢
      have HND := Lib.hid hnd
      have hnd80 : nd ≤ 80 := by rw [hnd, hdd, parD_len]; exact parF_len lx
      clear hdd hnd hcell
      go_upto_region 12 with (fail)
      go_loopw [13] (fun x wr => ∃ i : Nat, i ≤ nd ∧ x = .int .i64 i ∧ Hid (∃ q, wr = w14.drewN q)) (fun x _ => nd - (intOf x).toNat)
      case atStart => exact ⟨0, by omega, rfl, Lib.hid ⟨0, rfl⟩⟩
      case round =>
        obtain ⟨i, hi, rfl, HQ⟩ := hrel
        obtain ⟨q, hq⟩ := HQ.out
        by_cases hli : i < nd
        · have hi0 : (0 : Int) ≤ (i : Int) := by omega
          have hi1 : (i : Int) < (nd : Int) := by omega
          obtain ⟨ad, Ai, ci, rfl, hab, hca, hba, hma⟩ := HDA.out.at_ HPB.out (k := i) (by have := HND.out; omega)
          obtain ⟨ad', Ai', ci', rfl, hab', hcb, hbb, hmb⟩ := HDB.out.at_ HPB.out (k := i) (by have := HND.out; omega)
          generalize dd.getD i [] = de at *
          obtain ⟨dn, hdn⟩ : ∃ k, k = de.length := ⟨_, rfl⟩
          rw [← hdn] at hca hba hma hcb hbb hmb
          have HSB2 := Lib.hid (fun (W : World) (ha : Bs W w14.heap.size Ai dn de) (hb : Bs W w14.heap.size Ai' dn de) => same_bytes Ai Ai' dn ci dn ci' de de W w14.heap.size ha hb hma hmb)
          rw [show decide (de = de) = true by simp] at HSB2
          have HBA := Lib.hid (hba.more hs14)
          have HBB2 := Lib.hid hbb
          have hz1 : ad.block < w14.heap.size := by omega
          clear hba hbb hdn hma hmb
          subst hq
          go_upto_region 14 with (fail)
          go_quiet ((go_at_call 21; first | exact Calls.quiet_of (HSB2.out _ (HBA.out.drewN _) (HBB2.out.drewN _)) | exact quiet_add6 (HSB2.out _ (HBA.out.drewN _) (HBB2.out.drewN _))))
          go_wp2
          go_roundw
          case rel => exact ⟨i + 1, by omega, by go_num, Lib.hid (by first | exact ⟨_, rfl⟩ | exact ⟨_, World.drewN_drewN _ _ _⟩)⟩
          case measure => simp [intOf]; omega
        · have hin : i = nd := by omega
          subst hin
          subst hq
          go_wp2
          go_roundw
          case rel => exact ⟨j + 1, by omega, by go_num, Lib.hid (below_drewN HB14.out _)⟩
          case measure => simp [intOf]; omega
    · have hj4 : j = 3 := by omega
      subst hj4
      go_wp2
      go_ret
      exact ⟨rfl, HB12.out.trans (HBr.out.mono hs12)⟩
theorem sf_lawB (A : Option Addr) (n c : Nat) (l : List Nat) (A2 : Option Addr) (n2 c2 : Nat) (l2 : List Nat) (w : World) (h : Dt w ∧ Tb w)
    (hb : Bs w w.heap.size A n l) (hn : n ≤ maxLen) (hc : n ≤ c) (hb2 : Bs w w.heap.size A2 n2 l2) (hn2 : n2 ≤ maxLen) (hc2 : n2 ≤ c2) (hcm2 : c2 ≤ maxLen) :
    Calls Tryd.prog 7 #[.slice A n c, .slice A2 n2 c2] w fun e w' => e = .returned (.bool true) ∧ Below w.heap.size w w' := sf_law A n c l A2 n2 c2 l2 w h.1 h.2 hb hn hc hb2 hn2 hc2 hcm2
end Go.Proofs.YtinfeglhjmnlaaaDoor.pm
