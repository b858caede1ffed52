/- SircodeEncode: the walk of the law. -/
import Derived.Test.YtinfeglhjmnlaaaDoorGYh
import Derived.Test.YtinfeglhjmnlaaaDoorGPg
import Derived.Deep.CutBlock
import Derived.Deep.RegionHeld3
import Derived.Deep.DrawnRows
import Derived.Deep.RegionWith
namespace Go.Proofs.YtinfeglhjmnlaaaDoor.pm
open Go.RowKit
set_option linter.unusedVariables false
set_option maxRecDepth 10000
attribute [local go_sem ↓] Go.wp_at_zero Go.wp_at_succ

theorem pr_r7 {most : Nat} {p : List Fn} (h : PrOk most p) : ∀ j, j < p.length → FnR (p.getD j Fn.z) := fun j hj s hs => by
  have := (h.2.2.2 _ (getD_mem' (z := Fn.z) hj)).2.2.2.1 s hs
  unfold SlotOk at this
  unfold I64
  omega
theorem pr_s7 {most : Nat} {p : List Fn} (h : PrOk most p) : PrS7 p := fun i hi => by
  have := h.2.2.2 _ (getD_mem' (z := Fn.z) hi)
  exact ⟨by have := this.2.2.1; omega, by have := this.2.2.2.2.2.1; omega, pr_r7 h i hi, pr_pri h _ (getD_mem' hi)⟩
theorem pr_c7 {most : Nat} {p : List Fn} (h : PrOk most p) : ∀ i, i < p.length → 1 ≤ (p.getD i Fn.z).code.length ∧ (p.getD i Fn.z).code.length ≤ 500 ∧ (p.getD i Fn.z).slots.length ≤ 500 := fun i hi => by
  have := h.2.2.2 _ (getD_mem' (z := Fn.z) hi)
  exact ⟨this.2.2.2.2.1, by have := this.2.2.2.2.2.1; omega, by have := this.2.2.1; omega⟩
theorem PrS7.fnr {p : List Fn} (h : PrS7 p) : ∀ i, i < p.length → FnR (p.getD i Fn.z) := fun i hi => (h i hi).2.2.1
theorem PrS7.pri {p : List Fn} (h : PrS7 p) : PrI p := fun f hf x hx => by
  obtain ⟨i, hi, rfl⟩ := List.mem_iff_getElem.1 hf
  have := (h i hi).2.2.2 x
  rw [List.getD_eq_getElem?_getD, List.getElem?_eq_getElem hi] at this
  exact this hx
theorem senB_bytes {p : List Fn} (hi : PrI p) : ∀ y ∈ senB p, y < 256 := by
  intro y hy
  by_cases he : senE p = 0
  · rw [senB_eq he] at hy
    have hef := prog_efs (senE_zero he).1 hi
    exact sealL_bytes (bodyS_bytes hef.1 hef.2) y hy
  · unfold senB at hy
    rw [if_neg he] at hy
    cases hy
set_option maxHeartbeats 8000000 in
theorem se_law (A : Option Addr) (n c : Nat) (l : List Nat) (w : World) (hT : Dt w) (hS : Tb w) (hb : Bs w w.heap.size A n l) (hn : n ≤ maxLen) (hc : n ≤ c) :
    Calls Tryd.prog 6 #[.slice A n c] w fun e w' => e = .returned (.bool true) ∧ Below w.heap.size w w' := by
  have HB := Lib.hid hb
  have HT := Lib.hid hT
  have HS := Lib.hid hS
  clear hb hT hS
  go_enter Tryd.func6, Tryd.ntmps6
  go_wp2_with fail
  refine (awake06 _ HT.out HS.out).mono ?_
  rintro e w1 ⟨rfl, b1⟩
  have HB1 := Lib.hid b1
  have hs1 := b1.size
  have HBS1 : Hid (Bs w1 w1.heap.size A n l) := Lib.hid ((HB.out.below b1).more hs1)
  clear b1
  go_wp2_with fail
  refine (newcodes_any A n c l 200 _ hn hc (by omega)).mono ?_
  rintro e w2 ⟨rfl, hw2⟩
  have HC2 : Hid (CodesAt w2 w1.heap.size w1.heap.size A (min n 200) c (l.take (min n 200)) 0) := Lib.hid (by
    rw [hw2]
    exact ⟨Blk.newAt rfl, ((HBS1.out.take (Nat.min_le_left _ _)).alloc (by omega) _), Nat.zero_le _, Nat.le_refl _, by omega⟩)
  have HB2 : Hid (Below w.heap.size w w2) := Lib.hid (by rw [hw2]; exact HB1.out.alloc (by omega) _)
  have hs2 : w2.heap.size = w1.heap.size + 1 := by rw [hw2]; simp
  generalize min n 200 = m at *
  generalize l.take m = l' at *
  clear hw2 HBS1
  go_wp2_with fail
  refine (program_d _ _ _ _ _ _ _ 4 10 _ HC2.out (by omega) (by omega) (by omega)).mono ?_
  rintro e w3 ⟨x, Ax, cx, p3, rfl, hpr, hpc, hfx, c3, g3⟩
  have HC3 := Lib.hid c3
  have HPR := Lib.hid hpr
  have HX3 := Lib.hid hfx
  have hx1 : 1 ≤ x.length := hpr.1
  have hx4 : x.length ≤ 4 := hpr.2.1
  have HB3 : Hid (Below w.heap.size w w3) := Lib.hid (HB2.out.trans (below_of_grown g3 hs1 HB2.out.size))
  have hs3 : w2.heap.size ≤ w3.heap.size := g3.size
  clear c3 g3 hpr hfx HC2
  go_upto_region 5 with (fail)
  obtain ⟨W4, hW4⟩ : ∃ W4, W4 = w3.alloc (.cells #[.slice Ax x.length cx] 44) := ⟨_, rfl⟩
  obtain ⟨g4, hg4⟩ : ∃ g, g = w3.heap.size := ⟨_, rfl⟩
  rw [← hW4, ← hg4]
  have hb4 : Below w3.heap.size w3 W4 := by rw [hW4]; exact (Below.refl _ _).alloc (Nat.le_refl _) _
  have HK4 : Hid (Blk W4 g4 44 #[.slice Ax x.length cx]) := Lib.hid (by rw [hW4, hg4]; exact Blk.new _ _ _)
  have HC4 : Hid (CodesAt W4 w1.heap.size w1.heap.size A m c l' p3) := Lib.hid (by rw [hW4]; exact HC3.out.alloc _)
  have HX4 : Hid (Fx W4 w2.heap.size w3.heap.size Ax x) := Lib.hid (HX3.out.keep (Kp.of_below hb4 (Nat.le_refl _)))
  have HB4 := Lib.hid (HB3.out.trans (hb4.mono HB3.out.size))
  have hs4 : w3.heap.size ≤ W4.heap.size := hb4.size
  have hg4c : g4 ≠ w1.heap.size := by omega
  have HOD := Lib.hid (fun (W : World) (h : CodesAt W w1.heap.size w1.heap.size A m c l' p3) (hf : Fx W w2.heap.size w3.heap.size Ax x) (hz : w3.heap.size ≤ W.heap.size) => odd7_d _ _ _ _ _ _ _ Ax x cx w2.heap.size w3.heap.size W h hf hz (by omega) (by omega) hx1 (by omega) (pr_s7 HPR.out) (pr_c7 HPR.out))
  clear hW4 hb4 HC3 HX3 HB3 HB2 hg4
  obtain ⟨q0, -, qz⟩ := HK4.out.c1
  go_cut [22, 23, 24] (fun s22 s23 s24 wx => ∃ (y : List Fn) (Ay : Option Addr) (cy gl : Nat), s22 = .slice (some ⟨gl, 0, none⟩) 3 3 ∧ s23 = .int .i64 3 ∧ s24 = .int .i64 0 ∧ Blk wx gl 44 #[.slice Ax x.length cx, .slice Ay y.length cy, .slice none 0 0] ∧ PrS7 y ∧ y.length = x.length ∧ Fx wx 0 wx.heap.size Ay y ∧ Fx wx 0 wx.heap.size Ax x ∧ Below w.heap.size w wx)
  case first =>
    go_region_with (go_at_call 24; refine (HOD.out _ (CodesAt.dr HC4.out) (HX4.out.keep (fun _ _ _ => rfl)) (by first | omega | (show w3.heap.size ≤ W4.heap.size; omega))).mono ?_; rintro e v4 ⟨y, Ay, cy, p4, rfl, hyl, hps, hyc, hfy, k4, g4'⟩; have hk4 := HK4.out.drew.grown g4' (by simpa using hg4c); obtain ⟨k0, -, kz⟩ := hk4.c1)
    all_goals
      have hz4 : W4.heap.size ≤ v4.heap.size := g4'.size
      have hax : Fx v4 0 v4.heap.size Ax x := ((show Fx W4.drew w2.heap.size w3.heap.size Ax x from HX4.out.keep (fun _ _ _ => rfl)).keep (Kp.of_grown g4' (show w3.heap.size ≤ W4.heap.size by omega) (.inl (by omega)))).more (Nat.zero_le _) (by omega)
      have hbv : Below w.heap.size w v4 := HB4.out.trans (((Below.refl _ _).drew).trans (below_of_grown g4' hs1 (by show w.heap.size ≤ W4.heap.size; exact HB4.out.size)))
      go_wp2_with fail
      go_meet
      exact ⟨y, Ay, cy, v4.heap.size, rfl, rfl, rfl, (by rw [hyl]; exact Blk.new _ _ _), hps, hyl, (hfy.keep (Kp.of_below ((Below.refl _ _).alloc (Nat.le_refl _) _) (Nat.le_refl _))).more (Nat.zero_le _) (by simp), (hax.keep (Kp.of_below ((Below.refl _ _).alloc (Nat.le_refl _) _) (Nat.le_refl _))).more (Nat.zero_le _) (by simp), hbv.alloc hbv.size _⟩
  case rest =>
    obtain ⟨y, Ay, cy, gl, rfl, rfl, rfl, hkl, hps, hyl, hfy, hfx, hbw⟩ := hcut
    clear HOD HC4 HX4 HK4 q0 qz HB4
    generalize wc = W5 at *
    have hs5 : w.heap.size ≤ W5.heap.size := hbw.size
    have HX : Hid (∀ k, k < 3 → ∃ (q : List Fn) (A' : Option Addr) (c' : Nat), W5.cell? ⟨gl, k, none⟩ = some (.slice A' q.length c') ∧ (∀ i, i < q.length → FnR (q.getD i Fn.z)) ∧ PrI q ∧ Fx W5 0 W5.heap.size A' q ∧ q.length ≤ 4) := Lib.hid (by
      intro k hk
      have : k = 0 ∨ k = 1 ∨ k = 2 := by omega
      rcases this with rfl | rfl | rfl
      · exact ⟨x, Ax, cx, hkl.cell 0, pr_r7 HPR.out, pr_pri HPR.out, hfx, hx4⟩
      · exact ⟨y, Ay, cy, hkl.cell 1, hps.fnr, hps.pri, hfy, by omega⟩
      · exact ⟨[], none, 0, hkl.cell 2, (fun i hi => by simp at hi), (fun f hf => by cases hf), ⟨[], Rx.nil _ _ _ _, fun i hi => by simp at hi⟩, by simp⟩)
    have HBW := Lib.hid hbw
    have hglz : gl < W5.heap.size := hkl.lt
    have HT5 : Hid (Dt W5) := Lib.hid (HT.out.below hbw HT.out.1)
    have HS5 : Hid (Tb W5) := Lib.hid (HS.out.below hbw)
    clear hkl hps hyl hfy hfx hbw
    go_upto_region 6 with (fail)
    go_loopw [24] (fun x wr => ∃ k : Nat, k ≤ 3 ∧ x = .int .i64 k ∧ Hid (Below W5.heap.size W5 wr)) (fun x _ => 3 - (intOf x).toNat)
    case atStart => exact ⟨0, by omega, rfl, Lib.hid (Below.refl _ _)⟩
    case round =>
      obtain ⟨k, hk, rfl, HBr⟩ := hrel
      by_cases hlt : k < 3
      · have hk0 : (0 : Int) ≤ (k : Int) := by omega
        have hk1 : (k : Int) < 3 := by omega
        obtain ⟨q, A', c', x0', hrg, hpi, hfx', hq4⟩ := HX.out k hlt
        have q0 := (HBr.out.cell (p := ⟨gl, k, none⟩) hglz).trans x0'
        have hszr := HBr.out.size
        have hglr : gl < wr.heap.size := by omega
        generalize wr = wo at *
        go_upto_region 8 with (fail)
        obtain ⟨W6, hW6⟩ : ∃ W6, W6 = wo.alloc (.cells #[.slice A' q.length c'] 44) := ⟨_, rfl⟩
        have hb6 : Below wo.heap.size wo W6 := by rw [hW6]; exact (Below.refl _ _).alloc (Nat.le_refl _) _
        obtain ⟨g8, hg8⟩ : ∃ g, g = wo.heap.size := ⟨_, rfl⟩
        have HK8 : Hid (Blk W6 g8 44 #[.slice A' q.length c']) := Lib.hid (by rw [hW6, hg8]; exact Blk.new _ _ _)
        rw [← hW6, ← hg8]
        have HB6 := Lib.hid (HBr.out.trans (hb6.mono hszr))
        have hs6 : W5.heap.size ≤ W6.heap.size := HB6.out.size
        have HPI := Lib.hid hpi
        have HRG := Lib.hid hrg
        have HFX := Lib.hid hfx'
        have hm4 : q.length ≤ maxLen := by unfold maxLen; omega
        have HA := Lib.hid (senc_any A' q c' 0 W5.heap.size W6 (HT5.out.below HB6.out HT5.out.1) (HS5.out.below HB6.out) (HFX.out.keep (Kp.of_below HB6.out (Nat.le_refl _))) hs6 hm4 HRG.out HPI.out)
        have HEB := Lib.hid (fun (W : World) (h : Below W5.heap.size W5 W) => refsenc_any A' q c' 0 W5.heap.size W (HFX.out.keep (Kp.of_below h (Nat.le_refl _))) h.size hm4 HRG.out HPI.out)
        clear hW6 hb6 hg8 q0 x0' HBr hrg hpi hfx' hglr hszr
        obtain ⟨z0, -, zz⟩ := HK8.out.c1
        go_wp2_with fail
        refine HA.out.mono ?_
        rintro e v1 ⟨V1, c1, rfl, own1, bel1⟩
        have hbw1 : Below W5.heap.size W5 v1 := HB6.out.trans (bel1.mono hs6)
        have HAB := Lib.hid (HEB.out v1 hbw1)
        have HOW1 := Lib.hid own1
        have HBV1 := Lib.hid bel1
        clear z0 zz own1 bel1 hbw1
        obtain ⟨z0, -, zz⟩ := (HK8.out.after HBV1.out).c1
        go_wp2_with fail
        refine HAB.out.mono ?_
        rintro e v2 ⟨V2, c2, rfl, own2, bel2⟩
        have hby := senB_bytes HPI.out
        obtain ⟨_, _, hf, hml⟩ := own_form own2
        have HSB := Lib.hid (same_bytes V1 V2 _ c1 _ c2 (senB q) (senB q) v2 v2.heap.size ⟨Reads.of_own (own_keep HOW1.out bel2 (Nat.le_refl _)), hby⟩ ⟨Reads.of_own own2, hby⟩ hml hml)
        have HBV2 := Lib.hid (HBV1.out.trans (bel2.mono HBV1.out.size))
        clear own2 bel2 hf hby z0 zz
        generalize senE q = ee at *
        generalize senB q = eb at *
        go_wp2_with fail
        refine HSB.out.mono ?_
        rintro e v3 ⟨rfl, k3, rfl⟩
        go_wp2
        go_roundw
        case rel => exact ⟨k + 1, by omega, by go_num, Lib.hid (below_drewN (HB6.out.trans (HBV2.out.mono hs6)) _)⟩
        case measure => simp [intOf]; omega
      · have hk3 : k = 3 := by omega
        subst hk3
        go_wp2
        go_ret
        exact ⟨rfl, HBW.out.trans (HBr.out.mono hs5)⟩
theorem se_lawB (A : Option Addr) (n c : Nat) (l : List Nat) (w : World) (h : Dt w ∧ Tb w) (hb : Bs w w.heap.size A n l) (hn : n ≤ maxLen) (hc : n ≤ c) :
    Calls Tryd.prog 6 #[.slice A n c] w fun e w' => e = .returned (.bool true) ∧ Below w.heap.size w w' := se_law A n c l w h.1 h.2 hb hn hc
end Go.Proofs.YtinfeglhjmnlaaaDoor.pm
