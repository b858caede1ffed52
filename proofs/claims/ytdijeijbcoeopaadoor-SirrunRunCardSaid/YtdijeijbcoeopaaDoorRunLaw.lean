/- SirrunRun: the walk of the law. -/
import Derived.Test.YtdijeijbcoeopaaDoorGQz
import Derived.Test.YtdijeijbcoeopaaDoorGNr
import Derived.Test.YtdijeijbcoeopaaDoorGVq
import Derived.Test.YtdijeijbcoeopaaDoorGPf
import Derived.Deep.CutBlock
import Derived.Deep.RegionLaw
set_option linter.unusedVariables false
set_option maxRecDepth 10000
set_option maxHeartbeats 8000000
namespace Go.Proofs.YtdijeijbcoeopaaDoor.pm
open Go.RowKit
attribute [local go_sem ↓] Go.wp_at_zero Go.wp_at_succ
theorem sameO_reflR (a : Oc) : sameO a a = true := by
 unfold sameO
 simp
 exact eqL_all (z := (0, 0)) rfl fun j _ => by simp [slEq]
theorem outV_R (m : Mx) (At : Option Addr) (ct : Nat) : outV m At ct = .agg (ocs ⟨m.kind, m.code, m.res.1, m.res.2, m.trace.map fun v => ((v.1 : Int), (v.2 : Int)), m.steps⟩ At ct) := by
 unfold outV ocs
 rw [List.length_map]
theorem outU_R {w : World} {lo hi : Nat} {At : Option Addr} {l : List (Nat × Nat)} (h : Rx w lo hi 2 At l.length (l.flatMap vcl)) : Ux w lo hi At (l.map fun v => ((v.1 : Int), (v.2 : Int))) := by
 have e : (l.map fun v => ((v.1 : Int), (v.2 : Int))).flatMap ucells = l.flatMap vcl := by
  rw [List.flatMap_map]
  rfl
 unfold Ux
 rw [e, List.length_map]
 exact h
theorem PrO.s7 {p : List Fn} (h : PrO p) : PrS7 p := fun i hi => by
 obtain ⟨g1, g2, g3, g4, g5, g6, g7, g8⟩ := h.2.2.2 _ (getD_mem' hi)
 exact ⟨by omega, by omega, h.r i hi, fun x hx => (vi_small (g7 x hx) (by have := h.2.1; omega) (by omega) (by omega) (by omega)).2⟩
theorem PrO.c7 {p : List Fn} (h : PrO p) : ∀ i, i < p.length → 1 ≤ (p.getD i Fn.z).code.length ∧ (p.getD i Fn.z).code.length ≤ 500 ∧ (p.getD i Fn.z).slots.length ≤ 500 := fun i hi => by
 obtain ⟨g1, g2, g3, g4, g5, g6, g7, g8⟩ := h.2.2.2 _ (getD_mem' hi)
 exact ⟨g5, by omega, by omega⟩
structure OcB (w X : World) (g : Nat) (A : Option Addr) (o : Oc) (c : Nat) : Prop where
 b : Below w.heap.size w X
 u : Ux X w.heap.size X.heap.size A o.tr
 k : Blk X g 40 #[.int .i64 o.kind, .int .u64 o.code, .int .u64 o.lo, .int .u64 o.hi, .slice A o.tr.length c, .int .i64 o.st]
theorem ocb_box {w v X : World} {g c : Nat} {A : Option Addr} {o : Oc} (hX : X = v.alloc (.cells #[.int .i64 o.kind, .int .u64 o.code, .int .u64 o.lo, .int .u64 o.hi, .slice A o.tr.length c, .int .i64 o.st] 40)) (hg : g = v.heap.size) (hu : Ux v w.heap.size v.heap.size A o.tr) (hb : Below w.heap.size w v) : OcB w X g A o c := by
 have hx : Below v.heap.size v X := by rw [hX]; exact bR.alloc nL _
 exact ⟨hb.trans (hx.mono hb.size), Rx.more (Rx.keep hu (Kp.of_below hx nL)) nL hx.size, by rw [hX, hg]; exact Blk.new _ _ _⟩
theorem rl_law (A : Option Addr) (n c : Nat) (l : List Nat) (raw : Int) (r0 : -9223372036854775808 ≤ raw) (r1 : raw ≤ 9223372036854775807) (w : World) (hT : Tb w) (hb : Bs w w.heap.size A n l) (hn : n ≤ maxLen) (hc : n ≤ c) :
 Calls Tryd.prog 3 #[.slice A n c, .int .i64 raw] w fun e w' => e = .returned (.bool true) ∧ Below w.heap.size w w' := by
 have HT := hQ hT
 have HB := hQ hb
 have HR0 := hQ r0
 have HR1 := hQ r1
 clear hT hb
 go_enter Tryd.func3, Tryd.ntmps3
 go_wp2_with fail
 refine (awake8 _ HT.out).mono ?_
 rintro e w1 ⟨rfl, b1⟩
 have HB1 := hQ b1
 have hs1 := b1.size
 have HBS1 : Hid (Bs w1 w1.heap.size A n l) := hQ ((HB.out.below b1).more hs1)
 clear b1
 go_wp2_with fail
 refine (scene_any A n c l w1 HBS1.out hn hc).mono ?_
 rintro e w2 ⟨p, inp, F, Ap, cp, iv, p', rfl, hpo, hF, hiw, hfx, hix, hcp, hcd, b2⟩
 have HPO := hQ hpo
 have HIW := hQ hiw
 have HFX := hQ hfx
 have HIX := hQ hix
 have HCD := hQ hcd
 have HB2 : Hid (Below w.heap.size w w2) := hQ (HB1.out.trans (b2.mono hs1))
 have hp1 := hpo.1
 have hp80 := hpo.2.1
 have hz12 : w1.heap.size + 1 < w2.heap.size := hcd.1.lt
 generalize min n 300 = m at *
 generalize l.take m = l' at *
 obtain ⟨cb, hcb⟩ : ∃ cb, cb = w1.heap.size + 1 := ⟨_, rfl⟩
 rw [← hcb] at HCD HFX ⊢
 have hcb1 : w1.heap.size ≤ cb := by omega
 have hcbw : w.heap.size ≤ cb := by omega
 have hcb2 : cb < w2.heap.size := by omega
 clear hpo hiw hfx hix hcd b2 HBS1 HB hcb hz12
 go_upto_region 4 with (fail)
 obtain ⟨W3, hW3⟩ : ∃ W3, W3 = w2.alloc (.cells #[.slice Ap p.length cp] 26) := ⟨_, rfl⟩
 obtain ⟨g5, hg5⟩ : ∃ g, g = w2.heap.size := ⟨_, rfl⟩
 rw [← hW3, ← hg5]
 have hb3 : Below w2.heap.size w2 W3 := by rw [hW3]; exact bR.alloc nL _
 have HK5 : Hid (Blk W3 g5 26 #[.slice Ap p.length cp]) := hQ (by rw [hW3, hg5]; exact Blk.new _ _ _)
 have HC3 := hQ (HCD.out.after hb3)
 have HX3 : Hid (Fx W3 (cb + 1) w2.heap.size Ap p) := hQ (HFX.out.keep (Kp.of_below hb3 nL))
 have HI3 : Hid (InX W3 W3.heap.size iv inp) := hQ ((HIX.out.after hb3).more hb3.size)
 have HB3 := hQ (HB2.out.trans (hb3.mono HB2.out.size))
 have hs3 : w2.heap.size ≤ W3.heap.size := hb3.size
 have hg5c : ¬ g5 = cb := by omega
 have hs3w := HB3.out.size
 clear hW3 hb3 HCD HFX HIX hg5
 have HOD := hQ (fun (W : World) (h : CodesAt W w1.heap.size cb A m c l' p') (hf : Fx W (cb + 1) w2.heap.size Ap p) (hz : w2.heap.size ≤ W.heap.size) => odd7_d _ _ _ _ _ _ _ Ap p cp (cb + 1) w2.heap.size W h hf hz (Nat.lt_succ_self _) (by omega) hp1 (by omega) HPO.out.s7 HPO.out.c7)
 obtain ⟨q0, -, qz⟩ := HK5.out.c1
 have HCW : Hid (cb < W3.heap.size) := hQ (by omega)
 go_cut [34, 35, 36] (fun s34 s35 s36 wx => ∃ (y : List Fn) (Ay : Option Addr) (cy gl py : Nat), s34 = .slice (some ⟨gl, 0, none⟩) 2 2 ∧ s35 = .int .i64 2 ∧ s36 = .int .i64 0 ∧ cb < gl ∧ Blk wx gl 26 #[.slice Ap p.length cp, .slice Ay y.length cy] ∧ PrS7 y ∧ y.length = p.length ∧ Fx wx (cb + 1) wx.heap.size Ay y ∧ Fx wx (cb + 1) wx.heap.size Ap p ∧ InX wx wx.heap.size iv inp ∧ CodesAt wx w1.heap.size cb A m c l' py ∧ Below w.heap.size w wx)
 case first =>
  go_region_with (go_at_call 6; refine (HOD.out _ (CodesAt.dr HC3.out) (HX3.out.keep (fun _ _ _ => rfl)) (by first | omega | (show w2.heap.size ≤ W3.heap.size; omega))).mono ?_; rintro e v4 ⟨y, Ay, cy, p4, rfl, hyl, hps, hyc, hfy, k4, g4'⟩; have hk5 := HK5.out.drew.grown g4' (by simpa using hg5c); obtain ⟨k0, -, kz⟩ := hk5.c1)
  all_goals
   have hz4 : W3.heap.size ≤ v4.heap.size := g4'.size
   have hax : Fx v4 (cb + 1) v4.heap.size Ap p := ((show Fx W3.drew (cb + 1) w2.heap.size Ap p from HX3.out.keep (fun _ _ _ => rfl)).keep (Kp.of_grown g4' (show w2.heap.size ≤ W3.heap.size by omega) (.inl (Nat.lt_succ_self _)))).more nL (by omega)
   have hix4 : InX v4 v4.heap.size iv inp := InX.codes (w := W3.drew) (show InX W3.drew W3.drew.heap.size iv inp from HI3.out.after (bR.drew)) (CodesAt.dr HC3.out) g4'
   have hbv : Below w.heap.size w v4 := HB3.out.trans ((bR.drew).trans (below_of_grownR g4' (fun k hk => by injection hk; omega) (by show w.heap.size ≤ W3.heap.size; exact hs3w)))
   go_wp2_with fail
   go_meet
   have hbo := fun o => ((Below.refl v4.heap.size v4).alloc nL o)
   exact ⟨y, Ay, cy, v4.heap.size, p4, rfl, rfl, rfl, by have := HCW.out; omega, (by rw [hyl]; exact Blk.new _ _ _), hps, hyl, (hfy.keep (Kp.of_below (hbo _) nL)).more nL (hbo _).size, (hax.keep (Kp.of_below (hbo _) nL)).more nL (hbo _).size, (hix4.after (hbo _)).more (hbo _).size, k4.alloc _, Below.al hbv _⟩
 case rest =>
  obtain ⟨y, Ay, cy, gl, py, rfl, rfl, rfl, hgl, hkl, hps, hyl, hfy, hfp, hix5, hc5, hbw⟩ := hcut
  generalize wc = W5 at *
  have HKL := hQ hkl
  have HC5 := hQ hc5
  have HI5 := hQ hix5
  have HBW := hQ hbw
  have HT5 := hQ (HT.out.below hbw)
  have HPS := hQ hps
  have HX : Hid (∀ k, k < 2 → ∃ (q : List Fn) (A' : Option Addr) (c' : Nat), W5.cell? ⟨gl, k, none⟩ = some (.slice A' q.length c') ∧ PrS7 q ∧ Fx W5 (cb + 1) W5.heap.size A' q ∧ q.length ≤ 80) := hQ (by
   intro k hk
   have : k = 0 ∨ k = 1 := by omega
   rcases this with rfl | rfl
   · exact ⟨p, Ap, cp, hkl.cell 0, HPO.out.s7, hfp, hp80⟩
   · exact ⟨y, Ay, cy, hkl.cell 1, hps, hfy, by omega⟩)
  have hglz : gl < W5.heap.size := hkl.lt
  have hs5 : w.heap.size ≤ W5.heap.size := hbw.size
  clear hkl hps hfy hfp hix5 hc5 hbw HOD HK5 HC3 HX3 HI3 HB3 q0 qz HCW HB2 hyl
  go_upto_region 5 with (fail)
  go_loopw [36] (fun x wr => ∃ k : Nat, k ≤ 2 ∧ x = .int .i64 k ∧ Hid (W5.grownBy wr (some cb)) ∧ Hid (∃ pr, CodesAt wr w1.heap.size cb A m c l' pr)) (fun x _ => 2 - (intOf x).toNat)
  case atStart => exact ⟨0, by omega, rfl, hQ (grownBy_of_below bR _), hQ ⟨py, HC5.out⟩⟩
  case round =>
   obtain ⟨k, hk, rfl, HGr, HCr⟩ := hrel
   by_cases hlt : k < 2
   · have hk0 : (0 : Int) ≤ (k : Int) := by omega
     have hk1 : (k : Int) < 2 := by omega
     obtain ⟨q, A', c', hcell, hqs, hqf, hq80⟩ := HX.out k hlt
     obtain ⟨pr, hcr⟩ := HCr.out
     have hszr := HGr.out.size
     have q0 : wr.cell? ⟨gl, k, none⟩ = some (.slice A' q.length c') := (World.cell?_of_block (a := ⟨gl, k, none⟩) (HGr.out.block gl hglz (fun e => by injection e; omega))).trans hcell
     have hglr : gl < wr.heap.size := by omega
     have hqr : Fx wr (cb + 1) wr.heap.size A' q := (hqf.keep (Kp.of_grown HGr.out nL (.inl (Nat.lt_succ_self _)))).more nL hszr
     have hir : InX wr wr.heap.size iv inp := HI5.out.codes HC5.out HGr.out
     have HQR := hQ hqr
     have HIR := hQ hir
     have HCR := hQ hcr
     have HQS := hQ hqs
     clear hqr hir hcr hqs hqf hcell
     generalize wr = wo at *
     go_upto_region 7 with (fail)
     obtain ⟨W6, hW6⟩ : ∃ W6, W6 = wo.alloc (.cells #[.slice A' q.length c'] 26) := ⟨_, rfl⟩
     obtain ⟨g10, hg10⟩ : ∃ g, g = wo.heap.size := ⟨_, rfl⟩
     rw [← hW6, ← hg10]
     have hb6 : Below wo.heap.size wo W6 := by rw [hW6]; exact bR.alloc nL _
     have HK10 : Hid (Blk W6 g10 26 #[.slice A' q.length c']) := hQ (by rw [hW6, hg10]; exact Blk.new _ _ _)
     have HC6 := hQ (HCR.out.after hb6)
     have HQ6 : Hid (Fx W6 (cb + 1) W6.heap.size A' q) := hQ ((HQR.out.keep (Kp.of_below hb6 nL)).more nL hb6.size)
     have HI6 : Hid (InX W6 W6.heap.size iv inp) := hQ ((HIR.out.after hb6).more hb6.size)
     have HG6 := hQ (grownBy_trans HGr.out (grownBy_of_below hb6 _))
     have hg10c : ¬ g10 = cb := by omega
     have hs6 : W5.heap.size ≤ W6.heap.size := HG6.out.size
     clear hW6 hg10 hb6 q0 HQR HIR HCR HGr HCr hglr hszr
     go_wp2_with fail
     refine (next_d _ _ _ _ _ _ _ 12 _ HC6.out (by omega) (by omega)).mono ?_
     rintro e w7 ⟨x, p7, hx, rfl, c7, g7⟩
     have hx12 : x < 12 := by omega
     have HK107 := hQ (HK10.out.grown g7 (some_ne (by omega)))
     have HQ7 : Hid (Fx w7 (cb + 1) w7.heap.size A' q) := hQ ((HQ6.out.keep (Kp.of_grown g7 nL (.inl (Nat.lt_succ_self _)))).more nL g7.size)
     have HI7 : Hid (InX w7 w7.heap.size iv inp) := hQ (HI6.out.codes HC6.out g7)
     have HG7 := hQ (grownBy_trans HG6.out g7)
     have HC7 := hQ c7
     have hs7 : W5.heap.size ≤ w7.heap.size := HG7.out.size
     clear c7 g7 hx HK10 HQ6 HI6 HG6 HC6 hs6
     go_upto_region 8 with (fail)
     obtain ⟨W8, hW8⟩ : ∃ W8, W8 = w7.alloc (.cells #[.int .i64 (F : Int), .int .i64 (x : Int), .int .i64 raw] 3) := ⟨_, rfl⟩
     obtain ⟨g44, hg44⟩ : ∃ g, g = w7.heap.size := ⟨_, rfl⟩
     rw [← hW8, ← hg44]
     have hb8 : Below w7.heap.size w7 W8 := by rw [hW8]; exact bR.alloc nL _
     have HK44 : Hid (Blk W8 g44 3 #[.int .i64 (F : Int), .int .i64 (x : Int), .int .i64 raw]) := hQ (by rw [hW8, hg44]; exact Blk.new _ _ _)
     have HK108 := hQ (HK107.out.after hb8)
     have HC8 := hQ (HC7.out.after hb8)
     have HQ8 : Hid (Fx W8 0 W8.heap.size A' q) := hQ ((HQ7.out.keep (Kp.of_below hb8 nL)).more (Nat.zero_le _) hb8.size)
     have HI8 : Hid (InX W8 W8.heap.size iv inp) := hQ ((HI7.out.after hb8).more hb8.size)
     have HG8 := hQ (grownBy_trans HG7.out (grownBy_of_below hb8 _))
     have hs8 : W5.heap.size ≤ W8.heap.size := HG8.out.size
     have HT8 : Hid (Tb W8) := hQ (HT.out.below (HBW.out.trans (below_of_grownR HG8.out (fun k hk => by injection hk; omega) hs5)))
     have hg44z : g44 < W8.heap.size := HK44.out.lt
     have HN : Hid (∀ j, j < 3 → ∃ v : Int, W8.cell? ⟨g44, j, none⟩ = some (.int .i64 v) ∧ -9223372036854775808 ≤ v ∧ v ≤ 9223372036854775807) := hQ (by
      intro j hj
      have : j = 0 ∨ j = 1 ∨ j = 2 := by omega
      rcases this with rfl | rfl | rfl
      · exact ⟨_, HK44.out.cell 0, by omega, by omega⟩
      · exact ⟨_, HK44.out.cell 1, by omega, by omega⟩
      · exact ⟨_, HK44.out.cell 2, HR0.out, HR1.out⟩)
     clear hW8 hg44 hb8 HK107 HQ7 HI7 HG7 HC7 HK44 hs7
     go_loopw [46] (fun x wr => ∃ j : Nat, j ≤ 3 ∧ x = .int .i64 j ∧ Hid (Below W8.heap.size W8 wr)) (fun x _ => 3 - (intOf x).toNat)
     case atStart => exact ⟨0, by omega, rfl, hQ bR⟩
     case round =>
      obtain ⟨j, hj, rfl, HBr⟩ := hrel
      by_cases hlj : j < 3
      · have hj0 : (0 : Int) ≤ (j : Int) := by omega
        have hj1 : (j : Int) < 3 := by omega
        obtain ⟨v, hv, v0, v1⟩ := HN.out j hlj
        have hcj := (HBr.out.cell (p := ⟨g44, j, none⟩) hg44z).trans hv
        have hszr := HBr.out.size
        have hglr : g44 < wr.heap.size := by omega
        generalize wr = wo at *
        obtain ⟨v4, hv4⟩ : ∃ v4, v4 = if 400 < v ∧ v ≤ 100000 then 400 else v := ⟨_, rfl⟩
        have hv40 : -9223372036854775808 ≤ v4 ∧ v4 ≤ 9223372036854775807 := by rw [hv4]; split <;> omega
        obtain ⟨M, R, hfour⟩ := four_any A' q c' iv inp v4 hv40.1 hv40.2 (by unfold maxLen; omega) (fun i hi => (HQS.out i hi).2.2.1) (fun i hi => (HQS.out i hi).2.2.2) HIW.out
        have HFO := hQ (fun (W : World) (h : Below W8.heap.size W8 W) => hfour W (HT8.out.below h) ((HQ8.out.keep (Kp.of_below h nL)).more nL h.size) ((HI8.out.after h).more h.size))
        obtain ⟨z10, -, zz10⟩ := (HK108.out.after HBr.out).c1
        have HVV := hQ hv4
        clear hfour hv4 hv
        go_upto_region 10 with (fail)
        go_cut [55] (fun s55 wx => s55 = .bool (decide (400 < v ∧ v ≤ 100000)) ∧ wo = wx)
        case first =>
         by_cases h4 : 400 < v
         · by_cases h5 : v ≤ 100000
           · go_wp2
             go_meet
             exact ⟨by rw [decide_eq_true ⟨h4, h5⟩], rfl⟩
           · have h6 : 100000 < v := by omega
             go_wp2
             go_meet
             exact ⟨by rw [decide_eq_false (by omega)], rfl⟩
         · go_wp2
           go_meet
           exact ⟨by rw [decide_eq_false (by omega)], rfl⟩
        case rest =>
         obtain ⟨rfl, hwx⟩ := hcut
         subst hwx
         have hvu : v4 = if decide (400 < v ∧ v ≤ 100000) = true then 400 else v := by rw [HVV.out]; simp
         generalize decide (400 < v ∧ v ≤ 100000) = u4 at *
         go_upto_if 55 with (fail)
         go_cut [12] (fun s12 wx => s12 = .int .i64 v4 ∧ wo = wx)
         case first =>
          cases u4 with
          | false =>
           have e4 : v4 = v := by simpa using hvu
           go_wp2
           go_meet
           exact ⟨by rw [e4], rfl⟩
          | true =>
           have e4 : v4 = 400 := by simpa using hvu
           go_wp2
           go_meet
           exact ⟨by rw [e4], rfl⟩
         case rest =>
          obtain ⟨rfl, hwx⟩ := hcut
          subst hwx
          clear hvu
          have hb0 : Below W8.heap.size W8 wo := HBr.out
          go_wp2_with fail
          refine ((HFO.out wo hb0).1).mono ?_
          rintro e w12 ⟨⟨At1, ct1, rfl, bl1, tr1, hc1⟩, hml⟩
          rw [outV_R]
          unfold ocs
          obtain ⟨o, ho⟩ : ∃ o : Oc, o = ⟨M.kind, M.code, M.res.1, M.res.2, M.trace.map fun v => ((v.1 : Int), (v.2 : Int)), M.steps⟩ := ⟨_, rfl⟩
          rw [← ho]
          have hou1 : Ux w12 wo.heap.size w12.heap.size At1 o.tr := by rw [ho]; exact outU_R tr1
          have hol : o.tr.length ≤ maxLen := by rw [ho]; show (M.trace.map _).length ≤ _; rw [List.length_map]; exact hml
          obtain ⟨X1, hX1⟩ : ∃ W, W = w12.alloc (.cells #[.int .i64 o.kind, .int .u64 o.code, .int .u64 o.lo, .int .u64 o.hi, .slice At1 o.tr.length ct1, .int .i64 o.st] 40) := ⟨_, rfl⟩
          obtain ⟨g13, hg13⟩ : ∃ g, g = w12.heap.size := ⟨_, rfl⟩
          have HX1 := hQ (ocb_box hX1 hg13 hou1 bl1)
          have HXE := hQ hX1
          have HGE := hQ hg13
          have HO := hQ ho
          have HOL := hQ hol
          clear hX1 hg13 hou1 tr1 hc1 hml ho hol bl1
          go_upto_region 13 with (fail)
          rw [← HXE.out, ← HGE.out]
          have hz10a := (HX1.out.b.cell (p := ⟨g10, 0, none⟩) zz10).trans z10
          have hzz10a : g10 < X1.heap.size := Nat.lt_of_lt_of_le zz10 HX1.out.b.size
          have hb1 : Below W8.heap.size W8 X1 := hb0.trans (HX1.out.b.mono hb0.size)
          clear HXE HGE
          go_wp2_with fail
          refine ((HFO.out X1 hb1).2.1).mono ?_
          rintro e w14 ⟨At2, ct2, rfl, bl2, tr2, hc2⟩
          rw [outV_R]
          unfold ocs
          rw [← HO.out]
          have hou2 : Ux w14 X1.heap.size w14.heap.size At2 o.tr := by rw [HO.out]; exact outU_R tr2
          obtain ⟨X2, hX2⟩ : ∃ W, W = w14.alloc (.cells #[.int .i64 o.kind, .int .u64 o.code, .int .u64 o.lo, .int .u64 o.hi, .slice At2 o.tr.length ct2, .int .i64 o.st] 40) := ⟨_, rfl⟩
          obtain ⟨g15, hg15⟩ : ∃ g, g = w14.heap.size := ⟨_, rfl⟩
          have HX2 := hQ (ocb_box hX2 hg15 hou2 bl2)
          have HXE := hQ hX2
          have HGE := hQ hg15
          clear hX2 hg15 hou2 tr2 hc2 bl2
          go_upto_region 14 with (fail)
          rw [← HXE.out, ← HGE.out]
          have hz10b := (HX2.out.b.cell (p := ⟨g10, 0, none⟩) hzz10a).trans hz10a
          have hzz10b : g10 < X2.heap.size := Nat.lt_of_lt_of_le hzz10a HX2.out.b.size
          have hb2 : Below W8.heap.size W8 X2 := hb1.trans (HX2.out.b.mono hb1.size)
          clear HXE HGE
          go_wp2_with fail
          refine ((HFO.out X2 hb2).2.2.1).mono ?_
          rintro e w16 ⟨rfl, bl3⟩
          have hz10c := (bl3.cell (p := ⟨g10, 0, none⟩) hzz10b).trans hz10b
          have hzz10c : g10 < w16.heap.size := Nat.lt_of_lt_of_le hzz10b bl3.size
          have hb3 : Below W8.heap.size W8 w16 := hb2.trans (bl3.mono hb2.size)
          go_wp2_with fail
          refine ((HFO.out w16 hb3).2.2.2).mono ?_
          rintro e w17 ⟨rfl, bl4⟩
          have hb4 : Below W8.heap.size W8 w17 := hb3.trans (bl4.mono hb3.size)
          have b2w : Below X2.heap.size X2 w17 := bl3.trans (bl4.mono bl3.size)
          have b1w : Below X1.heap.size X1 w17 := HX2.out.b.trans (b2w.mono HX2.out.b.size)
          have HK13 := hQ (HX1.out.k.after b1w)
          have HK15 := hQ (HX2.out.k.after b2w)
          have HB4 := hQ hb4
          have HSAME : Hid (∀ W, Below w17.heap.size w17 W → Calls Tryd.prog 12 #[.agg #[.int .i64 o.kind, .int .u64 o.code, .int .u64 o.lo, .int .u64 o.hi, .slice At1 o.tr.length ct1, .int .i64 o.st], .agg #[.int .i64 o.kind, .int .u64 o.code, .int .u64 o.lo, .int .u64 o.hi, .slice At2 o.tr.length ct2, .int .i64 o.st]] W fun e w' => e = .returned (.bool true) ∧ Below W.heap.size W w') := hQ (fun W hW => by
           have c1 : Below X1.heap.size X1 W := b1w.trans (hW.mono b1w.size)
           have c2 : Below X2.heap.size X2 W := b2w.trans (hW.mono b2w.size)
           refine (refsame8_any o o At1 At2 ct1 ct2 W wo.heap.size X1.heap.size X1.heap.size X2.heap.size c1.size c2.size (Rx.keep HX1.out.u (Kp.of_below c1 nL)) (Rx.keep HX2.out.u (Kp.of_below c2 nL)) HOL.out HOL.out).mono ?_
           rintro e w' ⟨rfl, h⟩
           exact ⟨by rw [sameO_reflR], h⟩)
          have HEN1 := hQ (fun (W : World) => ends8_any o At1 ct1 W)
          have HEN2 := hQ (fun (W : World) => refends8_any o At2 ct2 W)
          generalize hen : endO o = EO at *
          clear hen HX1 HX2 hb0 hb1 hb2 hb3 hb4 bl3 bl4 b1w b2w hz10a hzz10a hz10b hzz10b hz10c hzz10c HO HOL z10 zz10
          go_upto_region 16 with (fail)
          refine wp_region_rg (fun (X : Nat → Prop) (j : Nat) (u : Nat → Value) (w : World) => match j with
           | 0 => u 0 = .int .i64 R
           | 1 => u 1 = .int .i64 R
           | 2 => u 2 = .bool false
           | 3 => u 3 = .bool false
           | 4 => u 4 = .agg #[.int .i64 o.kind, .int .u64 o.code, .int .u64 o.lo, .int .u64 o.hi, .slice At1 o.tr.length ct1, .int .i64 o.st]
           | 5 => u 5 = .agg #[.int .i64 o.kind, .int .u64 o.code, .int .u64 o.lo, .int .u64 o.hi, .slice At2 o.tr.length ct2, .int .i64 o.st]
           | 6 => u 6 = .bool true
           | 7 => u 7 = .bool false
           | 8 => u 8 = .bool false
           | 9 => u 9 = .bool false
           | 10 => u 10 = .int .i64 (M.deep : Int)
           | 11 => u 11 = .int .i64 (M.deep : Int)
           | 12 => u 12 = .bool false
           | 13 => u 13 = .bool false
           | 14 => u 14 = .bool false
           | 15 => u 15 = .int .i64 R
           | 16 => u 16 = .int .i64 R
           | 17 => u 17 = .bool false
           | 18 => u 18 = .bool false
           | 19 => u 19 = .bool false
           | 20 => u 20 = .agg #[.int .i64 o.kind, .int .u64 o.code, .int .u64 o.lo, .int .u64 o.hi, .slice At1 o.tr.length ct1, .int .i64 o.st]
           | 21 => u 21 = .bool EO
           | 22 => u 22 = .agg #[.int .i64 o.kind, .int .u64 o.code, .int .u64 o.lo, .int .u64 o.hi, .slice At2 o.tr.length ct2, .int .i64 o.st]
           | 23 => u 23 = .bool EO
           | 24 => u 24 = .bool false
           | 25 => u 25 = .bool false
           | _ => True)
           (fun _ w' => Below w17.heap.size w17 w') (fun w w' => Below w.heap.size w w') [] [0, 0, 3, 7, 15, 15, 63, 127, 255, 511, 1023, 1023, 4095, 8191, 16383, 32767, 32767, 131071, 262143, 524287, 1048575, 2097151, 1048575, 8388607, 16777215, 33554431]
           [[], [], [(0, 84), (1, 85)], [(2, 86)], [(3, 87)], [(3, 87)], [(3, 87), (4, 88), (5, 89)], [(3, 87), (6, 90)], [(3, 87), (7, 91)], [(8, 92)], [(9, 93)], [(9, 93)], [(9, 93), (10, 94), (11, 95)], [(9, 93), (12, 96)], [(13, 97)], [(14, 98)], [(14, 98)], [(14, 98), (15, 99), (16, 100)], [(14, 98), (17, 101)], [(18, 102)], [(19, 103)], [(19, 103), (20, 104)], [(19, 103)], [(19, 103), (22, 106)], [(19, 103), (21, 105), (23, 107)], [(19, 103), (24, 108)]]
           [(0, 84), (1, 85), (2, 86), (3, 87), (4, 88), (5, 89), (6, 90), (7, 91), (8, 92), (9, 93), (10, 94), (11, 95), (12, 96), (13, 97), (14, 98), (15, 99), (16, 100), (17, 101), (18, 102), (19, 103), (20, 104), (21, 105), (22, 106), (23, 107), (24, 108), (25, 109)] (by kernel_rfl) (by kernel_rfl) ?hsG ?hsT ?h0 ?hs ?he
          case hsG =>
           intro i X w w' hsp hR hG
           exact hG.trans (hR.mono hG.size)
          case hsT =>
           intro i X j u u' w w' hsp hij hni hXj hR hu h
           match j, hij, hni, hXj, hu, h with
           | 0, hij, hni, hXj, hu, h => exact (hu 0 (.inl rfl)).trans h
           | 1, hij, hni, hXj, hu, h => exact (hu 1 (.inl rfl)).trans h
           | 2, hij, hni, hXj, hu, h => exact (hu 2 (.inl rfl)).trans h
           | 3, hij, hni, hXj, hu, h => exact (hu 3 (.inl rfl)).trans h
           | 4, hij, hni, hXj, hu, h => exact (hu 4 (.inl rfl)).trans h
           | 5, hij, hni, hXj, hu, h => exact (hu 5 (.inl rfl)).trans h
           | 6, hij, hni, hXj, hu, h => exact (hu 6 (.inl rfl)).trans h
           | 7, hij, hni, hXj, hu, h => exact (hu 7 (.inl rfl)).trans h
           | 8, hij, hni, hXj, hu, h => exact (hu 8 (.inl rfl)).trans h
           | 9, hij, hni, hXj, hu, h => exact (hu 9 (.inl rfl)).trans h
           | 10, hij, hni, hXj, hu, h => exact (hu 10 (.inl rfl)).trans h
           | 11, hij, hni, hXj, hu, h => exact (hu 11 (.inl rfl)).trans h
           | 12, hij, hni, hXj, hu, h => exact (hu 12 (.inl rfl)).trans h
           | 13, hij, hni, hXj, hu, h => exact (hu 13 (.inl rfl)).trans h
           | 14, hij, hni, hXj, hu, h => exact (hu 14 (.inl rfl)).trans h
           | 15, hij, hni, hXj, hu, h => exact (hu 15 (.inl rfl)).trans h
           | 16, hij, hni, hXj, hu, h => exact (hu 16 (.inl rfl)).trans h
           | 17, hij, hni, hXj, hu, h => exact (hu 17 (.inl rfl)).trans h
           | 18, hij, hni, hXj, hu, h => exact (hu 18 (.inl rfl)).trans h
           | 19, hij, hni, hXj, hu, h => exact (hu 19 (.inl rfl)).trans h
           | 20, hij, hni, hXj, hu, h => exact (hu 20 (.inl rfl)).trans h
           | 21, hij, hni, hXj, hu, h => exact (hu 21 (.inl rfl)).trans h
           | 22, hij, hni, hXj, hu, h => exact (hu 22 (.inl rfl)).trans h
           | 23, hij, hni, hXj, hu, h => exact (hu 23 (.inl rfl)).trans h
           | 24, hij, hni, hXj, hu, h => exact (hu 24 (.inl rfl)).trans h
           | 25, hij, hni, hXj, hu, h => exact (hu 25 (.inl rfl)).trans h
           | _ + 26, _, _, _, _, h => exact trivial
          case h0 => exact bR.drew
          case hs =>
           refine RgAll.cons [] rfl (by decide) ?_ ?_
           · intro u w X hi hA hF hG hT K hK
             simp only [lay, Act.put, sA, sZ, sS] at hK ⊢
             clear hi hA hF hG hT
             go_simp
             exact hK _ _ bR (updV_self _ _ _)
           refine RgAll.cons [] rfl (by decide) ?_ ?_
           · intro u w X hi hA hF hG hT K hK
             simp only [lay, Act.put, sA, sZ, sS] at hK ⊢
             clear hi hA hF hG hT
             go_simp
             exact hK _ _ bR (updV_self _ _ _)
           refine RgAll.cons [(0, 84), (1, 85)] rfl (by decide) ?_ ?_
           · intro u w X hi hA hF hG hT K hK
             have t0 : u 0 = .int .i64 R := hT 0 (hA 0 rfl)
             have t1 : u 1 = .int .i64 R := hT 1 (hA 1 rfl)
             simp only [lay, Act.put, sA, sZ, sS, t0, t1] at hK ⊢
             clear hi hA hF hG hT
             go_simp
             exact hK _ _ bR (updV_self _ _ _)
           refine RgAll.cons [(2, 86)] rfl (by decide) ?_ ?_
           · intro u w X hi hA hF hG hT K hK
             have t2 : u 2 = .bool false := hT 2 (hA 2 rfl)
             simp only [lay, Act.put, sA, sZ, sS, t2] at hK ⊢
             clear hi hA hF hG hT
             go_simp
             exact hK _ _ bR (updV_self _ _ _)
           refine RgAll.cons [(3, 87)] rfl (by decide) ?_ ?_
           · intro u w X hi hA hF hG hT K hK
             have t3 : u 3 = .bool false := hT 3 (hA 3 rfl)
             simp only [lay, Act.put, sA, sZ, sS, t3] at hK ⊢
             have HBw : Below w17.heap.size w17 w := hG
             obtain ⟨a0, a1, a2, a3, a4, a5, -, -, -, -, -, -, az⟩ := (HK13.out.after HBw).c6
             obtain ⟨d0, d1, d2, d3, d4, d5, -, -, -, -, -, -, dz⟩ := (HK15.out.after HBw).c6
             clear hi hA hF hG hT
             go_simp
             exact hK _ _ bR (updV_self _ _ _)
           refine RgAll.cons [(3, 87)] rfl (by decide) ?_ ?_
           · intro u w X hi hA hF hG hT K hK
             have t3 : u 3 = .bool false := hT 3 (hA 3 rfl)
             simp only [lay, Act.put, sA, sZ, sS, t3] at hK ⊢
             have HBw : Below w17.heap.size w17 w := hG
             obtain ⟨a0, a1, a2, a3, a4, a5, -, -, -, -, -, -, az⟩ := (HK13.out.after HBw).c6
             obtain ⟨d0, d1, d2, d3, d4, d5, -, -, -, -, -, -, dz⟩ := (HK15.out.after HBw).c6
             clear hi hA hF hG hT
             go_simp
             exact hK _ _ bR (updV_self _ _ _)
           refine RgAll.cons [(3, 87), (4, 88), (5, 89)] rfl (by decide) ?_ ?_
           · intro u w X hi hA hF hG hT K hK
             have t3 : u 3 = .bool false := hT 3 (hA 3 rfl)
             have t4 : u 4 = .agg #[.int .i64 o.kind, .int .u64 o.code, .int .u64 o.lo, .int .u64 o.hi, .slice At1 o.tr.length ct1, .int .i64 o.st] := hT 4 (hA 4 rfl)
             have t5 : u 5 = .agg #[.int .i64 o.kind, .int .u64 o.code, .int .u64 o.lo, .int .u64 o.hi, .slice At2 o.tr.length ct2, .int .i64 o.st] := hT 5 (hA 5 rfl)
             simp only [lay, Act.put, sA, sZ, sS, t3, t4, t5] at hK ⊢
             have HBw : Below w17.heap.size w17 w := hG
             clear hi hA hF hG hT
             go_simp
             refine (HSAME.out w HBw).mono ?_
             rintro e w' ⟨rfl, hb⟩
             exact hK _ _ hb (updV_self _ _ _)
           refine RgAll.cons [(3, 87), (6, 90)] rfl (by decide) ?_ ?_
           · intro u w X hi hA hF hG hT K hK
             have t3 : u 3 = .bool false := hT 3 (hA 3 rfl)
             have t6 : u 6 = .bool true := hT 6 (hA 6 rfl)
             simp only [lay, Act.put, sA, sZ, sS, t3, t6] at hK ⊢
             clear hi hA hF hG hT
             go_simp
             exact hK _ _ bR (updV_self _ _ _)
           refine RgAll.cons [(3, 87), (7, 91)] rfl (by decide) ?_ ?_
           · intro u w X hi hA hF hG hT K hK
             have t3 : u 3 = .bool false := hT 3 (hA 3 rfl)
             have t7 : u 7 = .bool false := hT 7 (hA 7 rfl)
             simp only [lay, Act.put, sA, sZ, sS, t3, t7] at hK ⊢
             clear hi hA hF hG hT
             go_simp
             exact hK _ _ bR (updV_self _ _ _)
           refine RgAll.cons [(8, 92)] rfl (by decide) ?_ ?_
           · intro u w X hi hA hF hG hT K hK
             have t8 : u 8 = .bool false := hT 8 (hA 8 rfl)
             simp only [lay, Act.put, sA, sZ, sS, t8] at hK ⊢
             clear hi hA hF hG hT
             go_simp
             exact hK _ _ bR (updV_self _ _ _)
           refine RgAll.cons [(9, 93)] rfl (by decide) ?_ ?_
           · intro u w X hi hA hF hG hT K hK
             have t9 : u 9 = .bool false := hT 9 (hA 9 rfl)
             simp only [lay, Act.put, sA, sZ, sS, t9] at hK ⊢
             clear hi hA hF hG hT
             go_simp
             exact hK _ _ bR (updV_self _ _ _)
           refine RgAll.cons [(9, 93)] rfl (by decide) ?_ ?_
           · intro u w X hi hA hF hG hT K hK
             have t9 : u 9 = .bool false := hT 9 (hA 9 rfl)
             simp only [lay, Act.put, sA, sZ, sS, t9] at hK ⊢
             clear hi hA hF hG hT
             go_simp
             exact hK _ _ bR (updV_self _ _ _)
           refine RgAll.cons [(9, 93), (10, 94), (11, 95)] rfl (by decide) ?_ ?_
           · intro u w X hi hA hF hG hT K hK
             have t9 : u 9 = .bool false := hT 9 (hA 9 rfl)
             have t10 : u 10 = .int .i64 (M.deep : Int) := hT 10 (hA 10 rfl)
             have t11 : u 11 = .int .i64 (M.deep : Int) := hT 11 (hA 11 rfl)
             simp only [lay, Act.put, sA, sZ, sS, t9, t10, t11] at hK ⊢
             clear hi hA hF hG hT
             go_simp
             exact hK _ _ bR (updV_self _ _ _)
           refine RgAll.cons [(9, 93), (12, 96)] rfl (by decide) ?_ ?_
           · intro u w X hi hA hF hG hT K hK
             have t9 : u 9 = .bool false := hT 9 (hA 9 rfl)
             have t12 : u 12 = .bool false := hT 12 (hA 12 rfl)
             simp only [lay, Act.put, sA, sZ, sS, t9, t12] at hK ⊢
             clear hi hA hF hG hT
             go_simp
             exact hK _ _ bR (updV_self _ _ _)
           refine RgAll.cons [(13, 97)] rfl (by decide) ?_ ?_
           · intro u w X hi hA hF hG hT K hK
             have t13 : u 13 = .bool false := hT 13 (hA 13 rfl)
             simp only [lay, Act.put, sA, sZ, sS, t13] at hK ⊢
             clear hi hA hF hG hT
             go_simp
             exact hK _ _ bR (updV_self _ _ _)
           refine RgAll.cons [(14, 98)] rfl (by decide) ?_ ?_
           · intro u w X hi hA hF hG hT K hK
             have t14 : u 14 = .bool false := hT 14 (hA 14 rfl)
             simp only [lay, Act.put, sA, sZ, sS, t14] at hK ⊢
             clear hi hA hF hG hT
             go_simp
             exact hK _ _ bR (updV_self _ _ _)
           refine RgAll.cons [(14, 98)] rfl (by decide) ?_ ?_
           · intro u w X hi hA hF hG hT K hK
             have t14 : u 14 = .bool false := hT 14 (hA 14 rfl)
             simp only [lay, Act.put, sA, sZ, sS, t14] at hK ⊢
             clear hi hA hF hG hT
             go_simp
             exact hK _ _ bR (updV_self _ _ _)
           refine RgAll.cons [(14, 98), (15, 99), (16, 100)] rfl (by decide) ?_ ?_
           · intro u w X hi hA hF hG hT K hK
             have t14 : u 14 = .bool false := hT 14 (hA 14 rfl)
             have t15 : u 15 = .int .i64 R := hT 15 (hA 15 rfl)
             have t16 : u 16 = .int .i64 R := hT 16 (hA 16 rfl)
             simp only [lay, Act.put, sA, sZ, sS, t14, t15, t16] at hK ⊢
             clear hi hA hF hG hT
             go_simp
             exact hK _ _ bR (updV_self _ _ _)
           refine RgAll.cons [(14, 98), (17, 101)] rfl (by decide) ?_ ?_
           · intro u w X hi hA hF hG hT K hK
             have t14 : u 14 = .bool false := hT 14 (hA 14 rfl)
             have t17 : u 17 = .bool false := hT 17 (hA 17 rfl)
             simp only [lay, Act.put, sA, sZ, sS, t14, t17] at hK ⊢
             clear hi hA hF hG hT
             go_simp
             exact hK _ _ bR (updV_self _ _ _)
           refine RgAll.cons [(18, 102)] rfl (by decide) ?_ ?_
           · intro u w X hi hA hF hG hT K hK
             have t18 : u 18 = .bool false := hT 18 (hA 18 rfl)
             simp only [lay, Act.put, sA, sZ, sS, t18] at hK ⊢
             clear hi hA hF hG hT
             go_simp
             exact hK _ _ bR (updV_self _ _ _)
           refine RgAll.cons [(19, 103)] rfl (by decide) ?_ ?_
           · intro u w X hi hA hF hG hT K hK
             have t19 : u 19 = .bool false := hT 19 (hA 19 rfl)
             simp only [lay, Act.put, sA, sZ, sS, t19] at hK ⊢
             have HBw : Below w17.heap.size w17 w := hG
             obtain ⟨a0, a1, a2, a3, a4, a5, -, -, -, -, -, -, az⟩ := (HK13.out.after HBw).c6
             obtain ⟨d0, d1, d2, d3, d4, d5, -, -, -, -, -, -, dz⟩ := (HK15.out.after HBw).c6
             clear hi hA hF hG hT
             go_simp
             exact hK _ _ bR (updV_self _ _ _)
           refine RgAll.cons [(19, 103), (20, 104)] rfl (by decide) ?_ ?_
           · intro u w X hi hA hF hG hT K hK
             have t19 : u 19 = .bool false := hT 19 (hA 19 rfl)
             have t20 : u 20 = .agg #[.int .i64 o.kind, .int .u64 o.code, .int .u64 o.lo, .int .u64 o.hi, .slice At1 o.tr.length ct1, .int .i64 o.st] := hT 20 (hA 20 rfl)
             simp only [lay, Act.put, sA, sZ, sS, t19, t20] at hK ⊢
             have HBw : Below w17.heap.size w17 w := hG
             clear hi hA hF hG hT
             go_simp
             refine (HEN1.out w).mono ?_
             rintro e w' ⟨rfl, hb⟩
             exact hK _ _ hb (updV_self _ _ _)
           refine RgAll.cons [(19, 103)] rfl (by decide) ?_ ?_
           · intro u w X hi hA hF hG hT K hK
             have t19 : u 19 = .bool false := hT 19 (hA 19 rfl)
             simp only [lay, Act.put, sA, sZ, sS, t19] at hK ⊢
             have HBw : Below w17.heap.size w17 w := hG
             obtain ⟨a0, a1, a2, a3, a4, a5, -, -, -, -, -, -, az⟩ := (HK13.out.after HBw).c6
             obtain ⟨d0, d1, d2, d3, d4, d5, -, -, -, -, -, -, dz⟩ := (HK15.out.after HBw).c6
             clear hi hA hF hG hT
             go_simp
             exact hK _ _ bR (updV_self _ _ _)
           refine RgAll.cons [(19, 103), (22, 106)] rfl (by decide) ?_ ?_
           · intro u w X hi hA hF hG hT K hK
             have t19 : u 19 = .bool false := hT 19 (hA 19 rfl)
             have t22 : u 22 = .agg #[.int .i64 o.kind, .int .u64 o.code, .int .u64 o.lo, .int .u64 o.hi, .slice At2 o.tr.length ct2, .int .i64 o.st] := hT 22 (hA 22 rfl)
             simp only [lay, Act.put, sA, sZ, sS, t19, t22] at hK ⊢
             have HBw : Below w17.heap.size w17 w := hG
             clear hi hA hF hG hT
             go_simp
             refine (HEN2.out w).mono ?_
             rintro e w' ⟨rfl, hb⟩
             exact hK _ _ hb (updV_self _ _ _)
           refine RgAll.cons [(19, 103), (21, 105), (23, 107)] rfl (by decide) ?_ ?_
           · intro u w X hi hA hF hG hT K hK
             have t19 : u 19 = .bool false := hT 19 (hA 19 rfl)
             have t21 : u 21 = .bool EO := hT 21 (hA 21 rfl)
             have t23 : u 23 = .bool EO := hT 23 (hA 23 rfl)
             simp only [lay, Act.put, sA, sZ, sS, t19, t21, t23] at hK ⊢
             clear hi hA hF hG hT
             go_simp
             exact hK _ _ bR (updV_self _ _ _)
           refine RgAll.cons [(19, 103), (24, 108)] rfl (by decide) ?_ ?_
           · intro u w X hi hA hF hG hT K hK
             have t19 : u 19 = .bool false := hT 19 (hA 19 rfl)
             have t24 : u 24 = .bool false := hT 24 (hA 24 rfl)
             simp only [lay, Act.put, sA, sZ, sS, t19, t24] at hK ⊢
             clear hi hA hF hG hT
             go_simp
             exact hK _ _ bR (updV_self _ _ _)
           exact RgAll.nil
          intro u w X hX hG hT
          have t0 : u 0 = .int .i64 R := hT 0 (by simp)
          have t1 : u 1 = .int .i64 R := hT 1 (by simp)
          have t2 : u 2 = .bool false := hT 2 (by simp)
          have t3 : u 3 = .bool false := hT 3 (by simp)
          have t4 : u 4 = .agg #[.int .i64 o.kind, .int .u64 o.code, .int .u64 o.lo, .int .u64 o.hi, .slice At1 o.tr.length ct1, .int .i64 o.st] := hT 4 (by simp)
          have t5 : u 5 = .agg #[.int .i64 o.kind, .int .u64 o.code, .int .u64 o.lo, .int .u64 o.hi, .slice At2 o.tr.length ct2, .int .i64 o.st] := hT 5 (by simp)
          have t6 : u 6 = .bool true := hT 6 (by simp)
          have t7 : u 7 = .bool false := hT 7 (by simp)
          have t8 : u 8 = .bool false := hT 8 (by simp)
          have t9 : u 9 = .bool false := hT 9 (by simp)
          have t10 : u 10 = .int .i64 (M.deep : Int) := hT 10 (by simp)
          have t11 : u 11 = .int .i64 (M.deep : Int) := hT 11 (by simp)
          have t12 : u 12 = .bool false := hT 12 (by simp)
          have t13 : u 13 = .bool false := hT 13 (by simp)
          have t14 : u 14 = .bool false := hT 14 (by simp)
          have t15 : u 15 = .int .i64 R := hT 15 (by simp)
          have t16 : u 16 = .int .i64 R := hT 16 (by simp)
          have t17 : u 17 = .bool false := hT 17 (by simp)
          have t18 : u 18 = .bool false := hT 18 (by simp)
          have t19 : u 19 = .bool false := hT 19 (by simp)
          have t20 : u 20 = .agg #[.int .i64 o.kind, .int .u64 o.code, .int .u64 o.lo, .int .u64 o.hi, .slice At1 o.tr.length ct1, .int .i64 o.st] := hT 20 (by simp)
          have t21 : u 21 = .bool EO := hT 21 (by simp)
          have t22 : u 22 = .agg #[.int .i64 o.kind, .int .u64 o.code, .int .u64 o.lo, .int .u64 o.hi, .slice At2 o.tr.length ct2, .int .i64 o.st] := hT 22 (by simp)
          have t23 : u 23 = .bool EO := hT 23 (by simp)
          have t24 : u 24 = .bool false := hT 24 (by simp)
          have t25 : u 25 = .bool false := hT 25 (by simp)
          simp only [lay, Act.put, sA, sZ, sS, t0, t1, t2, t3, t4, t5, t6, t7, t8, t9, t10, t11, t12, t13, t14, t15, t16, t17, t18, t19, t20, t21, t22, t23, t24, t25]
          clear hT t0 t1 t2 t3 t4 t5 t6 t7 t8 t9 t10 t11 t12 t13 t14 t15 t16 t17 t18 t19 t20 t21 t22 t23 t24 t25
          have HBf := hQ (HB4.out.trans (hG.mono HB4.out.size))
          clear hX hG HK13 HK15 HSAME HEN1 HEN2
          go_wp2
          go_roundw
          case rel => exact ⟨j + 1, by omega, by go_num, HBf⟩
          case measure => simp [intOf]; omega
      · have hj3 : j = 3 := by omega
        subst hj3
        go_wp2
        go_roundw
        case rel => exact ⟨k + 1, by omega, by go_num, hQ (grownBy_trans HG8.out (grownBy_of_below HBr.out _)), hQ ⟨p7, HC8.out.after HBr.out⟩⟩
        case measure => simp [intOf]; omega
   · have hk2 : k = 2 := by omega
     subst hk2
     go_wp2
     go_ret
     exact ⟨rfl, HBW.out.trans (below_of_grownR HGr.out (fun k hk => by injection hk; omega) hs5)⟩
end Go.Proofs.YtdijeijbcoeopaaDoor.pm
