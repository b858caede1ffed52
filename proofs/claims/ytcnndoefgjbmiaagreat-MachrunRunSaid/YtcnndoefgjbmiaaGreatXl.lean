/- MachrunRun: the walk of the law. Printed by mkxl.py. -/
import Derived.Test.YtcnndoefgjbmiaaGreatGXi
import Derived.Test.YtcnndoefgjbmiaaGreatGJv
import Derived.Test.YtcnndoefgjbmiaaGreatGKo
import Derived.Test.YtcnndoefgjbmiaaGreatGVe
set_option linter.unusedVariables false
set_option maxRecDepth 10000
set_option maxHeartbeats 8000000
namespace Go.Proofs.YtcnndoefgjbmiaaGreat.pm
open Go.RowKit
attribute [local go_sem ↓] Go.wp_at_zero Go.wp_at_succ
theorem sameO_reflR (a : Oc) : sameO a a = true := by
 unfold sameO
 simp
 exact eqL_all (z := (0, 0)) rfl fun j _ => by simp [slEq]
theorem outV_R (m : Mx) (At : Option Addr) (ct : Nat) : outV m At ct = .agg (ocs ⟨m.kind, m.code, m.res.1, m.res.2, m.trace.map fun v => ((v.1 : Int), (v.2 : Int)), m.steps⟩ At ct) := by
 unfold outV ocs
 rw [List.length_map]
theorem outU_R {w : World} {lo hi : Nat} {At : Option Addr} {l : List (Nat × Nat)} (h : Rx w lo hi 2 At l.length (l.flatMap vcl)) : Ux w lo hi At (l.map fun v => ((v.1 : Int), (v.2 : Int))) := by
 have e : (l.map fun v => ((v.1 : Int), (v.2 : Int))).flatMap ucells = l.flatMap vcl := by
  rw [List.flatMap_map]
  rfl
 unfold Ux
 rw [e, List.length_map]
 exact h
structure OcB (w X : World) (g : Nat) (A : Option Addr) (o : Oc) (c : Nat) : Prop where
 b : Below w.heap.size w X
 u : Ux X w.heap.size X.heap.size A o.tr
 k : Blk X g 41 #[.int .i64 o.kind, .int .u64 o.code, .int .u64 o.lo, .int .u64 o.hi, .slice A o.tr.length c, .int .i64 o.st]
theorem ocb_box {w v X : World} {g c : Nat} {A : Option Addr} {o : Oc} (hX : X = v.alloc (.cells #[.int .i64 o.kind, .int .u64 o.code, .int .u64 o.lo, .int .u64 o.hi, .slice A o.tr.length c, .int .i64 o.st] 41)) (hg : g = v.heap.size) (hu : Ux v w.heap.size v.heap.size A o.tr) (hb : Below w.heap.size w v) : OcB w X g A o c := by
 have hx : Below v.heap.size v X := by rw [hX]; exact bR.alloc nL _
 exact ⟨hb.trans (hx.mono hb.size), Rx.more (Rx.keep hu (Kp.of_below hx nL)) nL hx.size, by rw [hX, hg]; exact Blk.new _ _ _⟩
theorem mrn_law (A : Option Addr) (n c : Nat) (l : List Nat) (raw : Int) (r0 : -9223372036854775808 ≤ raw) (r1 : raw ≤ 9223372036854775807) (size : Int) (s0 : -9223372036854775808 ≤ size) (s1 : size ≤ 9223372036854775807) (w : World) (hb : Bs w w.heap.size A n l) (hn : n ≤ maxLen) (hc : n ≤ c) :
 Calls Tryz.prog 3 #[.slice A n c, .int .i64 raw, .int .i64 size] w fun e w' => e = .returned (.bool true) ∧ Below w.heap.size w w' := by
 have HB := hQ hb
 obtain ⟨sz4, hsz4⟩ : ∃ v, v = if 2000 < size ∧ size ≤ 1048576 then 2000 else size := ⟨_, rfl⟩
 obtain ⟨rw4, hrw4⟩ : ∃ v, v = if 300 < raw ∧ raw ≤ 100000 then 300 else raw := ⟨_, rfl⟩
 have HSZ4 : Hid (-9223372036854775808 ≤ sz4 ∧ sz4 ≤ 9223372036854775807) := hQ (by rw [hsz4]; split <;> omega)
 have HRW4 : Hid (-9223372036854775808 ≤ rw4 ∧ rw4 ≤ 9223372036854775807) := hQ (by rw [hrw4]; split <;> omega)
 have HVsz4 := hQ hsz4
 have HVrw4 := hQ hrw4
 clear hb hsz4 hrw4
 go_enter Tryz.func3, Tryz.ntmps3
 go_wp2_with fail
 refine (awake12 _).mono ?_
 rintro e w1 ⟨rfl, b1⟩
 have HB1 := hQ b1
 have hs1 := b1.size
 have HBS1 : Hid (Bs w1 w1.heap.size A n l) := hQ ((HB.out.below b1).more hs1)
 clear b1
 go_wp2_with fail
 refine (scene_any A n c l w1 HBS1.out hn hc).mono ?_
 rintro e w2 ⟨al, p, inp, F, rm, Ap, cp, iv, p', rfl, hpo, hF, hrm, hiw, hfx, hix, hcp, hcd, b2⟩
 have HPO := hQ hpo
 have HIW := hQ hiw
 have HFX := hQ hfx
 have HIX := hQ hix
 have HCD := hQ hcd
 have HB2 : Hid (Below w.heap.size w w2) := hQ (HB1.out.trans (b2.mono hs1))
 have hp80 : p.length ≤ 80 := by have := hpo.2.2.1; omega
 have hz12 : w1.heap.size + 1 < w2.heap.size := hcd.1.lt
 generalize min n 300 = m at *
 generalize l.take m = l' at *
 obtain ⟨cb, hcb⟩ : ∃ cb, cb = w1.heap.size + 1 := ⟨_, rfl⟩
 rw [← hcb] at HCD HFX ⊢
 have hcb1 : w1.heap.size ≤ cb := by omega
 have hcbw : w.heap.size ≤ cb := by omega
 have hcb2 : cb < w2.heap.size := by omega
 clear hpo hiw hfx hix hcd b2 HBS1 HB hcb hz12
 go_upto_region 4 with (fail)
 obtain ⟨W3, hW3⟩ : ∃ W3, W3 = w2.alloc (.cells #[.int .i64 al, .slice Ap p.length cp] 26) := ⟨_, rfl⟩
 obtain ⟨g5, hg5⟩ : ∃ g, g = w2.heap.size := ⟨_, rfl⟩
 rw [← hW3, ← hg5]
 have hb3 : Below w2.heap.size w2 W3 := by rw [hW3]; exact bR.alloc nL _
 have HK5 : Hid (Blk W3 g5 26 #[.int .i64 al, .slice Ap p.length cp]) := hQ (by rw [hW3, hg5]; exact Blk.new _ _ _)
 have HC3 := hQ (HCD.out.after hb3)
 have HX3 : Hid (GT W3 (cb + 1) w2.heap.size Ap p) := hQ (HFX.out.keep (Kp.of_below hb3 nL))
 have HI3 : Hid (InX W3 W3.heap.size iv inp) := hQ ((HIX.out.after hb3).more hb3.size)
 have HB3 := hQ (HB2.out.trans (hb3.mono HB2.out.size))
 have hs3 : w2.heap.size ≤ W3.heap.size := hb3.size
 have hg5c : ¬ g5 = cb := by omega
 have hs3w := HB3.out.size
 have HOD := hQ (fun (W : World) (h : CodesAt W w1.heap.size cb A m c l' p') (hg : GT W (cb + 1) w2.heap.size Ap p) (hz : w2.heap.size ≤ W.heap.size) => oddtarget_d w1.heap.size cb A m c l' p' 4 al p Ap cp (cb + 1) w2.heap.size W h HPO.out (by omega) hg hz (Nat.lt_succ_self _) (by omega))
 clear hW3 hb3 HCD HFX HIX hg5
 obtain ⟨q0, q1, -, -, qz⟩ := HK5.out.c2
 go_cut [39] (fun s wx => s = .bool (decide (2000 < size ∧ size ≤ 1048576)) ∧ W3 = wx)
 case first =>
  by_cases h4 : 2000 < size
  · by_cases h5 : size ≤ 1048576
    · go_wp2
      go_meet
      exact ⟨by rw [decide_eq_true ⟨h4, h5⟩], rfl⟩
    · have h6 : 1048576 < size := by omega
      go_wp2
      go_meet
      exact ⟨by rw [decide_eq_false (by omega)], rfl⟩
  · go_wp2
    go_meet
    exact ⟨by rw [decide_eq_false (by omega)], rfl⟩
 case rest =>
  obtain ⟨rfl, hwx⟩ := hcut
  subst hwx
  have hvu : sz4 = if decide (2000 < size ∧ size ≤ 1048576) = true then 2000 else size := by rw [HVsz4.out]; simp
  generalize decide (2000 < size ∧ size ≤ 1048576) = u4 at *
  go_upto_if 39 with (fail)
  go_cut [2] (fun s wx => s = .int .i64 sz4 ∧ W3 = wx)
  case first =>
   cases u4 with
   | false =>
    have e4 : sz4 = size := by simpa using hvu
    go_wp2
    go_meet
    exact ⟨by rw [e4], rfl⟩
   | true =>
    have e4 : sz4 = 2000 := by simpa using hvu
    go_wp2
    go_meet
    exact ⟨by rw [e4], rfl⟩
  case rest =>
   obtain ⟨rfl, hwx⟩ := hcut
   subst hwx
   clear hvu
   go_upto_region 6 with (fail)
   go_cut [45] (fun s wx => s = .bool (decide (300 < raw ∧ raw ≤ 100000)) ∧ W3 = wx)
   case first =>
    by_cases h4 : 300 < raw
    · by_cases h5 : raw ≤ 100000
      · go_wp2
        go_meet
        exact ⟨by rw [decide_eq_true ⟨h4, h5⟩], rfl⟩
      · have h6 : 100000 < raw := by omega
        go_wp2
        go_meet
        exact ⟨by rw [decide_eq_false (by omega)], rfl⟩
    · go_wp2
      go_meet
      exact ⟨by rw [decide_eq_false (by omega)], rfl⟩
   case rest =>
    obtain ⟨rfl, hwx⟩ := hcut
    subst hwx
    have hvu : rw4 = if decide (300 < raw ∧ raw ≤ 100000) = true then 300 else raw := by rw [HVrw4.out]; simp
    generalize decide (300 < raw ∧ raw ≤ 100000) = u4 at *
    go_upto_if 45 with (fail)
    go_cut [1] (fun s wx => s = .int .i64 rw4 ∧ W3 = wx)
    case first =>
     cases u4 with
     | false =>
      have e4 : rw4 = raw := by simpa using hvu
      go_wp2
      go_meet
      exact ⟨by rw [e4], rfl⟩
     | true =>
      have e4 : rw4 = 300 := by simpa using hvu
      go_wp2
      go_meet
      exact ⟨by rw [e4], rfl⟩
    case rest =>
     obtain ⟨rfl, hwx⟩ := hcut
     subst hwx
     clear hvu
     go_upto_region 8 with (fail)
     go_cut [50, 51, 52] (fun s50 s51 s52 wx => ∃ (al2 : Int) (y : List Fr) (Ay : Option Addr) (cy gl p4 : Nat), s50 = .slice (some ⟨gl, 0, none⟩) 2 2 ∧ s51 = .int .i64 2 ∧ s52 = .int .i64 0 ∧ cb < gl ∧ Blk wx gl 26 #[.int .i64 al, .slice Ap p.length cp, .int .i64 al2, .slice Ay y.length cy] ∧ TgS al2 y ∧ y.length = p.length ∧ Gx wx (cb + 1) wx.heap.size Ay y ∧ Gx wx (cb + 1) wx.heap.size Ap p ∧ InX wx wx.heap.size iv inp ∧ CodesAt wx w1.heap.size cb A m c l' p4 ∧ Below w.heap.size w wx)
     case first =>
      go_region_with (go_at_call 6; refine (HOD.out _ (CodesAt.dr HC3.out) (HX3.out.keep (fun _ _ _ => rfl)) (by first | omega | (show w2.heap.size ≤ W3.heap.size; omega))).mono ?_; rintro e v4 ⟨al2, y, Ay, cy, p4, rfl, hts, hyl, hfy, hyc, k4, g4'⟩; have hk5 := HK5.out.drew.grown g4' (by simpa using hg5c); obtain ⟨k0, k1, -, -, kz⟩ := hk5.c2)
      all_goals
       have hz4 : W3.heap.size ≤ v4.heap.size := g4'.size
       have hax : Gx v4 (cb + 1) v4.heap.size Ap p := ((show Gx W3.drew (cb + 1) w2.heap.size Ap p from HX3.out.gx.keep (fun _ _ _ => rfl)).keep (Kp.of_grown g4' (show w2.heap.size ≤ W3.heap.size by omega) (.inl (Nat.lt_succ_self _)))).more nL (by omega)
       have hix4 : InX v4 v4.heap.size iv inp := InX.codes (w := W3.drew) (show InX W3.drew W3.drew.heap.size iv inp from HI3.out.after (bR.drew)) (CodesAt.dr HC3.out) g4'
       have hbv : Below w.heap.size w v4 := HB3.out.trans ((bR.drew).trans (below_of_grownR g4' (fun k hk => by injection hk; omega) (by show w.heap.size ≤ W3.heap.size; exact hs3w)))
       go_wp2_with fail
       go_meet
       have hbo := fun o => ((Below.refl v4.heap.size v4).alloc nL o)
       exact ⟨al2, y, Ay, cy, v4.heap.size, p4, rfl, rfl, rfl, by omega, (by rw [hyl]; exact Blk.new _ _ _), hts, hyl, (hfy.keep (Kp.of_below (hbo _) nL)).more nL (hbo _).size, (hax.keep (Kp.of_below (hbo _) nL)).more nL (hbo _).size, (hix4.after (hbo _)).more (hbo _).size, k4.alloc _, Below.al hbv _⟩
     case rest =>
      obtain ⟨al2, y, Ay, cy, gl, py, rfl, rfl, rfl, hgl, hkl, hps, hyl, hfy, hfp, hix5, hc5, hbw⟩ := hcut
      generalize wc = W5 at *
      have HKL := hQ hkl
      have HC5 := hQ hc5
      have HI5 := hQ hix5
      have HBW := hQ hbw
      have HX : Hid (∀ k, k < 2 → ∃ (aq : Int) (q : List Fr) (A' : Option Addr) (c' : Nat), W5.cell? ⟨gl, k * 2, none⟩ = some (.int .i64 aq) ∧ W5.cell? ⟨gl, k * 2 + 1, none⟩ = some (.slice A' q.length c') ∧ TgS aq q ∧ Gx W5 (cb + 1) W5.heap.size A' q ∧ q.length ≤ 80) := hQ (by
       intro k hk
       have : k = 0 ∨ k = 1 := by omega
       rcases this with rfl | rfl
       · exact ⟨al, p, Ap, cp, hkl.cell 0, hkl.cell 1, TgS.of HPO.out, hfp, hp80⟩
       · exact ⟨al2, y, Ay, cy, hkl.cell 2, hkl.cell 3, hps, hfy, by omega⟩)
      have hglz : gl < W5.heap.size := hkl.lt
      have hs5 : w.heap.size ≤ W5.heap.size := hbw.size
      clear hkl hps hfy hfp hix5 hc5 hbw HOD HK5 HC3 HX3 HI3 HB3 q0 q1 qz HB2 hyl
      go_upto_region 9 with (fail)
      go_loopw [52] (fun x wr => ∃ k : Nat, k ≤ 2 ∧ x = .int .i64 k ∧ Hid (W5.grownBy wr (some cb)) ∧ Hid (∃ pr, CodesAt wr w1.heap.size cb A m c l' pr)) (fun x _ => 2 - (intOf x).toNat)
      case atStart => exact ⟨0, by omega, rfl, hQ (grownBy_of_below bR _), hQ ⟨py, HC5.out⟩⟩
      case round =>
       obtain ⟨k, hk, rfl, HGr, HCr⟩ := hrel
       by_cases hlt : k < 2
       · have hk0 : (0 : Int) ≤ (k : Int) := by omega
         have hk1 : (k : Int) < 2 := by omega
         obtain ⟨aq, q, A', c', hcell0, hcell1, hqs, hqf, hq80⟩ := HX.out k hlt
         obtain ⟨pr, hcr⟩ := HCr.out
         have hszr := HGr.out.size
         have q0 : wr.cell? ⟨gl, k * 2, none⟩ = some (.int .i64 aq) := (World.cell?_of_block (a := ⟨gl, k * 2, none⟩) (HGr.out.block gl hglz (fun e => by injection e; omega))).trans hcell0
         have q1 : wr.cell? ⟨gl, k * 2 + 1, none⟩ = some (.slice A' q.length c') := (World.cell?_of_block (a := ⟨gl, k * 2 + 1, none⟩) (HGr.out.block gl hglz (fun e => by injection e; omega))).trans hcell1
         have hglr : gl < wr.heap.size := by omega
         have hqr : Gx wr (cb + 1) wr.heap.size A' q := (hqf.keep (Kp.of_grown HGr.out nL (.inl (Nat.lt_succ_self _)))).more nL hszr
         have hir : InX wr wr.heap.size iv inp := HI5.out.codes HC5.out HGr.out
         have HQR := hQ hqr
         have HIR := hQ hir
         have HCR := hQ hcr
         have HQS := hQ hqs
         clear hqr hir hcr hqs hqf hcell0 hcell1
         generalize wr = wo at *
         go_upto_region 11 with (fail)
         obtain ⟨W6, hW6⟩ : ∃ W6, W6 = wo.alloc (.cells #[.int .i64 aq, .slice A' q.length c'] 26) := ⟨_, rfl⟩
         obtain ⟨g13t, hg13t⟩ : ∃ g, g = wo.heap.size := ⟨_, rfl⟩
         rw [← hW6, ← hg13t]
         have hb6 : Below wo.heap.size wo W6 := by rw [hW6]; exact bR.alloc nL _
         have HK10 : Hid (Blk W6 g13t 26 #[.int .i64 aq, .slice A' q.length c']) := hQ (by rw [hW6, hg13t]; exact Blk.new _ _ _)
         have HC6 := hQ (HCR.out.after hb6)
         have HQ6 : Hid (Gx W6 (cb + 1) W6.heap.size A' q) := hQ ((HQR.out.keep (Kp.of_below hb6 nL)).more nL hb6.size)
         have HI6 : Hid (InX W6 W6.heap.size iv inp) := hQ ((HIR.out.after hb6).more hb6.size)
         have HG6 := hQ (grownBy_trans HGr.out (grownBy_of_below hb6 _))
         have hg10c : ¬ g13t = cb := by omega
         have hs6 : W5.heap.size ≤ W6.heap.size := HG6.out.size
         clear hW6 hg13t hb6 q0 q1 HQR HIR HCR HGr HCr hglr hszr
         go_wp2_with fail
         refine (next_d _ _ _ _ _ _ _ 10 _ HC6.out (by omega) (by omega)).mono ?_
         rintro e w7 ⟨x, p7, hx, rfl, c7, g7⟩
         have hx12 : x < 10 := by omega
         have HK10w7 := hQ (HK10.out.grown g7 (fun e => by injection e; omega))
         have HQw7 : Hid (Gx w7 (cb + 1) w7.heap.size A' q) := hQ ((HQ6.out.keep (Kp.of_grown g7 nL (.inl (Nat.lt_succ_self _)))).more nL g7.size)
         have HIw7 : Hid (InX w7 w7.heap.size iv inp) := hQ (HI6.out.codes HC6.out g7)
         have HGw7 := hQ (grownBy_trans HG6.out g7)
         have HCw7 := hQ c7
         clear c7 g7 hx HQ6 HI6 HG6 HC6
         go_wp2_with fail
         refine (next_d _ _ _ _ _ _ _ 100 _ HCw7.out (by omega) (by omega)).mono ?_
         rintro e w9 ⟨y, p9, hx, rfl, c7, g7⟩
         have hy12 : y < 100 := by omega
         have HK10w9 := hQ (HK10w7.out.grown g7 (fun e => by injection e; omega))
         have HQw9 : Hid (Gx w9 (cb + 1) w9.heap.size A' q) := hQ ((HQw7.out.keep (Kp.of_grown g7 nL (.inl (Nat.lt_succ_self _)))).more nL g7.size)
         have HIw9 : Hid (InX w9 w9.heap.size iv inp) := hQ (HIw7.out.codes HCw7.out g7)
         have HGw9 := hQ (grownBy_trans HGw7.out g7)
         have HCw9 := hQ c7
         clear c7 g7 hx HQw7 HIw7 HGw7 HCw7
         go_upto_region 12 with (fail)
         obtain ⟨W8, hW8⟩ : ∃ W8, W8 = w9.alloc (.cells #[.int .i64 (F : Int), .int .i64 (rm : Int), .int .i64 (F : Int), .int .i64 2000, .int .i64 (x : Int), .int .i64 (y : Int), .int .i64 rw4, .int .i64 (rm : Int), .int .i64 20, .int .i64 sz4] 33) := ⟨_, rfl⟩
         obtain ⟨g71, hg71⟩ : ∃ g, g = w9.heap.size := ⟨_, rfl⟩
         rw [← hW8, ← hg71]
         have hb8 : Below w9.heap.size w9 W8 := by rw [hW8]; exact bR.alloc nL _
         have HK71 : Hid (Blk W8 g71 33 #[.int .i64 (F : Int), .int .i64 (rm : Int), .int .i64 (F : Int), .int .i64 2000, .int .i64 (x : Int), .int .i64 (y : Int), .int .i64 rw4, .int .i64 (rm : Int), .int .i64 20, .int .i64 sz4]) := hQ (by rw [hW8, hg71]; exact Blk.new _ _ _)
         have HK108 := hQ (HK10w9.out.after hb8)
         have HC8 := hQ (HCw9.out.after hb8)
         have HQ8 : Hid (Gx W8 0 W8.heap.size A' q) := hQ ((HQw9.out.keep (Kp.of_below hb8 nL)).more (Nat.zero_le _) hb8.size)
         have HI8 : Hid (InX W8 W8.heap.size iv inp) := hQ ((HIw9.out.after hb8).more hb8.size)
         have HG8 := hQ (grownBy_trans HGw9.out (grownBy_of_below hb8 _))
         have hg71z : g71 < W8.heap.size := HK71.out.lt
         have HN : Hid (∀ j, j < 5 → ∃ v1 v2 : Int, W8.cell? ⟨g71, j * 2, none⟩ = some (.int .i64 v1) ∧ W8.cell? ⟨g71, j * 2 + 1, none⟩ = some (.int .i64 v2) ∧ -9223372036854775808 ≤ v1 ∧ v1 ≤ 9223372036854775807 ∧ -9223372036854775808 ≤ v2 ∧ v2 ≤ 9223372036854775807) := hQ (by
          intro j hj
          have : j = 0 ∨ j = 1 ∨ j = 2 ∨ j = 3 ∨ j = 4 := by omega
          rcases this with rfl | rfl | rfl | rfl | rfl
          · exact ⟨_, _, HK71.out.cell 0, HK71.out.cell 1, by omega, by omega, by omega, by omega⟩
          · exact ⟨_, _, HK71.out.cell 2, HK71.out.cell 3, by omega, by omega, by omega, by omega⟩
          · exact ⟨_, _, HK71.out.cell 4, HK71.out.cell 5, by omega, by omega, by omega, by omega⟩
          · exact ⟨_, _, HK71.out.cell 6, HK71.out.cell 7, HRW4.out.1, HRW4.out.2, by omega, by omega⟩
          · exact ⟨_, _, HK71.out.cell 8, HK71.out.cell 9, by omega, by omega, HSZ4.out.1, HSZ4.out.2⟩)
         clear hW8 hg71 hb8 HK10w7 HK10w9 HK10 HQw9 HIw9 HGw9 HCw9 HK71
         go_loopw [73] (fun x wr => ∃ j : Nat, j ≤ 5 ∧ x = .int .i64 j ∧ Hid (Below W8.heap.size W8 wr)) (fun x _ => 5 - (intOf x).toNat)
         case atStart => exact ⟨0, by omega, rfl, hQ bR⟩
         case round =>
          obtain ⟨j, hj, rfl, HBr⟩ := hrel
          by_cases hlj : j < 5
          · have hj0 : (0 : Int) ≤ (j : Int) := by omega
            have hj1 : (j : Int) < 5 := by omega
            obtain ⟨v1, v2, hv1, hv2, a0, a1, b0, b1⟩ := HN.out j hlj
            have hcj1 := (HBr.out.cell (p := ⟨g71, j * 2, none⟩) hg71z).trans hv1
            have hcj2 := (HBr.out.cell (p := ⟨g71, j * 2 + 1, none⟩) hg71z).trans hv2
            have hglr : g71 < wr.heap.size := by have := HBr.out.size; omega
            generalize wr = wp at *
            obtain ⟨M, R, hfour⟩ := four_any aq A' q c' iv inp v1 v2 a0 a1 b0 b1 (by unfold maxLen; omega) HQS.out.tgr (fun i hi x hx => (((HQS.out.2 _ (getD_mem' hi)).2.2.2 x hx).2)) HIW.out
            have HFO := hQ (fun (W : World) (h : Below W8.heap.size W8 W) => hfour W ((HQ8.out.keep (Kp.of_below h nL)).more nL h.size) ((HI8.out.after h).more h.size))
            clear hfour hv1 hv2
            go_upto_region 14 with (fail)
            obtain ⟨wo, hwo⟩ : ∃ W, W = wp.alloc (.cells #[.int .i64 v1, .int .i64 v2] 33) := ⟨_, rfl⟩
            obtain ⟨g15, hg15⟩ : ∃ g, g = wp.heap.size := ⟨_, rfl⟩
            rw [← hwo, ← hg15]
            have hbn : Below wp.heap.size wp wo := by rw [hwo]; exact bR.alloc nL _
            have HKN : Hid (Blk wo g15 33 #[.int .i64 v1, .int .i64 v2]) := hQ (by rw [hwo, hg15]; exact Blk.new _ _ _)
            have HBN : Hid (Below W8.heap.size W8 wo) := hQ (HBr.out.trans (hbn.mono HBr.out.size))
            have HKT : Hid (Blk wo g13t 26 #[.int .i64 aq, .slice A' q.length c']) := hQ (HK108.out.after HBN.out)
            have HFO' := HFO
            obtain ⟨y0, y1, -, -, yz⟩ := HKT.out.c2
            obtain ⟨n0, n1, -, -, nz⟩ := HKN.out.c2
            clear hwo hbn hcj1 hcj2 hg15
            have hb0 : Below wo.heap.size wo wo := Below.refl _ _
            go_wp2_with fail
            refine ((HFO.out wo HBN.out).1).mono ?_
            clear y0 y1 yz n0 n1 nz
            rintro e w12 ⟨⟨At1, ct1, rfl, bl1, tr1, hc1⟩, hml⟩
            rw [outV_R]
            unfold ocs
            obtain ⟨o, ho⟩ : ∃ o : Oc, o = ⟨M.kind, M.code, M.res.1, M.res.2, M.trace.map fun v => ((v.1 : Int), (v.2 : Int)), M.steps⟩ := ⟨_, rfl⟩
            rw [← ho]
            have hou1 : Ux w12 wo.heap.size w12.heap.size At1 o.tr := by rw [ho]; exact outU_R tr1
            have hol : o.tr.length ≤ maxLen := by rw [ho]; show (M.trace.map _).length ≤ _; rw [List.length_map]; exact hml
            obtain ⟨X1, hX1⟩ : ∃ W, W = w12.alloc (.cells #[.int .i64 o.kind, .int .u64 o.code, .int .u64 o.lo, .int .u64 o.hi, .slice At1 o.tr.length ct1, .int .i64 o.st] 41) := ⟨_, rfl⟩
            obtain ⟨g13, hg13⟩ : ∃ g, g = w12.heap.size := ⟨_, rfl⟩
            have HX1 := hQ (ocb_box hX1 hg13 hou1 bl1)
            have HXE := hQ hX1
            have HGE := hQ hg13
            have HO := hQ ho
            have HOL := hQ hol
            clear hX1 hg13 hou1 tr1 hc1 hml ho hol bl1
            go_upto_region 15 with (fail)
            rw [← HXE.out, ← HGE.out]
            obtain ⟨y0, y1, -, -, yz⟩ := (HKT.out.after (hb0.trans (HX1.out.b.mono hb0.size))).c2
            obtain ⟨n0, n1, -, -, nz⟩ := (HKN.out.after (hb0.trans (HX1.out.b.mono hb0.size))).c2
            have hb1 : Below wo.heap.size wo X1 := hb0.trans (HX1.out.b.mono hb0.size)
            clear HXE HGE
            go_wp2_with fail
            refine ((HFO.out X1 (HBN.out.trans (hb1.mono HBN.out.size))).2.1).mono ?_
            clear y0 y1 yz n0 n1 nz
            rintro e w14 ⟨At2, ct2, rfl, bl2, tr2, hc2⟩
            rw [outV_R]
            unfold ocs
            rw [← HO.out]
            have hou2 : Ux w14 X1.heap.size w14.heap.size At2 o.tr := by rw [HO.out]; exact outU_R tr2
            obtain ⟨X2, hX2⟩ : ∃ W, W = w14.alloc (.cells #[.int .i64 o.kind, .int .u64 o.code, .int .u64 o.lo, .int .u64 o.hi, .slice At2 o.tr.length ct2, .int .i64 o.st] 41) := ⟨_, rfl⟩
            obtain ⟨g15, hg15⟩ : ∃ g, g = w14.heap.size := ⟨_, rfl⟩
            have HX2 := hQ (ocb_box hX2 hg15 hou2 bl2)
            have HXE := hQ hX2
            have HGE := hQ hg15
            clear hX2 hg15 hou2 tr2 hc2 bl2
            go_upto_region 16 with (fail)
            rw [← HXE.out, ← HGE.out]
            obtain ⟨y0, y1, -, -, yz⟩ := (HKT.out.after (hb1.trans (HX2.out.b.mono hb1.size))).c2
            obtain ⟨n0, n1, -, -, nz⟩ := (HKN.out.after (hb1.trans (HX2.out.b.mono hb1.size))).c2
            have hb2 : Below wo.heap.size wo X2 := hb1.trans (HX2.out.b.mono hb1.size)
            clear HXE HGE
            go_wp2_with fail
            refine ((HFO.out X2 (HBN.out.trans (hb2.mono HBN.out.size))).2.2.1).mono ?_
            clear y0 y1 yz n0 n1 nz
            rintro e w16 ⟨rfl, bl3⟩
            obtain ⟨y0, y1, -, -, yz⟩ := (HKT.out.after (hb2.trans (bl3.mono hb2.size))).c2
            obtain ⟨n0, n1, -, -, nz⟩ := (HKN.out.after (hb2.trans (bl3.mono hb2.size))).c2
            have hb3 : Below wo.heap.size wo w16 := hb2.trans (bl3.mono hb2.size)
            go_wp2_with fail
            refine ((HFO.out w16 (HBN.out.trans (hb3.mono HBN.out.size))).2.2.2).mono ?_
            clear y0 y1 yz n0 n1 nz
            rintro e w17 ⟨rfl, bl4⟩
            have hb4 : Below wo.heap.size wo w17 := hb3.trans (bl4.mono hb3.size)
            have b2w : Below X2.heap.size X2 w17 := bl3.trans (bl4.mono bl3.size)
            have b1w : Below X1.heap.size X1 w17 := HX2.out.b.trans (b2w.mono HX2.out.b.size)
            have HK13 := hQ (HX1.out.k.after b1w)
            have HK15 := hQ (HX2.out.k.after b2w)
            have HB4 := hQ hb4
            have HSAME : Hid (∀ W, Below w17.heap.size w17 W → Calls Tryz.prog 12 #[.agg #[.int .i64 o.kind, .int .u64 o.code, .int .u64 o.lo, .int .u64 o.hi, .slice At1 o.tr.length ct1, .int .i64 o.st], .agg #[.int .i64 o.kind, .int .u64 o.code, .int .u64 o.lo, .int .u64 o.hi, .slice At2 o.tr.length ct2, .int .i64 o.st]] W fun e w' => e = .returned (.bool true) ∧ Below W.heap.size W w') := hQ (fun W hW => by
             have c1 : Below X1.heap.size X1 W := b1w.trans (hW.mono b1w.size)
             have c2 : Below X2.heap.size X2 W := b2w.trans (hW.mono b2w.size)
             refine (refsame8_any o o At1 At2 ct1 ct2 W wo.heap.size X1.heap.size X1.heap.size X2.heap.size c1.size c2.size (Rx.keep HX1.out.u (Kp.of_below c1 nL)) (Rx.keep HX2.out.u (Kp.of_below c2 nL)) HOL.out HOL.out).mono ?_
             rintro e w' ⟨rfl, h⟩
             exact ⟨by rw [sameO_reflR], h⟩)
            clear HX1 HX2 hb0 hb1 hb2 hb3 hb4 bl3 bl4 b1w b2w HO HOL
            obtain ⟨a0, a1, a2, a3, a4, a5, -, -, -, -, -, -, az⟩ := HK13.out.c6
            obtain ⟨d0, d1, d2, d3, d4, d5, -, -, -, -, -, -, dz⟩ := HK15.out.c6
            go_wp2_with fail
            refine (HSAME.out _ bR).mono ?_
            rintro e w18 ⟨rfl, hb⟩
            have HBf := hQ (HB4.out.trans (hb.mono HB4.out.size))
            clear hb HK13 HK15 HSAME a0 a1 a2 a3 a4 a5 az d0 d1 d2 d3 d4 d5 dz
            go_wp2
            go_roundw
            case rel => exact ⟨j + 1, by omega, by go_num, hQ (HBN.out.trans (HBf.out.mono HBN.out.size))⟩
            case measure => simp [intOf]; omega
          · have hj3 : j = 5 := by omega
            subst hj3
            go_wp2
            go_roundw
            case rel => exact ⟨k + 1, by omega, by go_num, hQ (grownBy_trans HG8.out (grownBy_of_below HBr.out _)), hQ ⟨p9, HC8.out.after HBr.out⟩⟩
            case measure => simp [intOf]; omega
       · have hk2 : k = 2 := by omega
         subst hk2
         go_wp2
         go_ret
         exact ⟨rfl, HBW.out.trans (below_of_grownR HGr.out (fun k hk => by injection hk; omega) hs5)⟩
end Go.Proofs.YtcnndoefgjbmiaaGreat.pm
