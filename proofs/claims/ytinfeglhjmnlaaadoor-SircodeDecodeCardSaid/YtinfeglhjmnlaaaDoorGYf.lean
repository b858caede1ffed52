/- Bytes of programs: sircode.Encode. -/
import Derived.Test.YtinfeglhjmnlaaaDoorGYe
import Derived.Test.YtinfeglhjmnlaaaDoorGSc
import Derived.Deep.CutBlock
namespace Go.Proofs.YtinfeglhjmnlaaaDoor.pm
open Go.RowKit
set_option linter.unusedVariables false
set_option maxRecDepth 10000

/-- bytes and an error -/
def SnD (p : List Fn) (w : World) (e : Ending) (w' : World) : Prop :=
  ∃ V c, e = .returned (.tuple #[.slice V (senB p).length c, .int .i64 (senE p)]) ∧ w'.ownsRow w.heap.size 5 1 (.slice V (senB p).length c) (senB p).length (nb (senB p)) ∧ Below w.heap.size w w'
theorem SnD.err {p : List Fn} {w w' : World} {r : Int} (h : senE p = r) (h0 : r ≠ 0) (hb : Below w.heap.size w w') : SnD p w (.returned (.tuple #[.slice none 0 0, .int .i64 r])) w' := by
  have hB : senB p = [] := by unfold senB; rw [h, if_neg h0]
  refine ⟨none, 0, by rw [hB, h]; rfl, by rw [hB]; exact World.ownsRow_nil _ _ _ _, hb⟩
def encP (f : Fn) : List Nat := encFS (descS f)
theorem bodyS_eq (p : List Fn) : bodyS p = (mgS ++ put p.length) ++ p.flatMap encP := by unfold bodyS encP; rw [List.append_assoc]
set_option maxHeartbeats 8000000 in
theorem senc_any (Ap : Option Addr) (p : List Fn) (cp lo hi : Nat) (w : World) (hT : Dt w) (hS : Tb w) (hf : Fx w lo hi Ap p) (hh : hi ≤ w.heap.size) (hm : p.length ≤ maxLen) (hr : ∀ i, i < p.length → FnR (p.getD i Fn.z)) (hpi : PrI p) :
    Calls Tryd.prog 25 #[.agg #[.slice Ap p.length cp]] w (SnD p w) := by
  obtain ⟨i0, hi0, hz0, hz1, hz2⟩ := info_parts info_u8
  obtain ⟨W1, hW1⟩ : ∃ W1, W1 = w.alloc (.cells #[.slice Ap p.length cp] 44) := ⟨_, rfl⟩
  obtain ⟨g1, hg1⟩ : ∃ g, g = w.heap.size := ⟨_, rfl⟩
  have hB1 : Below w.heap.size w W1 := by rw [hW1]; exact (Below.refl _ _).alloc (Nat.le_refl _) _
  have HKP : Hid (Blk W1 g1 44 #[.slice Ap p.length cp]) := Lib.hid (by rw [hW1, hg1]; exact Blk.new _ _ _)
  have HB1 := Lib.hid hB1
  have HG1 := Lib.hid hg1
  have HT := Lib.hid hT
  have HW1 := Lib.hid hW1
  have hf1 := hf.keep (Kp.of_below hB1 hh)
  have HF := Lib.hid hf1
  have hz1w : w.heap.size < W1.heap.size := by rw [hW1]; simp
  have HC := Lib.hid (check_any Ap p cp W1 lo hi (hS.below hB1) hf1 (Nat.le_trans hh hB1.size) hm hr)
  obtain ⟨np, hnp⟩ : ∃ n, n = p.length := ⟨_, rfl⟩
  rw [← hnp] at HKP HC HW1 hm
  rw [← hnp]
  have HNP := Lib.hid hnp
  have hni : (np : Int) ≤ 9223372036854775807 := by unfold maxLen at hm; omega
  have hwl : w.heap.size ≤ W1.heap.size := Nat.le_of_lt hz1w
  clear hW1 hB1 hg1 hT hS hf hf1 hnp hr
  by_cases hp0 : progE p = 0
  · have hef := prog_efs hp0 hpi
    have HEF := Lib.hid hef
    have HP0 := Lib.hid hp0
    have hnp80 : np ≤ 80 := by rw [HNP.out]; exact hef.1
    rw [hp0] at HC
    clear hp0 hef
    go_enter Tryd.func25, Tryd.ntmps25
    go_upto_region 1 with (fail)
    rw [← HW1.out, ← HG1.out]
    obtain ⟨c0, -, cz⟩ := HKP.out.c1
    go_wp2_with fail
    refine HC.out.mono ?_
    rintro e w2 ⟨rfl, bel2⟩
    have HB2 := Lib.hid (HB1.out.trans (bel2.mono hwl))
    have HKP2 := Lib.hid (HKP.out.after bel2)
    have HF2 : Hid (Fx w2 lo hi Ap p) := Lib.hid (HF.out.keep (Kp.of_below bel2 (Nat.le_trans hh hwl)))
    have hw2 : w.heap.size ≤ w2.heap.size := HB2.out.size
    clear bel2 HC HKP HF c0 cz HW1
    obtain ⟨c0, -, cz⟩ := HKP2.out.c1
    have hcv := Lib.run_convert_bytes_const (P := Tryd.prog) w2 22 5 #[.int .u8 83, .int .u8 73, .int .u8 82, .int .u8 49] 4 4 Tryd.underlying22 Tryd.underlying5
    have HBI : Hid (BI w.heap.size mgS w2 (.slice (some ⟨w2.heap.size, 0, none⟩) 4 4) (w2.alloc (.cells #[.int .u8 83, .int .u8 73, .int .u8 82, .int .u8 49] 5 (4, 5)))) := Lib.hid ⟨.inr ⟨w2.heap.size, #[.int .u8 83, .int .u8 73, .int .u8 82, .int .u8 49], (4, 5), rfl, hw2, by rw [heap_alloc_new], rfl, rfl, by decide⟩, (NoB.refl _).alloc _, (Below.refl _ _).alloc hw2 _⟩
    have hpc : [(np : Int)].flatMap pz = put p.length := by rw [flat_one, pz_pos ⟨by omega, by omega⟩, Int.toNat_natCast, HNP.out]
    have HPC := Lib.hid hpc
    clear hpc
    go_upto_region 5 with (go_at_call 62; refine ((HBI.out.alloc hw2 _).put hw2 [(np : Int)] (by simp) _ _ (Blk.newAt (by simp)) (by decide)).mono ?_; rintro e w3 ⟨o3, rfl, hbi3, -, -⟩)
    rw [HPC.out] at hbi3
    obtain ⟨L0, hL0⟩ : ∃ l, l = mgS ++ put p.length := ⟨_, rfl⟩
    rw [← hL0] at hbi3
    have hl0 : L0.length ≤ 14 := by
      have h1 := (put_len p.length).2
      rw [hL0, List.length_append]
      simp only [mgS, List.length_cons, List.length_nil]
      omega
    have HL0 := Lib.hid hL0
    have HBI3 := Lib.hid hbi3
    clear hbi3 hL0 HBI hcv c0 cz
    obtain ⟨c0, -, cz⟩ := (HBI3.out.nb_.blk HKP2.out (by decide)).c1
    go_upto_region 6 with (fail)
    clear c0 cz
    go_loopw [5, 24] (fun s5 x wr => ∃ (k : Nat) (L : List Nat), k ≤ np ∧ x = .int .i64 k ∧ Hid (L = L0 ++ (p.take k).flatMap encP) ∧ Hid (BI w.heap.size L w2 s5 wr)) (fun s5 x _ => np - (intOf x).toNat)
    case atStart => exact ⟨0, L0, by omega, rfl, Lib.hid (by simp), HBI3⟩
    case round =>
      obtain ⟨k, L, hk, rfl, HL, HBI⟩ := hrel
      clear HBI3
      have hLl : L.length ≤ 14 + 52264 * k := by
        have h1 := congrArg List.length HL.out
        have h2 := flat_le (g := encP) (k := 52264) (p.take k) (fun f hf => by
          have hf' := HEF.out.2 f (List.mem_of_mem_take hf)
          exact encFS_len hf'.ns hf'.nc)
        simp only [List.length_append, List.length_take] at h1 h2
        have h3 : min k p.length ≤ k := Nat.min_le_left _ _
        have h4 := Nat.mul_le_mul_left 52264 h3
        omega
      have hLl2 : L.length ≤ 5000000 := by omega
      clear hLl
      by_cases hlt : k < np
      · have hk0 : (0 : Int) ≤ (k : Int) := by omega
        have hk1 : (k : Int) < (np : Int) := by omega
        have hkp : k < p.length := by rw [← HNP.out]; exact hlt
        have HTK := Lib.hid (flat_take encP p hkp Fn.z)
        have HEFk := Lib.hid (HEF.out.2 (p.getD k Fn.z) (getD_mem' hkp))
        have hwr := HBI.out.bel.size
        obtain ⟨ad, As, cs, Ai, ci, hA, hab, y0, y1, y2, -, -, hsx, hnx, ⟨m1, m2⟩, m3, m4⟩ := (HF2.out.keep (fun b _ h2 => HBI.out.bel.block b (by omega))).whole hkp
        obtain ⟨f, hff⟩ : ∃ f, f = p.getD k Fn.z := ⟨_, rfl⟩
        rw [← hff] at y0 y1 y2 hsx hnx HTK HEFk
        have haw : ad.block < wr.heap.size := by omega
        have HSX := Lib.hid hsx
        have HNX := Lib.hid hnx
        obtain ⟨ns, hns⟩ : ∃ n, n = f.slots.length := ⟨_, rfl⟩
        obtain ⟨nc, hnc⟩ : ∃ n, n = f.code.length := ⟨_, rfl⟩
        rw [← hns] at y1
        rw [← hnc] at y2
        have HNS := Lib.hid hns
        have HNC := Lib.hid hnc
        rw [hA]
        clear hff hA hab hsx hnx m1 m2 m3 m4 hns hnc
        generalize wr = wo at *
        go_upto_region 8 with (fail)
        obtain ⟨W4, hW4⟩ : ∃ W4, W4 = wo.alloc (.cells #[.int .i64 f.params, .slice As ns cs, .slice Ai nc ci] 97) := ⟨_, rfl⟩
        obtain ⟨g7, hg7⟩ : ∃ g, g = wo.heap.size := ⟨_, rfl⟩
        rw [← hW4, ← hg7]
        have hb4 : Below wo.heap.size wo W4 := by rw [hW4]; exact (Below.refl _ _).alloc (Nat.le_refl _) _
        have HK7 : Hid (Blk W4 g7 97 #[.int .i64 f.params, .slice As ns cs, .slice Ai nc ci]) := Lib.hid (by rw [hW4, hg7]; exact Blk.new _ _ _)
        have HBI4 := Lib.hid (HBI.out.more hb4 hw2)
        have hs4 : wo.heap.size ≤ W4.heap.size := hb4.size
        have HDE : Hid (Calls Tryd.prog 63 #[.agg #[.int .i64 f.params, .slice As ns cs, .slice Ai nc ci]] W4 (DesD (descS f) W4)) := Lib.hid (by
          rw [HNS.out, HNC.out]
          exact desc_any As Ai cs ci lo hi f HEFk.out W4 (HT.out.below (HB2.out.trans HBI4.out.bel) HT.out.1) (HSX.out.keep (fun b _ h2 => hb4.block b (by omega))) (HNX.out.keep (fun b _ h2 => hb4.block b (by omega))) (by omega))
        clear hW4 hg7 hb4 HBI y0 y1 y2 haw
        obtain ⟨q0, q1, q2, -, -, -, qz⟩ := HK7.out.c3
        go_wp2_with fail
        refine HDE.out.mono ?_
        rintro e w5 ⟨Vd, cd, rfl, owd, bel5⟩
        obtain ⟨D, hD⟩ : ∃ D, D = descS f := ⟨_, rfl⟩
        rw [← hD] at owd ⊢
        obtain ⟨nd, hnd⟩ : ∃ n, n = D.length := ⟨_, rfl⟩
        have hd6 : nd ≤ 52254 := by rw [hnd, hD]; exact descS_len HEFk.out.ns HEFk.out.nc
        have hdB : ∀ y ∈ D, y < 256 := by rw [hD]; exact descS_bytes HEFk.out
        have hd1 : 1 ≤ nd := by
          have := (put_len f.params.toNat).1
          rw [hnd, hD]
          unfold descS
          simp only [List.length_append]
          omega
        rw [← hnd] at owd ⊢
        have HBI5 := Lib.hid (HBI4.out.more bel5 hw2)
        have HOD := Lib.hid owd
        have HD := Lib.hid hD
        have HND := Lib.hid hnd
        have HDB := Lib.hid hdB
        have hndi : (nd : Int) ≤ 52254 := by omega
        have hs5 : W4.heap.size ≤ w5.heap.size := bel5.size
        clear q0 q1 q2 qz owd bel5 hD hnd hdB HDE HK7
        have hz5 : w.heap.size ≤ w5.heap.size := by omega
        have hpd : [(nd : Int)].flatMap pz = put D.length := by rw [flat_one, pz_pos ⟨by omega, by omega⟩, Int.toNat_natCast, HND.out]
        have HPD := Lib.hid hpd
        have HOA : Hid (u5.ownBlock = none ∨ ∃ b, u5.ownBlock = some b ∧ b < W4.heap.size) := Lib.hid (by
          rcases hq : u5.ownBlock with _ | b
          · exact .inl rfl
          · obtain ⟨_, _, _, hh⟩ := HBI4.out.ow.blk b hq
            exact .inr ⟨b, rfl, heap_lt hh⟩)
        have HRD : Hid (∀ (W w6 : World) (o6 : Value), W = w5.alloc (.cells #[.int .i64 (nd : Int)] 3) → Apt u5 W o6 w6 → Reads w6 w6.heap.size 1 Vd nd (nb D)) := Lib.hid (fun W w6 o6 hW hap => by
          subst hW
          have hA := HOD.out.alloc (.cells #[.int .i64 (nd : Int)] 3)
          have h1 : OwM w6 W4.heap.size (.slice Vd nd cd) nd (nb D) := hA.kept (fun j hj => by
            obtain ⟨hj4, _, _, hjj⟩ := hA.blk j hj
            refine hap.1 j (heap_lt hjj) (fun he => ?_)
            rcases HOA.out with h | ⟨b, h, hlt⟩
            · rw [h] at he; cases he
            · rw [h] at he; injection he with he; omega)
          exact (h1.bs HDB.out).1)
        clear hpd HBI4
        go_upto_region 10 with (first
          | (go_at_call 62; refine ((HBI5.out.alloc hw2 _).put hw2 [(nd : Int)] (by simp) _ _ (Blk.new _ _ _) (by omega)).mono ?_; rintro e w6 ⟨o6, rfl, hbi6, -, hap6⟩; rw [HPD.out] at hbi6; have hRD := HRD.out _ w6 o6 rfl hap6)
          | (at_builtin; refine wpList_append_m _ rfl (.tmp 34) (.tmp 35) _ rfl w.heap.size i0 Tryd.underlying22 hi0 hz0 hz1 hz2 _ (L ++ put D.length).length (nb (L ++ put D.length)) rfl hbi6.ow _ Vd nd cd (nb D) hd1 rfl hRD (nb_one _) (by have h1 := (put_len D.length).2; rw [List.length_append]; unfold maxLen; omega) (by have h1 := (put_len D.length).2; rw [List.length_append]; omega) (by have := hbi6.bel.size; omega) ?_; intro v7 w7 hown7 hg7))
        have HBI7 : Hid (BI w.heap.size (L ++ encP f) w2 v7 w7) := Lib.hid (by
          have he : L ++ encP f = (L ++ put D.length) ++ D := by unfold encP encFS; rw [← HD.out, List.append_assoc]
          have hl : (L ++ encP f).length = (L ++ put D.length).length + nd := by rw [he, List.length_append, HND.out]
          refine ⟨.inl ?_, hbi6.nb_.app hbi6.ow hg7, hbi6.bel.trans (hbi6.ow.below hg7 (by have := hbi6.bel.size; omega))⟩
          rw [hl, he, nb_append]
          exact hown7)
        clear hown7 hg7 hbi6 hap6 hRD HBI5 HOD
        go_wp2
        go_roundw
        case rel =>
          refine ⟨k + 1, _, by omega, by go_num, Lib.hid ?_, HBI7⟩
          rw [HTK.out, HL.out, List.append_assoc]
        case measure => simp [intOf]; omega
      · have hkn : k = np := by omega
        have HKN := Lib.hid hkn
        subst hkn
        have hLb : L = bodyS p := by rw [HL.out, HKN.out, HNP.out, List.take_length, HL0.out, bodyS_eq]
        have hbytes : ∀ y ∈ L, y < 256 := by rw [hLb]; exact bodyS_bytes HEF.out.1 HEF.out.2
        obtain ⟨V, cc, hov, hm1⟩ := HBI.out.ow.form
        subst hov
        have HS := Lib.hid (sseal_any w.heap.size V L.length cc L wr rfl HBI.out.ow hbytes (by omega) (by have := HBI.out.bel.size; omega))
        have HLB := Lib.hid hLb
        have HBW := Lib.hid (HB2.out.trans HBI.out.bel)
        obtain ⟨ln, hln⟩ : ∃ n, n = (sealL L).length := ⟨_, rfl⟩
        have hln4 : ln = L.length + 4 := by rw [hln, sealL_len]
        have hlni : (ln : Int) ≤ 9000000 := by omega
        by_cases hbig : 1048576 < ln
        · have hbigi : (1048576 : Int) < (ln : Int) := by omega
          have HE : Hid (∀ w', Below w.heap.size w w' → SnD p w (.returned (.tuple #[.slice none 0 0, .int .i64 3])) w') := Lib.hid (fun w' hb => SnD.err (by
            unfold senE
            rw [if_neg (by simpa using HP0.out), if_pos (by rw [← HLB.out]; omega)]) (by decide) hb)
          have HLN := Lib.hid hln
          clear hln hln4 hLb hbytes hLl2 hbig hm1
          go_wp2_with fail
          refine HS.out.mono ?_
          rintro e w6' ⟨V', c', rfl, own', nob, bel'⟩
          rw [← HLN.out]
          have HBW2 := Lib.hid (HBW.out.trans bel')
          clear own' nob bel'
          go_wp2
          go_ret2
          exact HE.out _ HBW2.out
        · have hbigi : ¬ (1048576 : Int) < (ln : Int) := by omega
          have HE : Hid (senE p = 0) := Lib.hid (senE_ok HP0.out (by rw [← HLB.out]; omega))
          have HLN := Lib.hid hln
          clear hln hln4 hLb hbytes hLl2 hbig hm1
          go_wp2_with fail
          refine HS.out.mono ?_
          rintro e w6' ⟨V', c', rfl, own', nob, bel'⟩
          rw [← HLN.out] at own' ⊢
          have HBW2 := Lib.hid (HBW.out.trans bel')
          have HOF := Lib.hid own'
          clear own' nob bel'
          go_wp2
          go_ret2
          have hB : senB p = sealL L := by rw [senB_eq HE.out, ← HLB.out]
          refine ⟨V', c', by rw [hB, HE.out, ← HLN.out]; rfl, ?_, HBW2.out⟩
          rw [hB, ← HLN.out]
          exact HOF.out
  · have hne : (progE p != 0) = true := by simpa using hp0
    have HE : Hid (senE p = progE p) := Lib.hid (by unfold senE; rw [if_pos hp0])
    have HP0 := Lib.hid hp0
    generalize hpe : progE p = pe at *
    clear hpe hp0
    go_enter Tryd.func25, Tryd.ntmps25
    go_upto_region 1 with (fail)
    rw [← HW1.out, ← HG1.out]
    obtain ⟨c0, -, cz⟩ := HKP.out.c1
    go_wp2_with fail
    refine HC.out.mono ?_
    rintro e w2 ⟨rfl, bel2⟩
    have HB2 := Lib.hid (HB1.out.trans (bel2.mono hwl))
    clear bel2 c0 cz
    go_wp2
    go_ret2
    exact SnD.err HE.out HP0.out HB2.out
end Go.Proofs.YtinfeglhjmnlaaaDoor.pm
