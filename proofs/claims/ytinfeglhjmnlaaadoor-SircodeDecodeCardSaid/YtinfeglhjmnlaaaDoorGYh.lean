/- Bytes of programs: the sanity check of chapter 6. -/
import Derived.Test.YtinfeglhjmnlaaaDoorGYf
import Derived.Test.YtinfeglhjmnlaaaDoorGYg
import Derived.Test.YtinfeglhjmnlaaaDoorGRe
import Derived.Deep.CutBlock
namespace Go.Proofs.YtinfeglhjmnlaaaDoor.pm
open Go.RowKit
set_option linter.unusedVariables false
set_option maxRecDepth 10000

theorem reads_of_blkS {w : World} {g : Nat} {t : TypeId} {cs : Array Value} {n size : Nat} (h : Blk w g t cs) (hl : cs.size = n * size) : Reads w w.heap.size size (some ⟨g, 0, none⟩) n cs.toList :=
  ⟨by rw [Array.length_toList, hl], fun _ => ⟨⟨g, 0, none⟩, rfl, h.lt, fun j u hu => by
    have e : (⟨g, 0, none⟩ : Addr).add j = ⟨g, j, none⟩ := by unfold Addr.add; by_cases hj : j = 0 <;> simp [hj]
    rw [e, Blk.cell h j]
    rw [Array.getElem?_toList] at hu
    exact hu⟩⟩
theorem fx_oneS {w : World} {g1 g2 ci : Nat} {prm : Int} {code : List Ins} (h1 : Blk w g1 58 (inV code).toArray) (h2 : Blk w g2 97 #[.int .i64 prm, .slice none 0 0, .slice (some ⟨g1, 0, none⟩) code.length ci]) (hl : code.length ≤ maxLen) (hc : code.length ≤ ci) :
    Fx w 0 w.heap.size (some ⟨g2, 0, none⟩) [⟨prm, [], code⟩] := by
  have hr := reads_of_blkS (n := 1) (size := 3) h2 rfl
  have hn : Nx w 0 w.heap.size (some ⟨g1, 0, none⟩) code := by
    have := reads_of_blkS (n := code.length) (size := 5) h1 (by rw [List.size_toArray]; exact flat_len icells_len code)
    exact Rx.of_reads (by simpa using this)
  refine ⟨_, Rx.of_reads hr, fun i hi => ?_⟩
  obtain rfl : i = 0 := by simpa using hi
  exact ⟨none, 0, some ⟨g1, 0, none⟩, ci, rfl, rfl, rfl, Rx.nil _ _ _ _, hn, ⟨by simp, by simp⟩, hl, hc⟩
def aw6 : List Fn := [⟨0, [], [⟨23, 0, 0, 0, 0⟩]⟩]
theorem aw6_sen : senE aw6 = 0 ∧ (senB aw6).length = 14 := by decide +kernel
theorem aw6_pri : PrI aw6 := by
  intro f hf x hx
  obtain rfl := List.mem_singleton.1 hf
  obtain rfl := List.mem_singleton.1 hx
  simp
theorem aw6_fnr : ∀ i, i < aw6.length → FnR (aw6.getD i Fn.z) := by
  intro i hi
  obtain rfl : i = 0 := by simpa [aw6] using hi
  intro s hs
  simp [aw6] at hs
set_option maxHeartbeats 1000000 in
theorem awake06 (w : World) (hT : Dt w) (hS : Tb w) : Calls Tryd.prog 22 #[] w fun e w' => e = .returned (.bool true) ∧ Below w.heap.size w w' := by
  obtain ⟨W1, hW1⟩ : ∃ W1, W1 = (w.alloc (.cells #[.int .i64 23, .int .i64 0, .int .i64 0, .int .i64 0, .int .u64 0] 58)).alloc (.cells #[.int .i64 0, .slice none 0 0, .slice (some ⟨w.heap.size, 0, none⟩) 1 1] 97) := ⟨_, rfl⟩
  have hB1 : Below w.heap.size w W1 := by rw [hW1]; exact ((Below.refl _ _).alloc (Nat.le_refl _) _).alloc (by simp) _
  have h1 : Blk W1 w.heap.size 58 (inV [⟨23, 0, 0, 0, 0⟩]).toArray := by rw [hW1]; exact (Blk.new _ _ _).alloc _
  have h2 : Blk W1 (w.heap.size + 1) 97 #[.int .i64 0, .slice none 0 0, .slice (some ⟨w.heap.size, 0, none⟩) [(⟨23, 0, 0, 0, 0⟩ : Ins)].length 1] := by rw [hW1]; exact Blk.newAt (by simp)
  have hf := fx_oneS h1 h2 (by simp [maxLen]) (by simp)
  have HE := Lib.hid (senc_any (some ⟨w.heap.size + 1, 0, none⟩) aw6 1 0 W1.heap.size W1 (hT.below hB1 hT.1) (hS.below hB1) hf (Nat.le_refl _) (by simp [aw6, maxLen]) aw6_fnr aw6_pri)
  have HB1 := Lib.hid hB1
  have HW1 := Lib.hid hW1
  clear hT hS h1 h2 hf hW1 hB1
  go_enter Tryd.func22, Tryd.ntmps22
  go_wp2_with (rw [← HW1.out]; refine HE.out.mono ?_; rintro e w' ⟨V, c, rfl, own, bel⟩; rw [aw6_sen.1, aw6_sen.2])
  go_ret
  exact ⟨rfl, HB1.out.trans (bel.mono HB1.out.size)⟩
end Go.Proofs.YtinfeglhjmnlaaaDoor.pm
namespace Go.Proofs.YtinfeglhjmnlaaaDoor.pm
open Go.RowKit
set_option linter.unusedVariables false
set_option maxRecDepth 10000

set_option maxHeartbeats 8000000 in
theorem refsenc_any (Ap : Option Addr) (p : List Fn) (cp lo hi : Nat) (w : World) (hf : Fx w lo hi Ap p) (hh : hi ≤ w.heap.size) (hm : p.length ≤ maxLen) (hr : ∀ i, i < p.length → FnR (p.getD i Fn.z)) (hpi : PrI p) :
    Calls Tryd.prog 26 #[.agg #[.slice Ap p.length cp]] w (SnD p w) := by
  obtain ⟨i0, hi0, hz0, hz1, hz2⟩ := info_parts info_u8
  obtain ⟨W1, hW1⟩ : ∃ W1, W1 = w.alloc (.cells #[.slice Ap p.length cp] 44) := ⟨_, rfl⟩
  obtain ⟨g1, hg1⟩ : ∃ g, g = w.heap.size := ⟨_, rfl⟩
  have hB1 : Below w.heap.size w W1 := by rw [hW1]; exact (Below.refl _ _).alloc (Nat.le_refl _) _
  have HKP : Hid (Blk W1 g1 44 #[.slice Ap p.length cp]) := Lib.hid (by rw [hW1, hg1]; exact Blk.new _ _ _)
  have HB1 := Lib.hid hB1
  have HG1 := Lib.hid hg1
  have HW1 := Lib.hid hW1
  have hf1 := hf.keep (Kp.of_below hB1 hh)
  have HF := Lib.hid hf1
  have hz1w : w.heap.size < W1.heap.size := by rw [hW1]; simp
  have HC := Lib.hid (refcheck_any Ap p cp W1 lo hi hf1 (Nat.le_trans hh hB1.size) hm hr)
  obtain ⟨np, hnp⟩ : ∃ n, n = p.length := ⟨_, rfl⟩
  rw [← hnp] at HKP HC HW1 hm
  rw [← hnp]
  have HNP := Lib.hid hnp
  have hni : (np : Int) ≤ 9223372036854775807 := by unfold maxLen at hm; omega
  have hwl : w.heap.size ≤ W1.heap.size := Nat.le_of_lt hz1w
  clear hW1 hB1 hg1 hf hf1 hnp hr
  by_cases hp0 : progE p = 0
  · have hef := prog_efs hp0 hpi
    have HEF := Lib.hid hef
    have HP0 := Lib.hid hp0
    have hnp80 : np ≤ 80 := by rw [HNP.out]; exact hef.1
    rw [hp0] at HC
    clear hp0 hef
    go_enter Tryd.func26, Tryd.ntmps26
    go_upto_region 1 with (fail)
    rw [← HW1.out, ← HG1.out]
    obtain ⟨c0, -, cz⟩ := HKP.out.c1
    go_wp2_with fail
    refine HC.out.mono ?_
    rintro e w2 ⟨rfl, bel2⟩
    have HB2 := Lib.hid (HB1.out.trans (bel2.mono hwl))
    have HKP2 := Lib.hid (HKP.out.after bel2)
    have HF2 : Hid (Fx w2 lo hi Ap p) := Lib.hid (HF.out.keep (Kp.of_below bel2 (Nat.le_trans hh hwl)))
    have hw2 : w.heap.size ≤ w2.heap.size := HB2.out.size
    have hv2 : W1.heap.size ≤ w2.heap.size := bel2.size
    have hg1 : g1 < W1.heap.size := by rw [HG1.out]; exact hz1w
    clear bel2 HC HKP HF c0 cz HW1
    obtain ⟨c0, -, cz⟩ := HKP2.out.c1
    have hcv := Lib.run_convert_bytes_const (P := Tryd.prog) w2 22 5 #[.int .u8 83, .int .u8 73, .int .u8 82, .int .u8 49] 4 4 Tryd.underlying22 Tryd.underlying5
    obtain ⟨W3, hW3⟩ : ∃ W3, W3 = w2.alloc (.cells #[.int .u8 83, .int .u8 73, .int .u8 82, .int .u8 49] 5 (4, 5)) := ⟨_, rfl⟩
    have hbl : Below w2.heap.size w2 W3 := by rw [hW3]; exact (Below.refl _ _).alloc (Nat.le_refl _) _
    have HOW : Hid (OwM W3 w.heap.size (.slice (some ⟨w2.heap.size, 0, none⟩) 4 4) 4 (nb mgS)) := Lib.hid (.inr ⟨w2.heap.size, #[.int .u8 83, .int .u8 73, .int .u8 82, .int .u8 49], (4, 5), rfl, hw2, by rw [hW3, heap_alloc_new], rfl, rfl, by decide⟩)
    have HMB : Hid (Bs W3 W3.heap.size (some ⟨w2.heap.size, 0, none⟩) 4 mgS) := Lib.hid (HOW.out.bs (by decide))
    have hB3 : Below W1.heap.size w2 W3 := hbl.mono hv2
    have hz3 : W1.heap.size ≤ W3.heap.size := Nat.le_trans hv2 hbl.size
    have HKP3 := Lib.hid (HKP2.out.after hbl)
    have HPU := Lib.hid (refput_any (some ⟨w2.heap.size, 0, none⟩) 4 4 mgS np (by omega) W3 W3.heap.size HMB.out (Nat.le_refl _) (by decide))
    have HB3 := Lib.hid hB3
    have HW3 := Lib.hid hW3
    have hwn : IntKind.u64.wrap (np : Int) = (np : Int) := IntWalk.u64_in _ (by omega)
    clear hW3 hbl HOW HMB hB3
    obtain ⟨d0, -, dz⟩ := HKP3.out.c1
    go_wp2_with (rw [← HW3.out]; refine HPU.out.mono ?_; rintro e w4 ⟨r4, rfl, own4, bel4⟩)
    obtain ⟨L0, hL0⟩ : ∃ l, l = mgS ++ put np := ⟨_, rfl⟩
    rw [← hL0] at own4
    obtain ⟨V4, c4, rfl, _⟩ := own_form own4
    have HKP4 := Lib.hid (HKP3.out.after bel4)
    have hl0 : L0.length ≤ 14 := by
      have h1 := (put_len np).2
      rw [hL0, List.length_append]
      simp only [mgS, List.length_cons, List.length_nil]
      omega
    have HBQ4 : Hid (BQ W1.heap.size L0 w2 (.slice V4 L0.length c4) w4) := Lib.hid ⟨own_less own4 hz3, by rw [hL0]; exact fun y hy => (List.mem_append.1 hy).elim ((by decide : ∀ y ∈ mgS, y < 256) y) (put_lt np (by omega) y), HB3.out.trans (bel4.mono hz3)⟩
    have HL0 := Lib.hid hL0
    obtain ⟨n4, hn4⟩ : ∃ n, n = L0.length := ⟨_, rfl⟩
    rw [← hn4] at HBQ4 hl0 ⊢
    have HN4 := Lib.hid hn4
    clear own4 bel4 hL0 hn4 HPU HW3 HKP3 HB3 hcv c0 cz d0 dz hwn
    obtain ⟨c0, -, cz⟩ := HKP4.out.c1
    go_upto_region 6 with (fail)
    clear c0 cz HKP4
    go_loopw [5, 6] (fun s5 x wr => ∃ (k : Nat) (L : List Nat) (V : Option Addr) (n c : Nat), k ≤ np ∧ n ≤ 14 + 52264 * k ∧ s5 = .slice V n c ∧ x = .int .i64 k ∧ Hid (n = L.length) ∧ Hid (L = L0 ++ (p.take k).flatMap encP) ∧ Hid (BQ W1.heap.size L w2 (.slice V n c) wr)) (fun s5 x _ => np - (intOf x).toNat)
    case atStart => exact ⟨0, L0, V4, n4, c4, by omega, by omega, rfl, rfl, HN4, Lib.hid (by simp), HBQ4⟩
    case round =>
      obtain ⟨k, L, V, n, c, hk, hnk, rfl, rfl, HN, HL, HBQ⟩ := hrel
      clear HBQ4 hl0
      have hn6 : n ≤ 5000000 := by omega
      have HNK := Lib.hid hnk
      clear hnk
      obtain ⟨c0, -, cz⟩ := (HKP2.out.below HBQ.out.bel hg1).c1
      by_cases hlt : k < np
      · have hk0 : (0 : Int) ≤ (k : Int) := by omega
        have hk1 : (k : Int) < (np : Int) := by omega
        have hkp : k < p.length := by rw [← HNP.out]; exact hlt
        have HTK := Lib.hid (flat_take encP p hkp Fn.z)
        have HEFk := Lib.hid (HEF.out.2 (p.getD k Fn.z) (getD_mem' hkp))
        have hwr := HBQ.out.bel.size
        obtain ⟨ad, As, cs, Ai, ci, hA, hab, y0, y1, y2, -, -, hsx, hnx, ⟨m1, m2⟩, m3, m4⟩ := (HF2.out.keep (fun b _ h2 => HBQ.out.bel.block b (by omega))).whole hkp
        obtain ⟨f, hff⟩ : ∃ f, f = p.getD k Fn.z := ⟨_, rfl⟩
        rw [← hff] at y0 y1 y2 hsx hnx HTK HEFk
        have HDE : Hid (Calls Tryd.prog 66 #[.agg #[.int .i64 f.params, .slice As f.slots.length cs, .slice Ai f.code.length ci]] wr (DesD (descS f) wr)) := Lib.hid (refdesc_any As Ai cs ci lo hi f HEFk.out wr hsx hnx (by omega))
        have haw : ad.block < wr.heap.size := by omega
        obtain ⟨ns, hns⟩ : ∃ n, n = f.slots.length := ⟨_, rfl⟩
        obtain ⟨nc, hnc⟩ : ∃ n, n = f.code.length := ⟨_, rfl⟩
        rw [← hns] at y1 HDE
        rw [← hnc] at y2 HDE
        rw [hA] at c0
        clear hff hA hab hsx hnx m1 m2 m3 m4 hns hnc
        generalize wr = wo at *
        go_wp2_with fail
        refine HDE.out.mono ?_
        rintro e w5 ⟨Vd, cd, rfl, owd, bel5⟩
        obtain ⟨D, hD⟩ : ∃ D, D = descS f := ⟨_, rfl⟩
        rw [← hD] at owd ⊢
        obtain ⟨nd, hnd⟩ : ∃ n, n = D.length := ⟨_, rfl⟩
        have hd6 : nd ≤ 52254 := by rw [hnd, hD]; exact descS_len HEFk.out.ns HEFk.out.nc
        have HDB : Hid (∀ y ∈ D, y < 256) := Lib.hid (by rw [hD]; exact descS_bytes HEFk.out)
        have hd1 : 1 ≤ nd := by
          have := (put_len f.params.toNat).1
          rw [hnd, hD]
          unfold descS
          simp only [List.length_append]
          omega
        rw [← hnd] at owd ⊢
        have HBQ5 := Lib.hid (HBQ.out.after bel5 hv2)
        have HRD := Lib.hid (owd.bs HDB.out)
        have HD := Lib.hid hD
        have HND := Lib.hid hnd
        have hndi : (nd : Int) ≤ 52254 := by omega
        have HPN := Lib.hid (HBQ5.out.put HN.out hv2 nd (by omega) (by omega))
        have hwd : IntKind.u64.wrap (nd : Int) = (nd : Int) := IntWalk.u64_in _ (by omega)
        obtain ⟨L6, hL6⟩ : ∃ l, l = L ++ put nd := ⟨_, rfl⟩
        obtain ⟨n6, hnn6⟩ : ∃ n, n = L6.length := ⟨_, rfl⟩
        rw [← hL6, ← hnn6] at HPN
        have hn6b : n6 ≤ n + 10 := by
          have h1 := (put_len nd).2
          have h2 := HN.out
          rw [hnn6, hL6, List.length_append]; omega
        have HL6 := Lib.hid hL6
        have HN6 := Lib.hid hnn6
        have HNB6 := Lib.hid hn6b
        have hn6c : n6 ≤ 6000000 := by omega
        clear c0 cz owd bel5 hD hnd HDE HBQ y0 y1 y2 haw hL6 hnn6 hn6b
        have hn7 : n6 + nd ≤ 14 + 52264 * (k + 1) := by
          have h1 := HNK.out
          have h2 := HNB6.out
          omega
        have HN7 := Lib.hid hn7
        clear hn7
        go_upto_region 7 with (first
          | (go_at_call 37; refine HPN.out.mono ?_; rintro e w6 ⟨V6, c6, rfl, bq6, bel6⟩; have hv6 : W1.heap.size ≤ w6.heap.size := Nat.le_trans hv2 bq6.bel.size; have hown6 : w6.ownsRow W1.heap.size 5 1 (.slice V6 n6 c6) n6 (nb L6) := (by have := bq6.ow; rw [← HN6.out] at this; exact this); have HRD6 : Hid (Reads w6 w5.heap.size 1 Vd nd (nb D)) := Lib.hid (HRD.out.1.below bel6))
          | (at_builtin; refine wpList_append_any _ rfl (.tmp 37) (.tmp 38) _ rfl W1.heap.size 5 i0 _ 1 1 Tryd.underlying22 hi0 hz0 hz1 hz2 rfl (by omega) (.slice V6 n6 c6) n6 (nb L6) rfl hown6 w5.heap.size Vd nd cd (nb D) rfl HRD6.out (nb_one D) (by unfold maxLen; omega) (by omega) hv6 ?_; intro o7 w7 own7 hg7 hat7; obtain ⟨V7, c7, rfl, hm7⟩ := own_form own7))
        have HBQ7 : Hid (BQ W1.heap.size (L6 ++ D) w2 (.slice V7 (n6 + nd) c7) w7) := Lib.hid (by
          have hl : (L6 ++ D).length = n6 + nd := by rw [List.length_append, ← HN6.out, ← HND.out]
          refine ⟨?_, fun y hy => (List.mem_append.1 hy).elim (bq6.by_ y) (HDB.out y), below_append bq6.bel hown6 hg7 (Nat.le_refl _) hv6⟩
          rw [hl, nb_append]
          exact own7)
        have HNL7 : Hid (n6 + nd = (L6 ++ D).length) := Lib.hid (by rw [List.length_append, ← HN6.out, ← HND.out])
        clear own7 hg7 hat7 hm7 hown6 bq6 bel6 HRD6 HRD HPN HBQ5
        go_wp2
        go_roundw
        case rel =>
          refine ⟨k + 1, L6 ++ D, V7, n6 + nd, c7, by omega, HN7.out, rfl, by go_num, HNL7, Lib.hid ?_, HBQ7⟩
          rw [HTK.out, HL6.out, HL.out]
          unfold encP encFS
          rw [← HD.out, ← HND.out]
          simp only [List.append_assoc]
        case measure => simp [intOf]; omega
      · have hkn : k = np := by omega
        have HKN := Lib.hid hkn
        subst hkn
        have hLb : L = bodyS p := by rw [HL.out, HKN.out, HNP.out, List.take_length, HL0.out, HNP.out, bodyS_eq]
        have HS := Lib.hid (refseal_any W1.heap.size V n c L wr HN.out.symm (.inl (by have := HBQ.out.ow; rw [← HN.out] at this; exact this)) HBQ.out.by_ (by omega) (by have := HBQ.out.bel.size; omega))
        have HLB := Lib.hid hLb
        have HBW := Lib.hid (HB2.out.trans (HBQ.out.bel.mono hwl))
        obtain ⟨ln, hln⟩ : ∃ n, n = (sealL L).length := ⟨_, rfl⟩
        have hln4 : ln = n + 4 := by rw [hln, sealL_len, HN.out]
        by_cases hbig : 1048576 < n + 4
        · have hbigi : (1048576 : Int) < (n : Int) + 4 := by omega
          have HE : Hid (∀ w', Below w.heap.size w w' → SnD p w (.returned (.tuple #[.slice none 0 0, .int .i64 3])) w') := Lib.hid (fun w' hb => SnD.err (by
            unfold senE
            rw [if_neg (by simpa using HP0.out), if_pos (by rw [← HLB.out, ← HN.out]; omega)]) (by decide) hb)
          clear hln hln4 hLb hbig HS
          go_wp2
          go_ret2
          exact HE.out _ HBW.out
        · have hbigi : ¬ (1048576 : Int) < (n : Int) + 4 := by omega
          have HE : Hid (senE p = 0) := Lib.hid (senE_ok HP0.out (by rw [← HLB.out, ← HN.out]; omega))
          have HLN := Lib.hid hln
          clear hln hln4 hLb hbig
          go_wp2_with fail
          refine HS.out.mono ?_
          rintro e w6' ⟨V', c', rfl, own', nob, bel'⟩
          rw [← HLN.out] at own' ⊢
          have HBW2 := Lib.hid (HBW.out.trans (bel'.mono hwl))
          have HOF := Lib.hid (own_less own' hwl)
          clear own' nob bel'
          go_wp2
          go_ret2
          have hB : senB p = sealL L := by rw [senB_eq HE.out, ← HLB.out]
          refine ⟨V', c', by rw [hB, HE.out, ← HLN.out]; rfl, ?_, HBW2.out⟩
          rw [hB, ← HLN.out]
          exact HOF.out
  · have hne : (progE p != 0) = true := by simpa using hp0
    have HE : Hid (senE p = progE p) := Lib.hid (by unfold senE; rw [if_pos hp0])
    have HP0 := Lib.hid hp0
    generalize hpe : progE p = pe at *
    clear hpe hp0
    go_enter Tryd.func26, Tryd.ntmps26
    go_upto_region 1 with (fail)
    rw [← HW1.out, ← HG1.out]
    obtain ⟨c0, -, cz⟩ := HKP.out.c1
    go_wp2_with fail
    refine HC.out.mono ?_
    rintro e w2 ⟨rfl, bel2⟩
    have HB2 := Lib.hid (HB1.out.trans (bel2.mono hwl))
    clear bel2 c0 cz
    go_wp2
    go_ret2
    exact SnD.err HE.out HP0.out HB2.out
end Go.Proofs.YtinfeglhjmnlaaaDoor.pm
