/- Bytes of targets, the reference: PutCrc, PutInstr. -/
import Derived.Test.YtinfeglhjmnlaaaDoorGHs
import Derived.Test.YtinfeglhjmnlaaaDoorGRg
import Derived.Deep.DrawnRows
import Derived.Deep.RegionLaw
namespace Go.Proofs.YtinfeglhjmnlaaaDoor.pm
open Go.RowKit
set_option linter.unusedVariables false
set_option maxRecDepth 10000

set_option maxHeartbeats 1000000 in
theorem refseal_any (base : Nat) (V : Option Addr) (n c : Nat) (l : List Nat) (w : World) (hn : l.length = n) (hown : OwM w base (.slice V n c) n (nb l)) (hl : ∀ x ∈ l, x < 256) (hz : n ≤ 140737488352000) (hb : base ≤ w.heap.size) :
    Calls Tryd.prog 40 #[.slice V n c] w (SealD base (sealL l) w) := by
  obtain ⟨i0, hi0, hz0, hz1, hz2⟩ := info_parts info_u8
  have HBS := Lib.hid (hown.bs hl)
  go_enter Tryd.func40, Tryd.ntmps40
  go_wp2_with fail
  refine (refcrc_any V n c l w _ HBS.out (by unfold maxLen; omega)).mono ?_
  rintro e w' ⟨rfl, rfl⟩
  have hcp := crc_parts l
  generalize hcr : ((crc l : Nat) : Int) = cr at hcp ⊢
  have HCP := Lib.hid hcp
  clear hcp hcr
  go_wp2_with (at_builtin; refine wpList_append_m _ rfl (.tmp 6) (.tmp 18) _ rfl base i0 Tryd.underlying22 hi0 hz0 hz1 hz2 _ n (nb l) rfl (hown.alloc _) (w.heap.size + 1) (some ⟨w.heap.size, 0, none⟩) 4 4 [.int .u8 (cr / 16777216 % 256), .int .u8 (cr / 65536 % 256), .int .u8 (cr / 256 % 256), .int .u8 (cr % 256)] (by decide) rfl (reads_lit w _ [_, _, _, _]) (by simp [Value.oneCell']) (by unfold maxLen; omega) (by omega) (by simp; omega) ?_; intro v1 w2 hown1 hg1)
  go_ret
  obtain ⟨V3, c3, rfl, hm3⟩ := own_form hown1
  have hnb : nb l ++ [.int .u8 (cr / 16777216 % 256), .int .u8 (cr / 65536 % 256), .int .u8 (cr / 256 % 256), .int .u8 (cr % 256)] = nb (sealL l) := by
    obtain ⟨e1, e2, e3, e4⟩ := HCP.out
    rw [e1, e2, e3, e4]
    unfold sealL
    rw [nb_append]
    rfl
  rw [hnb] at hown1
  have hlen : (sealL l).length = n + 4 := by rw [sealL_len, hn]
  refine ⟨V3, c3, by rw [hlen]; rfl, by rw [hlen]; exact hown1, NoB.append (by simp) (fun b hb => Below.heap_alloc w _ b hb) (hown.alloc _) hg1, ((Below.refl _ _).alloc hb _).trans ((hown.alloc _).below hg1 (by simp; omega))⟩
/-- the bytes of an instruction whose operands are used as said -/
def encG (x : Ins) (ua ub uc ui : Bool) : List Nat := x.op.toNat :: ((if ua then put x.a.toNat else []) ++ ((if ub then put x.b.toNat else []) ++ ((if uc then put x.c.toNat else []) ++ (if ui then put x.imm.toNat else []))))
def PiD (l : List Nat) (w : World) (e : Ending) (w' : World) : Prop :=
  ∃ V c, e = .returned (.slice V l.length c) ∧ w'.ownsRow w.heap.size 5 1 (.slice V l.length c) l.length (nb l) ∧ Below w.heap.size w w'
set_option maxHeartbeats 2000000 in
theorem putinstr_any (on an bn cn imn : Nat) (ua ub uc ui : Bool) (ho : on < 256) (ha : an ≤ 2147483647) (hb : bn ≤ 2147483647) (hc : cn ≤ 2147483647) (hi : imn < 18446744073709551616) (w : World) :
    Calls Tryd.prog 39 #[.slice none 0 0, .agg #[.int .i64 (on : Int), .int .i64 (an : Int), .int .i64 (bn : Int), .int .i64 (cn : Int), .int .u64 (imn : Int)], .bool ua, .bool ub, .bool uc, .bool ui] w
      (PiD (encG ⟨on, an, bn, cn, imn⟩ ua ub uc ui) w) := by
  obtain ⟨i0, hi0, hz0, hz1, hz2⟩ := info_parts info_u8
  obtain ⟨W1, hW1⟩ : ∃ W1, W1 = w.alloc (.cells #[.int .i64 (on : Int), .int .i64 (an : Int), .int .i64 (bn : Int), .int .i64 (cn : Int), .int .u64 (imn : Int)] 58) := ⟨_, rfl⟩
  have hB1 : Below w.heap.size w W1 := by rw [hW1]; exact (Below.refl _ _).alloc (Nat.le_refl _) _
  have HK : Hid (Blk W1 w.heap.size 58 #[.int .i64 (on : Int), .int .i64 (an : Int), .int .i64 (bn : Int), .int .i64 (cn : Int), .int .u64 (imn : Int)]) := Lib.hid (by rw [hW1]; exact Blk.new _ _ _)
  have HB1 := Lib.hid hB1
  have HW1 := Lib.hid hW1
  have hu8 : IntKind.u8.wrap (on : Int) = (on : Int) := IntWalk.u8_in _ (by omega)
  obtain ⟨x0, x1, x2, x3, x4, -, -, -, -, -, xz⟩ := HK.out.c5
  clear hW1 hB1
  go_enter Tryd.func39, Tryd.ntmps39
  go_upto_region 1 with (fail)
  rw [← HW1.out]
  obtain ⟨L0, hL0⟩ : ∃ l, l = [on] := ⟨_, rfl⟩
  have hl0 : L0.length = 1 := by rw [hL0]; rfl
  go_cut [0] (fun s wx => ∃ V c, s = .slice V L0.length c ∧ wx.ownsRow w.heap.size 5 1 (.slice V L0.length c) L0.length (nb L0) ∧ Below W1.heap.size W1 wx)
  case first =>
    go_region_law (refine step_append_any _ rfl (.tmp 14) (.tmp 18) 22 rfl w.heap.size 5 i0 _ 1 1 Tryd.underlying22 hi0 hz0 hz1 hz2 rfl (by omega) (.slice none 0 0) 0 [] (by first | (simp [Act.eval]; done) | (simp [Act.eval, Act.put]; done)) (World.ownsRow_nil _ _ _ _) (W1.heap.size + 1) (some ⟨W1.heap.size, 0, none⟩) 1 1 (nb [on]) (by first | (simp [Act.eval]; done) | (simp [Act.eval, Act.put]; done)) (show Reads (World.alloc W1 _) _ _ _ _ _ from reads_one W1 _ _) (nb_one _) (by unfold maxLen; omega) (by omega) (by simp; omega) ?_; intro v1 w2 hown1 hg1 hat1; obtain ⟨V3, c3, rfl, hm3⟩ := own_form hown1; have hbl1 : Below W1.heap.size W1 w2 := below_append (((Below.refl _ W1).alloc (Nat.le_refl _) _).drew) (World.ownsRow_nil _ W1.heap.size 5 1) hg1 (Nat.le_refl _) (by simp))
    all_goals (go_wp2_with fail; go_meet; exact ⟨V3, c3, by rw [hl0], (by rw [show nb L0 = [] ++ nb [on] by rw [hL0]; rfl, hl0]; exact hown1), (by have h := hbl1; first | exact h | exact h.drew)⟩)
  case rest =>
    obtain ⟨V0, c0, rfl, own0, bel0⟩ := hcut
    have HL0 := Lib.hid hL0
    have HOW0 := Lib.hid own0
    have HBL0 := Lib.hid bel0
    have hll0 : L0.length ≤ 1 := by omega
    clear hl0
    have hby0 : ∀ y ∈ L0, y < 256 := by rw [hL0]; simpa using ho
    clear hL0 own0 bel0 x0 x1 x2 x3 x4 xz
    generalize wc = wc0 at *
    obtain ⟨L1, hL1⟩ : ∃ l, l = L0 ++ (if ua then put an else []) := ⟨_, rfl⟩
    have HL1 := Lib.hid hL1
    have hll1 : L1.length ≤ 11 := by
      have h1 := congrArg List.length hL1
      have h2 := ite_len (p := ua = true) an
      rw [List.length_append] at h1
      omega
    have hby1 : ∀ y ∈ L1, y < 256 := by
      intro y hy
      rw [hL1] at hy
      rcases List.mem_append.1 hy with h | h
      · exact hby0 y h
      · exact put_lt _ (by omega) y (mem_ite h)
    clear hL1
    go_upto_if 20 with (fail)
    go_cut [0] (fun s wx => ∃ V c, s = .slice V L1.length c ∧ wx.ownsRow w.heap.size 5 1 (.slice V L1.length c) L1.length (nb L1) ∧ Below W1.heap.size W1 wx)
    case first =>
      cases ua with
      | false =>
        have h1 := HL1.out
        simp only [Bool.false_eq_true, if_false, List.append_nil] at h1
        have HOX := HOW0
        rw [← h1] at HOX
        have hlx : L0.length = L1.length := by rw [h1]
        rw [hlx]
        clear hlx h1
        go_wp2_with fail
        go_meet
        exact ⟨_, _, rfl, HOX.out, HBL0.out⟩
      | true =>
        have h1 := HL1.out
        simp only [if_true] at h1
        have hwv : IntKind.u64.wrap (an : Int) = (an : Int) := IntWalk.u64_in _ (by omega)
        have HPU := Lib.hid (refput_any V0 L0.length c0 L0 an (by omega) wc0 wc0.heap.size ⟨Reads.of_own HOW0.out, hby0⟩ (Nat.le_refl _) (by omega))
        rw [← h1] at HPU
        obtain ⟨x0, x1, x2, x3, x4, -, -, -, -, -, xz⟩ := (HK.out.after HBL0.out).c5
        clear h1
        go_wp2_with fail
        refine HPU.out.mono ?_
        rintro e w' ⟨r, rfl, own', bel'⟩
        obtain ⟨V', c', rfl, hm'⟩ := own_form own'
        have HOX := Lib.hid (own_less own' (show w.heap.size ≤ wc0.heap.size by have := HBL0.out.size; omega))
        have HBX := Lib.hid (HBL0.out.trans (bel'.mono HBL0.out.size))
        clear own' bel' x0 x1 x2 x3 x4 xz
        go_wp2_with fail
        go_meet
        exact ⟨_, _, rfl, HOX.out, HBX.out⟩
    case rest =>
    obtain ⟨V1, c1, rfl, own1, bel1⟩ := hcut
    have HOW1 := Lib.hid own1
    have HBL1 := Lib.hid bel1
    clear own1 bel1 HOW0 HBL0
    generalize wc = wc1 at *
    obtain ⟨L2, hL2⟩ : ∃ l, l = L1 ++ (if ub then put bn else []) := ⟨_, rfl⟩
    have HL2 := Lib.hid hL2
    have hll2 : L2.length ≤ 21 := by
      have h1 := congrArg List.length hL2
      have h2 := ite_len (p := ub = true) bn
      rw [List.length_append] at h1
      omega
    have hby2 : ∀ y ∈ L2, y < 256 := by
      intro y hy
      rw [hL2] at hy
      rcases List.mem_append.1 hy with h | h
      · exact hby1 y h
      · exact put_lt _ (by omega) y (mem_ite h)
    clear hL2
    go_upto_if 26 with (fail)
    go_cut [0] (fun s wx => ∃ V c, s = .slice V L2.length c ∧ wx.ownsRow w.heap.size 5 1 (.slice V L2.length c) L2.length (nb L2) ∧ Below W1.heap.size W1 wx)
    case first =>
      cases ub with
      | false =>
        have h1 := HL2.out
        simp only [Bool.false_eq_true, if_false, List.append_nil] at h1
        have HOX := HOW1
        rw [← h1] at HOX
        have hlx : L1.length = L2.length := by rw [h1]
        rw [hlx]
        clear hlx h1
        go_wp2_with fail
        go_meet
        exact ⟨_, _, rfl, HOX.out, HBL1.out⟩
      | true =>
        have h1 := HL2.out
        simp only [if_true] at h1
        have hwv : IntKind.u64.wrap (bn : Int) = (bn : Int) := IntWalk.u64_in _ (by omega)
        have HPU := Lib.hid (refput_any V1 L1.length c1 L1 bn (by omega) wc1 wc1.heap.size ⟨Reads.of_own HOW1.out, hby1⟩ (Nat.le_refl _) (by omega))
        rw [← h1] at HPU
        obtain ⟨x0, x1, x2, x3, x4, -, -, -, -, -, xz⟩ := (HK.out.after HBL1.out).c5
        clear h1
        go_wp2_with fail
        refine HPU.out.mono ?_
        rintro e w' ⟨r, rfl, own', bel'⟩
        obtain ⟨V', c', rfl, hm'⟩ := own_form own'
        have HOX := Lib.hid (own_less own' (show w.heap.size ≤ wc1.heap.size by have := HBL1.out.size; omega))
        have HBX := Lib.hid (HBL1.out.trans (bel'.mono HBL1.out.size))
        clear own' bel' x0 x1 x2 x3 x4 xz
        go_wp2_with fail
        go_meet
        exact ⟨_, _, rfl, HOX.out, HBX.out⟩
    case rest =>
    obtain ⟨V2, c2, rfl, own2, bel2⟩ := hcut
    have HOW2 := Lib.hid own2
    have HBL2 := Lib.hid bel2
    clear own2 bel2 HOW1 HBL1
    generalize wc = wc2 at *
    obtain ⟨L3, hL3⟩ : ∃ l, l = L2 ++ (if uc then put cn else []) := ⟨_, rfl⟩
    have HL3 := Lib.hid hL3
    have hll3 : L3.length ≤ 31 := by
      have h1 := congrArg List.length hL3
      have h2 := ite_len (p := uc = true) cn
      rw [List.length_append] at h1
      omega
    have hby3 : ∀ y ∈ L3, y < 256 := by
      intro y hy
      rw [hL3] at hy
      rcases List.mem_append.1 hy with h | h
      · exact hby2 y h
      · exact put_lt _ (by omega) y (mem_ite h)
    clear hL3
    go_upto_if 32 with (fail)
    go_cut [0] (fun s wx => ∃ V c, s = .slice V L3.length c ∧ wx.ownsRow w.heap.size 5 1 (.slice V L3.length c) L3.length (nb L3) ∧ Below W1.heap.size W1 wx)
    case first =>
      cases uc with
      | false =>
        have h1 := HL3.out
        simp only [Bool.false_eq_true, if_false, List.append_nil] at h1
        have HOX := HOW2
        rw [← h1] at HOX
        have hlx : L2.length = L3.length := by rw [h1]
        rw [hlx]
        clear hlx h1
        go_wp2_with fail
        go_meet
        exact ⟨_, _, rfl, HOX.out, HBL2.out⟩
      | true =>
        have h1 := HL3.out
        simp only [if_true] at h1
        have hwv : IntKind.u64.wrap (cn : Int) = (cn : Int) := IntWalk.u64_in _ (by omega)
        have HPU := Lib.hid (refput_any V2 L2.length c2 L2 cn (by omega) wc2 wc2.heap.size ⟨Reads.of_own HOW2.out, hby2⟩ (Nat.le_refl _) (by omega))
        rw [← h1] at HPU
        obtain ⟨x0, x1, x2, x3, x4, -, -, -, -, -, xz⟩ := (HK.out.after HBL2.out).c5
        clear h1
        go_wp2_with fail
        refine HPU.out.mono ?_
        rintro e w' ⟨r, rfl, own', bel'⟩
        obtain ⟨V', c', rfl, hm'⟩ := own_form own'
        have HOX := Lib.hid (own_less own' (show w.heap.size ≤ wc2.heap.size by have := HBL2.out.size; omega))
        have HBX := Lib.hid (HBL2.out.trans (bel'.mono HBL2.out.size))
        clear own' bel' x0 x1 x2 x3 x4 xz
        go_wp2_with fail
        go_meet
        exact ⟨_, _, rfl, HOX.out, HBX.out⟩
    case rest =>
    obtain ⟨V3, c3, rfl, own3, bel3⟩ := hcut
    have HOW3 := Lib.hid own3
    have HBL3 := Lib.hid bel3
    clear own3 bel3 HOW2 HBL2
    generalize wc = wc3 at *
    obtain ⟨L4, hL4⟩ : ∃ l, l = L3 ++ (if ui then put imn else []) := ⟨_, rfl⟩
    have HL4 := Lib.hid hL4
    have hll4 : L4.length ≤ 41 := by
      have h1 := congrArg List.length hL4
      have h2 := ite_len (p := ui = true) imn
      rw [List.length_append] at h1
      omega
    have hby4 : ∀ y ∈ L4, y < 256 := by
      intro y hy
      rw [hL4] at hy
      rcases List.mem_append.1 hy with h | h
      · exact hby3 y h
      · exact put_lt _ (by omega) y (mem_ite h)
    clear hL4
    go_upto_if 38 with (fail)
    go_cut [0] (fun s wx => ∃ V c, s = .slice V L4.length c ∧ wx.ownsRow w.heap.size 5 1 (.slice V L4.length c) L4.length (nb L4) ∧ Below W1.heap.size W1 wx)
    case first =>
      cases ui with
      | false =>
        have h1 := HL4.out
        simp only [Bool.false_eq_true, if_false, List.append_nil] at h1
        have HOX := HOW3
        rw [← h1] at HOX
        have hlx : L3.length = L4.length := by rw [h1]
        rw [hlx]
        clear hlx h1
        go_wp2_with fail
        go_meet
        exact ⟨_, _, rfl, HOX.out, HBL3.out⟩
      | true =>
        have h1 := HL4.out
        simp only [if_true] at h1
        have HPU := Lib.hid (refput_any V3 L3.length c3 L3 imn (by omega) wc3 wc3.heap.size ⟨Reads.of_own HOW3.out, hby3⟩ (Nat.le_refl _) (by omega))
        rw [← h1] at HPU
        obtain ⟨x0, x1, x2, x3, x4, -, -, -, -, -, xz⟩ := (HK.out.after HBL3.out).c5
        clear h1
        go_wp2_with fail
        refine HPU.out.mono ?_
        rintro e w' ⟨r, rfl, own', bel'⟩
        obtain ⟨V', c', rfl, hm'⟩ := own_form own'
        have HOX := Lib.hid (own_less own' (show w.heap.size ≤ wc3.heap.size by have := HBL3.out.size; omega))
        have HBX := Lib.hid (HBL3.out.trans (bel'.mono HBL3.out.size))
        clear own' bel' x0 x1 x2 x3 x4 xz
        go_wp2_with fail
        go_meet
        exact ⟨_, _, rfl, HOX.out, HBX.out⟩
    case rest =>
    obtain ⟨V4, c4, rfl, own4, bel4⟩ := hcut
    have HOW4 := Lib.hid own4
    have HBL4 := Lib.hid bel4
    clear own4 bel4 HOW3 HBL3
    generalize wc = wc4 at *
    have HE : Hid (encG ⟨on, an, bn, cn, imn⟩ ua ub uc ui = L4) := Lib.hid (by
      rw [HL4.out, HL3.out, HL2.out, HL1.out, HL0.out]
      unfold encG
      simp)
    go_wp2
    go_ret
    rw [HE.out]
    exact ⟨V4, c4, rfl, HOW4.out, HB1.out.trans (HBL4.out.mono HB1.out.size)⟩
end Go.Proofs.YtinfeglhjmnlaaaDoor.pm
