/- MachcodeEncode: the walk of the law. -/
import Derived.Test.YtdpcpiejbhjgoaaDoorGHk
import Derived.Test.YtdpcpiejbhjgoaaDoorGHn
import Derived.Test.YtdpcpiejbhjgoaaDoorGKo
import Derived.Deep.RegionHeld3
import Derived.Deep.DrawnRows
import Derived.Deep.RegionWith
namespace Go.Proofs.YtdpcpiejbhjgoaaDoor.pm
open Go.RowKit
set_option linter.unusedVariables false
set_option maxRecDepth 10000
attribute [local go_sem ↓] Go.wp_at_zero Go.wp_at_succ

theorem TgS.rg {al : Int} {t : List Fr} (h : TgS al t) : RgT al t := ⟨h.tgr, fun f hf x hx => ((h.2 f hf).2.2.2 x hx).2⟩
theorem codes_alloc {w : World} {B g n c p : Nat} {A : Option Addr} {l : List Nat} (h : CodesAt w B g A n c l p) (o : Obj) : CodesAt (w.alloc o) B g A n c l p := ⟨h.1.alloc o, h.2.1.alloc (by have := h.1.lt; have := h.2.2.2.1; omega) o, h.2.2⟩
theorem gx_al {w : World} {lo : Nat} {A : Option Addr} {t : List Fr} (h : Gx w lo w.heap.size A t) (o : Obj) : Gx (w.alloc o) lo (w.alloc o).heap.size A t := (h.keep (Kp.of_below ((Below.refl _ _).alloc (Nat.le_refl _) o) (Nat.le_refl _))).more (Nat.le_refl _) (by simp)
theorem gx_nil (w : World) (lo hi : Nat) : Gx w lo hi none [] := ⟨[], Rx.nil _ _ _ _, fun i hi => by simp at hi⟩
theorem rg_nil : RgT 0 [] := ⟨⟨by unfold I64; omega, fun f hf => by cases hf⟩, fun f hf => by cases hf⟩
theorem encB_bytes {al bd : Int} {t : List Fr} (h : RgT al t) : ∀ y ∈ encB al bd t, y < 256 := by
  intro y hy
  by_cases he : encE al bd t = 0
  · have hz := encE_zero he
    rw [encB_eq he] at hy
    exact sealL_bytes (bodyT_bytes (et_of (h.rt hz.1)) hz.2.1) y hy
  · unfold encB at hy
    rw [if_neg he] at hy
    cases hy
set_option maxHeartbeats 8000000 in
theorem ea_law (A : Option Addr) (n c : Nat) (l : List Nat) (bd : Int) (h0 : -9223372036854775808 ≤ bd) (h1 : bd ≤ 9223372036854775807) (w : World) (hT : Dt w) (hb : Bs w w.heap.size A n l) (hn : n ≤ maxLen) (hc : n ≤ c) :
    Calls Tryd.prog 3 #[.slice A n c, .int .i64 bd] w fun e w' => e = .returned (.bool true) ∧ Below w.heap.size w w' := by
  have HB := Lib.hid hb
  have HT := Lib.hid hT
  clear hb hT
  go_enter Tryd.func3, Tryd.ntmps3
  go_wp2_with fail
  refine (awake11 _ HT.out).mono ?_
  rintro e w1 ⟨rfl, b1⟩
  have HB1 := Lib.hid b1
  have hs1 := b1.size
  have HBS1 : Hid (Bs w1 w1.heap.size A n l) := Lib.hid ((HB.out.below b1).more hs1)
  clear b1
  go_wp2_with fail
  refine (newcodes_any A n c l 250 _ hn hc (by omega)).mono ?_
  rintro e w2 ⟨rfl, hw2⟩
  have HC2 : Hid (CodesAt w2 w1.heap.size w1.heap.size A (min n 250) c (l.take (min n 250)) 0) := Lib.hid (by
    rw [hw2]
    exact ⟨Blk.newAt rfl, ((HBS1.out.take (Nat.min_le_left _ _)).alloc (by omega) _), Nat.zero_le _, Nat.le_refl _, by omega⟩)
  have HB2 : Hid (Below w.heap.size w w2) := Lib.hid (by rw [hw2]; exact HB1.out.alloc (by omega) _)
  have hs2 : w2.heap.size = w1.heap.size + 1 := by rw [hw2]; simp
  generalize min n 250 = m at *
  generalize l.take m = l' at *
  clear hw2 HBS1
  go_wp2_with fail
  refine (target_d _ _ _ _ _ _ _ 4 10 _ HC2.out (by omega) (by omega) (by omega)).mono ?_
  rintro e w3 ⟨ax, x0, Ax, cx, p3, rfl, htx, hgx, hcx, c3, g3⟩
  have HC3 := Lib.hid c3
  have HGX := Lib.hid hgx
  have HTP := Lib.hid htx
  have HB3 : Hid (Below w.heap.size w w3) := Lib.hid (HB2.out.trans (below_of_grown g3 hs1 HB2.out.size))
  have hs3 : w2.heap.size ≤ w3.heap.size := g3.size
  clear c3 g3 hgx htx HC2
  go_upto_region 5 with (fail)
  obtain ⟨W4, hW4⟩ : ∃ W4, W4 = w3.alloc (.cells #[.int .i64 ax, .slice Ax x0.length cx] 28) := ⟨_, rfl⟩
  obtain ⟨g6, hg6⟩ : ∃ g, g = w3.heap.size := ⟨_, rfl⟩
  rw [← hW4, ← hg6]
  have hb4 : Below w3.heap.size w3 W4 := by rw [hW4]; exact (Below.refl _ _).alloc (Nat.le_refl _) _
  have HK6 : Hid (Blk W4 g6 28 #[.int .i64 ax, .slice Ax x0.length cx]) := Lib.hid (by rw [hW4, hg6]; exact Blk.new _ _ _)
  have HC4 := Lib.hid (by rw [hW4]; exact codes_alloc HC3.out _ : CodesAt W4 w1.heap.size w1.heap.size A m c l' p3)
  have HGX4 : Hid (GT W4 w2.heap.size w3.heap.size Ax x0) := Lib.hid (HGX.out.keep (Kp.of_below hb4 (Nat.le_refl _)))
  have HB4 := Lib.hid (HB3.out.trans (hb4.mono HB3.out.size))
  have hs4 : w3.heap.size ≤ W4.heap.size := hb4.size
  have hx4 : x0.length ≤ 4 := HTP.out.2.2.1
  have hg6c : g6 ≠ w1.heap.size := by omega
  have HOD := Lib.hid (fun (W : World) (h : CodesAt W w1.heap.size w1.heap.size A m c l' p3) (hg : GT W w2.heap.size w3.heap.size Ax x0) (hz : w3.heap.size ≤ W.heap.size) => oddtarget_d w1.heap.size w1.heap.size A m c l' p3 _ ax x0 Ax cx w2.heap.size w3.heap.size W h HTP.out (by omega) hg hz (by omega) (by omega))
  clear hW4 hb4 HC3 HGX HB3 HB2 hg6
  obtain ⟨q0, q1, -, -, qz⟩ := HK6.out.c2
  go_cut [26, 27, 28] (fun s26 s27 s28 wx => ∃ (al : Int) (t : List Fr) (At : Option Addr) (ct gl : Nat), s26 = .slice (some ⟨gl, 0, none⟩) 3 3 ∧ s27 = .int .i64 3 ∧ s28 = .int .i64 0 ∧ Blk wx gl 28 #[.int .i64 ax, .slice Ax x0.length cx, .int .i64 al, .slice At x0.length ct, .int .i64 0, .slice none 0 0] ∧ TgS al t ∧ t.length = x0.length ∧ Gx wx w2.heap.size wx.heap.size At t ∧ Gx wx w2.heap.size wx.heap.size Ax x0 ∧ Below w.heap.size w wx)
  case first =>
    go_region_with (go_at_call 10; refine (HOD.out _ (CodesAt.dr HC4.out) (HGX4.out.keep (fun _ _ _ => rfl)) (by first | omega | (show w3.heap.size ≤ W4.heap.size; omega))).mono ?_; rintro e v4 ⟨al, t, At, ct, p4, rfl, hts, htl, hgt, htc, c4, g4⟩; have hk4 := HK6.out.drew.grown g4 (by simpa using hg6c); obtain ⟨k0, k1, -, -, kz⟩ := hk4.c2)
    all_goals
      have hz4 : W4.heap.size ≤ v4.heap.size := g4.size
      have hax : Gx v4 w2.heap.size v4.heap.size Ax x0 := ((show Gx W4.drew w2.heap.size w3.heap.size Ax x0 from HGX4.out.gx).keep (Kp.of_grown g4 (show w3.heap.size ≤ W4.heap.size by omega) (.inl (by omega)))).more (Nat.le_refl _) (by omega)
      have hbv : Below w.heap.size w v4 := HB4.out.trans (((Below.refl _ _).drew).trans (below_of_grown g4 hs1 (by show w.heap.size ≤ W4.heap.size; exact HB4.out.size)))
      go_wp2_with fail
      go_meet
      exact ⟨al, t, At, ct, v4.heap.size, rfl, rfl, rfl, Blk.new _ _ _, hts, htl, gx_al hgt _, gx_al hax _, hbv.alloc hbv.size _⟩
  case rest =>
    obtain ⟨al, t, At, ct, gl, rfl, rfl, rfl, hkl, hts, htl, hgt, hgx, hbw⟩ := hcut
    clear HOD HC4 HGX4 HK6 q0 q1 qz HB4
    generalize wc = W5 at *
    have hs5 : w.heap.size ≤ W5.heap.size := hbw.size
    have HX : Hid (∀ k, k < 3 → ∃ (al' : Int) (x : List Fr) (A' : Option Addr) (c' : Nat), W5.cell? ⟨gl, k * 2, none⟩ = some (.int .i64 al') ∧ W5.cell? ⟨gl, k * 2 + 1, none⟩ = some (.slice A' x.length c') ∧ RgT al' x ∧ Gx W5 w2.heap.size W5.heap.size A' x ∧ x.length ≤ 4) := Lib.hid (by
      intro k hk
      have : k = 0 ∨ k = 1 ∨ k = 2 := by omega
      rcases this with rfl | rfl | rfl
      · exact ⟨ax, x0, Ax, cx, hkl.cell 0, hkl.cell 1, (TgS.of HTP.out).rg, hgx, hx4⟩
      · exact ⟨al, t, At, ct, hkl.cell 2, by rw [htl]; exact hkl.cell 3, hts.rg, hgt, by omega⟩
      · exact ⟨0, [], none, 0, hkl.cell 4, hkl.cell 5, rg_nil, gx_nil _ _ _, by simp⟩)
    have HBW := Lib.hid hbw
    have hglz : gl < W5.heap.size := hkl.lt
    have HT5 : Hid (Dt W5) := Lib.hid (HT.out.below hbw HT.out.1)
    clear hkl hts htl hgt hgx hbw
    go_upto_region 6 with (fail)
    go_loopw [28] (fun x wr => ∃ k : Nat, k ≤ 3 ∧ x = .int .i64 k ∧ Hid (Below W5.heap.size W5 wr)) (fun x _ => 3 - (intOf x).toNat)
    case atStart => exact ⟨0, by omega, rfl, Lib.hid (Below.refl _ _)⟩
    case round =>
      obtain ⟨k, hk, rfl, HBr⟩ := hrel
      by_cases hlt : k < 3
      · have hk0 : (0 : Int) ≤ (k : Int) := by omega
        have hk1 : (k : Int) < 3 := by omega
        obtain ⟨al', x, A', c', x0', x1', hrg, hgx', hx4'⟩ := HX.out k hlt
        have q0 := (HBr.out.cell (p := ⟨gl, k * 2, none⟩) hglz).trans x0'
        have q1 := (HBr.out.cell (p := ⟨gl, k * 2 + 1, none⟩) hglz).trans x1'
        have hszr := HBr.out.size
        have hglr : gl < wr.heap.size := by omega
        generalize wr = wo at *
        go_upto_region 9 with (refine (mod_any bd h0 h1 1000 (by decide) (by decide) _).mono ?_; rintro e v ⟨rfl, rfl⟩)
        obtain ⟨mb, hmb⟩ : ∃ b, b = modOf bd 1000 := ⟨_, rfl⟩
        have hmb1 : mb < 1000 := by rw [hmb]; exact modOf_lt _ _ (by decide)
        rw [← hmb]
        obtain ⟨W6, hW6⟩ : ∃ W6, W6 = (wo.alloc (.cells #[.int .i64 al', .slice A' x.length c'] 28)).alloc (.cells #[.int .i64 bd, .int .i64 (mb : Int)] 3) := ⟨_, rfl⟩
        have hb6 : Below wo.heap.size wo W6 := by rw [hW6]; exact ((Below.refl _ _).alloc (Nat.le_refl _) _).alloc (by simp) _
        obtain ⟨g8, hg8⟩ : ∃ g, g = wo.heap.size := ⟨_, rfl⟩
        obtain ⟨gn, hgn⟩ : ∃ g, g = wo.heap.size + 1 := ⟨_, rfl⟩
        have HK8 : Hid (Blk W6 g8 28 #[.int .i64 al', .slice A' x.length c']) := Lib.hid (by rw [hW6, hg8]; exact (Blk.new _ _ _).alloc _)
        have HKN : Hid (Blk W6 gn 3 #[.int .i64 bd, .int .i64 (mb : Int)]) := Lib.hid (by rw [hW6, hgn]; exact Blk.newAt (by simp))
        rw [← hW6, ← hgn, ← hg8]
        have HB6 := Lib.hid (HBr.out.trans (hb6.mono hszr))
        have hs6 : W5.heap.size ≤ W6.heap.size := HB6.out.size
        have HRG := Lib.hid hrg
        have HGXX := Lib.hid hgx'
        clear hW6 hb6 hg8 hgn q0 q1 x0' x1' hmb HBr hrg hgx' hglr hszr
        have hm4 : x.length ≤ maxLen := by unfold maxLen; omega
        have HEA := Lib.hid (fun (nv : Int) (hn : I64 nv) (W : World) (h : Below W5.heap.size W5 W) => enc_any (ct := c') HRG.out hn W (HT5.out.below h HT5.out.1) (HGXX.out.keep (Kp.of_below h (Nat.le_refl _))) h.size hm4)
        have HEB := Lib.hid (fun (nv : Int) (hn : I64 nv) (W : World) (h : Below W5.heap.size W5 W) => refenc_any (ct := c') HRG.out hn W (HGXX.out.keep (Kp.of_below h (Nat.le_refl _))) h.size hm4)
        go_loopw [37] (fun x wr => ∃ i : Nat, i ≤ 2 ∧ x = .int .i64 i ∧ Hid (Below W6.heap.size W6 wr)) (fun x _ => 2 - (intOf x).toNat)
        case atStart => exact ⟨0, by omega, rfl, Lib.hid (Below.refl _ _)⟩
        case round =>
          obtain ⟨i, hi, rfl, HBi⟩ := hrel
          by_cases hlti : i < 2
          · have hi0 : (0 : Int) ≤ (i : Int) := by omega
            have hi1 : (i : Int) < 2 := by omega
            obtain ⟨nv, hnv, hq⟩ : ∃ nv : Int, I64 nv ∧ wr.cell? ⟨gn, i, none⟩ = some (.int .i64 nv) := by
              have hk := HKN.out.after HBi.out
              have : i = 0 ∨ i = 1 := by omega
              rcases this with rfl | rfl
              · exact ⟨bd, ⟨h0, h1⟩, hk.cell 0⟩
              · exact ⟨(mb : Int), ⟨by omega, by omega⟩, hk.cell 1⟩
            have hbw : Below W5.heap.size W5 wr := HB6.out.trans (HBi.out.mono hs6)
            have HA := Lib.hid (HEA.out nv hnv wr hbw)
            have hgnz : gn < wr.heap.size := (HKN.out.after HBi.out).lt
            obtain ⟨z0, z1, -, -, zz⟩ := (HK8.out.after HBi.out).c2
            go_wp2_with fail
            refine HA.out.mono ?_
            rintro e v1 ⟨V1, c1, rfl, own1, bel1⟩
            have hb1 : Below W6.heap.size W6 v1 := HBi.out.trans (bel1.mono HBi.out.size)
            have hbw1 : Below W5.heap.size W5 v1 := HB6.out.trans (hb1.mono hs6)
            have HAB := Lib.hid (HEB.out nv hnv v1 hbw1)
            have HOW1 := Lib.hid own1
            have HBV1 := Lib.hid hb1
            clear z0 z1 zz own1 bel1 hb1 hbw1 hbw hq
            obtain ⟨z0, z1, -, -, zz⟩ := (HK8.out.after HBV1.out).c2
            go_wp2_with fail
            refine HAB.out.mono ?_
            rintro e v2 ⟨V2, c2, rfl, own2, bel2⟩
            have hby := encB_bytes HRG.out (bd := nv)
            obtain ⟨_, _, hf, hml⟩ := own_form own2
            have HSB := Lib.hid (same_bytes V1 V2 _ c1 _ c2 (encB al' nv x) (encB al' nv x) v2 v2.heap.size ⟨Reads.of_own (own_keep HOW1.out bel2 (Nat.le_refl _)), hby⟩ ⟨Reads.of_own own2, hby⟩ hml hml)
            have HBV2 := Lib.hid (HBV1.out.trans (bel2.mono HBV1.out.size))
            clear own2 bel2 hf hby z0 z1 zz
            generalize encE al' nv x = ee at *
            generalize encB al' nv x = eb at *
            go_wp2_with fail
            refine HSB.out.mono ?_
            rintro e v3 ⟨rfl, k3, rfl⟩
            go_wp2
            go_roundw
            case rel => exact ⟨i + 1, by omega, by go_num, Lib.hid (below_drewN HBV2.out _)⟩
            case measure => simp [intOf]; omega
          · have hi2 : i = 2 := by omega
            subst hi2
            go_wp2
            go_roundw
            case rel => exact ⟨k + 1, by omega, by go_num, Lib.hid (HB6.out.trans (HBi.out.mono hs6))⟩
            case measure => simp [intOf]; omega
      · have hk3 : k = 3 := by omega
        subst hk3
        go_wp2
        go_ret
        exact ⟨rfl, HBW.out.trans (HBr.out.mono hs5)⟩
end Go.Proofs.YtdpcpiejbhjgoaaDoor.pm
