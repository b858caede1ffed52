/- Bytes of programs: sircode.describe. -/
import Derived.Test.YtinfeglhjmnlaaaDoorGYc
import Derived.Deep.CutBlock
import Derived.Deep.RegionWith
import Derived.Deep.DrawnRows
namespace Go.Proofs.YtinfeglhjmnlaaaDoor.pm
open Go.RowKit
set_option linter.unusedVariables false
set_option maxRecDepth 10000
attribute [local go_sem ↓] Go.wp_at_zero Go.wp_at_succ

theorem tz64_any (k : Nat) (hk : k < 25) (w : World) (hT : Dt w) :
    Calls Tryd.prog 83 #[.int .u64 ((2 ^ k : Nat) : Int)] w fun e w' => e = .returned (.int .i64 (k : Int)) ∧ w = w' := by
  obtain ⟨h0, h1, h2, h3, h4⟩ := tz_facts k hk
  have hc := hT.2 _ h3
  rw [h4] at hc
  exact tz_core k (dix k) _ (by omega) w h0 h1 h2 (by omega) hT.1 hc
theorem ptrs_at (g n i : Nat) (h : i < n) : (ptrs g n).toArray[i]? = some (.pointer (some ⟨g, i + 1, none⟩)) := by
  unfold ptrs
  simp [h]
theorem pz_pos {z : Int} (h : 0 ≤ z ∧ z ≤ 9223372036854775807) : pz z = put z.toNat := by unfold pz; rw [uOf_pos h]
theorem flat_one (z : Int) : [z].flatMap pz = pz z := by simp
theorem flat_ops {a b c : Int} (ha : 0 ≤ a ∧ a ≤ 2147483647) (hb : 0 ≤ b ∧ b ≤ 2147483647) (hc : 0 ≤ c ∧ c ≤ 2147483647) (k : Nat) : (([a, b, c].take k).map Int.toNat).flatMap put = ([a, b, c].take k).flatMap pz := by
  rw [List.flatMap_map]
  have : ∀ l : List Int, (∀ z ∈ l, 0 ≤ z ∧ z ≤ 2147483647) → (l.flatMap fun z => put z.toNat) = l.flatMap pz := by
    intro l hl
    induction l with
    | nil => rfl
    | cons z l ih =>
      simp only [List.flatMap_cons]
      have hz := hl z (by simp)
      rw [ih (fun y hy => hl y (by simp [hy])), pz_pos ⟨hz.1, by omega⟩]
  exact this _ (fun z hz => by rcases mem_take3 hz with rfl | rfl | rfl <;> assumption)
theorem encSl_pz {sz : Int} {k : Nat} (h : 0 ≤ sz ∧ sz ≤ 2147483647) (hk : k < 25) : [sz, (k : Int)].flatMap pz = encSl (sz, ((2 ^ k : Nat) : Int)) := by
  unfold encSl
  simp only [Int.toNat_natCast, Nat.log2_two_pow, List.flatMap_cons, List.flatMap_nil, List.append_nil]
  rw [pz_pos ⟨h.1, by omega⟩, pz_pos (z := (k : Int)) ⟨by omega, by omega⟩, Int.toNat_natCast]
def DesD (L : List Nat) (w : World) (e : Ending) (w' : World) : Prop :=
  ∃ V c, e = .returned (.slice V L.length c) ∧ OwM w' w.heap.size (.slice V L.length c) L.length (nb L) ∧ Below w.heap.size w w'
/-- a row of bytes under way -/
structure BI (base : Nat) (L : List Nat) (w : World) (o : Value) (W : World) : Prop where
  ow : OwM W base o L.length (nb L)
  nb_ : NoB w W
  bel : Below base w W
theorem BI.alloc {base : Nat} {L : List Nat} {w W : World} {o : Value} (h : BI base L w o W) (hb : base ≤ w.heap.size) (ob : Obj) : BI base L w o (W.alloc ob) := ⟨h.ow.alloc _, h.nb_.alloc _, h.bel.alloc (by have := h.bel.size; omega) _⟩
theorem BI.more {base : Nat} {L : List Nat} {w W W' : World} {o : Value} (h : BI base L w o W) (hb : Below W.heap.size W W') (hz : base ≤ w.heap.size) : BI base L w o W' := ⟨h.ow.after hb, h.nb_.trans (NoB.of_below hb), h.bel.trans (hb.mono (by have := h.bel.size; omega))⟩
/-- a call of put -/
theorem BI.put {base : Nat} {L : List Nat} {w W : World} {o : Value} (h : BI base L w o W) (hb : base ≤ w.heap.size) (zs : List Int) (hn : zs.length ≤ 3) (c ad : Nat) (hR : Blk W ad 3 (zs.map (fun z : Int => Value.int .i64 z)).toArray) (hl : L.length ≤ 140737488350000) :
    Calls Tryd.prog 62 #[o, .slice (some ⟨ad, 0, none⟩) zs.length c] W fun e w' => ∃ o', e = .returned o' ∧ BI base (L ++ zs.flatMap pz) w o' w' ∧ NoB W w' ∧ Apt o W o' w' := by
  refine (sput_any base _ c zs hn W o L h.ow ad rfl hR hl (by have := h.bel.size; omega)).mono ?_
  rintro e w' ⟨V, c', rfl, how, hnb, hbl, hap⟩
  exact ⟨_, rfl, ⟨how, h.nb_.trans hnb, h.bel.trans hbl⟩, hnb, hap⟩
set_option maxHeartbeats 8000000 in
theorem desc_any (As Ai : Option Addr) (cs ci lo hi : Nat) (f : Fn) (he : EFS f) (w : World) (hT : Dt w) (hs : Sx w lo hi As f.slots) (hx : Nx w lo hi Ai f.code) (hh : hi ≤ w.heap.size) :
    Calls Tryd.prog 63 #[.agg #[.int .i64 f.params, .slice As f.slots.length cs, .slice Ai f.code.length ci]] w (DesD (descS f) w) := by
  obtain ⟨i0, hi0, hz0, hz1, hz2⟩ := info_parts info_u8
  obtain ⟨prm, sl, code⟩ := f
  simp only at hs hx ⊢
  obtain ⟨W1, hW1⟩ : ∃ W1, W1 = w.alloc (.cells #[.int .i64 prm, .slice As sl.length cs, .slice Ai code.length ci] 97) := ⟨_, rfl⟩
  obtain ⟨g1, hg1⟩ : ∃ g, g = w.heap.size := ⟨_, rfl⟩
  have hB1 : Below w.heap.size w W1 := by rw [hW1]; exact (Below.refl _ _).alloc (Nat.le_refl _) _
  have HKF : Hid (Blk W1 g1 97 #[.int .i64 prm, .slice As sl.length cs, .slice Ai code.length ci]) := Lib.hid (by rw [hW1, hg1]; exact Blk.new _ _ _)
  have HB1 := Lib.hid hB1
  have HW1 := Lib.hid hW1
  have HG1 := Lib.hid hg1
  have HE := Lib.hid he
  have HT := Lib.hid hT
  have HS1 := Lib.hid (hs.keep (Kp.of_below hB1 hh))
  have HX1 := Lib.hid (hx.keep (Kp.of_below hB1 hh))
  have hz1w : w.heap.size < W1.heap.size := by rw [hW1]; simp
  have hprm := he.prm
  have hns := he.ns
  have hnc := he.nc
  simp only at hprm hns hnc
  obtain ⟨ns, hnse⟩ : ∃ n, n = sl.length := ⟨_, rfl⟩
  obtain ⟨nc, hnce⟩ : ∃ n, n = code.length := ⟨_, rfl⟩
  rw [← hnse] at HKF hns
  rw [← hnce] at HKF hnc
  rw [← hnse, ← hnce] at HW1
  rw [← hnse, ← hnce]
  have HNS := Lib.hid hnse
  have HNC := Lib.hid hnce
  have hnsi : (ns : Int) ≤ 9223372036854775807 := by omega
  have hnci : (nc : Int) ≤ 9223372036854775807 := by omega
  have HBI0 : Hid (BI w.heap.size [] W1 (.slice none 0 0) W1) := Lib.hid ⟨.inl (World.ownsRow_nil _ _ _ _), NoB.refl _, Below.refl _ _⟩
  have HL0 : Hid ([prm, (ns : Int)].flatMap pz = put prm.toNat ++ put sl.length) := Lib.hid (by
    simp only [List.flatMap_cons, List.flatMap_nil, List.append_nil]
    rw [pz_pos ⟨hprm.1, by omega⟩, pz_pos (z := (ns : Int)) ⟨by omega, by omega⟩, Int.toNat_natCast, hnse])
  clear hW1 hB1 hg1 he hT hs hx hnse hnce hprm
  go_enter Tryd.func63, Tryd.ntmps63
  go_upto_region 1 with (fail)
  rw [← HW1.out, ← HG1.out]
  obtain ⟨c0, c1, c2, -, -, -, cz⟩ := HKF.out.c3
  go_upto_region 2 with (go_at_call 62; refine ((HBI0.out.alloc (Nat.le_of_lt hz1w) _).put (Nat.le_of_lt hz1w) [prm, (ns : Int)] (by simp) _ _ (Blk.new _ _ _) (by decide)).mono ?_; rintro e w2 ⟨o2, rfl, hbi2, -⟩)
  have HBI2 := Lib.hid hbi2
  rw [List.nil_append, HL0.out] at HBI2
  obtain ⟨L0, hL0⟩ : ∃ l, l = put prm.toNat ++ put sl.length := ⟨_, rfl⟩
  rw [← hL0] at HBI2
  have hl0 : L0.length ≤ 20 := by
    have h1 := (put_len prm.toNat).2
    have h2 := (put_len sl.length).2
    rw [hL0, List.length_append]
    omega
  have HL0E := Lib.hid hL0
  have hwl : w.heap.size ≤ W1.heap.size := Nat.le_of_lt hz1w
  clear hbi2 hL0 HL0 HBI0 c0 c1 c2 cz
  obtain ⟨c0, c1, c2, -, -, -, cz⟩ := (HBI2.out.nb_.blk HKF.out (by decide)).c3
  go_upto_region 3 with (fail)
  clear c0 c1 c2 cz
  go_loopw [3, 22] (fun s3 x wr => ∃ (k : Nat) (L : List Nat), k ≤ ns ∧ x = .int .i64 k ∧ Hid (L = L0 ++ (sl.take k).flatMap encSl) ∧ Hid (BI w.heap.size L W1 s3 wr)) (fun s3 x _ => ns - (intOf x).toNat)
  case atStart => exact ⟨0, L0, by omega, rfl, Lib.hid (by simp), HBI2⟩
  case round =>
    obtain ⟨k, L, hk, rfl, HL, HBI⟩ := hrel
    clear HBI2
    by_cases hlt : k < ns
    · have hk0 : (0 : Int) ≤ (k : Int) := by omega
      have hk1 : (k : Int) < (ns : Int) := by omega
      have hks : k < sl.length := by rw [← HNS.out]; exact hlt
      have HTK := Lib.hid (flat_take encSl sl hks (0, 0))
      have hLl : L.length ≤ 140737488340000 := by
        have h1 := congrArg List.length HL.out
        have h2 := flat_le (g := encSl) (k := 20) (sl.take k) (fun s _ => encSl_len s)
        simp only [List.length_append, List.length_take] at h1 h2
        have h3 : min k sl.length ≤ k := Nat.min_le_left _ _
        omega
      obtain ⟨a1, hA, hab, y0, y1⟩ := (HS1.out.keep (fun b _ h2 => HBI.out.bel.block b (by omega))).whole hks
      have hes := HE.out.sl (sl.getD k (0, 0)) (getD_mem' hks)
      obtain ⟨s, hs⟩ : ∃ s, s = sl.getD k (0, 0) := ⟨_, rfl⟩
      rw [← hs] at y0 y1 hes HTK
      obtain ⟨sz, al⟩ := s
      obtain ⟨hsz, kk, hkk, hal⟩ := hes
      simp only at hsz hal y0 y1
      have hw1 : IntKind.u64.wrap al = al := by
        have hp : 2 ^ kk ≤ 2 ^ 24 := Nat.pow_le_pow_right (by decide) hkk
        rw [hal]
        generalize 2 ^ kk = P at hp
        exact IntWalk.u64_in _ (by omega)
      have HTZ : Hid (∀ W, Dt W → Calls Tryd.prog 83 #[.int .u64 al] W fun e w' => e = .returned (.int .i64 (kk : Int)) ∧ W = w') := Lib.hid (fun W h => by
        rw [hal]
        exact tz64_any kk (by omega) W h)
      have HSL : Hid ([sz, (kk : Int)].flatMap pz = encSl (sz, al)) := Lib.hid (by rw [hal]; exact encSl_pz hsz (by omega))
      have hwr := HBI.out.bel.size
      have haw : a1.block < wr.heap.size := by omega
      rw [hA]
      clear hs hal hkk hsz hA hab
      generalize wr = wo at *
      have HPU := Lib.hid (fun (W : World) (c ad : Nat) (h : BI w.heap.size L W1 u3 W) (hR : Blk W ad 3 #[.int .i64 sz, .int .i64 (kk : Int)]) => h.put hwl [sz, (kk : Int)] (by simp) c ad hR (by omega))
      go_upto_block 1 with (fail)
      go_cut [3, 5] (fun s _ wx => BI w.heap.size (L ++ [sz, (kk : Int)].flatMap pz) W1 s wx)
      case first =>
        go_upto_region 5 with (fail)
        obtain ⟨W4, hW4⟩ : ∃ W4, W4 = wo.alloc (.cells #[.int .i64 sz, .int .i64 al] 103) := ⟨_, rfl⟩
        obtain ⟨g5, hg5⟩ : ∃ g, g = wo.heap.size := ⟨_, rfl⟩
        have HK5 : Hid (Blk W4 g5 103 #[.int .i64 sz, .int .i64 al]) := Lib.hid (by rw [hW4, hg5]; exact Blk.new _ _ _)
        have HBI4 : Hid (BI w.heap.size L W1 u3 W4) := Lib.hid (by rw [hW4]; exact HBI.out.alloc hwl _)
        rw [← hW4, ← hg5]
        have HT4 : Hid (Dt W4) := Lib.hid (HT.out.below (HB1.out.trans HBI4.out.bel) HT.out.1)
        clear hW4 hg5 HBI y0 y1 haw
        obtain ⟨p0, p1, -, -, pz'⟩ := HK5.out.c2
        have hbd : BI w.heap.size L W1 u3 W4.drew := ⟨HBI4.out.ow.drew, ⟨HBI4.out.nb_.1, HBI4.out.nb_.2⟩, Below.drew HBI4.out.bel⟩
        go_region_with (first
          | (go_at_call 83; refine (HTZ.out _ ?_).mono ?_; (exact HT4.out); rintro e v1 ⟨rfl, rfl⟩)
          | (go_at_call 62; refine (HPU.out _ _ _ (hbd.alloc hwl _) (Blk.new _ _ _)).mono ?_; rintro e w6 ⟨o6, rfl, hbi6, -⟩))
        all_goals (go_wp2_with fail; go_meet; exact hbi6)
      case rest =>
        have HBI6 := Lib.hid hcut
        clear hcut HPU HTZ
        go_wp2
        go_roundw
        case rel =>
          refine ⟨k + 1, _, by omega, by go_num, Lib.hid ?_, HBI6⟩
          rw [HTK.out, HL.out, HSL.out, List.append_assoc]
        case measure => simp [intOf]; omega
    · have hkn : k = ns := by omega
      have HKN := Lib.hid hkn
      subst hkn
      have hLl : L.length ≤ 30000 := by
        have h1 := congrArg List.length HL.out
        have h2 := flat_le (g := encSl) (k := 20) (sl.take k) (fun s _ => encSl_len s)
        simp only [List.length_append, List.length_take] at h1 h2
        have h3 : min k sl.length ≤ k := Nat.min_le_left _ _
        omega
      have HLS : Hid (L = L0 ++ sl.flatMap encSl) := Lib.hid (by rw [HL.out, HKN.out, HNS.out, List.take_length])
      have hpc : [(nc : Int)].flatMap pz = put code.length := by rw [flat_one, pz_pos ⟨by omega, by omega⟩, Int.toNat_natCast, HNC.out]
      have HPC := Lib.hid hpc
      clear hpc hlt hk
      generalize wr = wo at *
      obtain ⟨c0, c1, c2, -, -, -, cz⟩ := (HBI.out.nb_.blk HKF.out (by decide)).c3
      go_upto_region 8 with (go_at_call 62; refine ((HBI.out.alloc hwl _).put hwl [(nc : Int)] (by simp) _ _ (Blk.new _ _ _) (by omega)).mono ?_; rintro e w7 ⟨o7, rfl, hbi7, -⟩)
      rw [HPC.out] at hbi7
      obtain ⟨L7, hL7⟩ : ∃ l, l = L ++ put code.length := ⟨_, rfl⟩
      rw [← hL7] at hbi7
      have hl7 : L7.length ≤ 30010 := by
        have h1 := (put_len code.length).2
        rw [hL7, List.length_append]
        omega
      have HL7 := Lib.hid hL7
      have HBI7 := Lib.hid hbi7
      clear hbi7 hL7 HBI c0 c1 c2 cz
      obtain ⟨c0, c1, c2, -, -, -, cz⟩ := (HBI7.out.nb_.blk HKF.out (by decide)).c3
      go_upto_region 9 with (fail)
      clear c0 c1 c2 cz
      go_loopw [3, 45] (fun s3 x wr => ∃ (j : Nat) (L : List Nat), j ≤ nc ∧ x = .int .i64 j ∧ Hid (L = L7 ++ (code.take j).flatMap encIS) ∧ Hid (BI w.heap.size L W1 s3 wr)) (fun s3 x _ => nc - (intOf x).toNat)
      case atStart => exact ⟨0, L7, by omega, rfl, Lib.hid (by simp), HBI7⟩
      case round =>
        obtain ⟨j, L9, hj, rfl, HL9, HBI9⟩ := hrel
        clear HBI7
        by_cases hlj : j < nc
        · have hj0 : (0 : Int) ≤ (j : Int) := by omega
          have hj1 : (j : Int) < (nc : Int) := by omega
          have hjc : j < code.length := by rw [← HNC.out]; exact hlj
          have HTI := Lib.hid (flat_take encIS code hjc Ins.z)
          have hl9 : L9.length ≤ 100000 := by
            have h1 := congrArg List.length HL9.out
            have h2 := flat_le (g := encIS) (k := 41) (code.take j) (fun s _ => (encIS_len s).2)
            simp only [List.length_append, List.length_take] at h1 h2
            have h3 : min j code.length ≤ j := Nat.min_le_left _ _
            omega
          obtain ⟨a1, hA, hab, y0, y1, y2, y3, y4⟩ := (HX1.out.keep (fun b _ h2 => HBI9.out.bel.block b (by omega))).whole hjc
          have HEI := Lib.hid (HE.out.ins (code.getD j Ins.z) (getD_mem' hjc))
          obtain ⟨x, hx⟩ : ∃ x, x = code.getD j Ins.z := ⟨_, rfl⟩
          rw [← hx] at y0 y1 y2 y3 y4 HEI HTI
          obtain ⟨op, xa, xb, xc, im⟩ := x
          simp only at y0 y1 y2 y3 y4
          have hwr := HBI9.out.bel.size
          have haw : a1.block < wr.heap.size := by omega
          rw [hA]
          clear hx hA hab hjc
          generalize wr = wq at *
          go_upto_region 11 with (fail)
          obtain ⟨W9, hW9⟩ : ∃ W9, W9 = wq.alloc (.cells #[.int .i64 op, .int .i64 xa, .int .i64 xb, .int .i64 xc, .int .u64 im] 58) := ⟨_, rfl⟩
          obtain ⟨gx, hgx⟩ : ∃ g, g = wq.heap.size := ⟨_, rfl⟩
          have HKX : Hid (Blk W9 gx 58 #[.int .i64 op, .int .i64 xa, .int .i64 xb, .int .i64 xc, .int .u64 im]) := Lib.hid (by rw [hW9, hgx]; exact Blk.new _ _ _)
          have HBI10 : Hid (BI w.heap.size L9 W1 u3 W9) := Lib.hid (by rw [hW9]; exact HBI9.out.alloc hwl _)
          rw [← hW9, ← hgx]
          have hw9 : W1.heap.size ≤ W9.heap.size := HBI10.out.bel.size
          clear hW9 hgx HBI9 y0 y1 y2 y3 y4 hwr haw
          have hop := HEI.out.op
          have hea := HEI.out.a
          have heb := HEI.out.b
          have hec := HEI.out.c
          have hei := HEI.out.im
          simp only at hop hea heb hec hei
          obtain ⟨on, rfl⟩ := Int.eq_ofNat_of_zero_le hop.1
          have hu8 : IntKind.u8.wrap (on : Int) = (on : Int) := IntWalk.u8_in _ (by omega)
          have HOPS := Lib.hid (fun (W : World) (h : Blk W gx 58 #[.int .i64 (on : Int), .int .i64 xa, .int .i64 xb, .int .i64 xc, .int .u64 im]) => sops_any gx (on : Int) W (h.cell 0) h.lt)
          have HOV := Lib.hid (flat_ops hea heb hec)
          have HIM := Lib.hid hei
          clear hop hea heb hec hei
          obtain ⟨x0, x1, x2, x3, x4, -, -, -, -, -, xz⟩ := HKX.out.c5
          go_upto_region 12 with (at_builtin; refine wpList_append_m _ rfl (.tmp 49) (.tmp 53) _ rfl w.heap.size i0 Tryd.underlying22 hi0 hz0 hz1 hz2 _ L9.length (nb L9) rfl (HBI10.out.ow.alloc _) (W9.heap.size + 1) (some ⟨W9.heap.size, 0, none⟩) 1 1 (nb [on]) (Nat.le_refl _) rfl (reads_one W9 _ _) (nb_one _) (by unfold maxLen; omega) (by omega) (by simp; omega) ?_; intro v1 w2 hown1 hg1)
          obtain ⟨L2, hL2⟩ : ∃ l, l = L9 ++ [on] := ⟨_, rfl⟩
          have hL2l : L9.length + 1 = L2.length := by rw [hL2]; simp
          have hnob : NoB W9 w2 := ((NoB.refl W9).alloc _).app (HBI10.out.ow.alloc _) hg1
          have HBI11 : Hid (BI w.heap.size L2 W1 v1 w2) := Lib.hid ⟨.inl (by rw [hL2, nb_append, ← hL2]; rw [← hL2l]; simpa using hown1), HBI10.out.nb_.trans hnob, (HBI10.out.bel.alloc (by omega) _).trans ((HBI10.out.ow.alloc _).below hg1 (by simp; omega))⟩
          have HKX11 := Lib.hid (hnob.blk HKX.out (by decide))
          have HL2 := Lib.hid hL2
          have hl2 : L2.length ≤ 100001 := by omega
          clear hown1 hg1 hnob HBI10 HKX x0 x1 x2 x3 x4 xz hL2 hL2l
          obtain ⟨nn, hnn⟩ : ∃ n, n = opS (on : Int) := ⟨_, rfl⟩
          obtain ⟨ib, hib⟩ : ∃ n, n = immB (on : Int) := ⟨_, rfl⟩
          have HNN := Lib.hid hnn
          have HIB := Lib.hid hib
          have hnn3 : nn ≤ 3 := by rw [hnn]; exact opS_le _
          rw [← hnn, ← hib] at HOPS
          clear hnn hib
          go_upto_region 13 with (go_at_call 94; refine (HOPS.out _ HKX11.out).mono ?_; rintro e w4 ⟨Ao, co, rfl, hops, bel4⟩)
          have HBI12 := Lib.hid (HBI11.out.more bel4 hwl)
          have HKX12 := Lib.hid (HKX11.out.after bel4)
          have HOPS4 := Lib.hid hops
          have hnni : (nn : Int) ≤ 3 := by omega
          clear HBI11 HKX11 hops bel4 HOPS
          go_upto_region 14 with (fail)
          go_loopw [3, 61] (fun s3 x wr => ∃ (i : Nat) (L : List Nat), i ≤ nn ∧ x = .int .i64 i ∧ Hid (L = L2 ++ ([xa, xb, xc].take i).flatMap pz) ∧ Hid (BI w.heap.size L W1 s3 wr) ∧ Hid (NoB w4 wr)) (fun s3 x _ => nn - (intOf x).toNat)
          case atStart => exact ⟨0, L2, by omega, rfl, Lib.hid (by simp), HBI12, Lib.hid (NoB.refl _)⟩
          case round =>
            obtain ⟨i, L3, hi, rfl, HL3, HBI13, HN13⟩ := hrel
            have HL3L : L3.length ≤ 100001 + 10 * i := by
              have h1 := congrArg List.length HL3.out
              have h2 := flat_pz_len ([xa, xb, xc].take i)
              simp only [List.length_append, List.length_take] at h1 h2
              have h4 : min i [xa, xb, xc].length ≤ i := Nat.min_le_left _ _
              omega
            by_cases hlti : i < nn
            · have hi0 : (0 : Int) ≤ (i : Int) := by omega
              have hi1 : (i : Int) < (nn : Int) := by omega
              have hi3 : i < [xa, xb, xc].length := by simp; omega
              obtain ⟨ap, rfl, hKP, hap⟩ := HOPS4.out.resolve_left (by omega)
              have hc1 : wr.cell? ⟨ap, i, none⟩ = some (.pointer (some ⟨gx, i + 1, none⟩)) := by
                rw [(HN13.out.blk hKP (by decide)).cell i, ptrs_at gx nn i hlti]
              obtain ⟨v, hv⟩ : ∃ v, v = [xa, xb, xc].getD i 0 := ⟨_, rfl⟩
              have hc2 : wr.cell? ⟨gx, i + 1, none⟩ = some (.int .i64 v) := by
                rw [(HN13.out.blk HKX12.out (by decide)).cell (i + 1), hv]
                have : i = 0 ∨ i = 1 ∨ i = 2 := by omega
                rcases this with rfl | rfl | rfl <;> rfl
              have HTV := Lib.hid (hv ▸ flat_take pz [xa, xb, xc] hi3 0)
              have hgxz : gx < wr.heap.size := (HN13.out.blk HKX12.out (by decide)).lt
              have hapz : ap < wr.heap.size := (HN13.out.blk hKP (by decide)).lt
              clear hv hKP hi3 hap
              go_wp2_with (go_at_call 62; refine ((HBI13.out.alloc hwl _).put hwl [v] (by simp) _ _ (Blk.new _ _ _) (by omega)).mono ?_; rintro e w14 ⟨o14, rfl, hbi14, nob14, -⟩)
              go_roundw
              case rel =>
                refine ⟨i + 1, _, by omega, by go_num, Lib.hid ?_, Lib.hid hbi14, Lib.hid ((HN13.out.alloc _).trans nob14)⟩
                rw [HTV.out, HL3.out, flat_one, List.append_assoc]
              case measure => simp [intOf]; omega
            · have hin' : i = nn := by omega
              subst hin'
              have HEQ : Hid (L9 ++ encIS ⟨(on : Int), xa, xb, xc, im⟩ = L3 ++ (if ib then put im.toNat else [])) := Lib.hid (by
                unfold encIS
                simp only [Int.toNat_natCast]
                rw [← HNN.out, ← HIB.out, HOV.out, HL3.out, HL2.out]
                simp)
              obtain ⟨q0, q1, q2, q3, q4, -, -, -, -, -, qz⟩ := (HN13.out.blk HKX12.out (by decide)).c5
              rcases ib with _ | _
              · go_wp2
                go_roundw
                case rel =>
                  refine ⟨j + 1, L3, by omega, by go_num, Lib.hid ?_, HBI13⟩
                  have h := HEQ.out
                  simp only [Bool.false_eq_true, if_false, List.append_nil] at h
                  rw [← h, HL9.out, HTI.out, List.append_assoc]
                case measure => simp [intOf]; omega
              · obtain ⟨iw, hiw⟩ : ∃ z, z = IntKind.i64.wrap im := ⟨_, rfl⟩
                have HPI : Hid (pz iw = put im.toNat) := Lib.hid (by unfold pz; rw [hiw, uOf_back _ HIM.out])
                have hiw' : IntKind.i64.wrap im = iw := hiw.symm
                clear hiw
                go_wp2_with (go_at_call 62; refine ((HBI13.out.alloc hwl _).put hwl [iw] (by simp) _ _ (Blk.new _ _ _) (by omega)).mono ?_; rintro e w14 ⟨o14, rfl, hbi14, nob14, -⟩)
                go_roundw
                case rel =>
                  refine ⟨j + 1, _, by omega, by go_num, Lib.hid ?_, Lib.hid hbi14⟩
                  have h := HEQ.out
                  simp only [if_true] at h
                  rw [flat_one, HPI.out, ← h, HL9.out, HTI.out, List.append_assoc]
                case measure => simp [intOf]; omega
        · have hjn : j = nc := by omega
          have HJN := Lib.hid hjn
          subst hjn
          have HF : Hid (descS ⟨prm, sl, code⟩ = L9) := Lib.hid (by
            unfold descS
            simp only
            rw [HL9.out, HJN.out, HNC.out, List.take_length, HL7.out, HLS.out, HL0E.out]
            simp only [List.append_assoc])
          obtain ⟨V, cc, rfl, -⟩ := HBI9.out.ow.form
          go_wp2
          go_ret
          rw [HF.out]
          exact ⟨V, cc, rfl, HBI9.out.ow, HB1.out.trans HBI9.out.bel⟩
end Go.Proofs.YtinfeglhjmnlaaaDoor.pm
