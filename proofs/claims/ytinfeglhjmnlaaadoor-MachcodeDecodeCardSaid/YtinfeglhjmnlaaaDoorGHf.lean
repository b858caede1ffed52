/- Bytes of targets: machcode.Encode, a right target. -/
import Derived.Test.YtinfeglhjmnlaaaDoorGHs
import Derived.Test.YtinfeglhjmnlaaaDoorGRg
namespace Go.Proofs.YtinfeglhjmnlaaaDoor.pm
open Go.RowKit
set_option linter.unusedVariables false
set_option maxRecDepth 10000

/-- the numbers ahead of an instruction's immediate -/
def opsV (x : Ins) : List Nat := [x.a.toNat, x.b.toNat, x.c.toNat].take (opN x.op)
theorem encI_eq (x : Ins) (h : opN x.op ≤ 3) : encI x = x.op.toNat :: ((opsV x).flatMap put ++ (if immB x.op then put x.imm.toNat else [])) := by
  unfold encI opsV
  generalize opN x.op = k at h ⊢
  have : k = 0 ∨ k = 1 ∨ k = 2 ∨ k = 3 := by omega
  rcases this with rfl | rfl | rfl | rfl <;> simp
attribute [local go_sem ↓] Go.wp_at_zero Go.wp_at_succ
theorem below_kp {B lo hi : Nat} {w w' : World} (h : Below B w w') (hh : hi ≤ B) : Kp lo hi w w' := fun b _ hb => h.block b (by omega)
theorem PtW.of_below {g base : Nat} {w w' : World} (h : Below w.heap.size w w') (hb : base ≤ w.heap.size) : PtW g base w w' := ⟨h.size, fun b hb _ _ => h.block b hb, h.mono hb⟩
theorem ptrs_get (g n i : Nat) (h : i < n) : (ptrs g n).toArray[i]? = some (.pointer (some ⟨g, i + 1, none⟩)) := by
  simp [ptrs, h]
theorem opN_le (o : Int) : opN o ≤ 3 := by
  unfold opN
  repeat' split
  all_goals omega
section
variable {al bd : Int} {t : List Fr} {A : Option Addr} {ct lo hi : Nat}
set_option maxHeartbeats 4000000 in
theorem encode_ok (h64 : RgT al t) (ht : tgE al t = 0) (hbd : 0 ≤ bd ∧ bd ≤ 2147483647) (w : World) (hT : Dt w) (hg : Gx w lo hi A t) (hh : hi ≤ w.heap.size) (hm : t.length ≤ maxLen) :
    Calls Tryd.prog 20 #[.agg #[.int .i64 al, .slice A t.length ct], .int .i64 bd] w (EncD al bd t w) := by
  have het := et_of (h64.rt ht)
  obtain ⟨W1, hW1⟩ : ∃ W1, W1 = w.alloc (.cells #[.int .i64 al, .slice A t.length ct] 29) := ⟨_, rfl⟩
  have hB1 : Below w.heap.size w W1 := by rw [hW1]; exact (Below.refl _ _).alloc (Nat.le_refl _) _
  have HKT : Hid (Blk W1 w.heap.size 29 #[.int .i64 al, .slice A t.length ct]) := Lib.hid (by rw [hW1]; exact Blk.new _ _ _)
  have HC := Lib.hid (ht ▸ mcheck_any A ct h64.1 W1 lo hi (hg.keep (Kp.of_below hB1 hh)) (by have := hB1.size; omega) hm)
  have HB1 := Lib.hid hB1
  have HW1 := Lib.hid hW1
  obtain ⟨c0, c1, -, -, cz⟩ := HKT.out.c2
  obtain ⟨i0, hi0, hz0, hz1, hz2⟩ := info_parts info_u8
  have HET := Lib.hid het
  obtain ⟨kk, hkk, hal⟩ := het.pw
  have hlog : Nat.log2 al.toNat = kk := by rw [hal, Int.toNat_natCast, Nat.log2_two_pow]
  have HTZ := Lib.hid (fun W (h : Dt W) => hal ▸ tz_any kk (by omega) W h)
  have HG := Lib.hid hg
  have HT := Lib.hid hT
  have HLOG := Lib.hid hlog
  have hcap := het.len
  obtain ⟨nf, hnf⟩ : ∃ n, n = t.length := ⟨_, rfl⟩
  have HNF := Lib.hid hnf
  have HBD := Lib.hid hbd
  have HTE := Lib.hid ht
  have hb1 : (2147483647 < bd) = False := by simp; omega
  have hb0 : (bd < 0) = False := by simp; omega
  have hal1 := het.pos
  have HAL := Lib.hid hal
  clear hg hW1 hB1 h64 ht hT hbd het hal hlog
  rw [← hnf] at HC HKT HW1 c1 hcap ⊢
  clear hnf
  go_enter Tryd.func20, Tryd.ntmps20
  go_upto_region 1 with (fail)
  rw [← HW1.out]
  go_wp2_with fail
  refine HC.out.mono ?_
  rintro e w2 ⟨rfl, bel⟩
  have HB2 := Lib.hid (HB1.out.trans (bel.mono HB1.out.size))
  have HKT2 := Lib.hid (HKT.out.after bel)
  clear bel HC HKT c0 c1 cz
  have hcv := Lib.run_convert_bytes_const (P := Tryd.prog) w2 22 5 #[.int .u8 70, .int .u8 82, .int .u8 77, .int .u8 49] 4 4 Tryd.underlying22 Tryd.underlying5
  go_upto_region 8 with (fail)
  obtain ⟨W5, hW5⟩ : ∃ W5, W5 = (w2.alloc (.cells #[.int .u8 70, .int .u8 82, .int .u8 77, .int .u8 49] 5 (4, 5))).alloc (.cells #[.slice (some ⟨w2.heap.size, 0, none⟩) 4 4] 22) := ⟨_, rfl⟩
  rw [← hW5]
  have hbl : Below w2.heap.size w2 W5 := by rw [hW5]; exact ((Below.refl _ _).alloc (Nat.le_refl _) _).alloc (by simp) _
  have HB5 := Lib.hid (HB2.out.trans (hbl.mono HB2.out.size))
  have HKT5 := Lib.hid (HKT2.out.after hbl)
  obtain ⟨gb, hgb⟩ : ∃ g, g = w2.heap.size + 1 := ⟨_, rfl⟩
  have HKB : Hid (Blk W5 gb 22 #[.slice (some ⟨w2.heap.size, 0, none⟩) 4 4]) := Lib.hid (by rw [hW5, hgb]; exact Blk.newAt (by simp))
  have HOW : Hid (OwM W5 w.heap.size (.slice (some ⟨w2.heap.size, 0, none⟩) 4 4) mgT.length (nb mgT)) := Lib.hid (.inr ⟨w2.heap.size, #[.int .u8 70, .int .u8 82, .int .u8 77, .int .u8 49], (4, 5), rfl, HB2.out.size, by rw [hW5, Below.heap_alloc _ _ _ (by simp), heap_alloc_new], rfl, rfl, by decide⟩)
  have hgbw : w.heap.size < gb := by have := HB2.out.size; omega
  have hgb5 : gb < W5.heap.size := HKB.out.lt
  have HT5 : Hid (Dt W5) := Lib.hid (HT.out.below HB5.out HT.out.1)
  have hz5 : w.heap.size < W5.heap.size := by have := HKT5.out.lt; omega
  rw [← hgb]
  generalize (Value.slice (some ⟨w2.heap.size, 0, none⟩) 4 4) = o5 at HKB HOW ⊢
  clear hcv hW5 hbl hgb HKT2 HB2 hb0 hb1
  obtain ⟨bn, hbn⟩ : ∃ n : Nat, (n : Int) = bd := ⟨bd.toNat, by have := HBD.out; omega⟩
  have hbn31 : bn ≤ 2147483647 := by have := HBD.out; omega
  have hw1 : IntKind.u64.wrap (kk : Int) = (kk : Int) := IntWalk.u64_in _ (by omega)
  have hw2 : IntKind.u64.wrap bd = (bn : Int) := by rw [← hbn]; exact IntWalk.u64_in _ (by omega)
  have hw3 : IntKind.u64.wrap (nf : Int) = (nf : Int) := IntWalk.u64_in _ (by omega)
  have hw4 : IntKind.u64.wrap al = al := by
    have hp : 2 ^ kk ≤ 2 ^ 24 := Nat.pow_le_pow_right (by decide) hkk
    rw [HAL.out]
    generalize 2 ^ kk = P at hp
    exact IntWalk.u64_in _ (by omega)
  have HBN := Lib.hid hbn
  obtain ⟨c0, c1, -, -, cz⟩ := HKT5.out.c2
  have HPUT := Lib.hid (fun (W : World) (c : Nat) (ad : Nat) (hb : Blk W gb 22 #[o5]) (ho : OwM W w.heap.size o5 mgT.length (nb mgT)) (hr : Blk W ad 56 #[.int .u64 (kk : Int), .int .u64 (bn : Int), .int .u64 (nf : Int)]) (hz : w.heap.size ≤ W.heap.size) => (show Calls Tryd.prog 54 #[.slice (some ⟨ad, 0, none⟩) 3 c, .pointer (some ⟨gb, 0, none⟩)] W (PutD gb w.heap.size (mgT ++ [kk, bn, nf].flatMap put) W) from
    putc_any gb w.heap.size _ c [kk, bn, nf] (by intro v hv; simp only [List.mem_cons, List.not_mem_nil, or_false] at hv; rcases hv with rfl | rfl | rfl <;> omega) (Nat.le_refl 3) W o5 mgT hb ho ad rfl hr (by decide) (by omega) hz))
  clear hkk hbn hbn31 hcap
  go_cut [44] (fun s wx => ∃ o, Blk wx gb 22 #[o] ∧ OwM wx w.heap.size o (mgT ++ [kk, bn, nf].flatMap put).length (nb (mgT ++ [kk, bn, nf].flatMap put)) ∧ PtW gb w.heap.size W5 wx)
  case first =>
    go_region_with (first
      | (go_at_call 46; refine (HTZ.out _ ?_).mono ?_; (exact HT5.out); rintro e v1 ⟨rfl, rfl⟩)
      | (go_at_call 54; refine (HPUT.out _ _ _ (HKB.out.drew.alloc _) (HOW.out.drew.alloc _) (Blk.new _ _ _) (by simp; omega)).mono ?_; rintro e w6 ⟨rfl, o6, kb6, ow6, pt6⟩))
    all_goals (go_wp2_with fail; go_meet; exact ⟨o6, kb6, ow6, PtW.trans ((PtW.refl _ _ W5).drew.alloc (Nat.le_of_lt hz5) _) pt6⟩)
  case rest =>
    obtain ⟨o6, kb6, ow6, pt6⟩ := hcut
    have HL0 : Hid (headT al bd nf = mgT ++ [kk, bn, nf].flatMap put) := Lib.hid (by
      unfold headT
      rw [HLOG.out, ← HBN.out, Int.toNat_natCast]
      simp)
    have hL0 : (headT al bd nf).length ≤ 34 := (headT_len al bd nf).2
    rw [← HL0.out] at ow6
    obtain ⟨L0, hL0e⟩ : ∃ l, l = headT al bd nf := ⟨_, rfl⟩
    rw [← hL0e] at ow6 hL0
    have HL0E : Hid (L0 = headT al bd t.length) := Lib.hid (by rw [← HNF.out]; exact hL0e)
    clear hL0e
    have HB6 := Lib.hid kb6
    have HO6 := Lib.hid ow6
    have HP6 := Lib.hid pt6
    have hng : w.heap.size ≠ gb := by omega
    have hnf1 : (nf : Int) ≤ 80 := by have := HET.out.len; rw [← HNF.out] at this; omega
    clear HPUT HTZ HT5 HKB HOW kb6 ow6 pt6 hw1 hw2 hw3 HL0 c0 c1 cz HLOG HBN HT
    obtain ⟨c0, c1, -, -, cz⟩ := (HP6.out.blk HKT5.out hng (by decide)).c2
    go_upto_region 10 with (fail)
    clear c0 c1 cz
    go_loopw [48] (fun x wr => ∃ (k : Nat) (o : Value) (L : List Nat), k ≤ nf ∧ x = .int .i64 k ∧ Hid (L = L0 ++ (t.take k).flatMap (encF al)) ∧ Hid (Blk wr gb 22 #[o]) ∧ Hid (OwM wr w.heap.size o L.length (nb L)) ∧ Hid (PtW gb w.heap.size W5 wr)) (fun x _ => nf - (intOf x).toNat)
    case atStart => exact ⟨0, o6, L0, by omega, rfl, Lib.hid (by simp), HB6, HO6, HP6⟩
    case round =>
      obtain ⟨k, o, L, hk, rfl, HL, HB, HO, HP⟩ := hrel
      clear HB6 HO6 HP6
      by_cases hlt : k < nf
      · have hk0 : (0 : Int) ≤ (k : Int) := by omega
        have hk1 : (k : Int) < (nf : Int) := by omega
        have hkt : k < t.length := by rw [← HNF.out]; exact hlt
        have HBW := Lib.hid (HB5.out.trans HP.out.bel)
        obtain ⟨ad, Ai, ci, rfl, hb, f0, f1, f2, -, -, nx, hn1, hn2⟩ := (HG.out.keep (Kp.of_below HBW.out hh)).whole hkt
        obtain ⟨f, hff⟩ : ∃ f, f = t.getD k Fr.z := ⟨_, rfl⟩
        rw [← hff] at f0 f1 f2 nx hn1 hn2
        have HEF : Hid (EF al f) := Lib.hid (by rw [hff]; exact HET.out.fr _ (getD_mem' hkt))
        have HTK := Lib.hid (hff ▸ flat_take (encF al) t hkt Fr.z)
        obtain ⟨prm, sz, code⟩ := f
        obtain ⟨nc, hnc⟩ : ∃ nc, nc = code.length := ⟨_, rfl⟩
        simp only at f0 f1 f2 nx hn1 hn2
        rw [← hnc] at f2 hn1 hn2
        have HNC := Lib.hid hnc
        have HNX := Lib.hid nx
        have hwz := HP.out.size
        obtain ⟨d0, d1, -, -, dz⟩ := (HP.out.blk HKT5.out hng (by decide)).c2
        clear hff hnc nx hb
        generalize wr = wo at *
        go_upto_region 12 with (fail)
        obtain ⟨W7, hW7⟩ : ∃ W7, W7 = wo.alloc (.cells #[.int .i64 prm, .int .i64 sz, .slice Ai nc ci] 61) := ⟨_, rfl⟩
        obtain ⟨gf, hgf⟩ : ∃ g, g = wo.heap.size := ⟨_, rfl⟩
        have HKF : Hid (Blk W7 gf 61 #[.int .i64 prm, .int .i64 sz, .slice Ai nc ci]) := Lib.hid (by rw [hW7, hgf]; exact Blk.new _ _ _)
        have HB7 : Hid (Blk W7 gb 22 #[o]) := Lib.hid (by rw [hW7]; exact HB.out.alloc _)
        have HO7 : Hid (OwM W7 w.heap.size o L.length (nb L)) := Lib.hid (by rw [hW7]; exact HO.out.alloc _)
        have HP7 : Hid (PtW gb w.heap.size W5 W7) := Lib.hid (by rw [hW7]; exact HP.out.alloc (by omega) _)
        have HWO7 : Hid (Below w.heap.size wo W7) := Lib.hid (by rw [hW7]; exact (Below.refl _ _).alloc (by omega) _)
        have hgf1 : gf ≠ gb := by omega
        rw [← hW7, ← hgf]
        have hw7 : W5.heap.size ≤ W7.heap.size := HP7.out.size
        clear hW7 hgf HB HO HP f0 f1 f2 d0 d1 dz hwz HBW
        obtain ⟨pn, hpn⟩ : ∃ n : Nat, (n : Int) = prm := ⟨prm.toNat, by have := HEF.out.prm; simp only at this; omega⟩
        have hdv := div_le' hal1 HEF.out.size.1
        simp only at hdv
        obtain ⟨qn, hqn⟩ : ∃ n : Nat, (n : Int) = sz / al := ⟨(sz / al).toNat, by omega⟩
        have hpr := HEF.out.prm
        have hsr := HEF.out.size
        have hcr := HEF.out.nc
        simp only at hpr hsr hcr
        rw [← HNC.out] at hcr
        have hw1 : IntKind.u64.wrap prm = (pn : Int) := by rw [← hpn]; exact IntWalk.u64_in _ (by omega)
        have hq1 : sz.tdiv al = (qn : Int) := by rw [hqn, Int.tdiv_eq_ediv_of_nonneg hsr.1]
        have hq2 : IntKind.i64.wrap (qn : Int) = (qn : Int) := IntWalk.i64_in _ (by omega)
        have hw2 : IntKind.u64.wrap (qn : Int) = (qn : Int) := IntWalk.u64_in _ (by omega)
        have hw3 : IntKind.u64.wrap (nc : Int) = (nc : Int) := IntWalk.u64_in _ (by omega)
        have hal0 : ¬ al = 0 := by omega
        have HPN := Lib.hid hpn
        have HQN := Lib.hid hqn
        have HLL : Hid (L.length ≤ 34 + 42014 * k) := Lib.hid (by
          have h1 := congrArg List.length HL.out
          have h2 := encFs_len al (t.take k) (fun f hf => (HET.out.fr f (List.mem_of_mem_take hf)).nc)
          simp only [List.length_append, List.length_take] at h1 h2
          have h3 : min k t.length ≤ k := Nat.min_le_left _ _
          omega)
        have HPUT := Lib.hid (fun (W : World) (c : Nat) (ad : Nat) (hb : Blk W gb 22 #[o]) (ho : OwM W w.heap.size o L.length (nb L)) (hr : Blk W ad 56 #[.int .u64 (pn : Int), .int .u64 (qn : Int), .int .u64 (nc : Int)]) (hz : w.heap.size ≤ W.heap.size) => (show Calls Tryd.prog 54 #[.slice (some ⟨ad, 0, none⟩) 3 c, .pointer (some ⟨gb, 0, none⟩)] W (PutD gb w.heap.size (L ++ [pn, qn, nc].flatMap put) W) from
          putc_any gb w.heap.size _ c [pn, qn, nc] (by intro v hv; simp only [List.mem_cons, List.not_mem_nil, or_false] at hv; rcases hv with rfl | rfl | rfl <;> omega) (Nat.le_refl 3) W o L hb ho ad rfl hr (by have := HLL.out; omega) (by omega) hz))
        obtain ⟨d0, d1, -, -, dz⟩ := (HP7.out.blk HKT5.out hng (by decide)).c2
        obtain ⟨f0, f1, f2, -, -, -, fz⟩ := HKF.out.c3
        clear hpn hqn hpr hsr hcr hdv hkt hn1
        have HKT7 : Hid (Blk W7 w.heap.size 29 #[.int .i64 al, .slice (some ad) nf ct]) := Lib.hid (HP7.out.blk HKT5.out hng (by decide))
        have hz7 : w.heap.size ≤ W7.heap.size := by omega
        clear d0 d1 dz f0 f1 f2 fz
        generalize hg0 : w.heap.size = g0 at *
        refine wp_region_rg (fun (X : Nat → Prop) (j : Nat) (u : Nat → Value) (w : World) => match j with
            | 0 => u 0 = .func (.func 54) #[] #[.pointer (some ⟨gb, 0, none⟩)]
            | 1 => u 1 = .pointer (some ⟨gf, 0, none⟩)
            | 2 => u 2 = .int .i64 prm
            | 3 => u 3 = .int .u64 (pn : Int)
            | 4 => u 4 = .pointer (some ⟨gf, 1, none⟩)
            | 5 => u 5 = .int .i64 sz
            | 6 => u 6 = .pointer (some ⟨g0, 0, none⟩)
            | 7 => u 7 = .int .i64 al
            | 8 => u 8 = .int .i64 (qn : Int)
            | 9 => u 9 = .int .u64 (qn : Int)
            | 10 => u 10 = .pointer (some ⟨gf, 2, none⟩)
            | 11 => u 11 = .slice Ai nc ci
            | 12 => u 12 = .int .i64 (nc : Int)
            | 13 => u 13 = .int .u64 (nc : Int)
            | 14 => u 14 = .slice (some ⟨W7.heap.size, 0, none⟩) 3 3
            | 15 => True
            | _ => True)
          (fun X w' => (¬ X 14 → w' = W7.drew) ∧ (X 14 → ¬ X 15 → w' = W7.drew.alloc (.cells #[.int .u64 (pn : Int), .int .u64 (qn : Int), .int .u64 (nc : Int)] 56)) ∧ (X 15 → ∃ o, Blk w' gb 22 #[o] ∧ OwM w' g0 o (L ++ [pn, qn, nc].flatMap put).length (nb (L ++ [pn, qn, nc].flatMap put)) ∧ PtW gb g0 W7 w')) (fun w w' => w' = w) [14, 15] [0, 0, 2, 6, 0, 16, 0, 64, 240, 496, 0, 1024, 3072, 7168, 16382, 32767]
          [[], [], [(1, 53)], [(2, 54)], [], [(4, 56)], [], [(6, 58)], [(5, 57), (7, 59)], [(8, 60)], [], [(10, 62)], [(11, 63)], [(12, 64)], [(3, 55), (9, 61), (13, 65)], [(0, 52), (14, 66)]]
          [(0, 52), (1, 53), (2, 54), (3, 55), (4, 56), (5, 57), (6, 58), (7, 59), (8, 60), (9, 61), (10, 62), (11, 63), (12, 64), (13, 65), (14, 66), (15, 67)] (by kernel_rfl) (by kernel_rfl) ?hsG ?hsT ?h0 ?hs ?he
        case hsG =>
          intro i X w w' hsp hR hG
          refine ⟨fun h => by rw [hR]; exact hG.1 (fun hk => h (.inr hk)), fun h h2 => by rw [hR]; exact hG.2.1 (h.resolve_left (by rintro rfl; exact absurd hsp (by decide))) (fun hk => h2 (.inr hk)), fun h => by rw [hR]; exact hG.2.2 (h.resolve_left (by rintro rfl; exact absurd hsp (by decide)))⟩
        case hsT =>
          intro i X j u u' w w' hsp hij hni hXj hR hu h
          match j, hij, hni, hXj, hu, h with
          | 0, hij, hni, hXj, hu, h => exact (hu 0 (.inl rfl)).trans h
          | 1, hij, hni, hXj, hu, h => exact (hu 1 (.inl rfl)).trans h
          | 2, hij, hni, hXj, hu, h => exact (hu 2 (.inl rfl)).trans h
          | 3, hij, hni, hXj, hu, h => exact (hu 3 (.inl rfl)).trans h
          | 4, hij, hni, hXj, hu, h => exact (hu 4 (.inl rfl)).trans h
          | 5, hij, hni, hXj, hu, h => exact (hu 5 (.inl rfl)).trans h
          | 6, hij, hni, hXj, hu, h => exact (hu 6 (.inl rfl)).trans h
          | 7, hij, hni, hXj, hu, h => exact (hu 7 (.inl rfl)).trans h
          | 8, hij, hni, hXj, hu, h => exact (hu 8 (.inl rfl)).trans h
          | 9, hij, hni, hXj, hu, h => exact (hu 9 (.inl rfl)).trans h
          | 10, hij, hni, hXj, hu, h => exact (hu 10 (.inl rfl)).trans h
          | 11, hij, hni, hXj, hu, h => exact (hu 11 (.inl rfl)).trans h
          | 12, hij, hni, hXj, hu, h => exact (hu 12 (.inl rfl)).trans h
          | 13, hij, hni, hXj, hu, h => exact (hu 13 (.inl rfl)).trans h
          | 14, hij, hni, hXj, hu, h => exact (hu 14 (.inl rfl)).trans h
          | 15, hij, hni, hXj, hu, h => exact trivial
          | _ + 16, _, _, _, _, h => exact trivial
        case h0 => exact ⟨fun _ => rfl, fun h => h.elim, fun h => h.elim⟩
        case hs =>
          refine RgAll.cons [] rfl (by decide) ?_ ?_
          · intro u w X hi hA hF hG hT K hK
            simp only [lay, Act.put, List.setIfInBounds_toArray, List.set_cons_zero, List.set_cons_succ] at hK ⊢
            clear hi hA hF hG hT
            go_simp
            exact hK _ _ (rfl) (updV_self _ _ _)
          refine RgAll.cons [] rfl (by decide) ?_ ?_
          · intro u w X hi hA hF hG hT K hK
            simp only [lay, Act.put, List.setIfInBounds_toArray, List.set_cons_zero, List.set_cons_succ] at hK ⊢
            clear hi hA hF hG hT
            go_simp
            exact hK _ _ (rfl) (updV_self _ _ _)
          refine RgAll.cons [(1, 53)] rfl (by decide) ?_ ?_
          · intro u w X hi hA hF hG hT K hK
            have t1 : u 1 = .pointer (some ⟨gf, 0, none⟩) := hT 1 (hA 1 rfl)
            simp only [lay, Act.put, List.setIfInBounds_toArray, List.set_cons_zero, List.set_cons_succ, t1] at hK ⊢
            obtain rfl := hG.1 (hF 14 rfl)
            obtain ⟨f0, f1, f2, -, -, -, fz⟩ := HKF.out.drew.c3
            obtain ⟨d0, d1, -, -, dz⟩ := HKT7.out.drew.c2
            clear hi hA hF hG hT
            go_simp
            exact hK _ _ (rfl) (updV_self _ _ _)
          refine RgAll.cons [(2, 54)] rfl (by decide) ?_ ?_
          · intro u w X hi hA hF hG hT K hK
            have t2 : u 2 = .int .i64 prm := hT 2 (hA 2 rfl)
            simp only [lay, Act.put, List.setIfInBounds_toArray, List.set_cons_zero, List.set_cons_succ, t2] at hK ⊢
            clear hi hA hF hG hT
            go_simp
            exact hK _ _ (rfl) (updV_self _ _ _)
          refine RgAll.cons [] rfl (by decide) ?_ ?_
          · intro u w X hi hA hF hG hT K hK
            simp only [lay, Act.put, List.setIfInBounds_toArray, List.set_cons_zero, List.set_cons_succ] at hK ⊢
            clear hi hA hF hG hT
            go_simp
            exact hK _ _ (rfl) (updV_self _ _ _)
          refine RgAll.cons [(4, 56)] rfl (by decide) ?_ ?_
          · intro u w X hi hA hF hG hT K hK
            have t4 : u 4 = .pointer (some ⟨gf, 1, none⟩) := hT 4 (hA 4 rfl)
            simp only [lay, Act.put, List.setIfInBounds_toArray, List.set_cons_zero, List.set_cons_succ, t4] at hK ⊢
            obtain rfl := hG.1 (hF 14 rfl)
            obtain ⟨f0, f1, f2, -, -, -, fz⟩ := HKF.out.drew.c3
            obtain ⟨d0, d1, -, -, dz⟩ := HKT7.out.drew.c2
            clear hi hA hF hG hT
            go_simp
            exact hK _ _ (rfl) (updV_self _ _ _)
          refine RgAll.cons [] rfl (by decide) ?_ ?_
          · intro u w X hi hA hF hG hT K hK
            simp only [lay, Act.put, List.setIfInBounds_toArray, List.set_cons_zero, List.set_cons_succ] at hK ⊢
            clear hi hA hF hG hT
            go_simp
            exact hK _ _ (rfl) (updV_self _ _ _)
          refine RgAll.cons [(6, 58)] rfl (by decide) ?_ ?_
          · intro u w X hi hA hF hG hT K hK
            have t6 : u 6 = .pointer (some ⟨g0, 0, none⟩) := hT 6 (hA 6 rfl)
            simp only [lay, Act.put, List.setIfInBounds_toArray, List.set_cons_zero, List.set_cons_succ, t6] at hK ⊢
            obtain rfl := hG.1 (hF 14 rfl)
            obtain ⟨f0, f1, f2, -, -, -, fz⟩ := HKF.out.drew.c3
            obtain ⟨d0, d1, -, -, dz⟩ := HKT7.out.drew.c2
            clear hi hA hF hG hT
            go_simp
            exact hK _ _ (rfl) (updV_self _ _ _)
          refine RgAll.cons [(5, 57), (7, 59)] rfl (by decide) ?_ ?_
          · intro u w X hi hA hF hG hT K hK
            have t5 : u 5 = .int .i64 sz := hT 5 (hA 5 rfl)
            have t7 : u 7 = .int .i64 al := hT 7 (hA 7 rfl)
            simp only [lay, Act.put, List.setIfInBounds_toArray, List.set_cons_zero, List.set_cons_succ, t5, t7] at hK ⊢
            clear hi hA hF hG hT
            go_simp
            exact hK _ _ (rfl) (updV_self _ _ _)
          refine RgAll.cons [(8, 60)] rfl (by decide) ?_ ?_
          · intro u w X hi hA hF hG hT K hK
            have t8 : u 8 = .int .i64 (qn : Int) := hT 8 (hA 8 rfl)
            simp only [lay, Act.put, List.setIfInBounds_toArray, List.set_cons_zero, List.set_cons_succ, t8] at hK ⊢
            clear hi hA hF hG hT
            go_simp
            exact hK _ _ (rfl) (updV_self _ _ _)
          refine RgAll.cons [] rfl (by decide) ?_ ?_
          · intro u w X hi hA hF hG hT K hK
            simp only [lay, Act.put, List.setIfInBounds_toArray, List.set_cons_zero, List.set_cons_succ] at hK ⊢
            clear hi hA hF hG hT
            go_simp
            exact hK _ _ (rfl) (updV_self _ _ _)
          refine RgAll.cons [(10, 62)] rfl (by decide) ?_ ?_
          · intro u w X hi hA hF hG hT K hK
            have t10 : u 10 = .pointer (some ⟨gf, 2, none⟩) := hT 10 (hA 10 rfl)
            simp only [lay, Act.put, List.setIfInBounds_toArray, List.set_cons_zero, List.set_cons_succ, t10] at hK ⊢
            obtain rfl := hG.1 (hF 14 rfl)
            obtain ⟨f0, f1, f2, -, -, -, fz⟩ := HKF.out.drew.c3
            obtain ⟨d0, d1, -, -, dz⟩ := HKT7.out.drew.c2
            clear hi hA hF hG hT
            go_simp
            exact hK _ _ (rfl) (updV_self _ _ _)
          refine RgAll.cons [(11, 63)] rfl (by decide) ?_ ?_
          · intro u w X hi hA hF hG hT K hK
            have t11 : u 11 = .slice Ai nc ci := hT 11 (hA 11 rfl)
            simp only [lay, Act.put, List.setIfInBounds_toArray, List.set_cons_zero, List.set_cons_succ, t11] at hK ⊢
            clear hi hA hF hG hT
            go_simp
            exact hK _ _ (rfl) (updV_self _ _ _)
          refine RgAll.cons [(12, 64)] rfl (by decide) ?_ ?_
          · intro u w X hi hA hF hG hT K hK
            have t12 : u 12 = .int .i64 (nc : Int) := hT 12 (hA 12 rfl)
            simp only [lay, Act.put, List.setIfInBounds_toArray, List.set_cons_zero, List.set_cons_succ, t12] at hK ⊢
            clear hi hA hF hG hT
            go_simp
            exact hK _ _ (rfl) (updV_self _ _ _)
          refine RgAll.consS [(3, 55), (9, 61), (13, 65)] rfl ?_ ?_
          · intro u w X hi hA hF hG hT K hK
            have t3 : u 3 = .int .u64 (pn : Int) := hT 3 (hA 3 rfl)
            have t9 : u 9 = .int .u64 (qn : Int) := hT 9 (hA 9 rfl)
            have t13 : u 13 = .int .u64 (nc : Int) := hT 13 (hA 13 rfl)
            simp only [lay, Act.put, List.setIfInBounds_toArray, List.set_cons_zero, List.set_cons_succ, t3, t9, t13] at hK ⊢
            obtain rfl := hG.1 hi
            clear hA
            go_simp
            refine hK (.slice (some ⟨W7.heap.size, 0, none⟩) 3 3) _ ⟨fun h => absurd (by simp) h, fun _ _ => rfl, fun h => absurd (h.resolve_left (by decide)) (hF 15 rfl)⟩ ?_
            intro j hj
            match j, hj with
              | 0, hj => exact (updV_ne _ _ (by decide)).trans (hT 0 (hj.resolve_left (by decide)))
              | 1, hj => exact (updV_ne _ _ (by decide)).trans (hT 1 (hj.resolve_left (by decide)))
              | 2, hj => exact (updV_ne _ _ (by decide)).trans (hT 2 (hj.resolve_left (by decide)))
              | 3, hj => exact (updV_ne _ _ (by decide)).trans (hT 3 (hj.resolve_left (by decide)))
              | 4, hj => exact (updV_ne _ _ (by decide)).trans (hT 4 (hj.resolve_left (by decide)))
              | 5, hj => exact (updV_ne _ _ (by decide)).trans (hT 5 (hj.resolve_left (by decide)))
              | 6, hj => exact (updV_ne _ _ (by decide)).trans (hT 6 (hj.resolve_left (by decide)))
              | 7, hj => exact (updV_ne _ _ (by decide)).trans (hT 7 (hj.resolve_left (by decide)))
              | 8, hj => exact (updV_ne _ _ (by decide)).trans (hT 8 (hj.resolve_left (by decide)))
              | 9, hj => exact (updV_ne _ _ (by decide)).trans (hT 9 (hj.resolve_left (by decide)))
              | 10, hj => exact (updV_ne _ _ (by decide)).trans (hT 10 (hj.resolve_left (by decide)))
              | 11, hj => exact (updV_ne _ _ (by decide)).trans (hT 11 (hj.resolve_left (by decide)))
              | 12, hj => exact (updV_ne _ _ (by decide)).trans (hT 12 (hj.resolve_left (by decide)))
              | 13, hj => exact (updV_ne _ _ (by decide)).trans (hT 13 (hj.resolve_left (by decide)))
              | 14, hj => exact updV_self _ _ _
              | 15, hj => exact trivial
              | _ + 16, hj => exact trivial
          refine RgAll.consS [(0, 52), (14, 66)] rfl ?_ ?_
          · intro u w X hi hA hF hG hT K hK
            have t0 : u 0 = .func (.func 54) #[] #[.pointer (some ⟨gb, 0, none⟩)] := hT 0 (hA 0 rfl)
            have t14 : u 14 = .slice (some ⟨W7.heap.size, 0, none⟩) 3 3 := hT 14 (hA 14 rfl)
            simp only [lay, Act.put, List.setIfInBounds_toArray, List.set_cons_zero, List.set_cons_succ, t0, t14] at hK ⊢
            have hX14 : X 14 := hA 14 rfl
            obtain rfl := hG.2.1 hX14 hi
            clear hA hF
            go_simp
            refine (HPUT.out _ _ _ (HB7.out.drew.alloc _) (HO7.out.drew.alloc _) (Blk.new _ _ _) (by simp; omega)).mono ?_
            rintro e w8 ⟨rfl, o8, kb8, ow8, pt8⟩
            refine hK (.tuple #[]) w8 ⟨fun h => absurd (by simp [hX14]) h, fun _ h => absurd (by simp) h, fun _ => ⟨o8, kb8, ow8, PtW.trans ((PtW.refl gb g0 W7).drew.alloc (by first | omega | (show g0 ≤ W7.heap.size; omega)) _) pt8⟩⟩ ?_
            intro j hj
            match j, hj with
              | 0, hj => exact (updV_ne _ _ (by decide)).trans (hT 0 (hj.resolve_left (by decide)))
              | 1, hj => exact (updV_ne _ _ (by decide)).trans (hT 1 (hj.resolve_left (by decide)))
              | 2, hj => exact (updV_ne _ _ (by decide)).trans (hT 2 (hj.resolve_left (by decide)))
              | 3, hj => exact (updV_ne _ _ (by decide)).trans (hT 3 (hj.resolve_left (by decide)))
              | 4, hj => exact (updV_ne _ _ (by decide)).trans (hT 4 (hj.resolve_left (by decide)))
              | 5, hj => exact (updV_ne _ _ (by decide)).trans (hT 5 (hj.resolve_left (by decide)))
              | 6, hj => exact (updV_ne _ _ (by decide)).trans (hT 6 (hj.resolve_left (by decide)))
              | 7, hj => exact (updV_ne _ _ (by decide)).trans (hT 7 (hj.resolve_left (by decide)))
              | 8, hj => exact (updV_ne _ _ (by decide)).trans (hT 8 (hj.resolve_left (by decide)))
              | 9, hj => exact (updV_ne _ _ (by decide)).trans (hT 9 (hj.resolve_left (by decide)))
              | 10, hj => exact (updV_ne _ _ (by decide)).trans (hT 10 (hj.resolve_left (by decide)))
              | 11, hj => exact (updV_ne _ _ (by decide)).trans (hT 11 (hj.resolve_left (by decide)))
              | 12, hj => exact (updV_ne _ _ (by decide)).trans (hT 12 (hj.resolve_left (by decide)))
              | 13, hj => exact (updV_ne _ _ (by decide)).trans (hT 13 (hj.resolve_left (by decide)))
              | 14, hj => exact (updV_ne _ _ (by decide)).trans (hT 14 (hj.resolve_left (by decide)))
              | 15, hj => exact trivial
              | _ + 16, hj => exact trivial
          exact RgAll.nil
        intro u w8 X hX hG hT
        have t0 : u 0 = .func (.func 54) #[] #[.pointer (some ⟨gb, 0, none⟩)] := hT 0 (by simp)
        have t1 : u 1 = .pointer (some ⟨gf, 0, none⟩) := hT 1 (by simp)
        have t2 : u 2 = .int .i64 prm := hT 2 (by simp)
        have t3 : u 3 = .int .u64 (pn : Int) := hT 3 (by simp)
        have t4 : u 4 = .pointer (some ⟨gf, 1, none⟩) := hT 4 (by simp)
        have t5 : u 5 = .int .i64 sz := hT 5 (by simp)
        have t6 : u 6 = .pointer (some ⟨g0, 0, none⟩) := hT 6 (by simp)
        have t7 : u 7 = .int .i64 al := hT 7 (by simp)
        have t8 : u 8 = .int .i64 (qn : Int) := hT 8 (by simp)
        have t9 : u 9 = .int .u64 (qn : Int) := hT 9 (by simp)
        have t10 : u 10 = .pointer (some ⟨gf, 2, none⟩) := hT 10 (by simp)
        have t11 : u 11 = .slice Ai nc ci := hT 11 (by simp)
        have t12 : u 12 = .int .i64 (nc : Int) := hT 12 (by simp)
        have t13 : u 13 = .int .u64 (nc : Int) := hT 13 (by simp)
        have t14 : u 14 = .slice (some ⟨W7.heap.size, 0, none⟩) 3 3 := hT 14 (by simp)
        simp only [lay, Act.put, List.setIfInBounds_toArray, List.set_cons_zero, List.set_cons_succ, t0, t1, t2, t3, t4, t5, t6, t7, t8, t9, t10, t11, t12, t13, t14]
        clear hT t0 t1 t2 t3 t4 t5 t6 t7 t8 t9 t10 t11 t12 t13 t14
        obtain ⟨o8, kb8, ow8, pt8⟩ := hG.2.2 (hX 15 (by simp))
        clear hG hX
        subst hg0
        obtain ⟨L1, hL1⟩ : ∃ l, l = L ++ [pn, qn, nc].flatMap put := ⟨_, rfl⟩
        rw [← hL1] at ow8
        have HL1 : Hid (L1 = L ++ headF al ⟨prm, sz, code⟩) := Lib.hid (by
          rw [hL1]
          unfold headF
          simp only
          rw [← HPN.out, ← HQN.out, ← HNC.out, Int.toNat_natCast, Int.toNat_natCast]
          simp)
        have HL1L : Hid (L1.length ≤ 64 + 42014 * k) := Lib.hid (by
          have h1 := congrArg List.length HL1.out
          have h2 := headF_len al ⟨prm, sz, code⟩
          have h3 := HLL.out
          rw [List.length_append] at h1
          omega)
        have HB8 := Lib.hid kb8
        have HO8 := Lib.hid ow8
        have HPF := Lib.hid pt8
        have HP8 := Lib.hid (HP7.out.trans pt8)
        have HWO8 := Lib.hid (HWO7.out.trans pt8.bel)
        have HBW8 : Hid (Below w.heap.size w w8) := Lib.hid (HB5.out.trans HP8.out.bel)
        have HKF8 : Hid (Blk w8 gf 61 #[.int .i64 prm, .int .i64 sz, .slice Ai nc ci]) := Lib.hid (HPF.out.blk HKF.out hgf1 (by decide))
        clear kb8 ow8 pt8 hL1 HPUT HKT7 HLL hal0 hw1 hw2 hw3 hq1 hq2 HKF HB7 HO7 HQN HPN
        obtain ⟨f0, f1, f2, -, -, -, fz⟩ := HKF8.out.c3
        go_upto_region 14 with (fail)
        clear f0 f1 f2 fz HKT5 hng HPF HP7
        have hgb8 : gb < w8.heap.size := HB8.out.lt
        have hz8 : w.heap.size ≤ w8.heap.size := by omega
        have hnc1 : (nc : Int) ≤ 1024 := by have := HEF.out.nc; simp only at this; rw [← HNC.out] at this; omega
        go_loopw [71] (fun x wr => ∃ (j : Nat) (o : Value) (L : List Nat), j ≤ nc ∧ x = .int .i64 j ∧ Hid (L = L1 ++ (code.take j).flatMap encI) ∧ Hid (Blk wr gb 22 #[o]) ∧ Hid (OwM wr w.heap.size o L.length (nb L)) ∧ Hid (PtW gb w.heap.size w8 wr)) (fun x _ => nc - (intOf x).toNat)
        case atStart => exact ⟨0, o8, L1, by omega, rfl, Lib.hid (by simp), HB8, HO8, Lib.hid (PtW.refl _ _ _)⟩
        case round =>
          obtain ⟨j, o9, L9, hj, rfl, HL9, HB9, HO9, HP9⟩ := hrel
          clear HB8 HO8
          by_cases hltj : j < nc
          · have hj0 : (0 : Int) ≤ (j : Int) := by omega
            have hj1 : (j : Int) < (nc : Int) := by omega
            have hjc : j < code.length := by rw [← HNC.out]; exact hltj
            obtain ⟨ai, rfl, hb, y0, y1, y2, y3, y4⟩ := (HNX.out.keep (below_kp (HWO8.out.trans HP9.out.bel) hh)).whole hjc
            obtain ⟨x, hx⟩ : ∃ x, x = code.getD j Ins.z := ⟨_, rfl⟩
            have HEI : Hid (EI x) := Lib.hid (by rw [hx]; exact HEF.out.ins _ (getD_mem' hjc))
            have HTI := Lib.hid (hx ▸ flat_take encI code hjc Ins.z)
            rw [← hx] at y0 y1 y2 y3 y4
            obtain ⟨op, xa, xb, xc, im⟩ := x
            simp only at y0 y1 y2 y3 y4
            have hwr := HP9.out.size
            have HL9L : Hid (L9.length ≤ 64 + 42014 * k + 41 * j) := Lib.hid (by
              have h1 := congrArg List.length HL9.out
              have h2 := encC_len (code.take j)
              have h3 := HL1L.out
              unfold encC at h2
              simp only [List.length_append, List.length_take] at h1 h2
              have h4 : min j code.length ≤ j := Nat.min_le_left _ _
              omega)
            have hl9 : L9.length ≤ 4000000 := by have := HL9L.out; omega
            clear hx hb hjc
            generalize wr = wq at *
            go_upto_region 16 with (fail)
            obtain ⟨W9, hW9⟩ : ∃ W9, W9 = wq.alloc (.cells #[.int .i64 op, .int .i64 xa, .int .i64 xb, .int .i64 xc, .int .u64 im] 58) := ⟨_, rfl⟩
            obtain ⟨gx, hgx⟩ : ∃ g, g = wq.heap.size := ⟨_, rfl⟩
            have HKX : Hid (Blk W9 gx 58 #[.int .i64 op, .int .i64 xa, .int .i64 xb, .int .i64 xc, .int .u64 im]) := Lib.hid (by rw [hW9, hgx]; exact Blk.new _ _ _)
            have HB10 : Hid (Blk W9 gb 22 #[o9]) := Lib.hid (by rw [hW9]; exact HB9.out.alloc _)
            have HO10 : Hid (OwM W9 w.heap.size o9 L9.length (nb L9)) := Lib.hid (by rw [hW9]; exact HO9.out.alloc _)
            have HP10 : Hid (PtW gb w.heap.size w8 W9) := Lib.hid (by rw [hW9]; exact HP9.out.alloc (by omega) _)
            have hgx1 : gx ≠ gb := by omega
            rw [← hW9, ← hgx]
            have hw9 : w8.heap.size ≤ W9.heap.size := HP10.out.size
            clear hW9 hgx HB9 HO9 HP9 y0 y1 y2 y3 y4 hwr
            have hop := HEI.out.op
            have hea := HEI.out.a
            have heb := HEI.out.b
            have hec := HEI.out.c
            have hei := HEI.out.im
            simp only at hop hea heb hec hei
            obtain ⟨on, rfl⟩ := Int.eq_ofNat_of_zero_le hop.1
            obtain ⟨an, rfl⟩ := Int.eq_ofNat_of_zero_le hea.1
            obtain ⟨bn', rfl⟩ := Int.eq_ofNat_of_zero_le heb.1
            obtain ⟨cn, rfl⟩ := Int.eq_ofNat_of_zero_le hec.1
            obtain ⟨imn, rfl⟩ := Int.eq_ofNat_of_zero_le hei.1
            have hu8 : IntKind.u8.wrap (on : Int) = (on : Int) := IntWalk.u8_in _ (by omega)
            have hwa : IntKind.u64.wrap (an : Int) = (an : Int) := IntWalk.u64_in _ (by omega)
            have hwb : IntKind.u64.wrap (bn' : Int) = (bn' : Int) := IntWalk.u64_in _ (by omega)
            have hwc : IntKind.u64.wrap (cn : Int) = (cn : Int) := IntWalk.u64_in _ (by omega)
            have HOPS := Lib.hid (fun (W : World) (h : Blk W gx 58 #[.int .i64 (on : Int), .int .i64 (an : Int), .int .i64 (bn' : Int), .int .i64 (cn : Int), .int .u64 (imn : Int)]) => (opM_eq hop) ▸ ops_any gx (on : Int) W (h.cell 0) h.lt)
            have HOP := Lib.hid hop
            have han : an < 2147483648 := by omega
            have hbn : bn' < 2147483648 := by omega
            have hcn : cn < 2147483648 := by omega
            have hin : imn < 18446744073709551616 := by omega
            clear hop hea heb hec hei
            obtain ⟨x0, x1, x2, x3, x4, -, -, -, -, -, xz⟩ := HKX.out.c5
            obtain ⟨b0, b1, bz⟩ := HB10.out.c1
            go_upto_region 17 with (at_builtin; refine wpList_append_m _ rfl (.tmp 75) (.tmp 79) _ rfl w.heap.size i0 Tryd.underlying22 hi0 hz0 hz1 hz2 _ L9.length (nb L9) rfl (HO10.out.alloc _) (W9.heap.size + 1) (some ⟨W9.heap.size, 0, none⟩) 1 1 (nb [on]) (Nat.le_refl _) rfl (reads_one W9 _ _) (nb_one _) (by unfold maxLen; omega) (by omega) (by simp; omega) ?_; intro v1 w2 hown1 hg1; obtain ⟨V3, c3, rfl, hm3⟩ := own_form hown1; have HB3 := Lib.hid ((HB10.out.alloc _).grown hg1 (HO10.out.ne HB10.out (by decide))); obtain ⟨bb0, bb1, bb2⟩ := HB3.out.c1)
            obtain ⟨L2, hL2⟩ : ∃ l, l = L9 ++ [on] := ⟨_, rfl⟩
            have hL2l : L9.length + 1 = L2.length := by rw [hL2]; simp
            obtain ⟨w3, hw3⟩ : ∃ w', w' = w2.setCell ⟨gb, 0, none⟩ (.slice V3 (L9.length + 1) c3) := ⟨_, rfl⟩
            have HB11 : Hid (Blk w3 gb 22 #[.slice V3 (L9.length + 1) c3]) := Lib.hid (by rw [hw3]; exact HB3.out.set_ 0 _)
            have HO11 : Hid (OwM w3 w.heap.size (.slice V3 (L9.length + 1) c3) L2.length (nb L2)) := Lib.hid (by
              rw [hw3]
              refine OwM.far (.inl ?_) HB3.out (by decide) _
              rw [hL2, nb_append, ← hL2l] at *
              simpa [hL2] using hown1)
            have hpx : PtW gb w.heap.size W9 w3 := by
              rw [hw3]
              exact (((PtW.refl _ _ _).alloc (by omega) _).append (HO10.out.alloc _) hg1 (by simp; omega)).set (by omega) 0 _
            have HP11 := Lib.hid (HP10.out.trans hpx)
            have HKX11 : Hid (Blk w3 gx 58 #[.int .i64 (on : Int), .int .i64 (an : Int), .int .i64 (bn' : Int), .int .i64 (cn : Int), .int .u64 (imn : Int)]) := Lib.hid (hpx.blk HKX.out hgx1 (by decide))
            have HL2L : Hid (L2.length ≤ 4000001) := Lib.hid (by omega)
            have HL2 := Lib.hid hL2
            rw [← hw3]
            have hz3 : w.heap.size ≤ w3.heap.size := by have := hpx.size; omega
            have hgb3 : gb < w3.heap.size := HB11.out.lt
            clear hw3 hpx HB10 HO10 HP10 HKX hown1 hg1 HB3 bb0 bb1 bb2 x0 x1 x2 x3 x4 xz b0 b1 bz hL2 hL2l
            generalize (Value.slice V3 (L9.length + 1) c3) = o11 at *
            obtain ⟨nn, hnn⟩ : ∃ n, n = opN (on : Int) := ⟨_, rfl⟩
            obtain ⟨ib, hib⟩ : ∃ n, n = immB (on : Int) := ⟨_, rfl⟩
            have HNN := Lib.hid hnn
            have HIB := Lib.hid hib
            have hnn3 : nn ≤ 3 := by rw [hnn]; exact opN_le _
            rw [← hnn, ← hib] at HOPS
            clear hnn hib
            go_upto_region 18 with (go_at_call 55; refine (HOPS.out _ HKX11.out).mono ?_; rintro e w4 ⟨Ao, co, rfl, hops, bel4⟩)
            have HB12 := Lib.hid (HB11.out.after bel4)
            have HO12 := Lib.hid (HO11.out.after bel4)
            have HP12 := Lib.hid (HP11.out.trans (PtW.of_below bel4 hz3))
            have HKX12 := Lib.hid (HKX11.out.after bel4)
            have HOPS4 := Lib.hid hops
            have hz4 : w.heap.size ≤ w4.heap.size := Nat.le_trans hz3 bel4.size
            have hnni : (nn : Int) ≤ 3 := by omega
            clear HB11 HO11 HP11 HKX11 hops bel4 HOPS
            go_upto_region 19 with (fail)
            go_loopw [87] (fun x wr => ∃ (i : Nat) (o : Value) (L : List Nat), i ≤ nn ∧ x = .int .i64 i ∧ Hid (L = L2 ++ ([an, bn', cn].take i).flatMap put) ∧ Hid (Blk wr gb 22 #[o]) ∧ Hid (OwM wr w.heap.size o L.length (nb L)) ∧ Hid (PtW gb w.heap.size w4 wr)) (fun x _ => nn - (intOf x).toNat)
            case atStart => exact ⟨0, o11, L2, by omega, rfl, Lib.hid (by simp), HB12, HO12, Lib.hid (PtW.refl _ _ _)⟩
            case round =>
              obtain ⟨i, o13, L3, hi, rfl, HL3, HB13, HO13, HP13⟩ := hrel
              clear HB12 HO12
              have HL3L : Hid (L3.length ≤ 4000001 + 10 * i) := Lib.hid (by
                have h1 := congrArg List.length HL3.out
                have h2 := flat_put_len ([an, bn', cn].take i)
                have h3 := HL2L.out
                simp only [List.length_append, List.length_take] at h1 h2
                have h4 : min i [an, bn', cn].length ≤ i := Nat.min_le_left _ _
                omega)
              have hzr : w.heap.size ≤ wr.heap.size := by have := HP13.out.size; omega
              by_cases hlti : i < nn
              · have hi0 : (0 : Int) ≤ (i : Int) := by omega
                have hi1 : (i : Int) < (nn : Int) := by omega
                have hi3 : i < [an, bn', cn].length := by simp; omega
                obtain ⟨ap, rfl, hKP, hap⟩ := HOPS4.out.resolve_left (by omega)
                have hc1 : wr.cell? ⟨ap, i, none⟩ = some (.pointer (some ⟨gx, i + 1, none⟩)) := by
                  rw [(HP13.out.blk hKP (by omega) (by decide)).cell i, ptrs_get gx nn i hlti]
                obtain ⟨v, hv⟩ : ∃ v, v = [an, bn', cn].getD i 0 := ⟨_, rfl⟩
                have hc2 : wr.cell? ⟨gx, i + 1, none⟩ = some (.int .i64 (v : Int)) := by
                  rw [(HP13.out.blk HKX12.out hgx1 (by decide)).cell (i + 1), hv]
                  have : i = 0 ∨ i = 1 ∨ i = 2 := by omega
                  rcases this with rfl | rfl | rfl <;> rfl
                have hv31 : v < 2147483648 := by
                  rw [hv]
                  have : i = 0 ∨ i = 1 ∨ i = 2 := by omega
                  rcases this with rfl | rfl | rfl
                  · exact han
                  · exact hbn
                  · exact hcn
                have HTV := Lib.hid (hv ▸ flat_take put [an, bn', cn] hi3 0)
                have hwv : IntKind.u64.wrap (v : Int) = (v : Int) := IntWalk.u64_in _ (by omega)
                have HPUT := Lib.hid (fun (W : World) (c : Nat) (ad : Nat) (hb : Blk W gb 22 #[o13]) (ho : OwM W w.heap.size o13 L3.length (nb L3)) (hr : Blk W ad 56 #[.int .u64 (v : Int)]) (hz : w.heap.size ≤ W.heap.size) => (show Calls Tryd.prog 54 #[.slice (some ⟨ad, 0, none⟩) 1 c, .pointer (some ⟨gb, 0, none⟩)] W (PutD gb w.heap.size (L3 ++ [v].flatMap put) W) from
                  putc_any gb w.heap.size _ c [v] (by intro u hu; simp only [List.mem_singleton] at hu; omega) (by simp) W o13 L3 hb ho ad rfl hr (by have := HL3L.out; omega) (by omega) hz))
                obtain ⟨p0, p1, pz⟩ := HB13.out.c1
                have hgxz : gx < wr.heap.size := (HP13.out.blk HKX12.out hgx1 (by decide)).lt
                have hapz : ap < wr.heap.size := (HP13.out.blk hKP (by omega) (by decide)).lt
                clear hv hKP hi3 hap
                go_wp2_with (go_at_call 54; refine (HPUT.out _ _ _ (HB13.out.alloc _) (HO13.out.alloc _) (Blk.new _ _ _) (by simp; omega)).mono ?_; rintro e w14 ⟨rfl, o14, kb14, ow14, pt14⟩)
                go_roundw
                case rel =>
                  refine ⟨i + 1, o14, _, by omega, by go_num, Lib.hid ?_, Lib.hid kb14, Lib.hid ow14, Lib.hid ((HP13.out.alloc hzr _).trans pt14)⟩
                  rw [HTV.out, HL3.out]
                  simp
                case measure => simp [intOf]; omega
              · have hin' : i = nn := by omega
                subst hin'
                have HEQ : Hid (L9 ++ encI ⟨(on : Int), (an : Int), (bn' : Int), (cn : Int), (imn : Int)⟩ = L3 ++ (if ib then put imn else [])) := Lib.hid (by
                  rw [encI_eq _ (opN_le _), HL3.out, HL2.out, HIB.out]
                  unfold opsV
                  simp only [Int.toNat_natCast]
                  rw [← HNN.out]
                  simp)
                obtain ⟨q0, q1, q2, q3, q4, -, -, -, -, -, qz⟩ := (HP13.out.blk HKX12.out hgx1 (by decide)).c5
                have HPW := Lib.hid (HP12.out.trans HP13.out)
                rcases ib with _ | _
                · go_wp2
                  go_roundw
                  case rel =>
                    refine ⟨j + 1, o13, L3, by omega, by go_num, Lib.hid ?_, HB13, HO13, HPW⟩
                    have h := HEQ.out
                    simp only [Bool.false_eq_true, if_false, List.append_nil] at h
                    rw [← h, HL9.out, HTI.out, List.append_assoc]
                  case measure => simp [intOf]; omega
                · have HPUT := Lib.hid (fun (W : World) (c : Nat) (ad : Nat) (hb : Blk W gb 22 #[o13]) (ho : OwM W w.heap.size o13 L3.length (nb L3)) (hr : Blk W ad 56 #[.int .u64 (imn : Int)]) (hz : w.heap.size ≤ W.heap.size) => (show Calls Tryd.prog 54 #[.slice (some ⟨ad, 0, none⟩) 1 c, .pointer (some ⟨gb, 0, none⟩)] W (PutD gb w.heap.size (L3 ++ [imn].flatMap put) W) from
                    putc_any gb w.heap.size _ c [imn] (by intro u hu; simp only [List.mem_singleton] at hu; omega) (by simp) W o13 L3 hb ho ad rfl hr (by have := HL3L.out; omega) (by omega) hz))
                  go_wp2_with (go_at_call 54; refine (HPUT.out _ _ _ (HB13.out.alloc _) (HO13.out.alloc _) (Blk.new _ _ _) (by simp; omega)).mono ?_; rintro e w14 ⟨rfl, o14, kb14, ow14, pt14⟩)
                  go_roundw
                  case rel =>
                    refine ⟨j + 1, o14, _, by omega, by go_num, Lib.hid ?_, Lib.hid kb14, Lib.hid ow14, Lib.hid ((HPW.out.alloc hzr _).trans pt14)⟩
                    have h := HEQ.out
                    simp only [if_true] at h
                    simp only [List.flatMap_cons, List.flatMap_nil, List.append_nil]
                    rw [← h, HL9.out, HTI.out, List.append_assoc]
                  case measure => simp [intOf]; omega
          · have hjn : j = nc := by omega
            subst hjn
            go_wp2
            go_roundw
            case rel =>
              refine ⟨k + 1, o9, L9, by omega, by go_num, Lib.hid ?_, HB9, HO9, Lib.hid (HP8.out.trans HP9.out)⟩
              rw [HL9.out, HTK.out, HL1.out, HL.out, HNC.out, List.take_length]
              unfold encF encC
              simp
            case measure => simp [intOf]; omega
      · have hkn : k = nf := by omega
        subst hkn
        have hLb : L = bodyT al bd t := by
          rw [HL.out, HL0E.out, HNF.out, List.take_length]
          rfl
        have hbytes : ∀ y ∈ L, y < 256 := by rw [hLb]; exact bodyT_bytes HET.out HBD.out
        have hLl : L.length ≤ 4000000 := by
          have h1 := bodyT_len al bd t (fun f hf => (HET.out.fr f hf).nc)
          have h2 := HET.out.len
          rw [← hLb] at h1
          omega
        obtain ⟨V, cc, rfl, hm1⟩ := HO.out.form
        have HS := Lib.hid (seal_any w.heap.size V L.length cc L wr rfl HO.out hbytes (by omega) (by have := HP.out.size; omega))
        obtain ⟨b0, b1, bz⟩ := HB.out.c1
        have HLB := Lib.hid hLb
        have HBW := Lib.hid (HB5.out.trans HP.out.bel)
        obtain ⟨ln, hln⟩ : ∃ n, n = (sealL L).length := ⟨_, rfl⟩
        have hln4 : ln = L.length + 4 := by rw [hln, sealL_len]
        have hlni : (ln : Int) ≤ 9000000 := by omega
        by_cases hbig : 1048576 < ln
        · have hbigi : (1048576 : Int) < (ln : Int) := by omega
          have HE : Hid (∀ w', Below w.heap.size w w' → EncD al bd t w (.returned (.tuple #[.slice none 0 0, .int .i64 3])) w') := Lib.hid (fun w' hb => EncD.err (by
            have h1 := HTE.out
            have h2 := HBD.out
            unfold encE
            rw [if_neg (by omega), if_neg (by omega), if_pos (by rw [← HLB.out]; omega)]) (by decide) hb)
          have HLN := Lib.hid hln
          clear hln hln4 hLb hbytes hLl hbig hm1
          go_wp2_with fail
          refine HS.out.mono ?_
          rintro e w6' ⟨V', c', rfl, own', nob, bel'⟩
          rw [← HLN.out]
          have HBW2 := Lib.hid (HBW.out.trans bel')
          obtain ⟨e0, e1, ez⟩ := (nob.blk HB.out (by decide)).c1
          clear own' nob bel' b0 b1 bz
          go_wp2
          go_ret2
          exact HE.out _ (HBW2.out.setCell (p := ⟨gb, 0, none⟩) (Nat.le_of_lt hgbw) _)
        · have hbigi : (ln : Int) ≤ 1048576 := by omega
          have HE : Hid (encE al bd t = 0) := Lib.hid (encE_ok HTE.out HBD.out (by rw [← HLB.out]; omega))
          have HLN := Lib.hid hln
          clear hln hln4 hLb hbytes hLl hbig hm1
          go_wp2_with fail
          refine HS.out.mono ?_
          rintro e w6' ⟨V', c', rfl, own', nob, bel'⟩
          rw [← HLN.out] at own' ⊢
          have HBW2 := Lib.hid (HBW.out.trans bel')
          have hkb' := nob.blk HB.out (by decide)
          obtain ⟨e0, e1, ez⟩ := hkb'.c1
          have HOF := Lib.hid (own_far8 own' hkb' (i := 0) (by decide) (.slice V' ln c'))
          clear own' nob bel' b0 b1 bz hkb'
          go_wp2
          go_ret2
          have hB : encB al bd t = sealL L := by rw [encB_eq HE.out, ← HLB.out]
          refine ⟨V', c', by rw [hB, HE.out, ← HLN.out]; rfl, ?_, HBW2.out.setCell (p := ⟨gb, 0, none⟩) (Nat.le_of_lt hgbw) _⟩
          rw [hB, ← HLN.out]
          exact HOF.out
end
end Go.Proofs.YtinfeglhjmnlaaaDoor.pm
