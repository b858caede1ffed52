/- Contracts of the reference: Right, Inside, Shape. -/
import Derived.Test.YtmeoabpigibaoaaKte
import Derived.Test.YtmeoabpigibaoaaKc
import Derived.Deep.RegionHeld3
import Derived.Deep.CutBlock
namespace Go.Proofs.Ytmeoabpigibaoaa.pm
open Go.RowKit
set_option linter.unusedVariables false
set_option maxRecDepth 10000

theorem right03_any (o s : Int) (w : World) : Calls Try.prog 65 #[.agg #[.int .i64 o, .int .i64 s]] w fun e w' => e = .returned (.bool (rgtB o s)) ∧ Below w.heap.size w w' := by
  have HI : Hid (rgtB o s = (bndB o && bndB s && decide (o + s ≤ 2147483647))) := Lib.hid rfl
  rcases ho : bndB o with _ | _
  · have HO := Lib.hid ho
    clear ho
    go_enter Try.func65, Try.ntmps65
    go_wp2_with fail
    refine (refbnd_any _ _).mono ?_
    rintro e w1 ⟨rfl, rfl⟩
    rw [HO.out]
    go_wp2
    go_ret
    exact ⟨ret_bool (by rw [HI.out, HO.out]; rfl), (Below.refl _ _).alloc (Nat.le_refl _) _⟩
  · rcases hs : bndB s with _ | _
    · have HO := Lib.hid ho
      have HS := Lib.hid hs
      clear ho hs
      go_enter Try.func65, Try.ntmps65
      go_wp2_with fail
      refine (refbnd_any _ _).mono ?_
      rintro e w1 ⟨rfl, rfl⟩
      rw [HO.out]
      go_wp2_with fail
      refine (refbnd_any _ _).mono ?_
      rintro e w1 ⟨rfl, rfl⟩
      rw [HS.out]
      go_wp2
      go_ret
      exact ⟨ret_bool (by rw [HI.out, HO.out, HS.out]; rfl), (Below.refl _ _).alloc (Nat.le_refl _) _⟩
    · have ho1 := inB_t.1 ho
      have hs1 := inB_t.1 hs
      obtain ⟨n1, n2⟩ := ho1
      obtain ⟨n3, n4⟩ := hs1
      have HO := Lib.hid ho
      have HS := Lib.hid hs
      clear ho hs
      go_enter Try.func65, Try.ntmps65
      go_wp2_with fail
      refine (refbnd_any _ _).mono ?_
      rintro e w1 ⟨rfl, rfl⟩
      rw [HO.out]
      go_wp2_with fail
      refine (refbnd_any _ _).mono ?_
      rintro e w1 ⟨rfl, rfl⟩
      rw [HS.out]
      go_wp2
      go_ret
      exact ⟨ret_bool (by rw [HI.out, HO.out, HS.out]; rfl), (Below.refl _ _).alloc (Nat.le_refl _) _⟩
theorem inside03_any (o s size : Int) (w : World) : Calls Try.prog 46 #[.agg #[.int .i64 o, .int .i64 s], .int .i64 size] w fun e w' => e = .returned (.bool (insB o s size)) ∧ Below w.heap.size w w' := by
  have HI : Hid (insB o s size = (rgtB o s && decide (o + s ≤ size))) := Lib.hid rfl
  rcases hr : rgtB o s with _ | _
  · have HO := Lib.hid hr
    clear hr
    go_enter Try.func46, Try.ntmps46
    go_wp2_with fail
    refine (right03_any _ _ _).mono ?_
    rintro e w1 ⟨rfl, bel⟩
    have HB := Lib.hid (((Below.refl w.heap.size w).alloc (Nat.le_refl _) _).trans (bel.mono (by simp)))
    clear bel
    rw [HO.out]
    go_wp2
    go_ret
    exact ⟨ret_bool (by rw [HI.out, HO.out]; rfl), HB.out⟩
  · obtain ⟨n1, n2, n3, n4⟩ := rgtB_t hr
    have HO := Lib.hid hr
    clear hr
    go_enter Try.func46, Try.ntmps46
    go_wp2_with fail
    refine (right03_any _ _ _).mono ?_
    rintro e w1 ⟨rfl, bel⟩
    have HB := Lib.hid (((Below.refl w.heap.size w).alloc (Nat.le_refl _) _).trans (bel.mono (by simp)))
    have hk := Lib.hid ((Blk.new w 37 #[.int .i64 o, .int .i64 s]).after bel)
    clear bel
    obtain ⟨c0, c1, -, -, cz⟩ := hk.out.c2
    rw [HO.out]
    go_wp2
    go_ret
    exact ⟨ret_bool (by rw [HI.out, HO.out]; rfl), HB.out⟩

set_option maxHeartbeats 8000000 in
theorem shape_any (A Ao : Option Addr) (p : List Fn) (cp k m co : Nat) (al : Int) (ha : AlOk al) (hk : k < p.length) (hp : PrOk m p) (w : World) (lo hi lo' hi' : Nat) (hf : Fx w lo hi A p) (hy : Ix w lo' hi' Ao (layF p al (p.getD k Fn.z)).off) (hh : hi ≤ w.heap.size) (hh' : hi' ≤ w.heap.size) (hm : p.length ≤ maxLen) :
    Calls Try.prog 30 #[.agg #[.slice A p.length cp], .int .i64 (k : Int), .int .i64 al, .agg #[.int .i64 (layF p al (p.getD k Fn.z)).args, .int .i64 (layF p al (p.getD k Fn.z)).size, .slice Ao (layF p al (p.getD k Fn.z)).off.length co]] w fun e w' => e = .returned (.int .i64 0) ∧ Below w.heap.size w w' := by
  have hok := hp.2.2.2 _ (getD_mem' (z := Fn.z) hk)
  obtain ⟨n0, n1, n2, n3, n4, n5, n6⟩ := lay_nums hp hok ha
  have hoff := fun q hq => offs_at (p.getD k Fn.z).slots (argsI p (p.getD k Fn.z)) q hok.2.2.2.1 hq
  have hyl : (layF p al (p.getD k Fn.z)).off.length = (p.getD k Fn.z).slots.length := offs_len _ _
  have hya : (layF p al (p.getD k Fn.z)).args = argsI p (p.getD k Fn.z) := rfl
  have hyo : (layF p al (p.getD k Fn.z)).off = offs (argsI p (p.getD k Fn.z)) (p.getD k Fn.z).slots := rfl
  have hal : 1 ≤ al ∧ al ≤ 64 := by rcases ha with h | h | h <;> rw [h] <;> decide
  rw [← hyo] at hoff
  obtain ⟨y, hye⟩ : ∃ y, y = layF p al (p.getD k Fn.z) := ⟨_, rfl⟩
  obtain ⟨W1, hW1⟩ : ∃ W1, W1 = (w.alloc (.cells #[.slice A p.length cp] 51)).alloc (.cells #[.int .i64 y.args, .int .i64 y.size, .slice Ao y.off.length co] 74) := ⟨_, rfl⟩
  have hB1 : Below w.heap.size w W1 := by rw [hW1]; exact Below.al (Below.al (Below.refl _ _) _) _
  have HP : Hid (Blk W1 w.heap.size 51 #[.slice A p.length cp]) := Lib.hid (by rw [hW1]; exact (Blk.new _ _ _).alloc _)
  have HY : Hid (Blk W1 (w.heap.size + 1) 74 #[.int .i64 y.args, .int .i64 y.size, .slice Ao y.off.length co]) := Lib.hid (by rw [hW1]; exact Blk.newAt (by simp))
  have hf1 := hf.keep (Kp.of_below hB1 hh)
  have hhi : hi ≤ W1.heap.size := Nat.le_trans hh hB1.size
  have hhi' : hi' ≤ W1.heap.size := Nat.le_trans hh' hB1.size
  have HF1 := Lib.hid hf1
  have HIX := Lib.hid (hy.keep (Kp.of_below hB1 hh'))
  have HBL := Lib.hid (baseline_any A p cp k m al ha hk hp W1 lo hi hf1 hhi hm)
  obtain ⟨ad, As, cs, Ai, ci, rfl, hb1, p0, p1, p2, p1', p2', sx, nx, ⟨sm, -⟩, nm, -⟩ := hf1.whole hk
  obtain ⟨f, hfe⟩ : ∃ f, f = p.getD k Fn.z := ⟨_, rfl⟩
  have HAR := Lib.hid (fun W h => args_any (some ad) p cp k m hk hp W lo hi h)
  rw [← hfe] at p0 p1 p2 p1' p2' sx nx nm sm hok n0 n1 n2 n3 n4 n5 n6 hoff hyl hya hyo hye HAR
  rw [← hfe, ← hye] at HIX HBL ⊢
  rw [← hye] at n4 n5 n6 hoff hyl hya hyo
  have HSX := Lib.hid sx
  have hsl := hok.2.2.2.1
  have hsl6 := hok.2.2.1
  have HSL := Lib.hid hsl
  have HOF := Lib.hid hoff
  have HB1 := Lib.hid hB1
  have HW1 := Lib.hid hW1
  have HYL := Lib.hid hyl
  obtain ⟨ag, hag⟩ : ∃ ag, ag = argsI p f := ⟨_, rfl⟩
  rw [← hag] at HAR hya n0 n1 n2 n3 HOF
  have HYA := Lib.hid hya
  have hpi : (p.length : Int) ≤ 9223372036854775807 := by unfold maxLen at hm; omega
  have hk0 : (0 : Int) ≤ (k : Int) := by omega
  have hk1 : (k : Int) < (p.length : Int) := by omega
  have hes : endS ag f.slots ≤ y.size := by rw [hag]; exact n4
  have hyle : ag ≤ y.size := by omega
  clear hW1 hB1 hf hf1 sx nx hfe hok hy hye hoff hsl hag p0 p2 p2'
  obtain ⟨ya, ys, yo⟩ := y
  simp only at HIX HBL HY HYL HYA HW1 HOF hes hyle n5 n6 ⊢
  obtain ⟨l, hl⟩ : ∃ l, l = yo.length := ⟨_, rfl⟩
  have HLL : Hid (l = yo.length) := Lib.hid hl
  have HLS : Hid (l = f.slots.length) := Lib.hid (hl.trans HYL.out)
  rw [← hl] at HY HW1 ⊢
  have hya2 := HYA.out.symm
  subst hya2
  clear hl hya hyl hyo
  have hli : (l : Int) ≤ 9223372036854775807 := by have := HLS.out; omega
  have hl6 : l ≤ 6 := by have := HLS.out; omega
  obtain ⟨x0, -, xz⟩ := blk_one HP.out
  go_enter Try.func30, Try.ntmps30
  go_upto_region 1 with (fail)
  rw [← HW1.out]
  clear HW1
  go_wp2_with fail
  refine HBL.out.mono ?_
  rintro e w2 ⟨Ab, cb, rfl, -, -, -, bel⟩
  simp only
  have HB2 : Hid (Below w.heap.size w w2) := Lib.hid (HB1.out.trans (bel.mono HB1.out.size))
  have HK2 : Hid (Kp 0 W1.heap.size W1 w2) := Lib.hid (Kp.of_below bel (Nat.le_refl _))
  have hz2 := bel.size
  have hgY : w.heap.size + 1 < W1.heap.size := HY.out.lt
  have q1 := (bel.cell (cell_lt p1)).trans p1
  have q1' := (bel.cell (cell_lt p1')).trans p1'
  clear bel x0 xz HBL p1 p1'
  go_upto_region 2 with (fail)
  obtain ⟨W3, hW3⟩ : ∃ W3, W3 = w2.alloc (.cells #[.int .i64 ag, .int .i64 ys, .slice Ab yo.length cb] 74) := ⟨_, rfl⟩
  rw [← hW3]
  have hb3 : Below w2.heap.size w2 W3 := by rw [hW3]; exact Below.al (Below.refl _ _) _
  have HB3 : Hid (Below w.heap.size w W3) := Lib.hid (HB2.out.trans (hb3.mono HB2.out.size))
  have HK3 : Hid (Kp 0 W1.heap.size W1 W3) := Lib.hid (HK2.out.trans (Kp.of_below hb3 hz2))
  have HKB : Hid (Blk W3 w2.heap.size 74 #[.int .i64 ag, .int .i64 ys, .slice Ab yo.length cb]) := Lib.hid (by rw [hW3]; exact Blk.new _ _ _)
  have hzb := HKB.out.lt
  have HP3 : Hid (Blk W3 w.heap.size 51 #[.slice (some ad) p.length cp]) := Lib.hid (Blk.kp HP.out HK3.out (Nat.zero_le _) (by omega))
  have HY3 : Hid (Blk W3 (w.heap.size + 1) 74 #[.int .i64 ag, .int .i64 ys, .slice Ao l co]) := Lib.hid (Blk.kp HY.out HK3.out (Nat.zero_le _) hgY)
  have HF3 : Hid (Fx W3 lo hi (some ad) p) := Lib.hid (HF1.out.keep (Kp.less HK3.out (Nat.zero_le _) hhi))
  have HSX3 : Hid (Sx W3 lo hi As f.slots) := Lib.hid (HSX.out.keep (Kp.less HK3.out (Nat.zero_le _) hhi))
  have HIX3 : Hid (Ix W3 lo' hi' Ao yo) := Lib.hid (HIX.out.keep (Kp.less HK3.out (Nat.zero_le _) hhi'))
  have hh3 : hi ≤ W3.heap.size := by omega
  have hh3' : hi' ≤ W3.heap.size := by omega
  have r1 := (hb3.cell (cell_lt q1)).trans q1
  have r1' := (hb3.cell (cell_lt q1')).trans q1'
  clear hW3 hb3 HP HY HF1 HSX HIX HB1 HB2 HK2 HK3 q1 q1' hzb
  generalize w2.heap.size = gB at *
  obtain ⟨x0, -, xz⟩ := blk_one HP3.out
  obtain ⟨y0, y1, y2, -, -, -, yz⟩ := HY3.out.c3
  go_upto_region 5 with (fail)
  clear r1 r1'
  have hd3 : Below W3.heap.size W3 W3.drew := (Below.refl _ _).drew
  have HAC := Lib.hid (HAR.out W3.drew (HF3.out.keep (Kp.of_below hd3 hh3)) hh3 hm)
  have HS5 : Hid (∀ W, Below W3.heap.size W3 W → W.cell? ⟨w.heap.size, 0, none⟩ = some (.slice (some ad) p.length cp) ∧ W.cell? ⟨w.heap.size + 1, 0, none⟩ = some (.int .i64 ag) ∧ W.cell? ⟨w.heap.size + 1, 2, none⟩ = some (.slice Ao l co)) := Lib.hid (fun W hW => ⟨(hW.cell xz).trans x0, (hW.cell yz).trans y0, (hW.cell yz).trans y2⟩)
  have BEL0 := Lib.hid hd3
  have hlsi : (f.slots.length : Int) = (l : Int) := by have := HLS.out; omega
  clear hd3
  go_region_held3 (fun W => W.cell? ⟨w.heap.size, 0, none⟩ = some (.slice (some ad) p.length cp) ∧ W.cell? ⟨w.heap.size + 1, 0, none⟩ = some (.int .i64 ag) ∧ W.cell? ⟨w.heap.size + 1, 2, none⟩ = some (.slice Ao l co))
    (first | exact HS5.out _ BEL0.out | exact HS5.out _ BEL1.out)
    ((go_at_call 44
      refine HAC.out.mono ?_
      rintro e w5 ⟨rfl, bel5⟩
      have BEL1 : Hid (Below W3.heap.size W3 w5) := Lib.hid (BEL0.out.trans bel5)
      clear bel5))
  have HB5 : Hid (Below W3.heap.size W3 w5) := BEL1
  clear BEL0 BEL1 HS5 HAC hlsi x0 xz y0 y1 y2 yz
  go_wp2
  have hsi : (f.slots.length : Int) ≤ 9223372036854775807 := by have := HLS.out; omega
  go_loopw [12] (fun v wr => ∃ (j : Nat), j ≤ f.slots.length ∧ v = .int .i64 j ∧ Hid (Below W3.heap.size W3 wr)) (fun v _ => f.slots.length - (intOf v).toNat)
  case atStart => exact ⟨0, by omega, rfl, HB5⟩
  case round =>
    obtain ⟨j, hj, rfl, HB⟩ := hrel
    have hj0 : (0 : Int) ≤ (j : Int) := by omega
    have hszr := HB.out.size
    obtain ⟨y0, y1, y2, -, -, -, yz⟩ := (HY3.out.after HB.out).c3
    by_cases hlt : j < f.slots.length
    · have hji : (j : Int) < (f.slots.length : Int) := by omega
      have hjl : (j : Int) < (l : Int) := by have := HLS.out; omega
      obtain ⟨a1, rfl, hbl, c0, c1⟩ := (HSX3.out.keep (Kp.of_below HB.out hh3)).at_ hlt
      have c1w := c1
      rw [add_pos _ 1 (by omega)] at c1w
      obtain ⟨ao, rfl, hbo, o0, o0'⟩ := (HIX3.out.keep (Kp.of_below HB.out hh3')).at_ (show j < yo.length by have := HLL.out; have := HLS.out; omega)
      have hso := slot_nums (HSL.out _ (getD_mem' (z := (0, 0)) hlt))
      obtain ⟨g0, g1, g2⟩ := HOF.out j hlt
      obtain ⟨s, hs⟩ : ∃ s, s = f.slots.getD j (0, 0) := ⟨_, rfl⟩
      obtain ⟨o, ho⟩ : ∃ o, o = yo.getD j 0 := ⟨_, rfl⟩
      rw [← hs] at c0 c1 c1w hso g1 g2
      rw [← ho] at o0 o0' g0 g1 g2
      obtain ⟨sz, sa⟩ := s
      simp only at c0 c1 c1w hso g1 g2
      obtain ⟨s1, s2, s3, s4⟩ := hso
      have hc1 : decide (o < ag) = false := by rw [decide_eq_false_iff_not]; omega
      have hm : o.tmod sa = 0 := by rw [Int.tmod_eq_emod_of_nonneg (by omega)]; exact g2
      have hsab : (sa == 0) = false := by rw [beq_eq_false_iff_ne]; omega
      have hsan : ¬ sa = 0 := by omega
      have HIN : Hid (∀ W, Calls Try.prog 46 #[.agg #[.int .i64 o, .int .i64 sz], .int .i64 ys] W fun e w' => e = .returned (.bool true) ∧ Below W.heap.size W w') := Lib.hid (fun W => (insB_ok (o := o) (s := sz) (size := ys) (by omega) (by omega) (by omega) (by omega)) ▸ inside03_any o sz ys W)
      have hbl2 : (a1.add (j * 2)).block < wr.heap.size := by rw [block_of_add]; omega
      have hbo2 : (ao.add j).block < wr.heap.size := by rw [block_of_add]; omega
      have hbo3 : (ao.add (j * 1)).block < wr.heap.size := by rw [block_of_add]; omega
      have HS : Hid (∀ W, Below wr.heap.size wr W → (W.cell? ⟨w.heap.size + 1, 0, none⟩ = some (.int .i64 ag) ∧ W.cell? ⟨w.heap.size + 1, 1, none⟩ = some (.int .i64 ys) ∧ W.cell? ⟨w.heap.size + 1, 2, none⟩ = some (.slice (some ao) l co)) ∧ (W.cell? (ao.add (j * 1)) = some (.int .i64 o) ∧ W.cell? (ao.add j) = some (.int .i64 o)) ∧ W.cell? (a1.add (j * 2)) = some (.int .i64 sz) ∧ W.cell? ((a1.add (j * 2)).add 1) = some (.int .i64 sa) ∧ W.cell? ⟨(a1.add (j * 2)).block, (a1.add (j * 2)).off + 1, none⟩ = some (.int .i64 sa)) := Lib.hid (fun W hW => ⟨⟨(hW.cell yz).trans y0, (hW.cell yz).trans y1, (hW.cell yz).trans y2⟩, ⟨(hW.cell hbo3).trans o0, (hW.cell hbo2).trans o0'⟩, (hW.cell hbl2).trans c0, (hW.cell (p := (a1.add (j * 2)).add 1) (by rw [block_of_add]; exact hbl2)).trans c1, (hW.cell (p := ⟨(a1.add (j * 2)).block, (a1.add (j * 2)).off + 1, none⟩) hbl2).trans c1w⟩)
      have BEL0 : Hid (Below wr.heap.size wr wr.drew) := Lib.hid (Below.refl _ _).drew
      have hwr : IntKind.i64.wrap (sz) = sz := by unfold IntKind.wrap; simp [IntKind.bits, IntKind.signed]; omega
      clear hs ho g2 hwr hbl2 hbo2 hbo3
      go_wp2_with fail
      go_region_held3 (fun W => (W.cell? ⟨w.heap.size + 1, 0, none⟩ = some (.int .i64 ag) ∧ W.cell? ⟨w.heap.size + 1, 1, none⟩ = some (.int .i64 ys) ∧ W.cell? ⟨w.heap.size + 1, 2, none⟩ = some (.slice (some ao) l co)) ∧ (W.cell? (ao.add (j * 1)) = some (.int .i64 o) ∧ W.cell? (ao.add j) = some (.int .i64 o)) ∧ W.cell? (a1.add (j * 2)) = some (.int .i64 sz) ∧ W.cell? ((a1.add (j * 2)).add 1) = some (.int .i64 sa) ∧ W.cell? ⟨(a1.add (j * 2)).block, (a1.add (j * 2)).off + 1, none⟩ = some (.int .i64 sa))
        (first | exact HS.out _ BEL0.out | exact HS.out _ BEL1.out)
        ((go_at_call 46
          refine (HIN.out _).mono ?_
          rintro e w5 ⟨rfl, bel5⟩
          have BEL1 : Hid (Below wr.heap.size wr w5) := Lib.hid (BEL0.out.trans bel5)
          clear bel5))
      have HBn : Hid (Below W3.heap.size W3 w5) := Lib.hid (HB.out.trans (BEL1.out.mono hszr))
      clear HS HIN BEL0 BEL1 y0 y1 y2 yz c0 c1 c1w o0 o0'
      go_wp2
      go_roundw
      case rel => exact ⟨j + 1, by omega, by go_num, HBn⟩
      case measure => simp [intOf]; omega
    · obtain rfl : j = f.slots.length := by omega
      obtain ⟨b0, b1, b2, -, -, -, bz⟩ := (HKB.out.after HB.out).c3
      have hm : ys.tmod al = 0 := by rw [Int.tmod_eq_emod_of_nonneg (by omega)]; exact n6
      have hab : (al == 0) = false := by rw [beq_eq_false_iff_ne]; omega
      have han : ¬ al = 0 := by omega
      have hc1 : decide (ys < ag) = false := by rw [decide_eq_false_iff_not]; omega
      have HFI : Hid (Below w.heap.size w wr) := Lib.hid (HB3.out.trans (HB.out.mono HB3.out.size))
      clear HB
      go_wp2
      go_ret
      exact ⟨rfl, HFI.out⟩
end Go.Proofs.Ytmeoabpigibaoaa.pm
