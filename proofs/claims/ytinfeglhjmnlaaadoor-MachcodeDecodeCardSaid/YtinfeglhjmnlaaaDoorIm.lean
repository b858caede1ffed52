/- Bytes of targets: the reference's Decode where length, first bytes and checksum are right. Printed by mkim.py. -/
import Derived.Test.YtinfeglhjmnlaaaDoorIl
import Derived.Test.YtinfeglhjmnlaaaDoorIn
import Derived.Test.YtinfeglhjmnlaaaDoorGKy
import Derived.Test.YtinfeglhjmnlaaaDoorIc
import Derived.Deep.RegionLaw
import Derived.Deep.DrawnRows
namespace Go.Proofs.YtinfeglhjmnlaaaDoor.pm
open Go.RowKit
set_option linter.unusedVariables false
set_option maxRecDepth 10000

theorem hI {p : Prop} (h : p) : Hid p := Lib.hid h
structure DQ (g2 g6 lo : Nat) (al : Int) (ts : List Fr) (o : Value) (vs : List Value) (w W : World) : Prop where
 f : Blk W g2 29 #[.int .i64 0, .slice none 0 0]
 x : Blk W g6 29 #[.int .i64 al, o]
 ow : W.ownsRow lo 61 3 o ts.length vs
 wx : Wx W lo W.heap.size vs ts
 one : ∀ u ∈ vs, u.oneCell' = true
 bel : Below w.heap.size w W
theorem inV_one6 (l : List Ins) : ∀ u ∈ inV l, u.oneCell' = true := by
 intro u hu
 unfold inV at hu
 obtain ⟨x, -, hx⟩ := List.mem_flatMap.1 hu
 simp only [icells, List.mem_cons, List.not_mem_nil, or_false] at hx
 rcases hx with rfl | rfl | rfl | rfl | rfl <;> rfl
section
variable {gr g2 g6 lo : Nat} {al : Int} {ts : List Fr} {o : Value} {vs : List Value} {w W W' : World}
theorem wx_keep {lo hi : Nat} {ts : List Fr} {vs : List Value} {W W' : World} (h : Wx W lo hi vs ts) (hk : Kp lo hi W W') : Wx W' lo hi vs ts := fun i hi' => by
 obtain ⟨a, b, c, d, e, f, g⟩ := h i hi'
 exact ⟨a, b, c, d, e, f.keep hk, g⟩
theorem DQ.grown (h : DQ g2 g6 lo al ts o vs w W) (hg : W.grownBy W' (some gr)) (h2 : g2 < gr) (h6 : gr < g6) (hl : gr < lo) (hw : w.heap.size ≤ gr) : DQ g2 g6 lo al ts o vs w W' :=
 ⟨h.f.grown hg (by intro h; injection h with h; omega), h.x.grown hg (by intro h; injection h with h; omega), h.ow.kept hg (by
  rcases hq : o.ownBlock with _ | k
  · exact .inl rfl
  · right
    intro e
    injection e with e
    have := h.ow.lt k hq
    omega), (wx_keep h.wx (Kp.of_grown hg (Nat.le_refl _) (.inl hl))).more (Nat.le_refl _) hg.size, h.one, h.bel.trans (below_of_grown hg hw h.bel.size)⟩
theorem DQ.after (h : DQ g2 g6 lo al ts o vs w W) (hb : Below W.heap.size W W') : DQ g2 g6 lo al ts o vs w W' :=
 ⟨h.f.after hb, h.x.after hb, own_keep h.ow hb (Nat.le_refl _), (wx_keep h.wx (Kp.of_below hb (Nat.le_refl _))).more (Nat.le_refl _) hb.size, h.one, h.bel.trans (hb.mono h.bel.size)⟩
theorem DQ.copy (h : DQ g2 g6 lo al ts o vs w W) {f : Fr} {V : Option Addr} {cc : Nat} {v' : Value} (hn : Nx W lo W.heap.size V f.code) (hc : f.code.length ≤ cc) (hm : f.code.length ≤ maxLen) (hw6 : w.heap.size ≤ g6) (h26 : g2 ≠ g6) (hlo : lo ≤ W.heap.size) (h6l : g6 < lo)
 (hb : Below W.heap.size W W') (hown : W'.ownsRow W.heap.size 61 3 v' (ts.length + 1) (vs ++ [.int .i64 f.params, .int .i64 f.size, .slice V f.code.length cc])) : DQ g2 g6 lo al (ts ++ [f]) v' (vs ++ [.int .i64 f.params, .int .i64 f.size, .slice V f.code.length cc]) w (W'.setCell ⟨g6, 1, none⟩ v') := by
 have hvl : vs.length = ts.length * 3 := h.ow.1
 have hk0 : Kp lo W.heap.size W W' := Kp.of_below hb (Nat.le_refl _)
 have h1 := wx_keep h.wx hk0
 have h2 : Nx W' lo W.heap.size V f.code := hn.keep hk0
 have h3 := (h1.snoc hvl h2 ⟨hm, hc⟩).more (Nat.le_refl _) hb.size
 have hk : Kp lo W'.heap.size W' (W'.setCell ⟨g6, 1, none⟩ v') := fun k hk _ => Below.heap_setCell W' _ _ k (by simp; omega)
 have h4 := wx_keep h3 hk
 have hl1 : (ts ++ [f]).length = ts.length + 1 := by simp
 have hown2 : W'.ownsRow lo 61 3 v' (ts ++ [f]).length (vs ++ [.int .i64 f.params, .int .i64 f.size, .slice V f.code.length cc]) := by rw [hl1]; exact own_less hown hlo
 exact ⟨(h.f.after hb).far (by simpa using h26) _, (h.x.after hb).set_ 1 _, own_off (i := 1) hown2 (h.x.after hb) (by decide) v', h4.more (Nat.le_refl _) (by simp), fun u hu => (List.mem_append.1 hu).elim (h.one u) (fun h => by simp only [List.mem_cons, List.not_mem_nil, or_false] at h; rcases h with rfl | rfl | rfl <;> rfl), (h.bel.trans (hb.mono h.bel.size)).setCell (p := ⟨g6, 1, none⟩) hw6 _⟩
end

set_option maxHeartbeats 4000000 in
theorem refdec_ok (A : Option Addr) (n c : Nat) (l : List Nat) (w : World) (hT : Dt w) (hb : Bs w w.heap.size A n l) (hn1 : n ≤ 1048576) (hn2 : 10 ≤ n) (hc : n ≤ c) (hcm : c ≤ maxLen) (hmg : l.take 4 = mgT) (hcb : crcB l = true) :
 Calls Tryd.prog 18 #[.slice A n c] w (DcD l w) := by
 have hln := hb.len
 obtain ⟨W1, hW1⟩ : ∃ W1, W1 = w.alloc (.cells #[.int .i64 0, .slice none 0 0] 29) := ⟨_, rfl⟩
 have hB1 : Below w.heap.size w W1 := by rw [hW1]; exact (Below.refl _ _).alloc (Nat.le_refl _) _
 have HKT : Hid (Blk W1 w.heap.size 29 #[.int .i64 0, .slice none 0 0]) := hI (by rw [hW1]; exact Blk.new _ _ _)
 have HB1 := hI hB1
 have HW1 := hI hW1
 have HBS := hI hb
 have HT := hI hT
 have HLN := hI hln
 have hb1 := hb.below hB1
 have hcv : ∀ c', (convert 22 9 (.slice A 4 c')).run Tryd.prog W1 = .ok (.string { data := #[70, 82, 77, 49] }) W1 := fun c' => by
  have := conv_take (c := c') hb1 4 (by omega) (by decide)
  rw [hmg] at this
  exact this
 have HC := hI (crcis_any A n c l W1 w.heap.size hb1 (by omega) hc hcm)
 rw [hcb] at HC
 have h4c : (4 : Int) ≤ (c : Int) := by omega
 have h4c' : 4 ≤ c := by omega
 obtain ⟨k, hk⟩ : ∃ k, n = k + 4 := ⟨n - 4, by omega⟩
 have hki : (k : Int) ≤ 1048572 := by omega
 have hki0 : (6 : Int) ≤ (k : Int) := by omega
 have hni : (n : Int) = (k : Int) + 4 := by omega
 obtain ⟨xn, hxn⟩ : ∃ x : Int, (n : Int) = x := ⟨_, rfl⟩
 have hx1 : ¬ (1048576 : Int) < xn := by omega
 have hx2 : ¬ xn < 10 := by omega
 have hx3 : IntKind.i64.wrap (xn - 4) = (k : Int) := by rw [IntWalk.i64_in _ (by omega)]; omega
 have hci : (k : Int) ≤ (c : Int) := by omega
 have hcc : (c : Int) ≤ 9223372036854775807 := by unfold maxLen at hcm; omega
 have hkn : k ≤ c := by omega
 have HK := hI hk
 have HN1 : Hid (n ≤ 1048576 ∧ 10 ≤ n) := hI ⟨hn1, hn2⟩
 clear hW1 hB1 hb hT hln hk hni hn1 hn2 hmg hcb hb1
 have HKB : Hid (k ≤ 1999000) := hI (by have := HK.out; have := hki; omega)
 go_enter Tryd.func18, Tryd.ntmps18
 go_upto_region 1 with (fail)
 rw [← HW1.out]
 go_upto_region 8 with (go_at_call 49; refine HC.out.mono ?_; rintro e w2 ⟨rfl, rfl⟩)
 clear hcv HC h4c h4c'
 obtain ⟨W2, hW2⟩ : ∃ W2, W2 = W1.alloc (.cells #[.slice A k c, .int .i64 4, .bool true] 85) := ⟨_, rfl⟩
 obtain ⟨gr, hgr⟩ : ∃ g, g = W1.heap.size := ⟨_, rfl⟩
 obtain ⟨g2, hg2⟩ : ∃ g, g = w.heap.size := ⟨_, rfl⟩
 rw [← hW2, ← hgr, ← hg2]
 have hb2 : Below W1.heap.size W1 W2 := by rw [hW2]; exact (Below.refl _ _).alloc (Nat.le_refl _) _
 have HK2 : Hid (Blk W2 gr 85 #[.slice A k c, .int .i64 ((4 : Nat) : Int), .bool true]) := hI (by rw [hW2, hgr]; exact Blk.new _ _ _)
 have HT2 : Hid (Blk W2 g2 29 #[.int .i64 0, .slice none 0 0]) := hI (by rw [hg2]; exact HKT.out.after hb2)
 have HB2 := hI (HB1.out.trans (hb2.mono HB1.out.size))
 have HBK : Hid (∀ W, Below w.heap.size w W → Bs W w.heap.size A k (l.take k)) := hI (fun W h => (HBS.out.below h).take (by have := HK.out; omega))
 have hgg : g2 < gr := by rw [hg2, hgr]; exact HKT.out.lt
 have hwg : w.heap.size ≤ g2 := by omega
 obtain ⟨lk, hlk⟩ : ∃ x, x = l.take k := ⟨_, rfl⟩
 rw [← hlk] at HBK
 have HLK := hI hlk
 have HU := hI (number11 gr w.heap.size A k c lk 24 4 true W2 HK2.out (HBK.out _ HB2.out) (by have := HKB.out; omega) (by decide) (by decide))
 obtain ⟨v1, p1, b1, he1⟩ : ∃ v p b, upPQ lk 24 4 true = (v, p, b) := ⟨_, _, _, rfl⟩
 have hv1 : v1 ≤ 24 := by have := upP_leQ lk 24 4 true; rw [he1] at this; exact this
 have hp1 : p1 ≤ 1999999 := by have := up_posQ (l := lk) (lim := 24) (b := true) (show 4 ≤ 1999999 by decide) (by have := (HBK.out _ HB2.out).len; have := HKB.out; omega); rw [he1] at this; exact this
 rw [he1] at HU
 have HE1 := hI he1
 have HLK1 : Hid (lk.length ≤ 1999999) := hI (by have := (HBK.out _ HB2.out).len; have := HKB.out; omega)
 clear hW2 hgr hg2 hb2 hlk he1 hki hki0 hxn hx3 hci hcc hkn hx1 hx2
 go_wp2_with fail
 refine HU.out.mono ?_
 rintro e w3 ⟨rfl, hk3, hg3⟩
 simp only at hk3 ⊢
 obtain ⟨al, hal⟩ : ∃ al : Int, al = ((2 ^ v1 : Nat) : Int) := ⟨_, rfl⟩
 have hal24 : 1 ≤ al ∧ al ≤ 16777216 := by
  have h1 := Nat.two_pow_pos v1
  have h2 : 2 ^ v1 ≤ 2 ^ 24 := Nat.pow_le_pow_right (by decide) hv1
  have h3 : (2 : Nat) ^ 24 = 16777216 := by decide
  omega
 have hsh : wrap64 ((2 : Int) ^ v1) = al := by
  have h1 : ((2 : Int) ^ v1) = al := by rw [hal]; push_cast; rfl
  rw [h1]
  exact IntWalk.wrap64_in _ ⟨by omega, by omega⟩
 have HAL := hI hal
 have HA24 := hI hal24
 have HV1 := hI hv1
 clear hal hal24
 go_upto_region 9 with (fail)
 obtain ⟨W4, hW4⟩ : ∃ W4, W4 = w3.alloc (.cells #[.int .i64 al, .slice none 0 0] 29) := ⟨_, rfl⟩
 obtain ⟨g6, hg6⟩ : ∃ g, g = w3.heap.size := ⟨_, rfl⟩
 rw [← hW4, ← hg6]
 have hbl3 : Below w.heap.size w w3 := HB2.out.trans (below_of_grown hg3 (by omega) HB2.out.size)
 have hb4 : Below w3.heap.size w3 W4 := by rw [hW4]; exact (Below.refl _ _).alloc (Nat.le_refl _) _
 have HB4 := hI (hbl3.trans (hb4.mono hbl3.size))
 have HK4 := hI (hk3.after hb4)
 have HT4 := hI ((HT2.out.grown hg3 (by intro h; injection h with h; omega)).after hb4)
 have HX4 : Hid (Blk W4 g6 29 #[.int .i64 al, .slice none 0 0]) := hI (by rw [hW4, hg6]; exact Blk.new _ _ _)
 have hr6 : gr < g6 := by rw [hg6]; exact hk3.lt
 have hsz4 : W4.heap.size = g6 + 1 := by rw [hW4, hg6]; simp
 clear hW4 hg6 hb4 hbl3 hk3 hg3 hsh HT2 HK2 HU hv1
 have HU2 := hI (number11 gr w.heap.size A k c lk 2147483647 p1 b1 W4 HK4.out (HBK.out _ HB4.out) (by have := HKB.out; omega) (by omega) (by decide))
 obtain ⟨v2, p2, b2, he2⟩ : ∃ v p b, upPQ lk 2147483647 p1 b1 = (v, p, b) := ⟨_, _, _, rfl⟩
 have hp2 : p2 ≤ 1999999 := by have := up_posQ (l := lk) (lim := 2147483647) (b := b1) hp1 HLK1.out; rw [he2] at this; exact this
 have hv2 : v2 ≤ 2147483647 := by have := upP_leQ lk 2147483647 p1 b1; rw [he2] at this; exact this
 rw [he2] at HU2
 have HE2 := hI he2
 clear he2
 go_wp2_with fail
 refine HU2.out.mono ?_
 rintro e w5 ⟨rfl, hk5, hg5⟩
 simp only at hk5 ⊢
 have HK5 := hI hk5
 have HT5 := hI (HT4.out.grown hg5 (by intro h; injection h with h; omega))
 have HX5 := hI (HX4.out.grown hg5 (by intro h; injection h with h; omega))
 have HB5 := hI (HB4.out.trans (below_of_grown hg5 (by omega) HB4.out.size))
 clear hk5 hg5 HU2 HK4 HT4 HX4 HB4
 have HU3 := hI (number11 gr w.heap.size A k c lk 80 p2 b2 w5 HK5.out (HBK.out _ HB5.out) (by have := HKB.out; omega) (by omega) (by decide))
 obtain ⟨N, p3, b3, he3⟩ : ∃ v p b, upPQ lk 80 p2 b2 = (v, p, b) := ⟨_, _, _, rfl⟩
 have hp3 : p3 ≤ 1999999 := by have := up_posQ (l := lk) (lim := 80) (b := b2) hp2 HLK1.out; rw [he3] at this; exact this
 have hN : N ≤ 80 := by have := upP_leQ lk 80 p2 b2; rw [he3] at this; exact this
 rw [he3] at HU3
 have HTG : Hid (targPQ lk = (al, (v2 : Int), (framesPQ lk al N p3 b3).1, (framesPQ lk al N p3 b3).2.2)) := hI (by
  unfold targPQ
  have h2 : upPQ lk M31 p1 b1 = (v2, p2, b2) := HE2.out
  simp only [HE1.out, h2, he3, ← HAL.out])
 have HNU := hI (fun (W : World) (lim q : Nat) (b : Bool) (h : Blk W gr 85 #[.slice A k c, .int .i64 (q : Int), .bool b]) (hg : Below w.heap.size w W) (hq : q ≤ 2000000) (hl : lim ≤ 2147483647) => number11 gr w.heap.size A k c lk lim q b W h (HBK.out _ hg) (by have := HKB.out; omega) hq hl)
 have HIN := hI (fun (W : World) (q : Nat) (b : Bool) (h : Blk W gr 85 #[.slice A k c, .int .i64 (q : Int), .bool b]) (hg : Below w.heap.size w W) (hq : q < 2000000) => instr11 gr w.heap.size A k c lk q b W h (HBK.out _ hg) (by have := (show w.heap.size ≤ g2 from hwg); omega) (by have := HKB.out; omega) hq)
 clear he3
 go_wp2_with fail
 refine HU3.out.mono ?_
 rintro e w6 ⟨rfl, hk6, hg6'⟩
 simp only at hk6 ⊢
 have HK6 := hI hk6
 have HT6 := hI (HT5.out.grown hg6' (by intro h; injection h with h; omega))
 have HX6 := hI (HX5.out.grown hg6' (by intro h; injection h with h; omega))
 have HB6 := hI (HB5.out.trans (below_of_grown hg6' (by omega) HB5.out.size))
 clear hk6 hg6' HU3 HK5 HT5 HX5 HB5
 go_upto_region 11 with (fail)
 obtain ⟨lo, hlo⟩ : ∃ lo, lo = w6.heap.size := ⟨_, rfl⟩
 have hl6 : g6 < lo := by rw [hlo]; exact HX6.out.lt
 have hwl : w.heap.size ≤ lo := by omega
 have HD6 : Hid (DQ g2 g6 lo al [] (.slice none 0 0) [] w w6) := hI ⟨HT6.out, HX6.out, World.ownsRow_nil _ _ _ _, (fun i hi => by cases hi), (fun u hu => by cases hu), HB6.out⟩
 obtain ⟨i0, hi0, hz0, hz1, hz2⟩ := info_parts info_frm
 obtain ⟨i1, hi1, hy0, hy1, hy2⟩ := info_parts info_ins
 have hlow : lo ≤ w6.heap.size := by omega
 clear hlo HT6 HX6 HB6 hsz4 hp1 hp2
 go_loopw [8] (fun x wr => ∃ (m q : Nat) (b' : Bool) (ts : List Fr) (o : Value) (vs : List Value), x = .int .i64 (m : Int) ∧ q ≤ 1999999 ∧ lo ≤ wr.heap.size ∧ Hid (ts.length + m ≤ 80) ∧ Hid (framesPQ lk al N p3 b3 = (ts ++ (framesPQ lk al m q b').1, (framesPQ lk al m q b').2)) ∧ Hid (Blk wr gr 85 #[.slice A k c, .int .i64 (q : Int), .bool b']) ∧
  Hid (DQ g2 g6 lo al ts o vs w wr) ∧ Hid (RgT al ts ∧ ∀ f ∈ ts, f.code.length ≤ 1024)) (fun x _ => (intOf x).toNat)
 case atStart => exact ⟨N, p3, b3, [], .slice none 0 0, [], rfl, hp3, hlow, hI (by simpa using hN), hI (by simp), HK6, HD6, hI ⟨⟨⟨by have := HA24.out; unfold I64; omega, fun f hf => by cases hf⟩, fun f hf => by cases hf⟩, fun f hf => by cases hf⟩⟩
 case round =>
  obtain ⟨m, q, b', ts, o, vs, rfl, hq, hlr, HM, HCO, HKr, HDr, HRg⟩ := hrel
  have hm80 : (m : Int) ≤ 80 := by have := HM.out; omega
  obtain ⟨r0, r1, r2, rf0, rf1, rf2, rz⟩ := HKr.out.c3
  obtain ⟨x0, x1, y0, y1, xz⟩ := HDr.out.x.c2
  clear HK6 HD6 hlow hp3 hN
  by_cases hend : m = 0 ∨ b' = false
  · have HE : Hid (framesPQ lk al N p3 b3 = (ts, q, b')) := hI (by rw [HCO.out, frames_stopQ _ _ _ _ _ hend]; simp)
    have HDEC : Hid (decT false l = if b' = true ∧ encE al (v2 : Int) ts = 0 ∧ encB al (v2 : Int) ts = l then some (al, (v2 : Int), ts) else none) := hI (by
     rw [← decT_st (HBS.out.2)]
     exact dec_ofQ (k := k) (by rw [HLN.out, HK.out]) (by have := HN1.out; have := HLN.out; omega) (by have := HN1.out; have := HLN.out; omega) (by rw [← HLK.out, HTG.out, HE.out]))
    obtain ⟨V, cc, hov, hm1⟩ := own_form HDr.out.ow
    subst hov
    have HGX : Hid (Gx wr lo wr.heap.size V ts) := hI ⟨vs, Rx.of_own HDr.out.ow, HDr.out.wx⟩
    have HEN := hI (refenc_any (ct := cc) HRg.out.1 (bd := (v2 : Int)) (by unfold I64; omega) wr HGX.out (Nat.le_refl _) hm1)
    have HTL : Hid (ts.length ≤ cc ∧ ts.length ≤ 80) := hI ⟨(own_cap HDr.out.ow).2, by have := HM.out; omega⟩
    have HEQ := hI (fun (W : World) (V7 : Option Addr) (c7 : Nat) (h : W.ownsRow wr.heap.size 5 1 (.slice V7 (encB al (v2 : Int) ts).length c7) (encB al (v2 : Int) ts).length (nb (encB al (v2 : Int) ts))) (hb : Below w.heap.size w W) (hz : w.heap.size ≤ W.heap.size) => same_bytes V7 A _ c7 n c (encB al (v2 : Int) ts) l W W.heap.size ⟨Reads.of_own h, encB_bytes' HRg.out.1⟩ ((HBS.out.below hb).more hz) (by obtain ⟨_, _, _, hmm⟩ := own_form h; exact hmm) (by unfold maxLen; have := HN1.out; omega))
    have HDL : Hid (l.length ≤ 1048576 ∧ 10 ≤ l.length) := hI (by have := HLN.out; have := HN1.out; omega)
    have HFW := hI HDr.out.f
    have HZE : Hid (∀ W, Below w.heap.size w W → decT false l = none → DcD l w (.returned (.tuple #[.agg #[.int .i64 0, .slice none 0 0], .int .i64 0, .int .i64 2])) ((W.setCell ⟨g2, 0, none⟩ (.int .i64 0)).setCell ⟨g2, 1, none⟩ (.slice none 0 0))) := hI (fun W hW h =>
     DcD.err (decE_none HDL.out.1 HDL.out.2 h) (by decide) ((hW.setCell (p := ⟨g2, 0, none⟩) hwg _).setCell (p := ⟨g2, 1, none⟩) hwg _))
    have HZB := hI (fun (W : World) (h : Blk W g2 29 #[.int .i64 0, .slice none 0 0]) => blk_put2 h (.int .i64 0) (.slice none 0 0))
    have HBW := hI HDr.out.bel
    clear hm1 hv2 hi0 hz0 hz1 hz2 hi1 hy0 hy1 hy2 HNU HIN
    rcases b' with _ | _
    · have HN : Hid (decT false l = none) := hI (by rw [HDEC.out, if_neg (fun h => by cases h.1)])
      obtain ⟨d0, d1, df0, df1, dz⟩ := HFW.out.c2
      clear HDEC HEN HEQ HGX HTL HE HTG x0 x1 y0 y1 xz
      by_cases hm0 : m = 0
      case' pos => subst hm0
      case' neg => have hmi : (0 : Int) < (m : Int) := by omega
      all_goals
       clear hend
       go_wp2
       obtain ⟨e0, e1, -⟩ := (HZB.out _ HFW.out).c2
       exact bodyPost_ret (v := .tuple #[.agg #[.int .i64 0, .slice none 0 0], .int .i64 0, .int .i64 2]) (by simp [results, Tryd.results18, go_sem, e0, e1]) rfl (HZE.out _ HBW.out HN.out)
    · have hm0 : m = 0 := hend.resolve_right (by simp)
      subst hm0
      clear hend
      go_wp2_with fail
      refine HEN.out.mono ?_
      rintro e w7 ⟨V7, c7, rfl, own7, bel7⟩
      have HX7 := hI (HDr.out.x.after bel7)
      have HF7 := hI (HDr.out.f.after bel7)
      have HB7 := hI (HDr.out.bel.trans (bel7.mono HDr.out.bel.size))
      have HQ7 := hI (HEQ.out w7 V7 c7 own7 HB7.out HB7.out.size)
      have HGX7 : Hid (Gx w7 lo w7.heap.size V ts) := hI ((HGX.out.keep (Kp.of_below bel7 (Nat.le_refl _))).more (Nat.le_refl _) bel7.size)
      clear own7 bel7 r0 r1 r2 rf0 rf1 rf2 rz x0 x1 y0 y1 xz
      obtain ⟨x0, x1, -, -, xz⟩ := HX7.out.c2
      obtain ⟨d0, d1, df0, df1, dz⟩ := HF7.out.c2
      go_upto_region 24 with (fail)
      clear HEN HEQ HM HCO HE HDr HKr HTG HLK HLK1 HAL HA24 HV1 HE1 HE2 HK HKB HLN HBS HT HW1 HB1 HBK HGX HFW HBW HKT HB2 HN1
      by_cases h0 : encE al (v2 : Int) ts = 0
      · rw [h0] at HDEC
        by_cases heq : encB al (v2 : Int) ts = l
        · have HS : Hid (decT false l = some (al, (v2 : Int), ts)) := hI (by rw [HDEC.out]; simp [heq])
          have hdt : decide (encB al (v2 : Int) ts = l) = true := by simpa using heq
          have HQ8 : Hid (Calls Tryd.prog 21 #[.slice V7 (encB al (v2 : Int) ts).length c7, .slice A n c] w7 fun e w' => e = .returned (.bool true) ∧ ∃ k, w' = w7.drewN k) := hI (by rw [← hdt]; exact HQ7.out)
          rw [h0]
          generalize encB al (v2 : Int) ts = eb at *
          clear HQ7 hdt heq h0 HDEC HZE HZB
          generalize eb.length = n7 at *
          go_wp2_with fail
          refine HQ8.out.mono ?_
          rintro e w8 ⟨rfl, k8, hw8⟩
          have HX8 : Hid (Blk w8 g6 29 #[.int .i64 al, .slice V ts.length cc]) := hI (by rw [hw8]; exact HX7.out.drewN k8)
          have HF8 : Hid (Blk w8 g2 29 #[.int .i64 0, .slice none 0 0]) := hI (by rw [hw8]; exact HF7.out.drewN k8)
          have HB8 : Hid (Below w.heap.size w w8) := hI (by rw [hw8]; exact below_drewN HB7.out k8)
          have HGX8 : Hid (Gx w8 lo w8.heap.size V ts) := hI (by rw [hw8]; exact HGX7.out)
          clear hw8 x0 x1 xz d0 d1 df0 df1 dz HQ8 HX7 HF7 HB7
          go_upto_region 26 with (fail)
          obtain ⟨x0, x1, -, -, xz⟩ := HX8.out.c2
          obtain ⟨d0, d1, df0, df1, dz⟩ := HF8.out.c2
          have HZB8 := hI (blk_put2 HF8.out (.int .i64 al) (.slice V ts.length cc))
          have HFIN : Hid (DcD l w (.returned (.tuple #[.agg #[.int .i64 al, .slice V ts.length cc], .int .i64 (v2 : Int), .int .i64 0])) ((w8.setCell ⟨g2, 0, none⟩ (.int .i64 al)).setCell ⟨g2, 1, none⟩ (.slice V ts.length cc))) := hI (by
           have h0 := decE_some HS.out
           have hg : Gx ((w8.setCell ⟨g2, 0, none⟩ (.int .i64 al)).setCell ⟨g2, 1, none⟩ (.slice V ts.length cc)) lo w8.heap.size V ts := HGX8.out.keep (fun b hb _ => (Below.heap_setCell _ ⟨g2, 1, none⟩ _ b (by simp; omega)).trans (Below.heap_setCell _ ⟨g2, 0, none⟩ _ b (by simp; omega)))
           exact ⟨al, (v2 : Int), ts, V, cc, by rw [h0], .inl ⟨h0, HS.out⟩, hg.more hwl (by simp), HTL.out.1, HTL.out.2, HRg.out.1, (HB8.out.setCell (p := ⟨g2, 0, none⟩) hwg _).setCell (p := ⟨g2, 1, none⟩) hwg _⟩)
          clear HX8 HF8 HB8 HGX8 HGX7 HTL HRg HS
          go_wp2
          obtain ⟨e0, e1, -⟩ := HZB8.out.c2
          exact bodyPost_ret (v := .tuple #[.agg #[.int .i64 al, .slice V ts.length cc], .int .i64 (v2 : Int), .int .i64 0]) (by simp [results, Tryd.results18, go_sem, e0, e1]) rfl HFIN.out
        · have HN : Hid (decT false l = none) := hI (by rw [HDEC.out, if_neg (fun h => heq h.2.2)])
          have hdt : decide (encB al (v2 : Int) ts = l) = false := by simpa using heq
          have HQ8 : Hid (Calls Tryd.prog 21 #[.slice V7 (encB al (v2 : Int) ts).length c7, .slice A n c] w7 fun e w' => e = .returned (.bool false) ∧ ∃ k, w' = w7.drewN k) := hI (by rw [← hdt]; exact HQ7.out)
          rw [h0]
          generalize encB al (v2 : Int) ts = eb at *
          clear HQ7 hdt heq h0 HDEC HGX7 HTL HRg
          generalize eb.length = n7 at *
          go_wp2_with fail
          refine HQ8.out.mono ?_
          rintro e w8 ⟨rfl, k8, hw8⟩
          have HF8 := hI (by rw [hw8]; exact HF7.out.drewN k8 : Blk w8 g2 29 #[.int .i64 0, .slice none 0 0])
          have HB8 := hI (by rw [hw8]; exact below_drewN HB7.out k8 : Below w.heap.size w w8)
          clear hw8 d0 d1 df0 df1 dz x0 x1 xz
          obtain ⟨d0, d1, df0, df1, dz⟩ := HF8.out.c2
          go_wp2
          obtain ⟨e0, e1, -⟩ := (HZB.out _ HF8.out).c2
          exact bodyPost_ret (v := .tuple #[.agg #[.int .i64 0, .slice none 0 0], .int .i64 0, .int .i64 2]) (by simp [results, Tryd.results18, go_sem, e0, e1]) rfl (HZE.out _ HB8.out HN.out)
      · have HN : Hid (decT false l = none) := hI (by rw [HDEC.out, if_neg (fun h => h0 h.2.1)])
        have hne : (encE al (v2 : Int) ts != 0) = true := by simpa using h0
        generalize encE al (v2 : Int) ts = ee at *
        generalize encB al (v2 : Int) ts = eb at *
        clear HQ7 HDEC HGX7 HTL HRg
        generalize eb.length = n7 at *
        go_wp2
        obtain ⟨e0, e1, -⟩ := (HZB.out _ HF7.out).c2
        exact bodyPost_ret (v := .tuple #[.agg #[.int .i64 0, .slice none 0 0], .int .i64 0, .int .i64 2]) (by simp [results, Tryd.results18, go_sem, e0, e1]) rfl (HZE.out _ HB7.out HN.out)

  · obtain ⟨hm0, hb0⟩ := not_or.1 hend
    obtain ⟨m', hm'⟩ := Nat.exists_eq_succ_of_ne_zero hm0
    have HM' : Hid (m = m' + 1) := hI hm'
    have hbf : b' = true := by simpa using hb0
    subst hbf
    have hmi : (0 : Int) < (m : Int) := by omega
    clear hend hm0 hb0 hm'
    generalize wr = wo at *
    have hgr6 : gr < lo := by omega
    have htl : ts.length ≤ 80 := by have := HM.out; omega
    have HC1 := hI (HNU.out wo 8 q true HKr.out HDr.out.bel (by omega) (by decide))
    obtain ⟨a, pa, ba, hea⟩ : ∃ a pa ba, upPQ lk 8 q true = (a, pa, ba) := ⟨_, _, _, rfl⟩
    have hpa : pa ≤ 1999999 := by have := up_posQ (l := lk) (lim := 8) (b := true) hq HLK1.out; rw [hea] at this; exact this
    rw [hea] at HC1
    have HEA := hI hea
    clear hea
    go_wp2_with fail
    refine HC1.out.mono ?_
    rintro e w7 ⟨rfl, hk7, hg7⟩
    simp only at hk7 ⊢
    go_upto_region 14 with (fail)
    obtain ⟨W8, hW8⟩ : ∃ W8, W8 = w7.alloc (.cells #[.int .i64 (a : Int), .int .i64 0, .slice none 0 0] 61) := ⟨_, rfl⟩
    obtain ⟨g9, hg9⟩ : ∃ g, g = w7.heap.size := ⟨_, rfl⟩
    rw [← hW8, ← hg9]
    have HG8 : Hid (wo.grownBy W8 (some gr)) := hI (by rw [hW8]; exact grown_al hg7 _)
    have HK8 : Hid (Blk W8 gr 85 #[.slice A k c, .int .i64 (pa : Int), .bool ba]) := hI (by rw [hW8]; exact hk7.alloc _)
    have HY8 : Hid (Blk W8 g9 61 #[.int .i64 (a : Int), .int .i64 0, .slice none 0 0]) := hI (by rw [hW8, hg9]; exact Blk.new _ _ _)
    have ho9 : wo.heap.size ≤ g9 := by rw [hg9]; exact hg7.size
    have hr9 : gr < g9 := by omega
    have h69 : g6 < g9 := by omega
    clear hW8 hg9 hk7 hg7 HC1 r0 r1 r2 rf0 rf1 rf2 rz x0 x1 y0 y1 xz
    have HD8 := hI (HDr.out.grown HG8.out hgg hr6 hgr6 (by omega))
    obtain ⟨s, ps, bs, hes⟩ : ∃ s ps bs, upPQ lk 2147483647 pa ba = (s, ps, bs) := ⟨_, _, _, rfl⟩
    have hps : ps ≤ 1999999 := by have := up_posQ (l := lk) (lim := 2147483647) (b := ba) hpa HLK1.out; rw [hes] at this; exact this
    have hs31 : s ≤ 2147483647 := by have := upP_leQ lk 2147483647 pa ba; rw [hes] at this; exact this
    have HES := hI hes
    have hmr := mul_rng HAL.out HV1.out hs31
    obtain ⟨sz, hsz⟩ : ∃ z : Int, (s : Int) * al = z := ⟨_, rfl⟩
    rw [Int.mul_comm, hsz] at hmr
    have hmw : IntKind.i64.wrap sz = sz := IntWalk.i64_in _ (by omega)
    have HSZ := hI hsz
    clear hes hmr
    obtain ⟨x0, x1, y0, y1, xz⟩ := HD8.out.x.c2
    obtain ⟨q0, q1, q2, qf0, qf1, qf2, qz⟩ := HY8.out.c3
    go_cut [64] (fun s64 wx => Blk wx gr 85 #[.slice A k c, .int .i64 (ps : Int), .bool bs] ∧ Blk wx g9 61 #[.int .i64 (a : Int), .int .i64 sz, .slice none 0 0] ∧ wo.grownBy wx (some gr))
    case first =>
     go_region_law (go_simp; refine (HNU.out _ 2147483647 pa ba HK8.out.drew (HD8.out.bel.drew) (by omega) (by decide)).mono ?_; (rw [show upPQ lk 2147483647 pa ba = (s, ps, bs) from HES.out]); rintro e w9 ⟨rfl, hk9, hg9'⟩; simp only at hk9 ⊢; have HXa := HD8.out.x.drew.grown hg9' (by intro h; injection h with h; omega); obtain ⟨z0, z1, zf0, zf1, zz⟩ := HXa.c2; have HYa := HY8.out.drew.grown hg9' (by intro h; injection h with h; omega); obtain ⟨t0, t1, t2, tf0, tf1, tf2, tz⟩ := HYa.c3)
     all_goals
      go_wp2_with fail
      go_meet
      exact ⟨hk9.far (by simp; omega) _, HYa.set_ 1 _, grown_set' (HG8.out.trans ((⟨rfl, rfl, rfl, Nat.le_refl _, fun _ _ _ => rfl⟩ : W8.grownBy W8.drew (some gr)).trans hg9')) (by show wo.heap.size ≤ g9; exact ho9) _⟩
    case rest =>
     obtain ⟨hk10, hy10, hg10⟩ := hcut
     generalize wc = W10 at *
     have HK10 := hI hk10
     have HY10 := hI hy10
     have HG10 := hI hg10
     have HD10 := hI (HDr.out.grown HG10.out hgg hr6 hgr6 (by omega))
     clear hk10 hy10 hg10 x0 x1 y0 y1 xz q0 q1 q2 qf0 qf1 qf2 qz HK8 HY8 HD8 HG8 hsz hmw
     have HC3 := hI (HNU.out W10 1024 ps bs HK10.out HD10.out.bel (by omega) (by decide))
     obtain ⟨NN, pn, bn, hen⟩ : ∃ N pn bn, upPQ lk 1024 ps bs = (N, pn, bn) := ⟨_, _, _, rfl⟩
     have hpn : pn ≤ 1999999 := by have := up_posQ (l := lk) (lim := 1024) (b := bs) hps HLK1.out; rw [hen] at this; exact this
     have hNN : NN ≤ 1024 := by have := upP_leQ lk 1024 ps bs; rw [hen] at this; exact this
     rw [hen] at HC3
     have HFR : Hid (framePQ lk al q true = (⟨(a : Int), sz, (codePQ lk NN pn bn).1⟩, (codePQ lk NN pn bn).2)) := hI (by
      unfold framePQ
      have h1 : upPQ lk M31 pa ba = (s, ps, bs) := HES.out
      have h2 : al * (s : Int) = sz := by rw [Int.mul_comm]; exact HSZ.out
      simp only [HEA.out, h1, hen, h2])
     clear hen
     go_wp2_with fail
     refine HC3.out.mono ?_
     rintro e w11 ⟨rfl, hk11, hg11⟩
     simp only at hk11 ⊢
     have HK11 := hI hk11
     have HG11 := hI (HG10.out.trans hg11)
     have HY11 := hI (HY10.out.grown hg11 (by intro h; injection h with h; omega))
     clear hk11 hg11 HC3 HK10 HY10 HG10 HD10
     go_upto_region 16 with (fail)
     go_loopw [10] (fun x wr => ∃ (j q : Nat) (b' : Bool) (cs : List Ins) (o : Value), x = .int .i64 (j : Int) ∧ q ≤ 1999999 ∧ cs.length + j ≤ 1024 ∧ Hid (codePQ lk NN pn bn = (cs ++ (codePQ lk j q b').1, (codePQ lk j q b').2)) ∧ Hid (Blk wr gr 85 #[.slice A k c, .int .i64 (q : Int), .bool b']) ∧
      Hid (Blk wr g9 61 #[.int .i64 (a : Int), .int .i64 sz, o]) ∧ Hid (wr.ownsRow wo.heap.size 58 5 o cs.length (inV cs)) ∧ Hid (wo.grownBy wr (some gr))) (fun x _ => (intOf x).toNat)
     case atStart => exact ⟨NN, pn, bn, [], .slice none 0 0, rfl, hpn, by simpa using hNN, hI (by simp), HK11, HY11, hI (World.ownsRow_nil _ _ _ _), HG11⟩
     case round =>
      obtain ⟨j, qj, bj, cs, oj, rfl, hqj, hcl, HCJ, HKJ, HYJ, HOJ, HGJ⟩ := hrel
      have HCL := hI hcl
      have hj31 : (j : Int) ≤ 1024 := by omega
      have hcs : cs.length ≤ 1024 := by omega
      clear hcl HK11 HY11 HG11
      obtain ⟨r0, r1, r2, rf0, rf1, rf2, rz⟩ := HKJ.out.c3
      by_cases hendj : j = 0 ∨ bj = false
      · have HEJ : Hid (codePQ lk NN pn bn = (cs, qj, bj)) := hI (by rw [HCJ.out, code_stopQ _ _ _ _ hendj]; simp)
        have HFE : Hid (framePQ lk al q true = (⟨(a : Int), sz, cs⟩, qj, bj)) := hI (by rw [HFR.out, HEJ.out])
        obtain ⟨nc, hnc⟩ : ∃ n, n = cs.length := ⟨_, rfl⟩
        obtain ⟨V9, c9, hoj, hm9⟩ := own_form HOJ.out
        subst hoj
        have HD20 := hI (HDr.out.grown HGJ.out hgg hr6 hgr6 (by omega))
        obtain ⟨nt, hnt⟩ : ∃ n, n = ts.length := ⟨_, rfl⟩
        obtain ⟨VT, cT, hoe, hmT⟩ := own_form HD20.out.ow
        subst hoe
        have HZ6 : Hid (Blk wr g6 29 #[.int .i64 al, .slice VT nt cT]) := hI (by rw [hnt]; exact HD20.out.x)
        have HZ9 : Hid (Blk wr g9 61 #[.int .i64 (a : Int), .int .i64 sz, .slice V9 nc c9]) := hI (by rw [hnc]; exact HYJ.out)
        have RD : Hid (Reads wr wr.heap.size 3 VT nt vs) := hI (by rw [hnt]; exact Reads.of_own HD20.out.ow)
        have ONE : Hid (∀ u ∈ vs, u.oneCell' = true) := hI HD20.out.one
        have hntl : nt ≤ 80 := by omega
        have hncl : nc ≤ 1024 := by omega
        have HNC := hI hnc
        have HNT := hI hnt
        clear HYJ hm9 hmT hnc hnt hcs htl
        by_cases hj0 : j = 0
        case' pos =>
         subst hj0
         clear hendj
         go_upto_region 20 with (fail)
        case' neg =>
         have hb' : bj = false := hendj.resolve_left hj0
         subst hb'
         have hji : (0 : Int) < (j : Int) := by omega
         clear hendj hj0
         go_upto_region 20 with (fail)
        all_goals
         have HNXV : Hid (Nx wr lo wr.heap.size V9 cs) := hI ((Rx.of_own HOJ.out).more hlr (Nat.le_refl _))
         have HKz := HKJ
         have hc9 := (own_cap HOJ.out).2
         have hsz := HGJ.out.size
         have hlw : lo ≤ wr.heap.size := by omega
         clear r0 r1 r2 rf0 rf1 rf2 rz HOJ HGJ HKJ HDr HKr
         generalize wr = wz at *
         obtain ⟨x0, x1, y0, y1, xz⟩ := HZ6.out.c2
         obtain ⟨j0, j1, j2, -, -, -, jz⟩ := HZ9.out.c3
         go_region_law (first
          | (refine copy_a wz rfl (.tmp 91) 27 rfl 61 i0 _ 3 40 Tryd.underlying27 hi0 hz0 hz1 hz2 rfl (by omega) VT nt cT vs (by first | (simp [Act.eval]; done) | (simp [Act.eval, Act.put]; done)) _ (by first | exact .inl rfl | exact .inr ⟨_, rfl⟩) RD.out ONE.out (by unfold maxLen; omega) (by omega) ?_; intro v2 wA hownA hbA hgA; have HXA := HZ9.out.after hbA; obtain ⟨j0, j1, j2, -, -, -, jz⟩ := HXA.c3)
          | (refine copy_b wz rfl (.tmp 92) (.tmp 94) 27 rfl 61 i0 _ 3 40 Tryd.underlying27 hi0 hz0 hz1 hz2 rfl (by omega) nt vs [.int .i64 (a : Int), .int .i64 sz, .slice V9 nc c9] v2 wA hownA hbA (by first | (simp [Act.eval]; done) | (simp [Act.eval, Act.put]; done)) rfl (by simp [Value.oneCell']) _ (by first | (simp [Act.eval]; rfl) | (simp [Act.eval, Act.put]; rfl)) _ 61 (by first | exact .inl ⟨rfl, rfl⟩ | exact .inr ⟨hgA, rfl, rfl⟩) (by unfold maxLen; omega) (by omega) ?_; intro V3 c3 wB hownB hbB; have HTB := HZ6.out.after hbB; obtain ⟨e0, e1, ef0, ef1, ez⟩ := HTB.c2))
         all_goals
          have HDX : Hid (DQ g2 g6 lo al (ts ++ [⟨(a : Int), sz, cs⟩]) (.slice V3 (nt + 1) c3) (vs ++ [.int .i64 (a : Int), .int .i64 sz, .slice V9 cs.length c9]) w (wB.setCell ⟨g6, 1, none⟩ (.slice V3 (nt + 1) c3))) := hI (HD20.out.copy (f := ⟨(a : Int), sz, cs⟩) HNXV.out hc9 (by show cs.length ≤ maxLen; unfold maxLen; have := HNC.out; omega) (by omega) (by omega) hlw hl6 hbB (by have h1 := hownB; rw [HNT.out, HNC.out] at h1; rw [← HNT.out] at h1 ⊢; exact h1))
          have HKX := hI ((HKz.out.after hbB).far (show gr ≠ (⟨g6, 1, none⟩ : Addr).block by show gr ≠ g6; omega) (.slice V3 (nt + 1) c3))
          have hsx2 : lo ≤ wB.heap.size := Nat.le_trans hlw hbB.size
          clear hownA hbA hgA HXA hownB hbB HTB j0 j1 j2 jz e0 e1 ef0 ef1 ez x0 x1 y0 y1 xz
          go_wp2
          go_roundw
          case rel =>
           refine ⟨m', qj, _, ts ++ [⟨(a : Int), sz, cs⟩], _, _, ?_, hqj, by simpa using hsx2, hI ?_, hI ?_, HKX, HDX, hI ⟨?_, ?_⟩⟩
           · rw [show (m : Int) - 1 = (m' : Int) by have := HM'.out; omega]
           · have h1 := HM.out
             have h2 := HM'.out
             simp only [List.length_append, List.length_cons, List.length_nil]
             omega
           · have h : framesPQ lk al (m' + 1) q true = ((framePQ lk al q true).1 :: (framesPQ lk al m' (framePQ lk al q true).2.1 (framePQ lk al q true).2.2).1, (framesPQ lk al m' (framePQ lk al q true).2.1 (framePQ lk al q true).2.2).2) := rfl
             rw [HFE.out] at h
             rw [HCO.out, HM'.out, h]
             simp
           · have hr := frame_rngQ (HBK.out _ HB2.out).2 HAL.out HV1.out q true
             rw [HFE.out] at hr
             refine ⟨⟨HRg.out.1.1.1, fun g hg => ?_⟩, fun g hg => ?_⟩
             · rcases List.mem_append.1 hg with h | h
               · exact HRg.out.1.1.2 g h
               · rw [List.mem_singleton.1 h]; exact hr.1
             · rcases List.mem_append.1 hg with h | h
               · exact HRg.out.1.2 g h
               · rw [List.mem_singleton.1 h]; exact hr.2
           · intro g hg
             rcases List.mem_append.1 hg with h | h
             · exact HRg.out.2 g h
             · rw [List.mem_singleton.1 h]; show cs.length ≤ 1024; have := HNC.out; omega
          case measure =>
           have := HM'.out
           simp [intOf]
           omega

      · obtain ⟨hj0, hbj0⟩ := not_or.1 hendj
        obtain ⟨j', hj'⟩ := Nat.exists_eq_succ_of_ne_zero hj0
        have HJ' : Hid (j = j' + 1) := hI hj'
        have hbf : bj = true := by simpa using hbj0
        subst hbf
        have hji : (0 : Int) < (j : Int) := by omega
        have HBJ := hI (HDr.out.bel.trans (below_of_grown HGJ.out (by omega) HDr.out.bel.size))
        have HCI := hI (HIN.out wr qj true HKJ.out HBJ.out (by omega))
        obtain ⟨x, q', b'', hix⟩ : ∃ x q' b'', insPQ lk qj true = (x, q', b'') := ⟨_, _, _, rfl⟩
        have hq' : q' ≤ 1999999 := by have := ins_posQ (l := lk) (b := true) hqj HLK1.out; rw [hix] at this; exact this
        rw [hix] at HCI
        have HIX := hI hix
        clear hendj hj0 hbj0 hj' hix HBJ
        generalize wr = wq at *
        go_wp2_with fail
        refine HCI.out.mono ?_
        rintro e w12 ⟨rfl, hk12, hg12⟩
        simp only at hk12 ⊢
        unfold insV
        go_upto_region 19 with (fail)
        obtain ⟨Y, hY⟩ : ∃ Y, Y = w12.alloc (.cells #[.int .i64 x.op, .int .i64 x.a, .int .i64 x.b, .int .i64 x.c, .int .u64 x.imm] 58) := ⟨_, rfl⟩
        obtain ⟨g11, hg11⟩ : ∃ g, g = w12.heap.size := ⟨_, rfl⟩
        rw [← hY, ← hg11]
        have hbY : Below w12.heap.size w12 Y := by rw [hY]; exact (Below.refl _ _).alloc (Nat.le_refl _) _
        have HI12 : Hid (Blk Y g11 58 #[.int .i64 x.op, .int .i64 x.a, .int .i64 x.b, .int .i64 x.c, .int .u64 x.imm]) := hI (by rw [hY, hg11]; exact Blk.new _ _ _)
        have HKY := hI (hk12.after hbY)
        have HY12 := hI ((HYJ.out.grown hg12 (by intro h; injection h with h; omega)).after hbY)
        have HGY := hI (grown_bel (HGJ.out.trans hg12) hbY)
        have HOY := hI (own_keep (HOJ.out.kept hg12 (by
         rcases hq : oj.ownBlock with _ | kk
         · exact .inl rfl
         · right
           intro e
           injection e with e
           have := HOJ.out.lt kk hq
           omega)) hbY (Nat.le_refl _))
        have hsY : wo.heap.size ≤ Y.heap.size := HGY.out.size
        have h9Y : g9 < g11 := by rw [hg11]; exact (HYJ.out.grown hg12 (by intro h; injection h with h; omega)).lt
        obtain ⟨nc, hnc⟩ : ∃ n, n = cs.length := ⟨_, rfl⟩
        rw [← hnc] at HOY hcs
        have HNC := hI hnc
        obtain ⟨V9, c9, hoj, hm9⟩ := own_form HOY.out
        subst hoj
        clear hY hg11 hbY hk12 hg12 HCI HKJ HYJ HOJ HGJ r0 r1 r2 rf0 rf1 rf2 rz hnc hm9
        obtain ⟨j0, j1, j2, j3, j4, -, -, -, -, -, jz⟩ := HI12.out.c5
        obtain ⟨e0, e1, e2, ef0, ef1, ef2, ez⟩ := HY12.out.c3
        have RD : Hid (Reads Y Y.heap.size 5 V9 nc (inV cs)) := hI (Reads.of_own HOY.out)
        have ONE : Hid (∀ u ∈ inV cs, u.oneCell' = true) := hI (inV_one6 cs)
        go_region_law (first
         | (refine copy_a Y rfl (.tmp 84) 59 rfl 58 i1 _ 5 40 Tryd.underlying59 hi1 hy0 hy1 hy2 rfl (by omega) V9 nc c9 (inV cs) (by first | (simp [Act.eval]; done) | (simp [Act.eval, Act.put]; done)) _ (by first | exact .inl rfl | exact .inr ⟨_, rfl⟩) RD.out ONE.out (by unfold maxLen; omega) (by omega) ?_; intro v2 wA hownA hbA hgA; have HXA := HI12.out.after hbA; obtain ⟨j0, j1, j2, j3, j4, -, -, -, -, -, jz⟩ := HXA.c5)
         | (refine copy_b Y rfl (.tmp 85) (.tmp 87) 59 rfl 58 i1 _ 5 40 Tryd.underlying59 hi1 hy0 hy1 hy2 rfl (by omega) nc (inV cs) [.int .i64 x.op, .int .i64 x.a, .int .i64 x.b, .int .i64 x.c, .int .u64 x.imm] v2 wA hownA hbA (by first | (simp [Act.eval]; done) | (simp [Act.eval, Act.put]; done)) rfl (by simp [Value.oneCell']) _ (by first | (simp [Act.eval]; rfl) | (simp [Act.eval, Act.put]; rfl)) _ 58 (by first | exact .inl ⟨rfl, rfl⟩ | exact .inr ⟨hgA, rfl, rfl⟩) (by unfold maxLen; omega) (by omega) ?_; intro V3 c3 wB hownB hbB; have HTB := HY12.out.after hbB; obtain ⟨e0, e1, e2, ef0, ef1, ef2, ez⟩ := HTB.c3))
        all_goals
         have HKZ : Hid (Blk (wB.setCell ⟨g9, 2, none⟩ (.slice V3 (nc + 1) c3)) gr 85 #[.slice A k c, .int .i64 (q' : Int), .bool b'']) := hI ((HKY.out.after hbB).far (by simp; omega) _)
         have HYZ : Hid (Blk (wB.setCell ⟨g9, 2, none⟩ (.slice V3 (nc + 1) c3)) g9 61 #[.int .i64 (a : Int), .int .i64 sz, .slice V3 (nc + 1) c3]) := hI (HTB.set_ 2 _)
         have HOZ : Hid ((wB.setCell ⟨g9, 2, none⟩ (.slice V3 (nc + 1) c3)).ownsRow wo.heap.size 58 5 (.slice V3 (nc + 1) c3) (cs ++ [x]).length (inV (cs ++ [x]))) := hI (by
          have h1 : (cs ++ [x]).length = nc + 1 := by simp [HNC.out]
          rw [h1, inV_snoc]
          exact own_off (i := 2) (own_less hownB hsY) HTB (by decide) _)
         have HGZ : Hid (wo.grownBy (wB.setCell ⟨g9, 2, none⟩ (.slice V3 (nc + 1) c3)) (some gr)) := hI (grown_set' (grown_bel HGY.out hbB) (by show wo.heap.size ≤ g9; exact ho9) _)
         clear hownA hbA hgA HXA hownB hbB HTB j0 j1 j2 j3 j4 jz e0 e1 e2 ef0 ef1 ef2 ez
         go_wp2
         go_roundw
         case rel =>
          refine ⟨j', q', b'', cs ++ [x], _, ?_, hq', ?_, hI ?_, HKZ, HYZ, HOZ, HGZ⟩
          · rw [show (j : Int) - 1 = (j' : Int) by have := HJ'.out; omega]
          · have h1 := HCL.out
            have h2 := HJ'.out
            simp only [List.length_append, List.length_cons, List.length_nil]
            omega
          · have h : codePQ lk (j' + 1) qj true = ((insPQ lk qj true).1 :: (codePQ lk j' (insPQ lk qj true).2.1 (insPQ lk qj true).2.2).1, (codePQ lk j' (insPQ lk qj true).2.1 (insPQ lk qj true).2.2).2) := rfl
            rw [HIX.out] at h
            rw [HCJ.out, HJ'.out, h]
            simp
         case measure =>
          have := HJ'.out
          simp [intOf]
          omega

theorem refdec_any (A : Option Addr) (n c : Nat) (l : List Nat) (w : World) (hT : Dt w) (hb : Bs w w.heap.size A n l) (hn : n ≤ maxLen) (hc : n ≤ c) (hcm : c ≤ maxLen) :
 Calls Tryd.prog 18 #[.slice A n c] w (DcD l w) := by
 by_cases h : 1048576 < n ∨ n < 10 ∨ ¬ (l.take 4 = mgT ∧ crcB l = true)
 · exact refdec_err A n c l w hb hn hc hcm h
 · have h1 : ¬ 1048576 < n := fun h' => h (.inl h')
   have h2 : ¬ n < 10 := fun h' => h (.inr (.inl h'))
   have h3 : l.take 4 = mgT ∧ crcB l = true := Decidable.byContradiction (fun h' => h (.inr (.inr h')))
   exact refdec_ok A n c l w hT hb (by omega) (by omega) hc hcm h3.1 h3.2
end Go.Proofs.YtinfeglhjmnlaaaDoor.pm
