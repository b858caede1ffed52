/- SirOperands: the walk of the law. -/
import Derived.Test.YtfhlhgbmdjocoaaDoorOpP
namespace Go.Proofs.YtfhlhgbmdjocoaaDoor.pm
open Go.RowKit
set_option linter.unusedVariables false
set_option maxRecDepth 10000

def modOf (x : Int) (n : Nat) : Nat := (x.tmod n % n).toNat
theorem modOf_lt (x : Int) (n : Nat) (h : 0 < n) : modOf x n < n := by
  have h1 : x.tmod n % n < n := Int.emod_lt_of_pos _ (by omega)
  have h2 : 0 ≤ x.tmod n % n := Int.emod_nonneg _ (by omega)
  unfold modOf
  omega
theorem mod_any (x : Int) (h0 : -9223372036854775808 ≤ x) (h1 : x ≤ 9223372036854775807) (n : Nat) (hp : 0 < n) (hn : n ≤ 1000000) (w : World) :
    Calls Tryd.prog 18 #[.int .i64 x, .int .i64 n] w fun e w' => e = .returned (.int .i64 (modOf x n : Nat)) ∧ w = w' := by
  have hl : ¬ (n : Int) < 1 := by omega
  have t1 : x.tmod n < n := Int.tmod_lt_of_pos x (by omega)
  have t2 : -(n : Int) < x.tmod n := by have := Int.lt_tmod_of_pos x (show 0 < (n : Int) by omega); omega
  have hm : modOf x n = (x.tmod n % n).toNat := rfl
  have HM := Lib.hid hm
  have h3 : 0 ≤ x.tmod n % n := Int.emod_nonneg _ (by omega)
  have H3 := Lib.hid h3
  have hz : ((n : Int) == 0) = false := by simp; omega
  clear hm h3
  go_enter Tryd.func18, Tryd.ntmps18
  go_wp2
  go_ret
  exact ⟨ret_int (by rw [HM.out, Int.toNat_of_nonneg H3.out]), rfl⟩
theorem awake5 (w : World) : Calls Tryd.prog 14 #[] w fun e w' => e = .returned (.bool true) ∧ w = w' := by
  go_enter Tryd.func14, Tryd.ntmps14
  go_wp2_with fail
  refine (term_any _ _).mono ?_
  rintro e w1 ⟨rfl, rfl⟩
  go_wp2
  go_ret
  exact ⟨ret_bool (by decide), rfl⟩
set_option maxHeartbeats 8000000 in
theorem op_law (A : Option Addr) (n c : Nat) (l : List Nat) (at_ : Int) (h0 : -9223372036854775808 ≤ at_) (h1 : at_ ≤ 9223372036854775807) (w : World) (hT : Tb w) (hb : Bs w w.heap.size A n l) (hn : n ≤ maxLen) (hc : n ≤ c) :
    Calls Tryd.prog 3 #[.slice A n c, .int .i64 at_] w fun e w' => e = .returned (.bool true) ∧ Below w.heap.size w w' := by
  obtain ⟨i0, hi0, hz0, hz1, hz2⟩ := info_parts info_ins
  obtain ⟨i1, hi1, hy0, hy1, hy2⟩ := info_parts info_fn
  have HT := Lib.hid hT
  have HB := Lib.hid hb
  have HA0 := Lib.hid h0
  have HA1 := Lib.hid h1
  have hwp : 0 < w.heap.size := hT.1
  clear hT hb h0 h1
  go_enter Tryd.func3, Tryd.ntmps3
  go_wp2_with fail
  refine (awake5 _).mono ?_
  rintro e w1 ⟨rfl, rfl⟩
  go_wp2_with fail
  refine (newcodes_any A n c l 200 _ hn hc (by omega)).mono ?_
  rintro e w1 ⟨rfl, hw1⟩
  obtain ⟨cb, hcb⟩ : ∃ cb, cb = w.heap.size := ⟨_, rfl⟩
  have HC1 : Hid (CodesAt w1 w.heap.size cb A (min n 200) c (l.take (min n 200)) 0) := Lib.hid (by rw [hw1, hcb]; exact codes_new HB.out 200 (by omega))
  have HB1 : Hid (Below w.heap.size w w1) := Lib.hid (by rw [hw1]; exact (Below.refl _ _).alloc (Nat.le_refl _) _)
  have HCB := Lib.hid hcb
  have hcb0 : w.heap.size ≤ cb := by omega
  have hcl1 : cb < w1.heap.size := HC1.out.1.lt
  rw [← hcb]
  clear hw1 hcb
  go_wp2_with fail
  refine (program_d _ _ _ _ _ _ _ 3 10 _ HC1.out (by omega) (by omega) (by omega)).mono ?_
  rintro e w2 ⟨p, Ap, cp, p2, rfl, hpr, hpc, hfx, c2, g2⟩
  have HC2 := Lib.hid c2
  have HG2 := Lib.hid g2
  have HPR := Lib.hid hpr
  have HFX2 := Lib.hid hfx
  have hp1 : 1 ≤ p.length := hpr.1
  have hp3 : p.length ≤ 3 := hpr.2.1
  have hs2 : w1.heap.size ≤ w2.heap.size := g2.size
  clear c2 g2 hpr hfx
  go_upto_region 5 with (fail)
  obtain ⟨w3, hw3⟩ : ∃ w3, w3 = w2.alloc (.cells #[.slice Ap p.length cp] 28) := ⟨_, rfl⟩
  rw [← hw3]
  have HK6 : Hid (Blk w3 w2.heap.size 28 #[.slice Ap p.length cp]) := Lib.hid (by rw [hw3]; exact Blk.new _ _ _)
  have HB23 : Hid (Below w2.heap.size w2 w3) := Lib.hid (by rw [hw3]; exact (Below.refl _ _).alloc (Nat.le_refl _) _)
  have HC3 : Hid (CodesAt w3 w.heap.size cb A (min n 200) c (l.take (min n 200)) p2) := Lib.hid (by rw [hw3]; exact HC2.out.alloc _)
  obtain ⟨g6, hg6⟩ : ∃ g, g = w2.heap.size := ⟨_, rfl⟩
  rw [← hg6] at HK6 ⊢
  have HG6 := Lib.hid hg6
  obtain ⟨q0, -, qz⟩ := blk_one HK6.out
  have hcg6 : cb < g6 := by omega
  clear hw3 hg6
  go_wp2_with fail
  refine (next_d _ _ _ _ _ _ _ (p.length : Int) _ HC3.out (by omega) (by omega)).mono ?_
  rintro e w4 ⟨i, p4, hi, rfl, c4, g4⟩
  have hil : i < p.length := by omega
  have HK4 := Lib.hid (HK6.out.grown g4 (some_ne (by omega)))
  have HFX4 : Hid (Fx w4 w1.heap.size w2.heap.size Ap p) := Lib.hid ((HFX2.out.keep (Kp.of_below HB23.out (Nat.le_refl _))).keep (Kp.of_grown g4 HB23.out.size (.inl hcl1)))
  have HB4 : Hid (Below w.heap.size w w4) := Lib.hid (HB1.out.trans (below_of_grown (grownBy_trans (grownBy_trans HG2.out (grownBy_of_below HB23.out _)) g4) hcb0 HB1.out.size))
  have hs4 : w2.heap.size ≤ w4.heap.size := Nat.le_trans HB23.out.size g4.size
  clear c4 g4 hi q0 qz HC3 HK6 HB23 HC2 HG2 HFX2 HC1 HB1
  obtain ⟨q0, -, qz⟩ := blk_one HK4.out
  have hii : (i : Int) < (p.length : Int) := by omega
  have hii0 : (0 : Int) ≤ (i : Int) := by omega
  have hpi : (p.length : Int) ≤ 3 := by omega
  obtain ⟨ad, As, cs, Ai, ci, rfl, hbl, c0, c1, c2, -, -, sx, nx, ⟨hs1, hs1'⟩, hn1, hn2⟩ := HFX4.out.whole hil
  obtain ⟨f, hff⟩ : ∃ f, f = p.getD i Fn.z := ⟨_, rfl⟩
  rw [← hff] at c0 c1 c2 sx nx hs1 hs1' hn1 hn2
  have HFF := Lib.hid hff
  have HNX := Lib.hid nx
  have HFN : Hid (FnOk p.length f) := Lib.hid (by rw [hff]; exact HPR.out.2.2.2 _ (mem_getD hil))
  have hcl : 1 ≤ f.code.length := HFN.out.2.2.2.2.1
  have hcl2 : f.code.length ≤ 200 := HFN.out.2.2.2.2.2.1
  clear hff sx nx
  go_upto_region 7 with (fail)
  obtain ⟨w5, hw5⟩ : ∃ w5, w5 = w4.alloc (.cells #[.int .i64 f.params, .slice As f.slots.length cs, .slice Ai f.code.length ci] 34) := ⟨_, rfl⟩
  rw [← hw5]
  have HB45 : Hid (Below w4.heap.size w4 w5) := Lib.hid (by rw [hw5]; exact (Below.refl _ _).alloc (Nat.le_refl _) _)
  have HK8 : Hid (Blk w5 w4.heap.size 34 #[.int .i64 f.params, .slice As f.slots.length cs, .slice Ai f.code.length ci]) := Lib.hid (by rw [hw5]; exact Blk.new _ _ _)
  obtain ⟨g8, hg8⟩ : ∃ g, g = w4.heap.size := ⟨_, rfl⟩
  rw [← hg8] at HK8 ⊢
  have HK6 := Lib.hid (HK4.out.after HB45.out)
  have HFX5 : Hid (Fx w5 w1.heap.size w5.heap.size (some ad) p) := Lib.hid ((HFX4.out.keep (Kp.of_below HB45.out hs4)).more (Nat.le_refl _) (by have := HB45.out.size; omega))
  have HNX5 : Hid (Nx w5 w1.heap.size w2.heap.size Ai f.code) := Lib.hid (HNX.out.keep (Kp.of_below HB45.out hs4))
  have HB5 : Hid (Below w.heap.size w w5) := Lib.hid (HB4.out.trans (HB45.out.mono HB4.out.size))
  have hs5 : w4.heap.size ≤ w5.heap.size := HB45.out.size
  have HT5 := Lib.hid (HT.out.keep (Kp.of_below HB5.out hwp) HB5.out.size)
  clear hw5 hg8 c0 c1 c2 q0 qz HK4 HFX4 HNX HB4 HB45
  obtain ⟨f0, f1, f2, -, -, -, fz⟩ := HK8.out.c3
  go_wp2_with fail
  refine (mod_any _ HA0.out HA1.out f.code.length (by omega) (by omega) _).mono ?_
  rintro e w6 ⟨rfl, rfl⟩
  have hkl := modOf_lt at_ f.code.length (by omega)
  obtain ⟨k, hk⟩ : ∃ k, k = modOf at_ f.code.length := ⟨_, rfl⟩
  rw [← hk] at hkl ⊢
  have hkl' : k < (p.getD i Fn.z).code.length := by rw [← HFF.out]; exact hkl
  have HVB := Lib.hid (op_vi HPR.out hil hkl')
  obtain ⟨x, hx⟩ : ∃ x, x = f.code.getD k Ins.z := ⟨_, rfl⟩
  have HX := Lib.hid hx
  obtain ⟨⟨v0, v1⟩, ⟨v2, v3⟩, ⟨v4, v5⟩, ⟨v6, v7⟩⟩ : (0 ≤ x.op ∧ x.op < 25) ∧ (0 ≤ x.a ∧ x.a ≤ 1000) ∧ (0 ≤ x.b ∧ x.b ≤ 1000) ∧ (0 ≤ x.c ∧ x.c ≤ 1000) := by
    obtain ⟨b1, b2, b3⟩ := HVB.out
    have := vi_bound b3 b1 b2.2.1 b2.2.2.1 b2.2.2.2.2.2.1
    rw [← HFF.out, ← hx] at this
    exact this
  have hki : (k : Int) < (f.code.length : Int) := by omega
  have hk0 : (0 : Int) ≤ (k : Int) := by omega
  have hcli : (f.code.length : Int) ≤ 200 := by omega
  clear hk hx
  go_wp2
  go_loopw [10] (fun v wr => ∃ j : Nat, j ≤ 4 ∧ v = .int .i64 j ∧ Hid (Below w5.heap.size w5 wr)) (fun v _ => 4 - (intOf v).toNat)
  case atStart => exact ⟨0, by omega, rfl, Lib.hid (Below.refl _ _)⟩
  case round =>
    clear f0 f1 f2 fz
    obtain ⟨j, hj, rfl, HBR⟩ := hrel
    have hszr := HBR.out.size
    have HK8r := Lib.hid (HK8.out.after HBR.out)
    have HK6r := Lib.hid (HK6.out.after HBR.out)
    obtain ⟨f0, f1, f2, -, -, -, fz⟩ := HK8r.out.c3
    obtain ⟨q0, -, qz⟩ := blk_one HK6r.out
    have hj5 : j = 0 ∨ j = 1 ∨ j = 2 ∨ j = 3 ∨ j = 4 := by omega
    clear hj
    rcases hj5 with rfl | rfl | rfl | rfl | rfl
    · -- round 0
      go_upto_region 12 with (at_builtin; refine wpList_append_any _ rfl (.const (.slice none 0 0)) (.tmp 39) _ rfl wr.heap.size 38 i0 _ 5 40 Tryd.underlying32 hi0 hz0 hz1 hz2 rfl (by omega) _ 0 [] rfl (World.ownsRow_nil _ _ _ _) w2.heap.size Ai f.code.length ci (inV f.code) rfl (HNX5.out.keep (Kp.of_below HBR.out (by omega))).1 (inV_one _) (by unfold maxLen; omega) (by omega) (Nat.le_refl _) ?_; intro v11 w11 own11 hg11 hat11; have hfo := own11.form (by omega); obtain ⟨g11, c11, rfl, hgb11, hgl11⟩ := hfo)
      have HG11 : Hid (wr.grownBy w11 none) := Lib.hid hg11
      have HO11 : Hid (w11.ownsRow wr.heap.size 38 5 (.slice (some ⟨g11, 0, none⟩) f.code.length c11) f.code.length (inV f.code)) := Lib.hid (by simpa using own11)
      have HB11 : Hid (Below wr.heap.size wr w11) := Lib.hid ⟨HG11.out.os, HG11.out.tape, HG11.out.output, HG11.out.size, fun b hb => HG11.out.block b hb (fun e => by cases e)⟩
      have hsz11 : wr.heap.size ≤ w11.heap.size := HB11.out.size
      clear own11 hg11 hat11
      obtain ⟨e0, e1, e2⟩ := own_ins_at HO11.out hkl
      have ee : w11.cell? ⟨g11, k * 5 + 3, none⟩ = some (.int .i64 (f.code.getD k Ins.z).c) := (HO11.out.cellAt (k * 5 + 3) (by omega)).trans (by have := flat_get icells_len Ins.z f.code k 3 hkl (by omega); simpa [icells, inV] using this)
      rw [← HX.out] at e0 e1 e2 ee
      have zf := HO11.out.frozenAt (k * 5 + 1)
      clear f0 f1 f2 fz q0 qz
      try simp only [Nat.zero_add]
      go_upto_region 21 with (fail)
      obtain ⟨w12, hw12⟩ : ∃ w12, w12 = w11.setCell ⟨g11, k * 5 + 1, none⟩ (.int .i64 (x.a + 1048576)) := ⟨_, rfl⟩
      rw [← hw12]
      have HO12 : Hid (w12.ownsRow wr.heap.size 38 5 (.slice (some ⟨g11, 0, none⟩) f.code.length c11) f.code.length (inV (f.code.set k (chg 0 x)))) := Lib.hid (by
        have h := (HO11.out.stored (k * 5 + 1) (.int .i64 (x.a + 1048576))).1
        rw [inV_setA _ _ _ hkl, ← hw12, ← HX.out] at h
        exact h)
      have HB12 : Hid (Below wr.heap.size wr w12) := Lib.hid (by rw [hw12]; exact HB11.out.setCell hgb11 _)
      have hsz12 : wr.heap.size ≤ w12.heap.size := HB12.out.size
      clear hw12 e0 e1 e2 ee zf HO11 HG11 HB11
      obtain ⟨s0, -, sz⟩ := blk_one (HK6r.out.after HB12.out)
      obtain ⟨vs, hrx, hvx⟩ := (HFX5.out.keep (Kp.of_below HBR.out (Nat.le_refl _))).keep (Kp.of_below HB12.out hszr)
      have HRX := Lib.hid hrx
      have HVX := Lib.hid hvx
      have hvl : vs.length = p.length * 3 := hrx.1.1
      have HV1 := Lib.hid (Vx.one hvx hvl)
      have HVL := Lib.hid hvl
      clear hrx hvx hvl
      go_upto_region 22 with (at_builtin; refine wpList_append_any _ rfl (.const (.slice none 0 0)) (.tmp 83) _ rfl w12.heap.size 34 i1 _ 3 56 Tryd.underlying26 hi1 hy0 hy1 hy2 rfl (by omega) _ 0 [] rfl (World.ownsRow_nil _ _ _ _) w5.heap.size (some ad) p.length cp vs rfl HRX.out.1 HV1.out (by unfold maxLen; omega) (by omega) (Nat.le_refl _) ?_; intro v13 w13 own13 hg13 hat13; have hfo := own13.form (by omega); obtain ⟨g13, c13, rfl, hgb13, hgl13⟩ := hfo)
      have HG13 : Hid (w12.grownBy w13 none) := Lib.hid hg13
      have HO13 : Hid (w13.ownsRow w12.heap.size 34 3 (.slice (some ⟨g13, 0, none⟩) p.length c13) p.length vs) := Lib.hid (by simpa using own13)
      have HB13 : Hid (Below w12.heap.size w12 w13) := Lib.hid ⟨HG13.out.os, HG13.out.tape, HG13.out.output, HG13.out.size, fun b hb => HG13.out.block b hb (fun e => by cases e)⟩
      have HO13i : Hid (w13.ownsRow wr.heap.size 38 5 (.slice (some ⟨g11, 0, none⟩) f.code.length c11) f.code.length (inV (f.code.set k (chg 0 x)))) := Lib.hid (own_keep HO12.out HB13.out (Nat.le_refl _))
      have hg1113 : g11 < g13 := by have := (HO12.out.lt g11 rfl).2; omega
      clear own13 hg13 hat13 HG13
      try simp only [Nat.zero_add]
      obtain ⟨w14, hw14⟩ : ∃ w14, w14 = w13.alloc (.cells #[.slice (some ⟨g13, 0, none⟩) p.length c13] 28) := ⟨_, rfl⟩
      rw [← hw14]
      have HO14 : Hid (w14.ownsRow w12.heap.size 34 3 (.slice (some ⟨g13, 0, none⟩) p.length c13) p.length vs) := Lib.hid (by rw [hw14]; exact HO13.out.alloc _)
      have HO14i : Hid (w14.ownsRow wr.heap.size 38 5 (.slice (some ⟨g11, 0, none⟩) f.code.length c11) f.code.length (inV (f.code.set k (chg 0 x)))) := Lib.hid (by rw [hw14]; exact HO13i.out.alloc _)
      have HK14 : Hid (Blk w14 w13.heap.size 28 #[.slice (some ⟨g13, 0, none⟩) p.length c13]) := Lib.hid (by rw [hw14]; exact Blk.new _ _ _)
      have HB14 : Hid (Below w12.heap.size w12 w14) := Lib.hid (by rw [hw14]; exact HB13.out.alloc HB13.out.size _)
      obtain ⟨g12, hg12⟩ : ∃ g, g = w13.heap.size := ⟨_, rfl⟩
      rw [← hg12] at HK14 ⊢
      have hg12' : g13 < g12 := by omega
      have hsz13 := HB13.out.size
      clear hw14 hg12 HO13 HO13i HO12 HB13 s0 sz
      obtain ⟨t0, -, tz⟩ := blk_one HK14.out
      obtain ⟨As', cs', Ai', ci', -, -, h3', -⟩ := HVX.out i hil
      have u2 : w14.cell? ⟨g13, i * 3 + 2, none⟩ = some (.slice Ai' (p.getD i Fn.z).code.length ci') := (HO14.out.cellAt (i * 3 + 2) (by omega)).trans h3'
      rw [← HFF.out] at u2
      have uf := HO14.out.frozenAt (i * 3 + 2)
      clear h3'
      go_upto_region 23 with (fail)
      obtain ⟨w15, hw15⟩ : ∃ w15, w15 = w14.setCell ⟨g13, i * 3 + 2, none⟩ (.slice (some ⟨g11, 0, none⟩) f.code.length c11) := ⟨_, rfl⟩
      rw [← hw15]
      have HOQ : Hid (w15.ownsRow w12.heap.size 34 3 (.slice (some ⟨g13, 0, none⟩) p.length c13) p.length (vs.set (i * 3 + 2) (.slice (some ⟨g11, 0, none⟩) f.code.length c11))) := Lib.hid (by rw [hw15]; exact (HO14.out.stored _ _).1)
      have HOI : Hid (w15.ownsRow wr.heap.size 38 5 (.slice (some ⟨g11, 0, none⟩) f.code.length c11) f.code.length (inV (f.code.set k (chg 0 x)))) := Lib.hid (by rw [hw15]; exact own_miss HO14i.out _ (fun j e => by have e' : g11 = j := (by simpa [Value.ownBlock] using e); show j ≠ g13; omega) _)
      have HB15 : Hid (Below w12.heap.size w12 w15) := Lib.hid (by rw [hw15]; exact HB14.out.setCell hgb13 _)
      have HK15 : Hid (Blk w15 g12 28 #[.slice (some ⟨g13, 0, none⟩) p.length c13]) := Lib.hid (by rw [hw15]; exact HK14.out.far (by show ¬ g12 = g13; omega) _)
      have HBr15 : Hid (Below wr.heap.size wr w15) := Lib.hid (HB12.out.trans (HB15.out.mono hsz12))
      have hsz15 : w12.heap.size ≤ w15.heap.size := HB15.out.size
      have HCL : Hid ((f.code.set k (chg 0 x)).length = f.code.length) := Lib.hid (by simp)
      have HNI : Hid (Nx w15 0 w15.heap.size (some ⟨g11, 0, none⟩) (f.code.set k (chg 0 x))) := Lib.hid (by
        have h := Rx.of_own HOI.out
        unfold Nx
        rw [HCL.out]
        exact h.more (Nat.zero_le _) (Nat.le_refl _))
      have HQL : Hid ((opq p i k 0).length = p.length) := Lib.hid (opq_len _ _ _ _)
      have HFQ : Hid (Fx w15 0 w15.heap.size (some ⟨g13, 0, none⟩) (opq p i k 0)) := Lib.hid (by
        refine ⟨vs.set (i * 3 + 2) (.slice (some ⟨g11, 0, none⟩) f.code.length c11), ?_, ?_⟩
        · rw [HQL.out]; exact (Rx.of_own HOQ.out).more (Nat.zero_le _) (Nat.le_refl _)
        · have hv := Vx.setCode ((HVX.out.keep (Kp.of_below HB15.out (by omega))).more (Nat.zero_le _) (show _ ≤ w15.heap.size by omega)) HVL.out hil HNI.out (ci := c11) (by rw [HCL.out]; exact own_cap HOI.out)
          rw [HCL.out] at hv
          unfold opq
          rw [← HFF.out, ← HX.out]
          rw [← HFF.out] at hv
          exact hv)
      have HTq := Lib.hid ((HT5.out.below HBR.out).below HBr15.out)
      have hkq : k < ((opq p i k 0).getD i Fn.z).code.length := by rw [opq_at hil]; simpa using hkl'
      have HKQ := Lib.hid hkq
      have HE1 := Lib.hid (op_instr (n := 0) HPR.out hil hkl')
      have HE2 := Lib.hid (op_prog (n := 0) HPR.out hil hkl')
      have HE3 := Lib.hid (op_same (n := 0) hil hkl')
      have HFP : Hid (Fx w15 w1.heap.size w5.heap.size (some ad) p) := Lib.hid ((HFX5.out.keep (Kp.of_below HBR.out (Nat.le_refl _))).keep (Kp.of_below HBr15.out hszr))
      have HK6q := Lib.hid (HK6r.out.after HBr15.out)
      clear hw15 HO14 HO14i HK14 HB14 t0 tz u2 uf HOQ HOI HNI HRX HVX HV1 hkq
      obtain ⟨t0, -, tz⟩ := blk_one HK15.out
      have HC1 := Lib.hid (checkinstr_any _ (opq p i k 0) c13 i k w15 0 w15.heap.size HTq.out HFQ.out (Nat.le_refl _) (by rw [HQL.out]; unfold maxLen; omega) (by rw [HQL.out]; exact hil) HKQ.out)
      have HC2 := Lib.hid (fun w16 (hb : Below w15.heap.size w15 w16) => check_any (some ⟨g13, 0, none⟩) (opq p i k 0) c13 w16 0 w15.heap.size (HTq.out.below hb) (HFQ.out.keep (Kp.of_below hb (Nat.le_refl _))) hb.size (by rw [HQL.out]; unfold maxLen; omega) (op_r HPR.out))
      have HC3 := Lib.hid (fun w17 (hb : Below w15.heap.size w15 w17) => same_any (some ad) (some ⟨g13, 0, none⟩) p (opq p i k 0) cp c13 w17 w1.heap.size w5.heap.size 0 w15.heap.size (by have := hb.size; omega) hb.size (HFP.out.keep (Kp.of_below hb (by omega))) (HFQ.out.keep (Kp.of_below hb (Nat.le_refl _))) (by unfold maxLen; omega) (by rw [HQL.out]; unfold maxLen; omega))
      generalize instrE (opq p i k 0).length ((opq p i k 0).getD i Fn.z).params ((opq p i k 0).getD i Fn.z).slots ((opq p i k 0).getD i Fn.z).code.length (((opq p i k 0).getD i Fn.z).code.getD k Ins.z) = ev at HC1 HE1
      generalize progE (opq p i k 0) = pv at HC2 HE2
      rw [HE3.out] at HC3
      rw [HQL.out] at HC1 HC2 HC3
      go_wp2_with fail
      refine HC1.out.mono ?_
      rintro e w16 ⟨rfl, bel16⟩
      have e1 : (ev == 0) = false := by rw [beq_eq_false_iff_ne]; exact HE1.out
      have HB16 := Lib.hid bel16
      have HK16 := Lib.hid (HK15.out.after bel16)
      clear bel16 t0 tz HE1
      obtain ⟨t0, -, tz⟩ := blk_one HK16.out
      have hsz16 := HB16.out.size
      go_wp2_with fail
      refine (HC2.out _ HB16.out).mono ?_
      rintro e w17 ⟨rfl, bel17⟩
      have e2 : (pv == 0) = false := by rw [beq_eq_false_iff_ne]; exact HE2.out
      have HB17 : Hid (Below w15.heap.size w15 w17) := Lib.hid (HB16.out.trans (bel17.mono hsz16))
      have HK17 := Lib.hid (HK15.out.after HB17.out)
      have HK6s := Lib.hid (HK6q.out.after HB17.out)
      clear bel17 t0 tz HE2
      obtain ⟨t0, -, tz⟩ := blk_one HK17.out
      obtain ⟨s0, -, sz⟩ := blk_one HK6s.out
      have hsz17 := HB17.out.size
      go_wp2_with fail
      refine (HC3.out _ HB17.out).mono ?_
      rintro e w18 ⟨rfl, bel18⟩
      have HB18 : Hid (Below w5.heap.size w5 w18) := Lib.hid ((HBR.out.trans (HBr15.out.mono hszr)).trans ((HB17.out.trans (bel18.mono hsz17)).mono (by omega)))
      clear bel18 t0 tz s0 sz HE3
      go_wp2
      go_roundw
      case rel => exact ⟨1, by omega, by go_num, HB18⟩
      case measure => simp [intOf]
    · -- round 1
      go_upto_region 12 with (at_builtin; refine wpList_append_any _ rfl (.const (.slice none 0 0)) (.tmp 39) _ rfl wr.heap.size 38 i0 _ 5 40 Tryd.underlying32 hi0 hz0 hz1 hz2 rfl (by omega) _ 0 [] rfl (World.ownsRow_nil _ _ _ _) w2.heap.size Ai f.code.length ci (inV f.code) rfl (HNX5.out.keep (Kp.of_below HBR.out (by omega))).1 (inV_one _) (by unfold maxLen; omega) (by omega) (Nat.le_refl _) ?_; intro v11 w11 own11 hg11 hat11; have hfo := own11.form (by omega); obtain ⟨g11, c11, rfl, hgb11, hgl11⟩ := hfo)
      have HG11 : Hid (wr.grownBy w11 none) := Lib.hid hg11
      have HO11 : Hid (w11.ownsRow wr.heap.size 38 5 (.slice (some ⟨g11, 0, none⟩) f.code.length c11) f.code.length (inV f.code)) := Lib.hid (by simpa using own11)
      have HB11 : Hid (Below wr.heap.size wr w11) := Lib.hid ⟨HG11.out.os, HG11.out.tape, HG11.out.output, HG11.out.size, fun b hb => HG11.out.block b hb (fun e => by cases e)⟩
      have hsz11 : wr.heap.size ≤ w11.heap.size := HB11.out.size
      clear own11 hg11 hat11
      obtain ⟨e0, e1, e2⟩ := own_ins_at HO11.out hkl
      have ee : w11.cell? ⟨g11, k * 5 + 3, none⟩ = some (.int .i64 (f.code.getD k Ins.z).c) := (HO11.out.cellAt (k * 5 + 3) (by omega)).trans (by have := flat_get icells_len Ins.z f.code k 3 hkl (by omega); simpa [icells, inV] using this)
      rw [← HX.out] at e0 e1 e2 ee
      have zf := HO11.out.frozenAt (k * 5 + 2)
      clear f0 f1 f2 fz q0 qz
      try simp only [Nat.zero_add]
      go_upto_region 21 with (fail)
      obtain ⟨w12, hw12⟩ : ∃ w12, w12 = w11.setCell ⟨g11, k * 5 + 2, none⟩ (.int .i64 (x.b + 1048576)) := ⟨_, rfl⟩
      rw [← hw12]
      have HO12 : Hid (w12.ownsRow wr.heap.size 38 5 (.slice (some ⟨g11, 0, none⟩) f.code.length c11) f.code.length (inV (f.code.set k (chg 1 x)))) := Lib.hid (by
        have h := (HO11.out.stored (k * 5 + 2) (.int .i64 (x.b + 1048576))).1
        rw [inV_setB _ _ _ hkl, ← hw12, ← HX.out] at h
        exact h)
      have HB12 : Hid (Below wr.heap.size wr w12) := Lib.hid (by rw [hw12]; exact HB11.out.setCell hgb11 _)
      have hsz12 : wr.heap.size ≤ w12.heap.size := HB12.out.size
      clear hw12 e0 e1 e2 ee zf HO11 HG11 HB11
      obtain ⟨s0, -, sz⟩ := blk_one (HK6r.out.after HB12.out)
      obtain ⟨vs, hrx, hvx⟩ := (HFX5.out.keep (Kp.of_below HBR.out (Nat.le_refl _))).keep (Kp.of_below HB12.out hszr)
      have HRX := Lib.hid hrx
      have HVX := Lib.hid hvx
      have hvl : vs.length = p.length * 3 := hrx.1.1
      have HV1 := Lib.hid (Vx.one hvx hvl)
      have HVL := Lib.hid hvl
      clear hrx hvx hvl
      go_upto_region 22 with (at_builtin; refine wpList_append_any _ rfl (.const (.slice none 0 0)) (.tmp 83) _ rfl w12.heap.size 34 i1 _ 3 56 Tryd.underlying26 hi1 hy0 hy1 hy2 rfl (by omega) _ 0 [] rfl (World.ownsRow_nil _ _ _ _) w5.heap.size (some ad) p.length cp vs rfl HRX.out.1 HV1.out (by unfold maxLen; omega) (by omega) (Nat.le_refl _) ?_; intro v13 w13 own13 hg13 hat13; have hfo := own13.form (by omega); obtain ⟨g13, c13, rfl, hgb13, hgl13⟩ := hfo)
      have HG13 : Hid (w12.grownBy w13 none) := Lib.hid hg13
      have HO13 : Hid (w13.ownsRow w12.heap.size 34 3 (.slice (some ⟨g13, 0, none⟩) p.length c13) p.length vs) := Lib.hid (by simpa using own13)
      have HB13 : Hid (Below w12.heap.size w12 w13) := Lib.hid ⟨HG13.out.os, HG13.out.tape, HG13.out.output, HG13.out.size, fun b hb => HG13.out.block b hb (fun e => by cases e)⟩
      have HO13i : Hid (w13.ownsRow wr.heap.size 38 5 (.slice (some ⟨g11, 0, none⟩) f.code.length c11) f.code.length (inV (f.code.set k (chg 1 x)))) := Lib.hid (own_keep HO12.out HB13.out (Nat.le_refl _))
      have hg1113 : g11 < g13 := by have := (HO12.out.lt g11 rfl).2; omega
      clear own13 hg13 hat13 HG13
      try simp only [Nat.zero_add]
      obtain ⟨w14, hw14⟩ : ∃ w14, w14 = w13.alloc (.cells #[.slice (some ⟨g13, 0, none⟩) p.length c13] 28) := ⟨_, rfl⟩
      rw [← hw14]
      have HO14 : Hid (w14.ownsRow w12.heap.size 34 3 (.slice (some ⟨g13, 0, none⟩) p.length c13) p.length vs) := Lib.hid (by rw [hw14]; exact HO13.out.alloc _)
      have HO14i : Hid (w14.ownsRow wr.heap.size 38 5 (.slice (some ⟨g11, 0, none⟩) f.code.length c11) f.code.length (inV (f.code.set k (chg 1 x)))) := Lib.hid (by rw [hw14]; exact HO13i.out.alloc _)
      have HK14 : Hid (Blk w14 w13.heap.size 28 #[.slice (some ⟨g13, 0, none⟩) p.length c13]) := Lib.hid (by rw [hw14]; exact Blk.new _ _ _)
      have HB14 : Hid (Below w12.heap.size w12 w14) := Lib.hid (by rw [hw14]; exact HB13.out.alloc HB13.out.size _)
      obtain ⟨g12, hg12⟩ : ∃ g, g = w13.heap.size := ⟨_, rfl⟩
      rw [← hg12] at HK14 ⊢
      have hg12' : g13 < g12 := by omega
      have hsz13 := HB13.out.size
      clear hw14 hg12 HO13 HO13i HO12 HB13 s0 sz
      obtain ⟨t0, -, tz⟩ := blk_one HK14.out
      obtain ⟨As', cs', Ai', ci', -, -, h3', -⟩ := HVX.out i hil
      have u2 : w14.cell? ⟨g13, i * 3 + 2, none⟩ = some (.slice Ai' (p.getD i Fn.z).code.length ci') := (HO14.out.cellAt (i * 3 + 2) (by omega)).trans h3'
      rw [← HFF.out] at u2
      have uf := HO14.out.frozenAt (i * 3 + 2)
      clear h3'
      go_upto_region 23 with (fail)
      obtain ⟨w15, hw15⟩ : ∃ w15, w15 = w14.setCell ⟨g13, i * 3 + 2, none⟩ (.slice (some ⟨g11, 0, none⟩) f.code.length c11) := ⟨_, rfl⟩
      rw [← hw15]
      have HOQ : Hid (w15.ownsRow w12.heap.size 34 3 (.slice (some ⟨g13, 0, none⟩) p.length c13) p.length (vs.set (i * 3 + 2) (.slice (some ⟨g11, 0, none⟩) f.code.length c11))) := Lib.hid (by rw [hw15]; exact (HO14.out.stored _ _).1)
      have HOI : Hid (w15.ownsRow wr.heap.size 38 5 (.slice (some ⟨g11, 0, none⟩) f.code.length c11) f.code.length (inV (f.code.set k (chg 1 x)))) := Lib.hid (by rw [hw15]; exact own_miss HO14i.out _ (fun j e => by have e' : g11 = j := (by simpa [Value.ownBlock] using e); show j ≠ g13; omega) _)
      have HB15 : Hid (Below w12.heap.size w12 w15) := Lib.hid (by rw [hw15]; exact HB14.out.setCell hgb13 _)
      have HK15 : Hid (Blk w15 g12 28 #[.slice (some ⟨g13, 0, none⟩) p.length c13]) := Lib.hid (by rw [hw15]; exact HK14.out.far (by show ¬ g12 = g13; omega) _)
      have HBr15 : Hid (Below wr.heap.size wr w15) := Lib.hid (HB12.out.trans (HB15.out.mono hsz12))
      have hsz15 : w12.heap.size ≤ w15.heap.size := HB15.out.size
      have HCL : Hid ((f.code.set k (chg 1 x)).length = f.code.length) := Lib.hid (by simp)
      have HNI : Hid (Nx w15 0 w15.heap.size (some ⟨g11, 0, none⟩) (f.code.set k (chg 1 x))) := Lib.hid (by
        have h := Rx.of_own HOI.out
        unfold Nx
        rw [HCL.out]
        exact h.more (Nat.zero_le _) (Nat.le_refl _))
      have HQL : Hid ((opq p i k 1).length = p.length) := Lib.hid (opq_len _ _ _ _)
      have HFQ : Hid (Fx w15 0 w15.heap.size (some ⟨g13, 0, none⟩) (opq p i k 1)) := Lib.hid (by
        refine ⟨vs.set (i * 3 + 2) (.slice (some ⟨g11, 0, none⟩) f.code.length c11), ?_, ?_⟩
        · rw [HQL.out]; exact (Rx.of_own HOQ.out).more (Nat.zero_le _) (Nat.le_refl _)
        · have hv := Vx.setCode ((HVX.out.keep (Kp.of_below HB15.out (by omega))).more (Nat.zero_le _) (show _ ≤ w15.heap.size by omega)) HVL.out hil HNI.out (ci := c11) (by rw [HCL.out]; exact own_cap HOI.out)
          rw [HCL.out] at hv
          unfold opq
          rw [← HFF.out, ← HX.out]
          rw [← HFF.out] at hv
          exact hv)
      have HTq := Lib.hid ((HT5.out.below HBR.out).below HBr15.out)
      have hkq : k < ((opq p i k 1).getD i Fn.z).code.length := by rw [opq_at hil]; simpa using hkl'
      have HKQ := Lib.hid hkq
      have HE1 := Lib.hid (op_instr (n := 1) HPR.out hil hkl')
      have HE2 := Lib.hid (op_prog (n := 1) HPR.out hil hkl')
      have HE3 := Lib.hid (op_same (n := 1) hil hkl')
      have HFP : Hid (Fx w15 w1.heap.size w5.heap.size (some ad) p) := Lib.hid ((HFX5.out.keep (Kp.of_below HBR.out (Nat.le_refl _))).keep (Kp.of_below HBr15.out hszr))
      have HK6q := Lib.hid (HK6r.out.after HBr15.out)
      clear hw15 HO14 HO14i HK14 HB14 t0 tz u2 uf HOQ HOI HNI HRX HVX HV1 hkq
      obtain ⟨t0, -, tz⟩ := blk_one HK15.out
      have HC1 := Lib.hid (checkinstr_any _ (opq p i k 1) c13 i k w15 0 w15.heap.size HTq.out HFQ.out (Nat.le_refl _) (by rw [HQL.out]; unfold maxLen; omega) (by rw [HQL.out]; exact hil) HKQ.out)
      have HC2 := Lib.hid (fun w16 (hb : Below w15.heap.size w15 w16) => check_any (some ⟨g13, 0, none⟩) (opq p i k 1) c13 w16 0 w15.heap.size (HTq.out.below hb) (HFQ.out.keep (Kp.of_below hb (Nat.le_refl _))) hb.size (by rw [HQL.out]; unfold maxLen; omega) (op_r HPR.out))
      have HC3 := Lib.hid (fun w17 (hb : Below w15.heap.size w15 w17) => same_any (some ad) (some ⟨g13, 0, none⟩) p (opq p i k 1) cp c13 w17 w1.heap.size w5.heap.size 0 w15.heap.size (by have := hb.size; omega) hb.size (HFP.out.keep (Kp.of_below hb (by omega))) (HFQ.out.keep (Kp.of_below hb (Nat.le_refl _))) (by unfold maxLen; omega) (by rw [HQL.out]; unfold maxLen; omega))
      generalize instrE (opq p i k 1).length ((opq p i k 1).getD i Fn.z).params ((opq p i k 1).getD i Fn.z).slots ((opq p i k 1).getD i Fn.z).code.length (((opq p i k 1).getD i Fn.z).code.getD k Ins.z) = ev at HC1 HE1
      generalize progE (opq p i k 1) = pv at HC2 HE2
      rw [HE3.out] at HC3
      rw [HQL.out] at HC1 HC2 HC3
      go_wp2_with fail
      refine HC1.out.mono ?_
      rintro e w16 ⟨rfl, bel16⟩
      have e1 : (ev == 0) = false := by rw [beq_eq_false_iff_ne]; exact HE1.out
      have HB16 := Lib.hid bel16
      have HK16 := Lib.hid (HK15.out.after bel16)
      clear bel16 t0 tz HE1
      obtain ⟨t0, -, tz⟩ := blk_one HK16.out
      have hsz16 := HB16.out.size
      go_wp2_with fail
      refine (HC2.out _ HB16.out).mono ?_
      rintro e w17 ⟨rfl, bel17⟩
      have e2 : (pv == 0) = false := by rw [beq_eq_false_iff_ne]; exact HE2.out
      have HB17 : Hid (Below w15.heap.size w15 w17) := Lib.hid (HB16.out.trans (bel17.mono hsz16))
      have HK17 := Lib.hid (HK15.out.after HB17.out)
      have HK6s := Lib.hid (HK6q.out.after HB17.out)
      clear bel17 t0 tz HE2
      obtain ⟨t0, -, tz⟩ := blk_one HK17.out
      obtain ⟨s0, -, sz⟩ := blk_one HK6s.out
      have hsz17 := HB17.out.size
      go_wp2_with fail
      refine (HC3.out _ HB17.out).mono ?_
      rintro e w18 ⟨rfl, bel18⟩
      have HB18 : Hid (Below w5.heap.size w5 w18) := Lib.hid ((HBR.out.trans (HBr15.out.mono hszr)).trans ((HB17.out.trans (bel18.mono hsz17)).mono (by omega)))
      clear bel18 t0 tz s0 sz HE3
      go_wp2
      go_roundw
      case rel => exact ⟨2, by omega, by go_num, HB18⟩
      case measure => simp [intOf]
    · -- round 2
      go_upto_region 12 with (at_builtin; refine wpList_append_any _ rfl (.const (.slice none 0 0)) (.tmp 39) _ rfl wr.heap.size 38 i0 _ 5 40 Tryd.underlying32 hi0 hz0 hz1 hz2 rfl (by omega) _ 0 [] rfl (World.ownsRow_nil _ _ _ _) w2.heap.size Ai f.code.length ci (inV f.code) rfl (HNX5.out.keep (Kp.of_below HBR.out (by omega))).1 (inV_one _) (by unfold maxLen; omega) (by omega) (Nat.le_refl _) ?_; intro v11 w11 own11 hg11 hat11; have hfo := own11.form (by omega); obtain ⟨g11, c11, rfl, hgb11, hgl11⟩ := hfo)
      have HG11 : Hid (wr.grownBy w11 none) := Lib.hid hg11
      have HO11 : Hid (w11.ownsRow wr.heap.size 38 5 (.slice (some ⟨g11, 0, none⟩) f.code.length c11) f.code.length (inV f.code)) := Lib.hid (by simpa using own11)
      have HB11 : Hid (Below wr.heap.size wr w11) := Lib.hid ⟨HG11.out.os, HG11.out.tape, HG11.out.output, HG11.out.size, fun b hb => HG11.out.block b hb (fun e => by cases e)⟩
      have hsz11 : wr.heap.size ≤ w11.heap.size := HB11.out.size
      clear own11 hg11 hat11
      obtain ⟨e0, e1, e2⟩ := own_ins_at HO11.out hkl
      have ee : w11.cell? ⟨g11, k * 5 + 3, none⟩ = some (.int .i64 (f.code.getD k Ins.z).c) := (HO11.out.cellAt (k * 5 + 3) (by omega)).trans (by have := flat_get icells_len Ins.z f.code k 3 hkl (by omega); simpa [icells, inV] using this)
      rw [← HX.out] at e0 e1 e2 ee
      have zf := HO11.out.frozenAt (k * 5 + 3)
      clear f0 f1 f2 fz q0 qz
      try simp only [Nat.zero_add]
      go_upto_region 21 with (fail)
      obtain ⟨w12, hw12⟩ : ∃ w12, w12 = w11.setCell ⟨g11, k * 5 + 3, none⟩ (.int .i64 (x.c + 1048576)) := ⟨_, rfl⟩
      rw [← hw12]
      have HO12 : Hid (w12.ownsRow wr.heap.size 38 5 (.slice (some ⟨g11, 0, none⟩) f.code.length c11) f.code.length (inV (f.code.set k (chg 2 x)))) := Lib.hid (by
        have h := (HO11.out.stored (k * 5 + 3) (.int .i64 (x.c + 1048576))).1
        rw [inV_set3 _ _ _ hkl, ← hw12, ← HX.out] at h
        exact h)
      have HB12 : Hid (Below wr.heap.size wr w12) := Lib.hid (by rw [hw12]; exact HB11.out.setCell hgb11 _)
      have hsz12 : wr.heap.size ≤ w12.heap.size := HB12.out.size
      clear hw12 e0 e1 e2 ee zf HO11 HG11 HB11
      obtain ⟨s0, -, sz⟩ := blk_one (HK6r.out.after HB12.out)
      obtain ⟨vs, hrx, hvx⟩ := (HFX5.out.keep (Kp.of_below HBR.out (Nat.le_refl _))).keep (Kp.of_below HB12.out hszr)
      have HRX := Lib.hid hrx
      have HVX := Lib.hid hvx
      have hvl : vs.length = p.length * 3 := hrx.1.1
      have HV1 := Lib.hid (Vx.one hvx hvl)
      have HVL := Lib.hid hvl
      clear hrx hvx hvl
      go_upto_region 22 with (at_builtin; refine wpList_append_any _ rfl (.const (.slice none 0 0)) (.tmp 83) _ rfl w12.heap.size 34 i1 _ 3 56 Tryd.underlying26 hi1 hy0 hy1 hy2 rfl (by omega) _ 0 [] rfl (World.ownsRow_nil _ _ _ _) w5.heap.size (some ad) p.length cp vs rfl HRX.out.1 HV1.out (by unfold maxLen; omega) (by omega) (Nat.le_refl _) ?_; intro v13 w13 own13 hg13 hat13; have hfo := own13.form (by omega); obtain ⟨g13, c13, rfl, hgb13, hgl13⟩ := hfo)
      have HG13 : Hid (w12.grownBy w13 none) := Lib.hid hg13
      have HO13 : Hid (w13.ownsRow w12.heap.size 34 3 (.slice (some ⟨g13, 0, none⟩) p.length c13) p.length vs) := Lib.hid (by simpa using own13)
      have HB13 : Hid (Below w12.heap.size w12 w13) := Lib.hid ⟨HG13.out.os, HG13.out.tape, HG13.out.output, HG13.out.size, fun b hb => HG13.out.block b hb (fun e => by cases e)⟩
      have HO13i : Hid (w13.ownsRow wr.heap.size 38 5 (.slice (some ⟨g11, 0, none⟩) f.code.length c11) f.code.length (inV (f.code.set k (chg 2 x)))) := Lib.hid (own_keep HO12.out HB13.out (Nat.le_refl _))
      have hg1113 : g11 < g13 := by have := (HO12.out.lt g11 rfl).2; omega
      clear own13 hg13 hat13 HG13
      try simp only [Nat.zero_add]
      obtain ⟨w14, hw14⟩ : ∃ w14, w14 = w13.alloc (.cells #[.slice (some ⟨g13, 0, none⟩) p.length c13] 28) := ⟨_, rfl⟩
      rw [← hw14]
      have HO14 : Hid (w14.ownsRow w12.heap.size 34 3 (.slice (some ⟨g13, 0, none⟩) p.length c13) p.length vs) := Lib.hid (by rw [hw14]; exact HO13.out.alloc _)
      have HO14i : Hid (w14.ownsRow wr.heap.size 38 5 (.slice (some ⟨g11, 0, none⟩) f.code.length c11) f.code.length (inV (f.code.set k (chg 2 x)))) := Lib.hid (by rw [hw14]; exact HO13i.out.alloc _)
      have HK14 : Hid (Blk w14 w13.heap.size 28 #[.slice (some ⟨g13, 0, none⟩) p.length c13]) := Lib.hid (by rw [hw14]; exact Blk.new _ _ _)
      have HB14 : Hid (Below w12.heap.size w12 w14) := Lib.hid (by rw [hw14]; exact HB13.out.alloc HB13.out.size _)
      obtain ⟨g12, hg12⟩ : ∃ g, g = w13.heap.size := ⟨_, rfl⟩
      rw [← hg12] at HK14 ⊢
      have hg12' : g13 < g12 := by omega
      have hsz13 := HB13.out.size
      clear hw14 hg12 HO13 HO13i HO12 HB13 s0 sz
      obtain ⟨t0, -, tz⟩ := blk_one HK14.out
      obtain ⟨As', cs', Ai', ci', -, -, h3', -⟩ := HVX.out i hil
      have u2 : w14.cell? ⟨g13, i * 3 + 2, none⟩ = some (.slice Ai' (p.getD i Fn.z).code.length ci') := (HO14.out.cellAt (i * 3 + 2) (by omega)).trans h3'
      rw [← HFF.out] at u2
      have uf := HO14.out.frozenAt (i * 3 + 2)
      clear h3'
      go_upto_region 23 with (fail)
      obtain ⟨w15, hw15⟩ : ∃ w15, w15 = w14.setCell ⟨g13, i * 3 + 2, none⟩ (.slice (some ⟨g11, 0, none⟩) f.code.length c11) := ⟨_, rfl⟩
      rw [← hw15]
      have HOQ : Hid (w15.ownsRow w12.heap.size 34 3 (.slice (some ⟨g13, 0, none⟩) p.length c13) p.length (vs.set (i * 3 + 2) (.slice (some ⟨g11, 0, none⟩) f.code.length c11))) := Lib.hid (by rw [hw15]; exact (HO14.out.stored _ _).1)
      have HOI : Hid (w15.ownsRow wr.heap.size 38 5 (.slice (some ⟨g11, 0, none⟩) f.code.length c11) f.code.length (inV (f.code.set k (chg 2 x)))) := Lib.hid (by rw [hw15]; exact own_miss HO14i.out _ (fun j e => by have e' : g11 = j := (by simpa [Value.ownBlock] using e); show j ≠ g13; omega) _)
      have HB15 : Hid (Below w12.heap.size w12 w15) := Lib.hid (by rw [hw15]; exact HB14.out.setCell hgb13 _)
      have HK15 : Hid (Blk w15 g12 28 #[.slice (some ⟨g13, 0, none⟩) p.length c13]) := Lib.hid (by rw [hw15]; exact HK14.out.far (by show ¬ g12 = g13; omega) _)
      have HBr15 : Hid (Below wr.heap.size wr w15) := Lib.hid (HB12.out.trans (HB15.out.mono hsz12))
      have hsz15 : w12.heap.size ≤ w15.heap.size := HB15.out.size
      have HCL : Hid ((f.code.set k (chg 2 x)).length = f.code.length) := Lib.hid (by simp)
      have HNI : Hid (Nx w15 0 w15.heap.size (some ⟨g11, 0, none⟩) (f.code.set k (chg 2 x))) := Lib.hid (by
        have h := Rx.of_own HOI.out
        unfold Nx
        rw [HCL.out]
        exact h.more (Nat.zero_le _) (Nat.le_refl _))
      have HQL : Hid ((opq p i k 2).length = p.length) := Lib.hid (opq_len _ _ _ _)
      have HFQ : Hid (Fx w15 0 w15.heap.size (some ⟨g13, 0, none⟩) (opq p i k 2)) := Lib.hid (by
        refine ⟨vs.set (i * 3 + 2) (.slice (some ⟨g11, 0, none⟩) f.code.length c11), ?_, ?_⟩
        · rw [HQL.out]; exact (Rx.of_own HOQ.out).more (Nat.zero_le _) (Nat.le_refl _)
        · have hv := Vx.setCode ((HVX.out.keep (Kp.of_below HB15.out (by omega))).more (Nat.zero_le _) (show _ ≤ w15.heap.size by omega)) HVL.out hil HNI.out (ci := c11) (by rw [HCL.out]; exact own_cap HOI.out)
          rw [HCL.out] at hv
          unfold opq
          rw [← HFF.out, ← HX.out]
          rw [← HFF.out] at hv
          exact hv)
      have HTq := Lib.hid ((HT5.out.below HBR.out).below HBr15.out)
      have hkq : k < ((opq p i k 2).getD i Fn.z).code.length := by rw [opq_at hil]; simpa using hkl'
      have HKQ := Lib.hid hkq
      have HE1 := Lib.hid (op_instr (n := 2) HPR.out hil hkl')
      have HE2 := Lib.hid (op_prog (n := 2) HPR.out hil hkl')
      have HE3 := Lib.hid (op_same (n := 2) hil hkl')
      have HFP : Hid (Fx w15 w1.heap.size w5.heap.size (some ad) p) := Lib.hid ((HFX5.out.keep (Kp.of_below HBR.out (Nat.le_refl _))).keep (Kp.of_below HBr15.out hszr))
      have HK6q := Lib.hid (HK6r.out.after HBr15.out)
      clear hw15 HO14 HO14i HK14 HB14 t0 tz u2 uf HOQ HOI HNI HRX HVX HV1 hkq
      obtain ⟨t0, -, tz⟩ := blk_one HK15.out
      have HC1 := Lib.hid (checkinstr_any _ (opq p i k 2) c13 i k w15 0 w15.heap.size HTq.out HFQ.out (Nat.le_refl _) (by rw [HQL.out]; unfold maxLen; omega) (by rw [HQL.out]; exact hil) HKQ.out)
      have HC2 := Lib.hid (fun w16 (hb : Below w15.heap.size w15 w16) => check_any (some ⟨g13, 0, none⟩) (opq p i k 2) c13 w16 0 w15.heap.size (HTq.out.below hb) (HFQ.out.keep (Kp.of_below hb (Nat.le_refl _))) hb.size (by rw [HQL.out]; unfold maxLen; omega) (op_r HPR.out))
      have HC3 := Lib.hid (fun w17 (hb : Below w15.heap.size w15 w17) => same_any (some ad) (some ⟨g13, 0, none⟩) p (opq p i k 2) cp c13 w17 w1.heap.size w5.heap.size 0 w15.heap.size (by have := hb.size; omega) hb.size (HFP.out.keep (Kp.of_below hb (by omega))) (HFQ.out.keep (Kp.of_below hb (Nat.le_refl _))) (by unfold maxLen; omega) (by rw [HQL.out]; unfold maxLen; omega))
      generalize instrE (opq p i k 2).length ((opq p i k 2).getD i Fn.z).params ((opq p i k 2).getD i Fn.z).slots ((opq p i k 2).getD i Fn.z).code.length (((opq p i k 2).getD i Fn.z).code.getD k Ins.z) = ev at HC1 HE1
      generalize progE (opq p i k 2) = pv at HC2 HE2
      rw [HE3.out] at HC3
      rw [HQL.out] at HC1 HC2 HC3
      go_wp2_with fail
      refine HC1.out.mono ?_
      rintro e w16 ⟨rfl, bel16⟩
      have e1 : (ev == 0) = false := by rw [beq_eq_false_iff_ne]; exact HE1.out
      have HB16 := Lib.hid bel16
      have HK16 := Lib.hid (HK15.out.after bel16)
      clear bel16 t0 tz HE1
      obtain ⟨t0, -, tz⟩ := blk_one HK16.out
      have hsz16 := HB16.out.size
      go_wp2_with fail
      refine (HC2.out _ HB16.out).mono ?_
      rintro e w17 ⟨rfl, bel17⟩
      have e2 : (pv == 0) = false := by rw [beq_eq_false_iff_ne]; exact HE2.out
      have HB17 : Hid (Below w15.heap.size w15 w17) := Lib.hid (HB16.out.trans (bel17.mono hsz16))
      have HK17 := Lib.hid (HK15.out.after HB17.out)
      have HK6s := Lib.hid (HK6q.out.after HB17.out)
      clear bel17 t0 tz HE2
      obtain ⟨t0, -, tz⟩ := blk_one HK17.out
      obtain ⟨s0, -, sz⟩ := blk_one HK6s.out
      have hsz17 := HB17.out.size
      go_wp2_with fail
      refine (HC3.out _ HB17.out).mono ?_
      rintro e w18 ⟨rfl, bel18⟩
      have HB18 : Hid (Below w5.heap.size w5 w18) := Lib.hid ((HBR.out.trans (HBr15.out.mono hszr)).trans ((HB17.out.trans (bel18.mono hsz17)).mono (by omega)))
      clear bel18 t0 tz s0 sz HE3
      go_wp2
      go_roundw
      case rel => exact ⟨3, by omega, by go_num, HB18⟩
      case measure => simp [intOf]
    · -- round 3
      go_upto_region 12 with (at_builtin; refine wpList_append_any _ rfl (.const (.slice none 0 0)) (.tmp 39) _ rfl wr.heap.size 38 i0 _ 5 40 Tryd.underlying32 hi0 hz0 hz1 hz2 rfl (by omega) _ 0 [] rfl (World.ownsRow_nil _ _ _ _) w2.heap.size Ai f.code.length ci (inV f.code) rfl (HNX5.out.keep (Kp.of_below HBR.out (by omega))).1 (inV_one _) (by unfold maxLen; omega) (by omega) (Nat.le_refl _) ?_; intro v11 w11 own11 hg11 hat11; have hfo := own11.form (by omega); obtain ⟨g11, c11, rfl, hgb11, hgl11⟩ := hfo)
      have HG11 : Hid (wr.grownBy w11 none) := Lib.hid hg11
      have HO11 : Hid (w11.ownsRow wr.heap.size 38 5 (.slice (some ⟨g11, 0, none⟩) f.code.length c11) f.code.length (inV f.code)) := Lib.hid (by simpa using own11)
      have HB11 : Hid (Below wr.heap.size wr w11) := Lib.hid ⟨HG11.out.os, HG11.out.tape, HG11.out.output, HG11.out.size, fun b hb => HG11.out.block b hb (fun e => by cases e)⟩
      have hsz11 : wr.heap.size ≤ w11.heap.size := HB11.out.size
      clear own11 hg11 hat11
      obtain ⟨e0, e1, e2⟩ := own_ins_at HO11.out hkl
      have ee : w11.cell? ⟨g11, k * 5 + 3, none⟩ = some (.int .i64 (f.code.getD k Ins.z).c) := (HO11.out.cellAt (k * 5 + 3) (by omega)).trans (by have := flat_get icells_len Ins.z f.code k 3 hkl (by omega); simpa [icells, inV] using this)
      rw [← HX.out] at e0 e1 e2 ee
      have zf := HO11.out.frozenAt (k * 5)
      clear f0 f1 f2 fz q0 qz
      try simp only [Nat.zero_add]
      go_upto_region 21 with (fail)
      obtain ⟨w12, hw12⟩ : ∃ w12, w12 = w11.setCell ⟨g11, k * 5, none⟩ (.int .i64 (x.op + 25)) := ⟨_, rfl⟩
      rw [← hw12]
      have HO12 : Hid (w12.ownsRow wr.heap.size 38 5 (.slice (some ⟨g11, 0, none⟩) f.code.length c11) f.code.length (inV (f.code.set k (chg 3 x)))) := Lib.hid (by
        have h := (HO11.out.stored (k * 5) (.int .i64 (x.op + 25))).1
        rw [inV_set0 _ _ _ hkl, ← hw12, ← HX.out] at h
        exact h)
      have HB12 : Hid (Below wr.heap.size wr w12) := Lib.hid (by rw [hw12]; exact HB11.out.setCell hgb11 _)
      have hsz12 : wr.heap.size ≤ w12.heap.size := HB12.out.size
      clear hw12 e0 e1 e2 ee zf HO11 HG11 HB11
      obtain ⟨s0, -, sz⟩ := blk_one (HK6r.out.after HB12.out)
      obtain ⟨vs, hrx, hvx⟩ := (HFX5.out.keep (Kp.of_below HBR.out (Nat.le_refl _))).keep (Kp.of_below HB12.out hszr)
      have HRX := Lib.hid hrx
      have HVX := Lib.hid hvx
      have hvl : vs.length = p.length * 3 := hrx.1.1
      have HV1 := Lib.hid (Vx.one hvx hvl)
      have HVL := Lib.hid hvl
      clear hrx hvx hvl
      go_upto_region 22 with (at_builtin; refine wpList_append_any _ rfl (.const (.slice none 0 0)) (.tmp 83) _ rfl w12.heap.size 34 i1 _ 3 56 Tryd.underlying26 hi1 hy0 hy1 hy2 rfl (by omega) _ 0 [] rfl (World.ownsRow_nil _ _ _ _) w5.heap.size (some ad) p.length cp vs rfl HRX.out.1 HV1.out (by unfold maxLen; omega) (by omega) (Nat.le_refl _) ?_; intro v13 w13 own13 hg13 hat13; have hfo := own13.form (by omega); obtain ⟨g13, c13, rfl, hgb13, hgl13⟩ := hfo)
      have HG13 : Hid (w12.grownBy w13 none) := Lib.hid hg13
      have HO13 : Hid (w13.ownsRow w12.heap.size 34 3 (.slice (some ⟨g13, 0, none⟩) p.length c13) p.length vs) := Lib.hid (by simpa using own13)
      have HB13 : Hid (Below w12.heap.size w12 w13) := Lib.hid ⟨HG13.out.os, HG13.out.tape, HG13.out.output, HG13.out.size, fun b hb => HG13.out.block b hb (fun e => by cases e)⟩
      have HO13i : Hid (w13.ownsRow wr.heap.size 38 5 (.slice (some ⟨g11, 0, none⟩) f.code.length c11) f.code.length (inV (f.code.set k (chg 3 x)))) := Lib.hid (own_keep HO12.out HB13.out (Nat.le_refl _))
      have hg1113 : g11 < g13 := by have := (HO12.out.lt g11 rfl).2; omega
      clear own13 hg13 hat13 HG13
      try simp only [Nat.zero_add]
      obtain ⟨w14, hw14⟩ : ∃ w14, w14 = w13.alloc (.cells #[.slice (some ⟨g13, 0, none⟩) p.length c13] 28) := ⟨_, rfl⟩
      rw [← hw14]
      have HO14 : Hid (w14.ownsRow w12.heap.size 34 3 (.slice (some ⟨g13, 0, none⟩) p.length c13) p.length vs) := Lib.hid (by rw [hw14]; exact HO13.out.alloc _)
      have HO14i : Hid (w14.ownsRow wr.heap.size 38 5 (.slice (some ⟨g11, 0, none⟩) f.code.length c11) f.code.length (inV (f.code.set k (chg 3 x)))) := Lib.hid (by rw [hw14]; exact HO13i.out.alloc _)
      have HK14 : Hid (Blk w14 w13.heap.size 28 #[.slice (some ⟨g13, 0, none⟩) p.length c13]) := Lib.hid (by rw [hw14]; exact Blk.new _ _ _)
      have HB14 : Hid (Below w12.heap.size w12 w14) := Lib.hid (by rw [hw14]; exact HB13.out.alloc HB13.out.size _)
      obtain ⟨g12, hg12⟩ : ∃ g, g = w13.heap.size := ⟨_, rfl⟩
      rw [← hg12] at HK14 ⊢
      have hg12' : g13 < g12 := by omega
      have hsz13 := HB13.out.size
      clear hw14 hg12 HO13 HO13i HO12 HB13 s0 sz
      obtain ⟨t0, -, tz⟩ := blk_one HK14.out
      obtain ⟨As', cs', Ai', ci', -, -, h3', -⟩ := HVX.out i hil
      have u2 : w14.cell? ⟨g13, i * 3 + 2, none⟩ = some (.slice Ai' (p.getD i Fn.z).code.length ci') := (HO14.out.cellAt (i * 3 + 2) (by omega)).trans h3'
      rw [← HFF.out] at u2
      have uf := HO14.out.frozenAt (i * 3 + 2)
      clear h3'
      go_upto_region 23 with (fail)
      obtain ⟨w15, hw15⟩ : ∃ w15, w15 = w14.setCell ⟨g13, i * 3 + 2, none⟩ (.slice (some ⟨g11, 0, none⟩) f.code.length c11) := ⟨_, rfl⟩
      rw [← hw15]
      have HOQ : Hid (w15.ownsRow w12.heap.size 34 3 (.slice (some ⟨g13, 0, none⟩) p.length c13) p.length (vs.set (i * 3 + 2) (.slice (some ⟨g11, 0, none⟩) f.code.length c11))) := Lib.hid (by rw [hw15]; exact (HO14.out.stored _ _).1)
      have HOI : Hid (w15.ownsRow wr.heap.size 38 5 (.slice (some ⟨g11, 0, none⟩) f.code.length c11) f.code.length (inV (f.code.set k (chg 3 x)))) := Lib.hid (by rw [hw15]; exact own_miss HO14i.out _ (fun j e => by have e' : g11 = j := (by simpa [Value.ownBlock] using e); show j ≠ g13; omega) _)
      have HB15 : Hid (Below w12.heap.size w12 w15) := Lib.hid (by rw [hw15]; exact HB14.out.setCell hgb13 _)
      have HK15 : Hid (Blk w15 g12 28 #[.slice (some ⟨g13, 0, none⟩) p.length c13]) := Lib.hid (by rw [hw15]; exact HK14.out.far (by show ¬ g12 = g13; omega) _)
      have HBr15 : Hid (Below wr.heap.size wr w15) := Lib.hid (HB12.out.trans (HB15.out.mono hsz12))
      have hsz15 : w12.heap.size ≤ w15.heap.size := HB15.out.size
      have HCL : Hid ((f.code.set k (chg 3 x)).length = f.code.length) := Lib.hid (by simp)
      have HNI : Hid (Nx w15 0 w15.heap.size (some ⟨g11, 0, none⟩) (f.code.set k (chg 3 x))) := Lib.hid (by
        have h := Rx.of_own HOI.out
        unfold Nx
        rw [HCL.out]
        exact h.more (Nat.zero_le _) (Nat.le_refl _))
      have HQL : Hid ((opq p i k 3).length = p.length) := Lib.hid (opq_len _ _ _ _)
      have HFQ : Hid (Fx w15 0 w15.heap.size (some ⟨g13, 0, none⟩) (opq p i k 3)) := Lib.hid (by
        refine ⟨vs.set (i * 3 + 2) (.slice (some ⟨g11, 0, none⟩) f.code.length c11), ?_, ?_⟩
        · rw [HQL.out]; exact (Rx.of_own HOQ.out).more (Nat.zero_le _) (Nat.le_refl _)
        · have hv := Vx.setCode ((HVX.out.keep (Kp.of_below HB15.out (by omega))).more (Nat.zero_le _) (show _ ≤ w15.heap.size by omega)) HVL.out hil HNI.out (ci := c11) (by rw [HCL.out]; exact own_cap HOI.out)
          rw [HCL.out] at hv
          unfold opq
          rw [← HFF.out, ← HX.out]
          rw [← HFF.out] at hv
          exact hv)
      have HTq := Lib.hid ((HT5.out.below HBR.out).below HBr15.out)
      have hkq : k < ((opq p i k 3).getD i Fn.z).code.length := by rw [opq_at hil]; simpa using hkl'
      have HKQ := Lib.hid hkq
      have HE1 := Lib.hid (op_instr (n := 3) HPR.out hil hkl')
      have HE2 := Lib.hid (op_prog (n := 3) HPR.out hil hkl')
      have HE3 := Lib.hid (op_same (n := 3) hil hkl')
      have HFP : Hid (Fx w15 w1.heap.size w5.heap.size (some ad) p) := Lib.hid ((HFX5.out.keep (Kp.of_below HBR.out (Nat.le_refl _))).keep (Kp.of_below HBr15.out hszr))
      have HK6q := Lib.hid (HK6r.out.after HBr15.out)
      clear hw15 HO14 HO14i HK14 HB14 t0 tz u2 uf HOQ HOI HNI HRX HVX HV1 hkq
      obtain ⟨t0, -, tz⟩ := blk_one HK15.out
      have HC1 := Lib.hid (checkinstr_any _ (opq p i k 3) c13 i k w15 0 w15.heap.size HTq.out HFQ.out (Nat.le_refl _) (by rw [HQL.out]; unfold maxLen; omega) (by rw [HQL.out]; exact hil) HKQ.out)
      have HC2 := Lib.hid (fun w16 (hb : Below w15.heap.size w15 w16) => check_any (some ⟨g13, 0, none⟩) (opq p i k 3) c13 w16 0 w15.heap.size (HTq.out.below hb) (HFQ.out.keep (Kp.of_below hb (Nat.le_refl _))) hb.size (by rw [HQL.out]; unfold maxLen; omega) (op_r HPR.out))
      have HC3 := Lib.hid (fun w17 (hb : Below w15.heap.size w15 w17) => same_any (some ad) (some ⟨g13, 0, none⟩) p (opq p i k 3) cp c13 w17 w1.heap.size w5.heap.size 0 w15.heap.size (by have := hb.size; omega) hb.size (HFP.out.keep (Kp.of_below hb (by omega))) (HFQ.out.keep (Kp.of_below hb (Nat.le_refl _))) (by unfold maxLen; omega) (by rw [HQL.out]; unfold maxLen; omega))
      generalize instrE (opq p i k 3).length ((opq p i k 3).getD i Fn.z).params ((opq p i k 3).getD i Fn.z).slots ((opq p i k 3).getD i Fn.z).code.length (((opq p i k 3).getD i Fn.z).code.getD k Ins.z) = ev at HC1 HE1
      generalize progE (opq p i k 3) = pv at HC2 HE2
      rw [HE3.out] at HC3
      rw [HQL.out] at HC1 HC2 HC3
      go_wp2_with fail
      refine HC1.out.mono ?_
      rintro e w16 ⟨rfl, bel16⟩
      have e1 : (ev == 0) = false := by rw [beq_eq_false_iff_ne]; exact HE1.out
      have HB16 := Lib.hid bel16
      have HK16 := Lib.hid (HK15.out.after bel16)
      clear bel16 t0 tz HE1
      obtain ⟨t0, -, tz⟩ := blk_one HK16.out
      have hsz16 := HB16.out.size
      go_wp2_with fail
      refine (HC2.out _ HB16.out).mono ?_
      rintro e w17 ⟨rfl, bel17⟩
      have e2 : (pv == 0) = false := by rw [beq_eq_false_iff_ne]; exact HE2.out
      have HB17 : Hid (Below w15.heap.size w15 w17) := Lib.hid (HB16.out.trans (bel17.mono hsz16))
      have HK17 := Lib.hid (HK15.out.after HB17.out)
      have HK6s := Lib.hid (HK6q.out.after HB17.out)
      clear bel17 t0 tz HE2
      obtain ⟨t0, -, tz⟩ := blk_one HK17.out
      obtain ⟨s0, -, sz⟩ := blk_one HK6s.out
      have hsz17 := HB17.out.size
      go_wp2_with fail
      refine (HC3.out _ HB17.out).mono ?_
      rintro e w18 ⟨rfl, bel18⟩
      have HB18 : Hid (Below w5.heap.size w5 w18) := Lib.hid ((HBR.out.trans (HBr15.out.mono hszr)).trans ((HB17.out.trans (bel18.mono hsz17)).mono (by omega)))
      clear bel18 t0 tz s0 sz HE3
      go_wp2
      go_roundw
      case rel => exact ⟨4, by omega, by go_num, HB18⟩
      case measure => simp [intOf]
    · -- the end
      have HFXr : Hid (Fx wr w1.heap.size w5.heap.size (some ad) p) := Lib.hid (HFX5.out.keep (Kp.of_below HBR.out (Nat.le_refl _)))
      have HBN : Hid (Below w.heap.size w wr) := Lib.hid (HB5.out.trans (HBR.out.mono HB5.out.size))
      have HOK := Lib.hid (pr_okE HPR.out (by omega))
      go_wp2_with fail
      refine (check_any _ p cp wr _ _ (HT5.out.below HBR.out) HFXr.out hszr (by unfold maxLen; omega) (pr_r HPR.out)).mono ?_
      rintro e w9 ⟨rfl, bel9⟩
      rw [HOK.out]
      have HB9 : Hid (Below w.heap.size w w9) := Lib.hid (HBN.out.trans (bel9.mono HBN.out.size))
      clear bel9
      go_wp2
      go_ret
      exact ⟨rfl, HB9.out⟩
end Go.Proofs.YtfhlhgbmdjocoaaDoor.pm
