/- Bytes of targets: machcode.Decode where the length is right. -/
import Derived.Test.YtinfeglhjmnlaaaDoorGIa
import Derived.Test.YtinfeglhjmnlaaaDoorGKy
import Derived.Deep.RegionLaw
import Derived.Deep.DrawnRows
namespace Go.Proofs.YtinfeglhjmnlaaaDoor.pm
open Go.RowKit
set_option linter.unusedVariables false
set_option maxRecDepth 10000

theorem getD_le {vs : List Nat} (h : ∀ v ∈ vs, v ≤ 2147483647) (j : Nat) : vs.getD j 0 ≤ 2147483647 := by
  rw [List.getD_eq_getElem?_getD]
  rcases hq : vs[j]? with _ | v
  · simp
  · exact h v (List.mem_of_getElem? hq)
theorem imm_lt (l : List Nat) (q : Bool) (p : Nat) (b : Bool) : (immP l q p b).1 < 18446744073709551616 := by
  unfold immP
  cases q
  · simp
  · exact anyP_lt l p b
theorem ins_rng {l : List Nat} (hl : ∀ x ∈ l, x < 256) (p : Nat) (b : Bool) : InR (insP l p b).1 ∧ 0 ≤ (insP l p b).1.imm ∧ (insP l p b).1.imm < 18446744073709551616 := by
  have h1 := op_lt hl p b
  unfold insP insR insO
  simp only
  generalize opP l p b = o at *
  have h2 := ops_le l (opM (o.1 : Int)) o.2.1 o.2.2
  have h3 := getD_le h2 0
  have h4 := getD_le h2 1
  have h5 := getD_le h2 2
  have h6 := imm_lt l (immB (o.1 : Int)) (opsP l (opM (o.1 : Int)) o.2.1 o.2.2).2.1 (opsP l (opM (o.1 : Int)) o.2.1 o.2.2).2.2
  unfold InR I64
  simp only
  omega
theorem code_rng {l : List Nat} (hl : ∀ x ∈ l, x < 256) : ∀ (n p : Nat) (b : Bool), ∀ x ∈ (codeP l n p b).1, InR x ∧ 0 ≤ x.imm ∧ x.imm < 18446744073709551616
  | 0, p, b, x, hx => by cases hx
  | n + 1, p, true, x, hx => by cases hx
  | n + 1, p, false, x, hx => by
    unfold codeP at hx
    rcases List.mem_cons.1 hx with h | h
    · rw [h]; exact ins_rng hl p false
    · exact code_rng hl n _ _ x h
theorem frame_rng {l : List Nat} (hl : ∀ x ∈ l, x < 256) {al : Int} {k : Nat} (hal : al = ((2 ^ k : Nat) : Int)) (hk : k ≤ 24) (p : Nat) (b : Bool) : FrR (frameP l al p b).1 ∧ ∀ x ∈ (frameP l al p b).1.code, 0 ≤ x.imm ∧ x.imm < 18446744073709551616 := by
  unfold frameP
  simp only
  have h1 := upP_le l 8 p b
  have h2 := upP_le l M31 (upP l 8 p b).2.1 (upP l 8 p b).2.2
  have h3 := mul_rng hal hk (show (upP l M31 (upP l 8 p b).2.1 (upP l 8 p b).2.2).1 ≤ 2147483647 from h2)
  refine ⟨⟨by unfold I64; simp only; omega, by unfold I64; simp only; omega, fun x hx => (code_rng hl _ _ _ x hx).1⟩, fun x hx => (code_rng hl _ _ _ x hx).2⟩
theorem code_pos {l : List Nat} {M : Nat} (hl : l.length ≤ M) : ∀ (n p : Nat) (b : Bool), p ≤ M → (codeP l n p b).2.1 ≤ M
  | 0, p, b, hp => hp
  | n + 1, p, true, hp => hp
  | n + 1, p, false, hp => by unfold codeP; exact code_pos hl n _ _ (ins_pos hp hl)
theorem frame_pos {l : List Nat} {M : Nat} (hl : l.length ≤ M) (al : Int) (p : Nat) (b : Bool) (hp : p ≤ M) : (frameP l al p b).2.1 ≤ M := by
  unfold frameP
  simp only
  exact code_pos hl _ _ _ (up_pos (up_pos (up_pos hp hl) hl) hl)
theorem frames_stop (l : List Nat) (al : Int) (m p : Nat) (b : Bool) (h : m = 0 ∨ b = true) : framesP l al m p b = ([], p, b) := by
  rcases h with rfl | rfl
  · rfl
  · cases m <;> rfl
/-- what a target under way looks like: the place for the answer, its cells, its frames -/
structure DI (g2 g6 lo : Nat) (al : Int) (ts : List Fr) (o : Value) (vs : List Value) (w W : World) : Prop where
  f : Blk W g2 29 #[.int .i64 0, .slice none 0 0]
  x : Blk W g6 29 #[.int .i64 al, o]
  ow : W.ownsRow lo 61 3 o ts.length vs
  wx : Wx W lo W.heap.size vs ts
  tx : Tx W vs ts.length
  bel : Below w.heap.size w W
section
variable {gr g2 g6 lo : Nat} {al : Int} {ts : List Fr} {o : Value} {vs : List Value} {w W W' : World}
theorem DI.grown (h : DI g2 g6 lo al ts o vs w W) (hg : W.grownBy W' (some gr)) (h2 : g2 < gr) (h6 : gr < g6) (hl : gr < lo) (hw : w.heap.size ≤ gr) : DI g2 g6 lo al ts o vs w W' := by
  obtain ⟨a, b⟩ := h.wx.keepK h.tx (Kp.of_grown hg (Nat.le_refl _) (.inl hl))
  exact ⟨h.f.grown hg (by intro h; injection h with h; omega), h.x.grown hg (by intro h; injection h with h; omega), h.ow.kept hg (by
    rcases hq : o.ownBlock with _ | k
    · exact .inl rfl
    · right
      intro e
      injection e with e
      have := h.ow.lt k hq
      omega), a.more (Nat.le_refl _) hg.size, b, h.bel.trans (below_of_grown hg hw h.bel.size)⟩
theorem DI.alo (h : DI g2 g6 lo al ts o vs w W) (ob : Obj) : DI g2 g6 lo al ts o vs w (W.alloc ob) := by
  obtain ⟨a, b⟩ := h.wx.keepK h.tx (Kp.of_below ((Below.refl _ _).alloc (Nat.le_refl _) ob) (Nat.le_refl _))
  exact ⟨h.f.alloc _, h.x.alloc _, h.ow.alloc _, a.more (Nat.le_refl _) (by simp), b, h.bel.alloc h.bel.size _⟩
/-- one frame more -/
theorem DI.app (h : DI g2 g6 lo al ts o vs w W) {f : Fr} {V : Option Addr} {cc : Nat} {v' : Value} (hn : Nx W lo W.heap.size V f.code) (ht : TyA W V f.code.length 58) (hc : f.code.length ≤ cc) (hm : f.code.length ≤ maxLen) (hwl : w.heap.size ≤ lo) (hw6 : w.heap.size ≤ g6) (h26 : g2 ≠ g6) (hlo : lo ≤ W.heap.size) (h6l : g6 < lo)
    (hown : W'.ownsRow lo 61 3 v' (ts.length + 1) (vs ++ [.int .i64 f.params, .int .i64 f.size, .slice V f.code.length cc])) (hg : W.grownBy W' o.ownBlock) : DI g2 g6 lo al (ts ++ [f]) v' (vs ++ [.int .i64 f.params, .int .i64 f.size, .slice V f.code.length cc]) w (W'.setCell ⟨g6, 1, none⟩ v') := by
  have hvl : vs.length = ts.length * 3 := h.ow.1
  obtain ⟨a, b⟩ := h.wx.keepT h.tx (Kt.of_own h.ow hg (Nat.le_refl _)) (by decide)
  have hn' : Nx W' lo W.heap.size V f.code := Rx.keepT hn ht (Kt.of_own h.ow hg (Nat.le_refl _)) (by decide)
  have ht' : TyA W' V f.code.length 58 := TyA.keepT hn ht (Kt.of_own h.ow hg (Nat.le_refl _)) (by decide)
  have hx := h.x.grown hg (fun e => own_blk_ne h.ow h.x (by decide) e.symm)
  have hf := h.f.grown hg (fun e => own_blk_ne h.ow h.f (by decide) e.symm)
  have hw := (a.snoc hvl hn' ⟨hm, hc⟩).more (Nat.le_refl _) hg.size
  have htx := b.snoc hvl (a := .int .i64 f.params) (b := .int .i64 f.size) (ci := cc) ht'
  have hk : Kp lo W'.heap.size W' (W'.setCell ⟨g6, 1, none⟩ v') := fun k hk _ => Below.heap_setCell W' _ _ k (by simp; omega)
  have hl1 : (ts ++ [f]).length = ts.length + 1 := by simp
  rw [← hl1] at htx hown
  obtain ⟨a2, b2⟩ := hw.keepK htx hk
  exact ⟨hf.far (by simpa using h26) _, hx.set_ 1 _, own_off (i := 1) hown hx (by decide) v', a2.more (Nat.le_refl _) (by simp), b2, (h.bel.trans (below_append (Below.refl _ _) h.ow hg hwl hlo)).setCell (p := ⟨g6, 1, none⟩) hw6 _⟩
theorem DI.app2 (h : DI g2 g6 lo al ts o vs w W) (ob : Obj) {f : Fr} {V : Option Addr} {cc : Nat} {v' : Value} (hn : Nx W lo W.heap.size V f.code) (ht : TyA W V f.code.length 58) (hc : f.code.length ≤ cc) (hm : f.code.length ≤ maxLen) (hwl : w.heap.size ≤ lo) (hw6 : w.heap.size ≤ g6) (h26 : g2 ≠ g6) (hlo : lo ≤ W.heap.size) (h6l : g6 < lo)
    (hown : W'.ownsRow lo 61 3 v' (ts.length + 1) (vs ++ [.int .i64 f.params, .int .i64 f.size, .slice V f.code.length cc])) (hg : (W.alloc ob).grownBy W' o.ownBlock) : DI g2 g6 lo al (ts ++ [f]) v' (vs ++ [.int .i64 f.params, .int .i64 f.size, .slice V f.code.length cc]) w (W'.setCell ⟨g6, 1, none⟩ v') := by
  have hb : Below W.heap.size W (W.alloc ob) := (Below.refl _ _).alloc (Nat.le_refl _) ob
  have hk : Kp lo W.heap.size W (W.alloc ob) := Kp.of_below hb (Nat.le_refl _)
  exact (h.alo ob).app ((hn.keep hk).more (Nat.le_refl _) hb.size) (TyA.keep ht hk (Rx.inside hn)) hc hm hwl hw6 h26 (Nat.le_trans hlo hb.size) h6l hown hg
end
theorem encB_bytes' {al bd : Int} {t : List Fr} (h : RgT al t) : ∀ y ∈ encB al bd t, y < 256 := by
  intro y hy
  by_cases he : encE al bd t = 0
  · have hz := encE_zero he
    rw [encB_eq he] at hy
    exact sealL_bytes (bodyT_bytes (et_of (h.rt hz.1)) hz.2.1) y hy
  · unfold encB at hy
    rw [if_neg he] at hy
    cases hy
theorem dec_of {l : List Nat} {k : Nat} {al bd : Int} {ts : List Fr} {b : Bool} (hl : l.length = k + 4) (h1 : l.length ≤ 1048576) (h2 : 10 ≤ l.length) (h : targP (l.take k) = (al, bd, ts, b)) :
    decT false l = if b = false ∧ encE al bd ts = 0 ∧ encB al bd ts = l then some (al, bd, ts) else none := by
  unfold decT
  rw [if_pos ⟨h1, h2⟩, show l.length - 4 = k by omega]
  have ht := targ_some (l.take k)
  cases hp : pT false (l.take k) with
  | none =>
    rw [hp] at ht
    have ht' : (targP (l.take k)).2.2.2 = true := ht
    rw [h] at ht'
    have hb : b = true := ht'
    subst hb
    simp
  | some r =>
    rw [hp] at ht
    have ht' : targP (l.take k) = (r.1, r.2.1, r.2.2, false) := ht
    rw [h] at ht'
    simp only [Prod.mk.injEq] at ht'
    obtain ⟨rfl, rfl, rfl, rfl⟩ := ht'
    simp
theorem decE_none {l : List Nat} (h1 : l.length ≤ 1048576) (h2 : 10 ≤ l.length) (h : decT false l = none) : decE l = 2 := by
  unfold decE
  rw [if_neg (by omega), if_neg (by omega), h]
  rfl
set_option maxHeartbeats 4000000 in
theorem dec_ok (A : Option Addr) (n c : Nat) (l : List Nat) (w : World) (hT : Dt w) (hb : Bs w w.heap.size A n l) (hn1 : n ≤ 1048576) (hn2 : 10 ≤ n) (hc : n ≤ c) (hcm : c ≤ maxLen) :
    Calls Tryd.prog 17 #[.slice A n c] w (DcD l w) := by
  have hln := hb.len
  obtain ⟨W1, hW1⟩ : ∃ W1, W1 = w.alloc (.cells #[.int .i64 0, .slice none 0 0] 29) := ⟨_, rfl⟩
  have hB1 : Below w.heap.size w W1 := by rw [hW1]; exact (Below.refl _ _).alloc (Nat.le_refl _) _
  have HKT : Hid (Blk W1 w.heap.size 29 #[.int .i64 0, .slice none 0 0]) := Lib.hid (by rw [hW1]; exact Blk.new _ _ _)
  have HB1 := Lib.hid hB1
  have HW1 := Lib.hid hW1
  have HBS := Lib.hid hb
  have HT := Lib.hid hT
  have HLN := Lib.hid hln
  obtain ⟨k, hk⟩ : ∃ k, n = k + 4 := ⟨n - 4, by omega⟩
  have hki : (k : Int) ≤ 1048572 := by omega
  have hki0 : (6 : Int) ≤ (k : Int) := by omega
  have hni : (n : Int) = (k : Int) + 4 := by omega
  obtain ⟨xn, hxn⟩ : ∃ x : Int, (n : Int) = x := ⟨_, rfl⟩
  have hx1 : ¬ (1048576 : Int) < xn := by omega
  have hx2 : ¬ xn < 10 := by omega
  have hx3 : IntKind.i64.wrap (xn - 4) = (k : Int) := by rw [IntWalk.i64_in _ (by omega)]; omega
  have hci : (k : Int) ≤ (c : Int) := by omega
  have hcc : (c : Int) ≤ 9223372036854775807 := by unfold maxLen at hcm; omega
  have hkn : k ≤ c := by omega
  have HK := Lib.hid hk
  have HNI := Lib.hid hni
  clear hW1 hB1 hb hT hln hk hni hn1 hn2
  go_enter Tryd.func17, Tryd.ntmps17
  go_upto_region 1 with (fail)
  rw [← HW1.out]
  go_upto_region 6 with (fail)
  obtain ⟨W2, hW2⟩ : ∃ W2, W2 = W1.alloc (.cells #[.slice A k c, .int .i64 4, .bool false] 79) := ⟨_, rfl⟩
  obtain ⟨gr, hgr⟩ : ∃ g, g = W1.heap.size := ⟨_, rfl⟩
  obtain ⟨g2, hg2⟩ : ∃ g, g = w.heap.size := ⟨_, rfl⟩
  rw [← hW2, ← hgr, ← hg2]
  have hb2 : Below W1.heap.size W1 W2 := by rw [hW2]; exact (Below.refl _ _).alloc (Nat.le_refl _) _
  have HK2 : Hid (Blk W2 gr 79 #[.slice A k c, .int .i64 ((4 : Nat) : Int), .bool false]) := Lib.hid (by rw [hW2, hgr]; exact Blk.new _ _ _)
  have HT2 : Hid (Blk W2 g2 29 #[.int .i64 0, .slice none 0 0]) := Lib.hid (by rw [hg2]; exact HKT.out.after hb2)
  have HB2 := Lib.hid (HB1.out.trans (hb2.mono HB1.out.size))
  have HBK : Hid (∀ W, Below w.heap.size w W → Bs W w.heap.size A k (l.take k)) := Lib.hid (fun W h => (HBS.out.below h).take (by have := HK.out; omega))
  have hgg : g2 < gr := by rw [hg2, hgr]; exact HKT.out.lt
  have hwg : w.heap.size ≤ g2 := by omega
  have HTZ : Hid (Calls Tryd.prog 46 #[.int .u64 16777216] W2 fun e w' => e = .returned (.int .i64 24) ∧ W2 = w') := Lib.hid (by
    have h := tz_any 24 (by decide) W2 (HT.out.below HB2.out HT.out.1)
    have h2 : (((2 ^ 24 : Nat) : Nat) : Int) = 16777216 := by decide
    rw [h2] at h
    exact h)
  obtain ⟨lk, hlk⟩ : ∃ x, x = l.take k := ⟨_, rfl⟩
  rw [← hlk] at HBK
  have HLK := Lib.hid hlk
  have HU := Lib.hid (up11 gr w.heap.size A k c lk 24 4 false W2 HK2.out (HBK.out _ HB2.out) (by omega) (by decide) (by decide))
  obtain ⟨v1, p1, b1, he1⟩ : ∃ v p b, upP lk 24 4 false = (v, p, b) := ⟨_, _, _, rfl⟩
  have hv1 : v1 ≤ 24 := by have := upP_le lk 24 4 false; rw [he1] at this; exact this
  have hlkl : lk.length ≤ 2000000 := by have := (HBK.out _ HB2.out).len; omega
  have hp1 : p1 ≤ 2000000 := by have := up_pos (l := lk) (lim := 24) (b := false) (show 4 ≤ 2000000 by decide) hlkl; rw [he1] at this; exact this
  rw [he1] at HU
  have HE1 := Lib.hid he1
  have HG2 := Lib.hid hg2
  have HLL := Lib.hid hlkl
  clear hW2 hgr hg2 hb2 hlk he1 hlkl
  go_wp2_with fail
  refine HTZ.out.mono ?_
  rintro e v ⟨rfl, rfl⟩
  go_wp2_with fail
  refine HU.out.mono ?_
  rintro e w3 ⟨rfl, hk3, hg3⟩
  simp only at hk3 ⊢
  obtain ⟨al, hal⟩ : ∃ al : Int, al = ((2 ^ v1 : Nat) : Int) := ⟨_, rfl⟩
  have hal24 : 1 ≤ al ∧ al ≤ 16777216 := by
    have h1 := Nat.two_pow_pos v1
    have h2 : 2 ^ v1 ≤ 2 ^ 24 := Nat.pow_le_pow_right (by decide) hv1
    have h3 : (2 : Nat) ^ 24 = 16777216 := by decide
    omega
  have hsh : wrap64 ((2 : Int) ^ v1) = al := by
    have h1 : ((2 : Int) ^ v1) = al := by rw [hal]; push_cast; rfl
    rw [h1]
    exact IntWalk.wrap64_in _ ⟨by omega, by omega⟩
  have HAL := Lib.hid hal
  have HA24 := Lib.hid hal24
  clear hal hal24
  go_upto_region 7 with (fail)
  obtain ⟨W4, hW4⟩ : ∃ W4, W4 = w3.alloc (.cells #[.int .i64 al, .slice none 0 0] 29) := ⟨_, rfl⟩
  obtain ⟨g6, hg6⟩ : ∃ g, g = w3.heap.size := ⟨_, rfl⟩
  rw [← hW4, ← hg6]
  have hbl3 : Below w.heap.size w w3 := HB2.out.trans (below_of_grown hg3 (by omega) HB2.out.size)
  have hb4 : Below w3.heap.size w3 W4 := by rw [hW4]; exact (Below.refl _ _).alloc (Nat.le_refl _) _
  have HB4 := Lib.hid (hbl3.trans (hb4.mono hbl3.size))
  have HK4 := Lib.hid (hk3.after hb4)
  have HT4 := Lib.hid ((HT2.out.grown hg3 (by intro h; injection h with h; omega)).after hb4)
  have HX4 : Hid (Blk W4 g6 29 #[.int .i64 al, .slice none 0 0]) := Lib.hid (by rw [hW4, hg6]; exact Blk.new _ _ _)
  have hr6 : gr < g6 := by rw [hg6]; exact hk3.lt
  have hsz4 : W4.heap.size = g6 + 1 := by rw [hW4, hg6]; simp
  clear hW4 hg6 hb4 hbl3 hk3 hg3 hsh HT2 HK2 HU HTZ
  have HU2 := Lib.hid (up11 gr w.heap.size A k c lk 2147483647 p1 b1 W4 HK4.out (HBK.out _ HB4.out) (by omega) hp1 (by decide))
  obtain ⟨v2, p2, b2, he2⟩ : ∃ v p b, upP lk 2147483647 p1 b1 = (v, p, b) := ⟨_, _, _, rfl⟩
  have hp2 : p2 ≤ 2000000 := by have := up_pos (l := lk) (lim := 2147483647) (b := b1) hp1 HLL.out; rw [he2] at this; exact this
  have hv2 : v2 ≤ 2147483647 := by have := upP_le lk 2147483647 p1 b1; rw [he2] at this; exact this
  rw [he2] at HU2
  have HE2 := Lib.hid he2
  clear he2
  go_wp2_with fail
  refine HU2.out.mono ?_
  rintro e w5 ⟨rfl, hk5, hg5⟩
  simp only at hk5 ⊢
  have HK5 := Lib.hid hk5
  have HT5 := Lib.hid (HT4.out.grown hg5 (by intro h; injection h with h; omega))
  have HX5 := Lib.hid (HX4.out.grown hg5 (by intro h; injection h with h; omega))
  have HB5 := Lib.hid (HB4.out.trans (below_of_grown hg5 (by omega) HB4.out.size))
  clear hk5 hg5 HU2 HK4 HT4 HX4 HB4
  have HU3 := Lib.hid (up11 gr w.heap.size A k c lk 80 p2 b2 w5 HK5.out (HBK.out _ HB5.out) (by omega) hp2 (by decide))
  obtain ⟨N, p3, b3, he3⟩ : ∃ v p b, upP lk 80 p2 b2 = (v, p, b) := ⟨_, _, _, rfl⟩
  have hp3 : p3 ≤ 2000000 := by have := up_pos (l := lk) (lim := 80) (b := b2) hp2 HLL.out; rw [he3] at this; exact this
  have hN : N ≤ 80 := by have := upP_le lk 80 p2 b2; rw [he3] at this; exact this
  rw [he3] at HU3
  have HTG : Hid (targP lk = (al, (v2 : Int), (framesP lk al N p3 b3).1, (framesP lk al N p3 b3).2.2)) := Lib.hid (by
    unfold targP
    have h2 : upP lk M31 p1 b1 = (v2, p2, b2) := HE2.out
    simp only [HE1.out, h2, he3, ← HAL.out])
  clear he3
  go_wp2_with fail
  refine HU3.out.mono ?_
  rintro e w6 ⟨rfl, hk6, hg6'⟩
  simp only at hk6 ⊢
  have HK6 := Lib.hid hk6
  have HT6 := Lib.hid (HT5.out.grown hg6' (by intro h; injection h with h; omega))
  have HX6 := Lib.hid (HX5.out.grown hg6' (by intro h; injection h with h; omega))
  have HB6 := Lib.hid (HB5.out.trans (below_of_grown hg6' (by omega) HB5.out.size))
  clear hk6 hg6' HU3 HK5 HT5 HX5 HB5
  go_upto_region 9 with (fail)
  obtain ⟨lo, hlo⟩ : ∃ lo, lo = w6.heap.size := ⟨_, rfl⟩
  have hl6 : g6 < lo := by rw [hlo]; exact HX6.out.lt
  have hwl : w.heap.size ≤ lo := by omega
  have HD6 : Hid (DI g2 g6 lo al [] (.slice none 0 0) [] w w6) := Lib.hid ⟨HT6.out, HX6.out, World.ownsRow_nil _ _ _ _, (fun i hi => by cases hi), (fun i hi => by cases hi), HB6.out⟩
  obtain ⟨i0, hi0, hz0, hz1, hz2⟩ := info_parts info_frm
  have hlow : lo ≤ w6.heap.size := by omega
  clear hlo HT6 HX6 HB6 hsz4
  go_loopw [8] (fun x wr => ∃ (m q : Nat) (b' : Bool) (ts : List Fr) (o : Value) (vs : List Value), x = .int .i64 (m : Int) ∧ q ≤ 2000000 ∧ lo ≤ wr.heap.size ∧ Hid (ts.length + m ≤ 80) ∧ Hid (framesP lk al N p3 b3 = (ts ++ (framesP lk al m q b').1, (framesP lk al m q b').2)) ∧ Hid (Blk wr gr 79 #[.slice A k c, .int .i64 (q : Int), .bool b']) ∧
    Hid (DI g2 g6 lo al ts o vs w wr) ∧ Hid (RgT al ts ∧ ∀ f ∈ ts, f.code.length ≤ 1024)) (fun x _ => (intOf x).toNat)
  case atStart => exact ⟨N, p3, b3, [], .slice none 0 0, [], rfl, hp3, hlow, Lib.hid (by simpa using hN), Lib.hid (by simp), HK6, HD6, Lib.hid ⟨⟨⟨by have := HA24.out; unfold I64; omega, fun f hf => by cases hf⟩, fun f hf => by cases hf⟩, fun f hf => by cases hf⟩⟩
  case round =>
    obtain ⟨m, q, b', ts, o, vs, rfl, hq, hlr, HM, HCO, HKr, HDr, HRg⟩ := hrel
    have hm80 : (m : Int) ≤ 80 := by have := HM.out; omega
    obtain ⟨r0, r1, r2, rf0, rf1, rf2, rz⟩ := HKr.out.c3
    obtain ⟨x0, x1, y0, y1, xz⟩ := HDr.out.x.c2
    by_cases hend : m = 0 ∨ b' = true
    · have HE : Hid (framesP lk al N p3 b3 = (ts, q, b')) := Lib.hid (by rw [HCO.out, frames_stop _ _ _ _ _ hend]; simp)
      have HDEC : Hid (decT false l = if b' = false ∧ encE al (v2 : Int) ts = 0 ∧ encB al (v2 : Int) ts = l then some (al, (v2 : Int), ts) else none) := Lib.hid (dec_of (k := k) (by rw [HLN.out, HK.out]) (by have := HLN.out; omega) (by have := HLN.out; omega) (by rw [← HLK.out, HTG.out, HE.out]))
      obtain ⟨V, cc, rfl, hm1⟩ := own_form HDr.out.ow
      have HGX : Hid (Gx wr lo wr.heap.size V ts) := Lib.hid ⟨vs, Rx.of_own HDr.out.ow, HDr.out.wx⟩
      have HEN := Lib.hid (enc_any (ct := cc) HRg.out.1 (bd := (v2 : Int)) (by unfold I64; omega) wr (HT.out.below HDr.out.bel HT.out.1) HGX.out (Nat.le_refl _) hm1)
      have HTL : Hid (ts.length ≤ cc ∧ ts.length ≤ 80) := Lib.hid ⟨(own_cap HDr.out.ow).2, by have := HM.out; omega⟩
      have HEQ := Lib.hid (fun (W : World) (V7 : Option Addr) (c7 : Nat) (h : W.ownsRow wr.heap.size 5 1 (.slice V7 (encB al (v2 : Int) ts).length c7) (encB al (v2 : Int) ts).length (nb (encB al (v2 : Int) ts))) (hb : Below w.heap.size w W) (hz : w.heap.size ≤ W.heap.size) => eq_bytes V7 A _ c7 n c (encB al (v2 : Int) ts) l W W.heap.size ⟨Reads.of_own h, encB_bytes' HRg.out.1⟩ ((HBS.out.below hb).more hz) (by obtain ⟨_, _, _, hmm⟩ := own_form h; exact hmm) (by unfold maxLen; omega))
      have HDL : Hid (l.length ≤ 1048576 ∧ 10 ≤ l.length) := Lib.hid (by have := HLN.out; omega)
      have HXZ : Hid (wr.cell? ⟨g6, 0, none⟩ = some (.int .i64 al) ∧ wr.cell? ⟨g6, 1, none⟩ = some (.slice V ts.length cc)) := Lib.hid ⟨x0, x1⟩
      clear hm1
      by_cases hm0 : m = 0
      · subst hm0
        clear hend
        go_wp2_with fail
        refine HEN.out.mono ?_
        rintro e w7 ⟨V7, c7, rfl, own7, bel7⟩
        have HK7 := Lib.hid (HKr.out.after bel7)
        have HX7 := Lib.hid (HDr.out.x.after bel7)
        have HF7 := Lib.hid (HDr.out.f.after bel7)
        have HB7 := Lib.hid (HDr.out.bel.trans (bel7.mono HDr.out.bel.size))
        have HO7 := Lib.hid own7
        have HQ7 := Lib.hid (HEQ.out w7 V7 c7 own7 HB7.out HB7.out.size)
        have HGX7 : Hid (Gx w7 lo w7.heap.size V ts) := Lib.hid (by
          have h1 : Gx wr lo wr.heap.size V ts := ⟨vs, Rx.of_own HDr.out.ow, HDr.out.wx⟩
          exact (h1.keep (Kp.of_below bel7 (Nat.le_refl _))).more (Nat.le_refl _) bel7.size)
        clear own7 bel7 r0 r1 r2 rf0 rf1 rf2 rz x0 x1 y0 y1 xz
        obtain ⟨r0, r1, r2, -, -, -, rz⟩ := HK7.out.c3
        obtain ⟨x0, x1, -, -, xz⟩ := HX7.out.c2
        obtain ⟨d0, d1, df0, df1, dz⟩ := HF7.out.c2
        have HZE : Hid (∀ W, Below w.heap.size w W → decT false l = none → DcD l w (.returned (.tuple #[.agg #[.int .i64 0, .slice none 0 0], .int .i64 0, .int .i64 2])) ((W.setCell ⟨g2, 0, none⟩ (.int .i64 0)).setCell ⟨g2, 1, none⟩ (.slice none 0 0))) := Lib.hid (fun W hW h =>
          DcD.err (decE_none HDL.out.1 HDL.out.2 h) (by decide) ((hW.setCell (p := ⟨g2, 0, none⟩) hwg _).setCell (p := ⟨g2, 1, none⟩) hwg _))
        have HZB := Lib.hid (fun (W : World) (h : Blk W g2 29 #[.int .i64 0, .slice none 0 0]) => blk_put2 h (.int .i64 0) (.slice none 0 0))
        go_upto_region 13 with (fail)
        rcases b' with _ | _
        · by_cases h0 : encE al (v2 : Int) ts = 0
          · rw [h0] at HDEC
            by_cases heq : encB al (v2 : Int) ts = l
            · have HS : Hid (decT false l = some (al, (v2 : Int), ts)) := Lib.hid (by rw [HDEC.out, if_pos ⟨rfl, rfl, heq⟩])
              have hdt : decide (encB al (v2 : Int) ts = l) = true := by simpa using heq
              have HQ8 : Hid (Calls Tryd.prog 48 #[.slice V7 (encB al (v2 : Int) ts).length c7, .slice A n c] w7 fun e w' => e = .returned (.bool true) ∧ ∃ k, w' = w7.drewN k) := Lib.hid (by rw [← hdt]; exact HQ7.out)
              rw [h0]
              generalize encB al (v2 : Int) ts = eb at *
              clear HQ7 hdt heq h0 HDEC HEN HEQ HO7 HZE HZB HM HCO HE HDr HKr HXZ HTG HLK HLL HG2 HAL HA24 HE1 HE2 HNI HK HLN HBS HT HW1 HB1 HBK
              clear HKT HB2 HK6
              clear hki hki0 hxn hx3 hci hcc hkn hv1 hp1 hx1 hx2 hp2 hv2 hp3 hN HD6 hi0 hz0 hz1 hz2 hlow hq hm80 hc hcm HDL
              generalize eb.length = n7 at *
              go_wp2_with fail
              refine HQ8.out.mono ?_
              rintro e w8 ⟨rfl, k8, hw8⟩
              have HX8 : Hid (Blk w8 g6 29 #[.int .i64 al, .slice V ts.length cc]) := Lib.hid (by rw [hw8]; exact HX7.out.drewN k8)
              have HF8 : Hid (Blk w8 g2 29 #[.int .i64 0, .slice none 0 0]) := Lib.hid (by rw [hw8]; exact HF7.out.drewN k8)
              have HB8 : Hid (Below w.heap.size w w8) := Lib.hid (by rw [hw8]; exact below_drewN HB7.out k8)
              clear r0 r1 r2 rz x0 x1 xz d0 d1 df0 df1 dz HQ8 HX7 HF7 HB7 HK7
              have HGX8 : Hid (Gx w8 lo w8.heap.size V ts) := Lib.hid (by rw [hw8]; exact HGX7.out)
              clear hw8
              go_upto_region 15 with (fail)
              obtain ⟨x0, x1, -, -, xz⟩ := HX8.out.c2
              obtain ⟨d0, d1, df0, df1, dz⟩ := HF8.out.c2
              have HZB8 := Lib.hid (blk_put2 HF8.out (.int .i64 al) (.slice V ts.length cc))
              have HFIN : Hid (DcD l w (.returned (.tuple #[.agg #[.int .i64 al, .slice V ts.length cc], .int .i64 (v2 : Int), .int .i64 0])) ((w8.setCell ⟨g2, 0, none⟩ (.int .i64 al)).setCell ⟨g2, 1, none⟩ (.slice V ts.length cc))) := Lib.hid (by
                have h0 := decE_some HS.out
                have hg : Gx ((w8.setCell ⟨g2, 0, none⟩ (.int .i64 al)).setCell ⟨g2, 1, none⟩ (.slice V ts.length cc)) lo w8.heap.size V ts := HGX8.out.keep (fun b hb _ => (Below.heap_setCell _ ⟨g2, 1, none⟩ _ b (by simp; omega)).trans (Below.heap_setCell _ ⟨g2, 0, none⟩ _ b (by simp; omega)))
                exact ⟨al, (v2 : Int), ts, V, cc, by rw [h0], .inl ⟨h0, HS.out⟩, hg.more hwl (by simp), HTL.out.1, HTL.out.2, HRg.out.1, (HB8.out.setCell (p := ⟨g2, 0, none⟩) hwg _).setCell (p := ⟨g2, 1, none⟩) hwg _⟩)
              clear HX8 HF8 HB8 HGX8 HGX7 HTL HRg HS
              go_wp2
              obtain ⟨e0, e1, -⟩ := HZB8.out.c2
              exact bodyPost_ret (v := .tuple #[.agg #[.int .i64 al, .slice V ts.length cc], .int .i64 (v2 : Int), .int .i64 0]) (by simp [results, Tryd.results17, go_sem, e0, e1]) rfl HFIN.out
            · have HN : Hid (decT false l = none) := Lib.hid (by rw [HDEC.out, if_neg (fun h => heq h.2.2)])
              have hdt : decide (encB al (v2 : Int) ts = l) = false := by simpa using heq
              have HQ8 : Hid (Calls Tryd.prog 48 #[.slice V7 (encB al (v2 : Int) ts).length c7, .slice A n c] w7 fun e w' => e = .returned (.bool false) ∧ ∃ k, w' = w7.drewN k) := Lib.hid (by rw [← hdt]; exact HQ7.out)
              rw [h0]
              generalize encB al (v2 : Int) ts = eb at *
              clear HQ7 hdt heq h0 HDEC HEN HEQ HO7 HGX7 HTL HRg HM HCO HE HDr HKr HXZ HTG HLK HLL HG2 HAL HA24 HE1 HE2 HNI HK HLN HBS HT HW1 HB1 HBK
              clear HKT HB2 HK6
              clear hki hki0 hxn hx3 hci hcc hkn hv1 hp1 hx1 hx2 hp2 hv2 hp3 hN HD6 hi0 hz0 hz1 hz2 hlow hq hm80 hc hcm HDL
              generalize eb.length = n7 at *
              go_wp2_with fail
              refine HQ8.out.mono ?_
              rintro e w8 ⟨rfl, k8, hw8⟩
              have HF8 := Lib.hid (by rw [hw8]; exact HF7.out.drewN k8 : Blk w8 g2 29 #[.int .i64 0, .slice none 0 0])
              have HB8 := Lib.hid (by rw [hw8]; exact below_drewN HB7.out k8 : Below w.heap.size w w8)
              clear hw8 d0 d1 df0 df1 dz r0 r1 r2 rz x0 x1 xz
              obtain ⟨d0, d1, df0, df1, dz⟩ := HF8.out.c2
              go_wp2
              obtain ⟨e0, e1, -⟩ := (HZB.out _ HF8.out).c2
              exact bodyPost_ret (v := .tuple #[.agg #[.int .i64 0, .slice none 0 0], .int .i64 0, .int .i64 2]) (by simp [results, Tryd.results17, go_sem, e0, e1]) rfl (HZE.out _ HB8.out HN.out)
          · have HN : Hid (decT false l = none) := Lib.hid (by rw [HDEC.out, if_neg (fun h => h0 h.2.1)])
            have hne : (encE al (v2 : Int) ts != 0) = true := by simpa using h0
            generalize encE al (v2 : Int) ts = ee at *
            generalize encB al (v2 : Int) ts = eb at *
            clear HQ7 HDEC HEN HEQ HO7 HGX7 HTL HRg HM HCO HE HDr HKr HXZ HTG HLK HLL HG2 HAL HA24 HE1 HE2 HNI HK HLN HBS HT HW1 HB1 HBK
            clear HKT HB2 HK6 hki hki0 hxn hx3 hci hcc hkn hv1 hp1 hx1 hx2 hp2 hv2 hp3 hN HD6 hi0 hz0 hz1 hz2 hlow hq hm80 hc hcm HDL
            generalize eb.length = n7 at *
            go_wp2
            obtain ⟨e0, e1, -⟩ := (HZB.out _ HF7.out).c2
            exact bodyPost_ret (v := .tuple #[.agg #[.int .i64 0, .slice none 0 0], .int .i64 0, .int .i64 2]) (by simp [results, Tryd.results17, go_sem, e0, e1]) rfl (HZE.out _ HB7.out HN.out)
        · have HN : Hid (decT false l = none) := Lib.hid (by rw [HDEC.out, if_neg (fun h => by cases h.1)])
          generalize encE al (v2 : Int) ts = ee at *
          generalize encB al (v2 : Int) ts = eb at *
          clear HQ7 HDEC HEN HEQ HO7 HGX7 HTL HRg HM HCO HE HDr HKr HXZ HTG HLK HLL HG2 HAL HA24 HE1 HE2 HNI HK HLN HBS HT HW1 HB1 HBK
          clear HKT HB2 HK6 hki hki0 hxn hx3 hci hcc hkn hv1 hp1 hx1 hx2 hp2 hv2 hp3 hN HD6 hi0 hz0 hz1 hz2 hlow hq hm80 hc hcm HDL
          generalize eb.length = n7 at *
          go_wp2
          obtain ⟨e0, e1, -⟩ := (HZB.out _ HF7.out).c2
          exact bodyPost_ret (v := .tuple #[.agg #[.int .i64 0, .slice none 0 0], .int .i64 0, .int .i64 2]) (by simp [results, Tryd.results17, go_sem, e0, e1]) rfl (HZE.out _ HB7.out HN.out)
      · have hb' : b' = true := hend.resolve_left hm0
        subst hb'
        have hmi : (0 : Int) < (m : Int) := by omega
        clear hm0
        clear hend
        go_wp2_with fail
        refine HEN.out.mono ?_
        rintro e w7 ⟨V7, c7, rfl, own7, bel7⟩
        have HK7 := Lib.hid (HKr.out.after bel7)
        have HX7 := Lib.hid (HDr.out.x.after bel7)
        have HF7 := Lib.hid (HDr.out.f.after bel7)
        have HB7 := Lib.hid (HDr.out.bel.trans (bel7.mono HDr.out.bel.size))
        have HO7 := Lib.hid own7
        have HQ7 := Lib.hid (HEQ.out w7 V7 c7 own7 HB7.out HB7.out.size)
        have HGX7 : Hid (Gx w7 lo w7.heap.size V ts) := Lib.hid (by
          have h1 : Gx wr lo wr.heap.size V ts := ⟨vs, Rx.of_own HDr.out.ow, HDr.out.wx⟩
          exact (h1.keep (Kp.of_below bel7 (Nat.le_refl _))).more (Nat.le_refl _) bel7.size)
        clear own7 bel7 r0 r1 r2 rf0 rf1 rf2 rz x0 x1 y0 y1 xz
        obtain ⟨r0, r1, r2, -, -, -, rz⟩ := HK7.out.c3
        obtain ⟨x0, x1, -, -, xz⟩ := HX7.out.c2
        obtain ⟨d0, d1, df0, df1, dz⟩ := HF7.out.c2
        have HZE : Hid (∀ W, Below w.heap.size w W → decT false l = none → DcD l w (.returned (.tuple #[.agg #[.int .i64 0, .slice none 0 0], .int .i64 0, .int .i64 2])) ((W.setCell ⟨g2, 0, none⟩ (.int .i64 0)).setCell ⟨g2, 1, none⟩ (.slice none 0 0))) := Lib.hid (fun W hW h =>
          DcD.err (decE_none HDL.out.1 HDL.out.2 h) (by decide) ((hW.setCell (p := ⟨g2, 0, none⟩) hwg _).setCell (p := ⟨g2, 1, none⟩) hwg _))
        have HZB := Lib.hid (fun (W : World) (h : Blk W g2 29 #[.int .i64 0, .slice none 0 0]) => blk_put2 h (.int .i64 0) (.slice none 0 0))
        go_upto_region 13 with (fail)
        have HN : Hid (decT false l = none) := Lib.hid (by rw [HDEC.out, if_neg (fun h => by cases h.1)])
        generalize encE al (v2 : Int) ts = ee at *
        generalize encB al (v2 : Int) ts = eb at *
        clear HQ7 HDEC HEN HEQ HO7 HGX7 HTL HRg HM HCO HE HDr HKr HXZ HTG HLK HLL HG2 HAL HA24 HE1 HE2 HNI HK HLN HBS HT HW1 HB1 HBK
        clear HKT HB2 HK6 hki hki0 hxn hx3 hci hcc hkn hv1 hp1 hx1 hx2 hp2 hv2 hp3 hN HD6 hi0 hz0 hz1 hz2 hlow hq hm80 hc hcm HDL
        generalize eb.length = n7 at *
        go_wp2
        obtain ⟨e0, e1, -⟩ := (HZB.out _ HF7.out).c2
        exact bodyPost_ret (v := .tuple #[.agg #[.int .i64 0, .slice none 0 0], .int .i64 0, .int .i64 2]) (by simp [results, Tryd.results17, go_sem, e0, e1]) rfl (HZE.out _ HB7.out HN.out)
    · obtain ⟨hm0, hb0⟩ := not_or.1 hend
      obtain ⟨m', hm'⟩ := Nat.exists_eq_succ_of_ne_zero hm0
      have HM' : Hid (m = m' + 1) := Lib.hid hm'
      have hbf : b' = false := by simpa using hb0
      subst hbf
      have hmi : (0 : Int) < (m : Int) := by omega
      have HFC := Lib.hid (fun (W : World) (h : Blk W gr 79 #[.slice A k c, .int .i64 (q : Int), .bool false]) (hb : Below w.heap.size w W) => frame11 gr w.heap.size A k c lk q false al v1 hv1 HAL.out W h (HBK.out _ hb) (by omega) (by omega) hq)
      clear hend hm0 hb0 hm' HD6 HK6
      generalize wr = wo at *
      obtain ⟨f, q', b'', hfr⟩ : ∃ f q' b'', frameP lk al q false = (f, q', b'') := ⟨_, _, _, rfl⟩
      rw [hfr] at HFC
      have HFP := Lib.hid hfr
      clear hfr
      have hgr6 : gr < lo := by omega
      have htl : ts.length ≤ 80 := by have := HM.out; omega
      go_upto_region 11 with (fail)
      go_region_law (first
        | (refine step_append_any _ rfl (.tmp 49) (.tmp 54) 27 rfl lo 61 i0 _ 3 40 Tryd.underlying27 hi0 hz0 hz1 hz2 rfl (by omega) o ts.length vs (by first | (simp [Act.eval]; done) | (simp [Act.eval, Act.put]; done)) (HD1.ow.alloc _) (wv.heap.size + 1) (some ⟨wv.heap.size, 0, none⟩) 1 1 [.int .i64 f.params, .int .i64 f.size, .slice V f.code.length cc] (by first | (simp [Act.eval]; done) | (simp [Act.eval, Act.put]; done)) (reads_litX wv _ [_, _, _] 3 1 rfl) (by simp [Value.oneCell']) (by unfold maxLen; omega) (by omega) (by simp; omega) ?_; intro v2 w13 hown1 hg1 hat1; obtain ⟨V3, c3, rfl, hm3⟩ := own_form hown1; have HX13 := ((HD1.alo _).x).grown hg1 (fun e => own_blk_ne HD1.ow HD1.x (by decide) e.symm); obtain ⟨bb0, bb1, bf0, bf1, bz'⟩ := HX13.c2)
        | (go_simp; refine (HFC.out _ HKr.out.drew HDr.out.bel.drew).mono ?_; rintro e wv ⟨V, cc, rfl, ⟨hnx, hty⟩, hcc, h1024, hkk, hgg⟩; simp only at hnx hty hcc h1024 hkk ⊢; have HD1 := (show DI g2 g6 lo al ts o vs w wo.drew from ⟨HDr.out.f, HDr.out.x, HDr.out.ow.drew, HDr.out.wx, HDr.out.tx, HDr.out.bel.drew⟩).grown hgg (by omega) hr6 hgr6 (by omega); obtain ⟨z0, z1, zf0, zf1, zz⟩ := HD1.x.c2; have hlv : lo ≤ wv.heap.size := Nat.le_trans hlr hgg.size))
      all_goals
        have hdx := HD1.app2 _ (hnx.more hlr (Nat.le_refl _)) hty hcc (by unfold maxLen; omega) hwl (by omega) (by omega) hlv hl6 hown1 hg1
        have hkx := ((hkk.alloc _).grown hg1 (fun e => own_blk_ne HD1.ow hkk (by decide) e.symm)).far (p := ⟨g6, 1, none⟩) (by simp; omega) (.slice V3 (ts.length + 1) c3)
        have HDX := Lib.hid hdx
        have HKX := Lib.hid hkx
        have hsx := hg1.size
        have hsx2 : lo ≤ w13.heap.size := by simp at hsx; omega
        clear hdx hkx hnx hty hcc hkk hgg HD1 z0 z1 zf0 zf1 zz hown1 hg1 HX13 bb0 bb1 bf0 bf1 bz' hsx hlv
        go_wp2
        go_roundw
        case rel =>
          have hfr := HFP.out
          refine ⟨m', q', b'', ts ++ [f], _, _, ?_, ?_, by simpa using hsx2, Lib.hid ?_, Lib.hid ?_, HKX, HDX, Lib.hid ⟨?_, ?_⟩⟩
          · rw [show (m : Int) - 1 = (m' : Int) by have := HM'.out; omega]
          · have := frame_pos HLL.out al q false hq
            rw [hfr] at this
            exact this
          · have h1 := HM.out
            have h2 := HM'.out
            simp only [List.length_append, List.length_cons, List.length_nil]
            omega
          · have h : framesP lk al (m' + 1) q false = ((frameP lk al q false).1 :: (framesP lk al m' (frameP lk al q false).2.1 (frameP lk al q false).2.2).1, (framesP lk al m' (frameP lk al q false).2.1 (frameP lk al q false).2.2).2) := rfl
            rw [hfr] at h
            rw [HCO.out, HM'.out, h]
            simp
          · have hr := frame_rng (HBK.out _ HB2.out).2 HAL.out hv1 q false
            rw [hfr] at hr
            refine ⟨⟨HRg.out.1.1.1, fun g hg => ?_⟩, fun g hg => ?_⟩
            · rcases List.mem_append.1 hg with h | h
              · exact HRg.out.1.1.2 g h
              · rw [List.mem_singleton.1 h]; exact hr.1
            · rcases List.mem_append.1 hg with h | h
              · exact HRg.out.1.2 g h
              · rw [List.mem_singleton.1 h]; exact hr.2
          · intro g hg
            rcases List.mem_append.1 hg with h | h
            · exact HRg.out.2 g h
            · rw [List.mem_singleton.1 h]; exact h1024
        case measure =>
          have := HM'.out
          simp [intOf]
          omega
end Go.Proofs.YtinfeglhjmnlaaaDoor.pm
