/- StackPopAfterPush: the walk of the law. -/
import Derived.Test.YtgamodmenlhedaaL9
import Derived.Test.YtgamodmenlhedaaSame
import Derived.Deep.RegionHeld3
import Derived.Deep.DrawnRows
namespace Go.Proofs.Ytgamodmenlhedaa.pp
open Go.RowKit
set_option linter.unusedVariables false
set_option maxRecDepth 10000
attribute [local go_sem ↓] Go.wp_at_zero Go.wp_at_succ

theorem gcell {W W' : World} {g : Nat} (hg : W.grownBy W' (some g)) : (∀ b o, b < W.heap.size → ¬ (b = g) → W'.cell? ⟨b, o, none⟩ = W.cell? ⟨b, o, none⟩) ∧ (∀ b o, b < W.heap.size → ¬ (b = g) → W'.frozen? ⟨b, o, none⟩ = W.frozen? ⟨b, o, none⟩) :=
  ⟨fun b o h hn => World.cell?_of_block (hg.block b h (fun e => hn (by injection e))), fun b o h hn => World.frozen?_of_block (hg.block b h (fun e => hn (by injection e)))⟩
theorem CodesAt.dr {w : World} {B g n c p : Nat} {A : Option Addr} {l : List Nat} (h : CodesAt w B g A n c l p) : CodesAt w.drew B g A n c l p := h
theorem push32 : pushV (List.replicate 128 0) (List.replicate 128 false) 128 32 = (0, List.replicate 128 0, List.replicate 128 false, 96) := by decide +kernel
def L0 (x y : Nat) : List Nat := splice (List.replicate 128 0) 104 (bytesV x y 8)
def U0 : List Bool := splice (List.replicate 128 false) 104 (List.replicate 8 true)
theorem st8 (x y : Nat) : storeV 128 96 (List.replicate 128 0) (List.replicate 128 false) x y 8 8 = (0, L0 x y, U0, 96) := by
  unfold storeV; rw [if_pos (by rw [okV_iff, sizeB_iff]; omega)]; rfl
/-- what the loop keeps of the lists: their ends are those of s, and no byte of the frame is used -/
structure Kept (N : Nat) (l0 : List Nat) (lb : List Nat) (lu : List Bool) : Prop where
  b : lb.drop 96 = l0.drop 96
  u : lu.drop 96 = U0.drop 96
  f : ∀ i, 96 - N ≤ i → i < 96 → lu[i]? = some false
  n : lu.length = 128
  m : lb.length = 128
theorem splice_drop {α : Type} (L cs : List α) (o k : Nat) (h : o + cs.length ≤ k) (hL : k ≤ L.length) : (splice L o cs).drop k = L.drop k := by
  apply List.ext_getElem?
  intro i
  rw [List.getElem?_drop, List.getElem?_drop, splice_get _ _ _ _ (by omega), if_neg (by omega), if_neg (by omega)]
theorem splice_len {α : Type} (L cs : List α) (o : Nat) (h : o + cs.length ≤ L.length) : (splice L o cs).length = L.length := by
  simp [splice]; omega
theorem pushN (N : Nat) (hN : N ≤ 96) (lb : List Nat) (lu : List Bool) : pushV lb lu 96 N = (0, lb, splice lu (96 - N) (List.replicate N false), 96 - N) := by
  unfold pushV
  rw [if_neg (by omega), if_neg (by omega)]; rfl
theorem kept_push {N : Nat} {l0 lb : List Nat} {lu : List Bool} (hN : N ≤ 96) (hb : lb.drop 96 = l0.drop 96) (hu : lu.drop 96 = U0.drop 96) (hn : lu.length = 128) (hm : lb.length = 128) : Kept N l0 lb (splice lu (96 - N) (List.replicate N false)) where
  b := hb
  u := by rw [splice_drop _ _ _ _ (by simp; omega) (by omega)]; exact hu
  f := fun i h1 h2 => by
    rw [splice_get _ _ _ _ (by simp; omega), if_neg (by omega), if_pos (by simp; omega), List.getElem?_replicate, if_pos (by omega)]
  n := by rw [splice_len _ _ _ (by simp; omega)]; exact hn
  m := hm
theorem load_no {N k : Nat} {l0 lb : List Nat} {lu : List Bool} (h : Kept N l0 lb lu) (hk : k < N) (hN : N ≤ 96) : loadV 128 (96 - N) lb lu k 1 = ((0, 0), false, 0) := by
  unfold loadV
  rw [if_pos (by rw [okV_iff, sizeB_iff]; omega), if_neg]
  have h1 := h.f (96 - N + k) (by omega) (by omega)
  have h2 : lu.drop (96 - N + k) = false :: lu.drop (96 - N + k + 1) := by
    have hlt : 96 - N + k < lu.length := by have := h.n; omega
    rw [List.drop_eq_getElem_cons hlt]
    rw [List.getElem?_eq_getElem hlt] at h1
    rw [Option.some.inj h1]
  rw [usedV_iff]
  rw [show (k : Int).toNat = k from rfl, h2]
  simp
theorem kept_store {N k x y : Nat} {l0 lb : List Nat} {lu : List Bool} (h : Kept N l0 lb lu) (hk : k + 8 ≤ N) (hN : N ≤ 96) :
    storeV 128 (96 - N) lb lu x y k 8 = (0, splice lb (96 - N + k) (bytesV x y 8), splice lu (96 - N + k) (List.replicate 8 true), 96 - N) ∧
    (splice lb (96 - N + k) (bytesV x y 8)).drop 96 = l0.drop 96 ∧ (splice lu (96 - N + k) (List.replicate 8 true)).drop 96 = U0.drop 96 ∧ (splice lu (96 - N + k) (List.replicate 8 true)).length = 128 ∧ (splice lb (96 - N + k) (bytesV x y 8)).length = 128 := by
  have hn := h.n
  have hm := h.m
  refine ⟨?_, ?_, ?_, ?_, ?_⟩
  · unfold storeV
    rw [if_pos (by rw [okV_iff, sizeB_iff]; omega)]; rfl
  · rw [splice_drop _ _ _ _ (by rw [bytesV_len]; omega) (by omega)]; exact h.b
  · rw [splice_drop _ _ _ _ (by simp; omega) (by omega)]; exact h.u
  · rw [splice_len _ _ _ (by simp; omega)]; exact hn
  · rw [splice_len _ _ _ (by rw [bytesV_len]; omega)]; exact hm
theorem popN (N : Nat) (hN : N ≤ 96) : popV 128 (96 - N) N = (0, 96) := by
  unfold popV
  rw [if_pos (by omega), show (N : Int).toNat = N from rfl, show 96 - N + N = 96 by omega]
theorem u0_len : U0.length = 128 := by decide +kernel
theorem u0_104 : U0[104]? = some true := by decide +kernel
theorem u0_96 : U0[96]? = some false := by decide +kernel
theorem get_of_drop {α : Type} {l m : List α} (h : l.drop 96 = m.drop 96) (i : Nat) (hi : 96 ≤ i) : l[i]? = m[i]? := by
  have := congrArg (fun z => z[i - 96]?) h
  simp only [List.getElem?_drop] at this
  rwa [show 96 + (i - 96) = i by omega] at this

set_option maxHeartbeats 8000000 in
theorem law (A : Option Addr) (n c : Nat) (l : List Nat) (y : Nat) (hy : y < 256) (w : World)
    (hb : Bs w w.heap.size A n l) (hn : n ≤ maxLen) (hcap : n ≤ c) :
    Calls Try.prog 9 #[.slice A n c, .int .u8 y] w fun e w' => e = .returned (.bool true) ∧ Below w.heap.size w w' := by
  obtain ⟨q, hq, hq6⟩ : ∃ q : Nat, (y : Int) % 6 = (q : Int) ∧ q < 6 := ⟨y % 6, by omega, by omega⟩
  obtain ⟨N, hN⟩ : ∃ N : Nat, N = 16 * q := ⟨_, rfl⟩
  have HN16 := Lib.hid hN
  have hN96 : N ≤ 96 := by omega
  clear hN
  have hy0 : (0 : Int) ≤ (y : Int) := by omega
  have Rc_0 := Lib.hid (show BsZ w A n l from hb)
  clear hb
  go_enter Try.func9, Try.ntmps9
  have H_0 := Lib.hid (Below.refl w.heap.size w)
  go_wp2_with fail
  refine Calls.mono (awake09 _) ?_
  rintro e w1 ⟨rfl, bel⟩
  have Rc_1 := Lib.hid (BsZ.below Rc_0.out bel)
  have H_1 := Lib.hid (Below.step H_0.out bel)
  clear Rc_0 H_0 bel
  go_wp2_with fail
  refine (newcodes_any A n c l 100 w1 hn hcap (by omega)).mono ?_
  rintro e w2 ⟨rfl, rfl⟩
  have hco := codes_new (c := c) (Bs.more (Rc_1.out : Bs _ _ _ _ _) (Nat.le_refl _)) 100 (by omega)
  have C_2 := Lib.hid hco
  have mcc : w.heap.size ≤ w1.heap.size := H_1.out.size
  have H_2 := Lib.hid (Below.al H_1.out (.cells #[.slice A (min n 100) c, .int .i64 0] 100))
  clear hco Rc_1 H_1
  have C1 := fun W : World => new_stk 128 (by omega) W
  rw [show 128 - 128 % 16 = 128 from rfl] at C1
  unfold StkR at C1
  go_wp2_with fail
  refine Calls.mono (C1 _) ?_
  rintro e w3 ⟨A3, c3, U3, d3, rfl, b3, t3, j3, i3, bel⟩
  have H_3 := Lib.hid (Below.step H_2.out bel)
  have C_3 := Lib.hid (CodesAt.after C_2.out bel)
  clear H_2 C_2 bel
  have Rsb_3 := Lib.hid (show BsZ _ _ _ _ from b3)
  clear b3
  have Rsu_3 := Lib.hid (show SlZ _ _ _ _ from t3)
  clear t3
  have PU := fun (W : World) (h : BsZ W A3 128 (List.replicate 128 0)) (h' : SlZ W U3 128 (List.replicate 128 false)) => push_any A3 U3 128 c3 d3 128 _ _ 32 (by omega) (by omega) W h h' (by omega) (by omega) j3 i3
  simp only [StkR, push32] at PU
  clear C1
  go_wp2_with fail
  refine Calls.mono (PU _ (BsZ.alloc Rsb_3.out _) (SlZ.alloc Rsu_3.out _)) ?_
  rintro e w4 ⟨A4, c4, U4, d4, rfl, b4, t4, j4, i4, bel⟩
  have ncc_s : w1.heap.size < w3.heap.size := by have := Blk.lt C_3.out.1; omega
  have ms : w.heap.size ≤ w3.heap.size := by have := H_3.out.size; omega
  have Ks_4 := Lib.hid (Blk.after (show Blk _ (w3.heap.size) 55 #[.slice A3 128 c3, .slice U3 128 d3, .int .i64 128] from Blk.newAt (by simp [putStk, World.setCell])) bel)
  have H_4 := Lib.hid (Below.step (Below.al H_3.out _) bel)
  have C_4 := Lib.hid (CodesAt.after (CodesAt.alloc C_3.out _) bel)
  clear Rsb_3 Rsu_3 H_3 C_3 bel
  have Rsb_4 := Lib.hid (show BsZ _ _ _ _ from b4)
  clear b4
  have Rsu_4 := Lib.hid (show SlZ _ _ _ _ from t4)
  clear t4
  clear PU
  obtain ⟨ps0, ps1, ps2, fs0, fs1, fs2, zs⟩ := StkB.three Ks_4.out
  go_wp2_with fail
  have Rsb_5 := Lib.hid (show BsZ (((w4.setCell ⟨w3.heap.size, 0, none⟩ (.slice A4 128 c4)).setCell ⟨w3.heap.size, 1, none⟩ (.slice U4 128 d4)).setCell ⟨w3.heap.size, 2, none⟩ (.int .i64 96)) _ _ _ from (BsZ.put Rsb_4.out Ks_4.out))
  have Rsu_5 := Lib.hid (show SlZ (((w4.setCell ⟨w3.heap.size, 0, none⟩ (.slice A4 128 c4)).setCell ⟨w3.heap.size, 1, none⟩ (.slice U4 128 d4)).setCell ⟨w3.heap.size, 2, none⟩ (.int .i64 96)) _ _ _ from (SlZ.put Rsu_4.out Ks_4.out))
  have Ks_5 := Lib.hid (show Blk (((w4.setCell ⟨w3.heap.size, 0, none⟩ (.slice A4 128 c4)).setCell ⟨w3.heap.size, 1, none⟩ (.slice U4 128 d4)).setCell ⟨w3.heap.size, 2, none⟩ (.int .i64 96)) _ _ _ from (StkB.put Ks_4.out))
  have H_5 := Lib.hid (show Below w.heap.size w (((w4.setCell ⟨w3.heap.size, 0, none⟩ (.slice A4 128 c4)).setCell ⟨w3.heap.size, 1, none⟩ (.slice U4 128 d4)).setCell ⟨w3.heap.size, 2, none⟩ (.int .i64 96)) from (Below.put H_4.out ms))
  have C_5 := Lib.hid (show CodesAt (((w4.setCell ⟨w3.heap.size, 0, none⟩ (.slice A4 128 c4)).setCell ⟨w3.heap.size, 1, none⟩ (.slice U4 128 d4)).setCell ⟨w3.heap.size, 2, none⟩ (.int .i64 96)) _ _ _ _ _ _ _ from (CodesAt.put C_4.out (Nat.ne_of_lt ncc_s) (Nat.le_of_lt ncc_s)))
  clear Ks_4 Rsb_4 Rsu_4 H_4 C_4 ps0 ps1 ps2 fs0 fs1 fs2 zs
  generalize ((w4.setCell ⟨w3.heap.size, 0, none⟩ (.slice A4 128 c4)).setCell ⟨w3.heap.size, 1, none⟩ (.slice U4 128 d4)).setCell ⟨w3.heap.size, 2, none⟩ (.int .i64 96) = wa at *
  have hza : w1.heap.size < wa.heap.size := Blk.lt C_5.out.1
  have na : ¬ (w3.heap.size = w1.heap.size) := by omega
  go_upto_region 6 with (fail)
  go_cut [6, 9] (fun s6 s9 wx => ∃ (x z : Nat) (A5 : Option Addr) (c5 : Nat) (U5 : Option Addr) (d5 p5 : Nat), s6 = .pointer (some ⟨w3.heap.size, 0, none⟩) ∧ s9 = .int .i64 0 ∧ 128 ≤ c5 ∧ 128 ≤ d5 ∧ Hid (Below w.heap.size w wx) ∧ Hid (StkB wx w3.heap.size A5 128 c5 U5 128 d5 96) ∧ Hid (BsZ wx A5 128 (L0 x z)) ∧ Hid (SlZ wx U5 128 U0) ∧ Hid (CodesAt wx w1.heap.size w1.heap.size A (min n 100) c (List.take (min n 100) l) p5))
  case first =>
    obtain ⟨ps0, ps1, ps2, fs0, fs1, fs2, zs⟩ := StkB.three Ks_5.out
    go_region_with (first
      | (go_at_call 32; refine Calls.mono (value_d _ _ _ _ _ _ _ _ (CodesAt.dr C_5.out)) ?_; rintro e w6 ⟨x6, y6, p6, ⟨hx6, hy6⟩, rfl, cc6, g6⟩; have gg6 : wa.grownBy w6 (some w1.heap.size) := grownBy_trans (grownBy_drewN' wa 1 _) g6; have ks6 := Blk.grown Ks_5.out gg6 (by intro e; injection e; omega); obtain ⟨a60, a61, a62, e60, e61, e62, z6⟩ := StkB.three ks6; have KS6 := Lib.hid ks6; have GG6 := Lib.hid gg6; have CC6 := Lib.hid cc6; clear ks6 gg6 cc6)
      | (go_at_call 31; refine Calls.mono (store_any A4 U4 128 c4 d4 96 _ _ 8 8 (by omega) (by omega) (by omega) (by omega) x6 y6 hx6 hy6 _ (BsZ.grown (BsZ.drew Rsb_5.out) (CodesAt.dr C_5.out).1 (by simp) g6) (SlZ.grown (SlZ.drew Rsu_5.out) (CodesAt.dr C_5.out).1 (by simp) g6) (by omega) (by omega) j4 i4) ?_; rw [st8]; rintro e w7 ⟨A7, c7, U7, d7, rfl, b7, t7, j7, i7, bel7⟩; have ks7 := Blk.after KS6.out bel7; obtain ⟨a70, a71, a72, e70, e71, e72, z7⟩ := StkB.three ks7; have KS7 := Lib.hid ks7; have BE7 := Lib.hid bel7; clear ks7 bel7))
    all_goals
      go_wp2_with fail
      go_meet
      exact ⟨x6, y6, A7, c7, U7, d7, p6, rfl, rfl, j7, i7, Lib.hid (Below.put (Below.step (Below.stepG H_5.out GG6.out mcc) BE7.out) ms), Lib.hid (StkB.put KS7.out), Lib.hid (BsZ.put b7 KS7.out), Lib.hid (SlZ.put t7 KS7.out), Lib.hid (CodesAt.put (CodesAt.after CC6.out BE7.out) (Nat.ne_of_lt ncc_s) (Nat.le_of_lt ncc_s))⟩
  case rest =>
    clear hza Ks_5 H_5 Rsb_5 Rsu_5 C_5
    obtain ⟨x, z, A5, c5, U5, d5, p5, rfl, rfl, j5, i5, H_9, Ks_9, Rsb_9, Rsu_9, C_9⟩ := hcut
    have hNN : (16 : Int) * (q : Int) = (N : Int) := by have := HN16.out; omega
    have PU := fun (W : World) (h : BsZ W A5 128 (L0 x z)) (h' : SlZ W U5 128 U0) => push_any A5 U5 128 c5 d5 96 _ _ N (by omega) (by omega) W h h' (by omega) (by omega) j5 i5
    simp only [StkR, pushN N hN96] at PU
    have hkp := kept_push (N := N) (l0 := L0 x z) (lb := L0 x z) (lu := U0) hN96 rfl rfl u0_len (Bs.len (Rsb_9.out : Bs _ _ _ _ _))
    obtain ⟨lu0, hlu0⟩ : ∃ lu0, lu0 = splice U0 (96 - N) (List.replicate N false) := ⟨_, rfl⟩
    rw [← hlu0] at PU hkp
    have KP := Lib.hid hkp
    clear hkp hlu0
    obtain ⟨ps0, ps1, ps2, fs0, fs1, fs2, zs⟩ := StkB.three Ks_9.out
    go_wp2_with fail
    go_wp2_with fail
    refine Calls.mono (PU _ Rsb_9.out Rsu_9.out) ?_
    rintro e w10 ⟨A6, c6, U6, d6, rfl, b6, t6, j6, i6, bel⟩
    have Rsb_10 := Lib.hid (BsZ.below Rsb_9.out bel)
    have Rsu_10 := Lib.hid (SlZ.below Rsu_9.out bel)
    have Ks_10 := Lib.hid (Blk.after Ks_9.out bel)
    have H_10 := Lib.hid (Below.step H_9.out bel)
    have C_10 := Lib.hid (CodesAt.after C_9.out bel)
    clear Ks_9 Rsb_9 Rsu_9 H_9 C_9 ps0 ps1 ps2 fs0 fs1 fs2 zs bel
    have Rtb_10 := Lib.hid (show BsZ _ _ _ _ from b6)
    clear b6
    have Rtu_10 := Lib.hid (show SlZ _ _ _ _ from t6)
    clear t6
    clear PU
    obtain ⟨ps0, ps1, ps2, fs0, fs1, fs2, zs⟩ := StkB.three Ks_10.out
    go_wp2_with fail
    clear hNN hq hy0
    have nct : w1.heap.size < w10.heap.size := Blk.lt C_10.out.1
    have nst : w3.heap.size < w10.heap.size := Blk.lt Ks_10.out
    have mt : w.heap.size ≤ w10.heap.size := H_10.out.size
    go_loopw [13] (fun i wr => ∃ (k : Nat) (At : Option Addr) (ct : Nat) (Ut : Option Addr) (dt : Nat) (lb : List Nat) (lu : List Bool) (p : Nat), i = .int .i64 k ∧ Hid (k ≤ N) ∧ 128 ≤ ct ∧ 128 ≤ dt ∧ Hid (Below w.heap.size w wr) ∧ Hid (StkB wr w3.heap.size A5 128 c5 U5 128 d5 96) ∧ Hid (Blk wr w10.heap.size 55 #[.slice At 128 ct, .slice Ut 128 dt, .int .i64 ((96 - N : Nat) : Int)]) ∧ Hid (BsZ wr A5 128 (L0 x z)) ∧ Hid (SlZ wr U5 128 U0) ∧ Hid (BsZ wr At 128 lb) ∧ Hid (SlZ wr Ut 128 lu) ∧ Hid (CodesAt wr w1.heap.size w1.heap.size A (min n 100) c (List.take (min n 100) l) p) ∧ Hid (Kept N (L0 x z) lb lu)) (fun i _ => N - (intOf i).toNat)
    case atStart => exact ⟨0, A6, c6, U6, d6, L0 x z, lu0, p5, rfl, Lib.hid (by omega), j6, i6, Lib.hid (Below.al H_10.out _), Lib.hid (Blk.alloc Ks_10.out _), Lib.hid (show Blk _ (w10.heap.size) 55 #[.slice A6 128 c6, .slice U6 128 d6, .int .i64 ((96 - N : Nat) : Int)] from Blk.newAt (by simp [putStk, World.setCell])), Lib.hid (BsZ.alloc Rsb_10.out _), Lib.hid (SlZ.alloc Rsu_10.out _), Lib.hid (BsZ.alloc Rtb_10.out _), Lib.hid (SlZ.alloc Rtu_10.out _), Lib.hid (CodesAt.alloc C_10.out _), KP⟩
    case round =>
      clear KP j6 i6 Rsb_10 Rsu_10 Rtb_10 Rtu_10 Ks_10 H_10 C_10 ps0 ps1 ps2 fs0 fs1 fs2 zs
      obtain ⟨k, At, ct, Ut, dt, lb, lu, p, rfl, HKN, jt, it, H_19, Ks_19, Kt_19, Rsb_19, Rsu_19, Rtb_19, Rtu_19, C_19, KP⟩ := hrel
      have ncc_t := nct
      have ns_t := nst
      by_cases hkN : k < N
      · have hkNi : (k : Int) < (N : Int) := by omega
        have LO := fun (W : World) (A U : Option Addr) (c d : Nat) (lb : List Nat) (lu : List Bool) (h : BsZ W A 128 lb) (h' : SlZ W U 128 lu) (hc : 128 ≤ c) (hd : 128 ≤ d) (hk : Kept N (L0 x z) lb lu) => (load_any A U 128 c d (96 - N) lb lu k 1 (by omega) (by omega) (by omega) (by omega) W h h' (by omega) (by omega) hc hd)
        have LO2 : ∀ (W : World) (A U : Option Addr) (c d : Nat) (lb : List Nat) (lu : List Bool), BsZ W A 128 lb → SlZ W U 128 lu → 128 ≤ c → 128 ≤ d → Kept N (L0 x z) lb lu → Calls Try.prog 35 #[.agg #[.slice A 128 c, .slice U 128 d, .int .i64 ((96 - N : Nat) : Int)], .int .i64 k, .int .i64 1] W (LoadR W ((0, 0), false, 0)) := fun W A U c d lb lu h h' hc hd hk => by
          have := LO W A U c d lb lu h h' hc hd hk
          rwa [load_no hk hkN hN96] at this
        clear LO
        have HLO := Lib.hid LO2
        clear LO2
        obtain ⟨ps0, ps1, ps2, fs0, fs1, fs2, zs⟩ := StkB.three Ks_19.out
        obtain ⟨pt0, pt1, pt2, ft0, ft1, ft2, zt⟩ := StkB.three Kt_19.out
        go_wp2_with fail
        refine Calls.mono (HLO.out _ _ _ _ _ _ _ Rtb_19.out Rtu_19.out jt it KP.out) ?_
        rintro e w20 ⟨rfl, bel⟩
        have Rsb_20 := Lib.hid (BsZ.below Rsb_19.out bel)
        have Rsu_20 := Lib.hid (SlZ.below Rsu_19.out bel)
        have Rtb_20 := Lib.hid (BsZ.below Rtb_19.out bel)
        have Rtu_20 := Lib.hid (SlZ.below Rtu_19.out bel)
        have Ks_20 := Lib.hid (Blk.after Ks_19.out bel)
        have Kt_20 := Lib.hid (Blk.after Kt_19.out bel)
        have H_20 := Lib.hid (Below.step H_19.out bel)
        have C_20 := Lib.hid (CodesAt.after C_19.out bel)
        clear Ks_19 Kt_19 Rsb_19 Rsu_19 Rtb_19 Rtu_19 H_19 C_19 ps0 ps1 ps2 fs0 fs1 fs2 zs pt0 pt1 pt2 ft0 ft1 ft2 zt bel
        obtain ⟨ps0, ps1, ps2, fs0, fs1, fs2, zs⟩ := StkB.three Ks_20.out
        obtain ⟨pt0, pt1, pt2, ft0, ft1, ft2, zt⟩ := StkB.three Kt_20.out
        by_cases hk8 : k + 8 ≤ N
        · have hk8i : (k : Int) + 8 ≤ (N : Int) := by omega
          have hk8i' : decide ((k : Int) + 8 ≤ (N : Int)) = true := by simpa using hk8i
          go_wp2_with fail
          have ns_bl : w3.heap.size < w20.heap.size := by have := Blk.lt Ks_20.out; omega
          have nt_bl : w10.heap.size < w20.heap.size := by have := Blk.lt Kt_20.out; omega
          have ncc_bl : w1.heap.size < w20.heap.size := by have := Blk.lt C_20.out.1; omega
          have mbl : w.heap.size ≤ w20.heap.size := by have := H_20.out.size; omega
          have Rsb_21 := Lib.hid (show BsZ (w20.alloc (Obj.cells #[.int .u64 0, .int .u64 0] 52)) _ _ _ from (BsZ.alloc Rsb_20.out _))
          have Rsu_21 := Lib.hid (show SlZ (w20.alloc (Obj.cells #[.int .u64 0, .int .u64 0] 52)) _ _ _ from (SlZ.alloc Rsu_20.out _))
          have Rtb_21 := Lib.hid (show BsZ (w20.alloc (Obj.cells #[.int .u64 0, .int .u64 0] 52)) _ _ _ from (BsZ.alloc Rtb_20.out _))
          have Rtu_21 := Lib.hid (show SlZ (w20.alloc (Obj.cells #[.int .u64 0, .int .u64 0] 52)) _ _ _ from (SlZ.alloc Rtu_20.out _))
          have Ks_21 := Lib.hid (show Blk (w20.alloc (Obj.cells #[.int .u64 0, .int .u64 0] 52)) _ _ _ from (Blk.alloc Ks_20.out _))
          have Kt_21 := Lib.hid (show Blk (w20.alloc (Obj.cells #[.int .u64 0, .int .u64 0] 52)) _ _ _ from (Blk.alloc Kt_20.out _))
          have Kbl_21 := Lib.hid (show Blk (w20.alloc (Obj.cells #[.int .u64 0, .int .u64 0] 52)) _ _ _ from (show Blk _ (w20.heap.size) 52 #[.int .u64 (0 : Nat), .int .u64 (0 : Nat)] from Blk.newAt (by simp [putStk, World.setCell])))
          have H_21 := Lib.hid (show Below w.heap.size w (w20.alloc (Obj.cells #[.int .u64 0, .int .u64 0] 52)) from (Below.al H_20.out _))
          have C_21 := Lib.hid (show CodesAt (w20.alloc (Obj.cells #[.int .u64 0, .int .u64 0] 52)) _ _ _ _ _ _ _ from (CodesAt.alloc C_20.out _))
          clear Ks_20 Kt_20 Rsb_20 Rsu_20 Rtb_20 Rtu_20 H_20 C_20 ps0 ps1 ps2 fs0 fs1 fs2 zs pt0 pt1 pt2 ft0 ft1 ft2 zt
          generalize w20.alloc (Obj.cells #[.int .u64 0, .int .u64 0] 52) = wb at *
          have hzb : w1.heap.size < wb.heap.size := Blk.lt C_21.out.1
          have na2 : ¬ (w10.heap.size = w1.heap.size) := by omega
          go_cut [11] (fun s11 wx => ∃ (x5 y5 : Nat) (A6 : Option Addr) (c6 : Nat) (U6 : Option Addr) (d6 p6 : Nat), s11 = .pointer (some ⟨w10.heap.size, 0, none⟩) ∧ 128 ≤ c6 ∧ 128 ≤ d6 ∧ Hid (Below w.heap.size w wx) ∧ Hid (StkB wx w3.heap.size A5 128 c5 U5 128 d5 96) ∧ Hid (StkB wx w10.heap.size A6 128 c6 U6 128 d6 ((96 - N : Nat) : Int)) ∧ Hid (BsZ wx A5 128 (L0 x z)) ∧ Hid (SlZ wx U5 128 U0) ∧ Hid (BsZ wx A6 128 (splice lb (96 - N + k) (bytesV x5 y5 8))) ∧ Hid (SlZ wx U6 128 (splice lu (96 - N + k) (List.replicate 8 true))) ∧ Hid (CodesAt wx w1.heap.size w1.heap.size A (min n 100) c (List.take (min n 100) l) p6))
          case first =>
            obtain ⟨ps0, ps1, ps2, fs0, fs1, fs2, zs⟩ := StkB.three Ks_21.out
            obtain ⟨pt0, pt1, pt2, ft0, ft1, ft2, zt⟩ := StkB.three Kt_21.out
            go_region_with (first
              | (go_at_call 32; refine Calls.mono (value_d _ _ _ _ _ _ _ _ (CodesAt.dr C_21.out)) ?_; rintro e w6 ⟨x6, y6, p6, ⟨hx6, hy6⟩, rfl, cc6, g6⟩; have gg6 : wb.grownBy w6 (some w1.heap.size) := grownBy_trans (grownBy_drewN' wb 1 _) g6; have ks6 := Blk.grown Kt_21.out gg6 (by intro e; injection e; omega); obtain ⟨a60, a61, a62, e60, e61, e62, z6⟩ := StkB.three ks6; have KS6 := Lib.hid ks6; have GG6 := Lib.hid gg6; have CC6 := Lib.hid cc6; clear ks6 gg6 cc6)
              | (go_at_call 31; refine Calls.mono (store_any At Ut 128 ct dt (96 - N) _ _ k 8 (by omega) (by omega) (by omega) (by omega) x6 y6 hx6 hy6 _ (BsZ.grown (BsZ.drew Rtb_21.out) (CodesAt.dr C_21.out).1 (by simp) g6) (SlZ.grown (SlZ.drew Rtu_21.out) (CodesAt.dr C_21.out).1 (by simp) g6) (by omega) (by omega) jt it) ?_; rw [(kept_store (x := x6) (y := y6) KP.out hk8 hN96).1]; rintro e w7 ⟨A7, c7, U7, d7, rfl, b7, t7, j7, i7, bel7⟩; have ks7 := Blk.after KS6.out bel7; obtain ⟨a70, a71, a72, e70, e71, e72, z7⟩ := StkB.three ks7; have KS7 := Lib.hid ks7; have BE7 := Lib.hid bel7; clear ks7 bel7))
            all_goals
              go_wp2_with fail
              go_meet
              have KX := Blk.after (Blk.grown Ks_21.out GG6.out (by intro e; injection e; omega)) BE7.out
              exact ⟨x6, y6, A7, c7, U7, d7, p6, rfl, j7, i7, Lib.hid (Below.put (Below.step (Below.stepG H_21.out GG6.out mcc) BE7.out) mt), Lib.hid (Blk.putFar KX (Nat.ne_of_lt nst)), Lib.hid (StkB.put KS7.out), Lib.hid (BsZ.put (BsZ.below (BsZ.grown Rsb_21.out C_21.out.1 (by simp) GG6.out) BE7.out) KS7.out), Lib.hid (SlZ.put (SlZ.below (SlZ.grown Rsu_21.out C_21.out.1 (by simp) GG6.out) BE7.out) KS7.out), Lib.hid (BsZ.put b7 KS7.out), Lib.hid (SlZ.put t7 KS7.out), Lib.hid (CodesAt.put (CodesAt.after CC6.out BE7.out) (Nat.ne_of_lt nct) (Nat.le_of_lt nct))⟩
          case rest =>
            clear hzb Ks_21 Kt_21 H_21 Rsb_21 Rsu_21 Rtb_21 Rtu_21 C_21
            obtain ⟨x5, y5, A6, c6, U6, d6, p6, rfl, j6, i6, H_29, Ks_29, Kt_29, Rsb_29, Rsu_29, Rtb_29, Rtu_29, C_29⟩ := hcut
            obtain ⟨-, q1, q2, q3, q4⟩ := kept_store (x := x5) (y := y5) KP.out hk8 hN96
            generalize (splice lb (96 - N + k) (bytesV x5 y5 8)) = lb1 at *
            generalize (splice lu (96 - N + k) (List.replicate 8 true)) = lu1 at *
            have hkp := kept_push (N := N) (l0 := L0 x z) (lb := lb1) (lu := lu1) hN96 q1 q2 q3 q4
            obtain ⟨lu2, hlu2⟩ : ∃ lu2, lu2 = splice lu1 (96 - N) (List.replicate N false) := ⟨_, rfl⟩
            have PU := fun (W : World) (h : BsZ W A6 128 lb1) (h' : SlZ W U6 128 lu1) => push_any A6 U6 128 c6 d6 96 _ _ N (by omega) (by omega) W h h' (by omega) (by omega) j6 i6
            simp only [StkR, pushN N hN96] at PU
            rw [← hlu2] at PU hkp
            have KQ := Lib.hid hkp
            have HPU := Lib.hid PU
            have PO := fun (W : World) => pop_any A6 U6 128 c6 128 d6 (96 - N) N (by omega) (by omega) (by omega) (by omega) W
            rw [popN N hN96] at PO
            have HPO := Lib.hid PO
            clear hkp hlu2 q1 q2 q3 q4 PU PO
            obtain ⟨ps0, ps1, ps2, fs0, fs1, fs2, zs⟩ := StkB.three Ks_29.out
            obtain ⟨pt0, pt1, pt2, ft0, ft1, ft2, zt⟩ := StkB.three Kt_29.out
            go_wp2_with fail
            refine Calls.mono (HPO.out _) ?_
            rintro e w30 ⟨rfl, bel⟩
            have Rsb_30 := Lib.hid (BsZ.below Rsb_29.out bel)
            have Rsu_30 := Lib.hid (SlZ.below Rsu_29.out bel)
            have Rtb_30 := Lib.hid (BsZ.below Rtb_29.out bel)
            have Rtu_30 := Lib.hid (SlZ.below Rtu_29.out bel)
            have Ks_30 := Lib.hid (Blk.after Ks_29.out bel)
            have Kt_30 := Lib.hid (Blk.after Kt_29.out bel)
            have H_30 := Lib.hid (Below.step H_29.out bel)
            have C_30 := Lib.hid (CodesAt.after C_29.out bel)
            clear Ks_29 Kt_29 Rsb_29 Rsu_29 Rtb_29 Rtu_29 H_29 C_29 ps0 ps1 ps2 fs0 fs1 fs2 zs pt0 pt1 pt2 ft0 ft1 ft2 zt bel
            obtain ⟨ps0, ps1, ps2, fs0, fs1, fs2, zs⟩ := StkB.three Ks_30.out
            obtain ⟨pt0, pt1, pt2, ft0, ft1, ft2, zt⟩ := StkB.three Kt_30.out
            go_wp2_with fail
            refine Calls.mono (HPU.out _ (BsZ.alloc Rtb_30.out _) (SlZ.alloc Rtu_30.out _)) ?_
            rintro e w31 ⟨A8, c8, U8, d8, rfl, b8, t8, j8, i8, bel⟩
            have ns_u : w3.heap.size < w30.heap.size := by have := Blk.lt Ks_30.out; omega
            have nt_u : w10.heap.size < w30.heap.size := by have := Blk.lt Kt_30.out; omega
            have ncc_u : w1.heap.size < w30.heap.size := by have := Blk.lt C_30.out.1; omega
            have mu : w.heap.size ≤ w30.heap.size := by have := H_30.out.size; omega
            have Rsb_31 := Lib.hid (BsZ.below (BsZ.alloc Rsb_30.out _) bel)
            have Rsu_31 := Lib.hid (SlZ.below (SlZ.alloc Rsu_30.out _) bel)
            have Rtb_31 := Lib.hid (BsZ.below (BsZ.alloc Rtb_30.out _) bel)
            have Rtu_31 := Lib.hid (SlZ.below (SlZ.alloc Rtu_30.out _) bel)
            have Ks_31 := Lib.hid (Blk.after (Blk.alloc Ks_30.out _) bel)
            have Kt_31 := Lib.hid (Blk.after (Blk.alloc Kt_30.out _) bel)
            have Ku_31 := Lib.hid (Blk.after (show Blk _ (w30.heap.size) 55 #[.slice A6 128 c6, .slice U6 128 d6, .int .i64 96] from Blk.newAt (by simp [putStk, World.setCell])) bel)
            have H_31 := Lib.hid (Below.step (Below.al H_30.out _) bel)
            have C_31 := Lib.hid (CodesAt.after (CodesAt.alloc C_30.out _) bel)
            clear Ks_30 Kt_30 Rsb_30 Rsu_30 Rtb_30 Rtu_30 H_30 C_30 ps0 ps1 ps2 fs0 fs1 fs2 zs pt0 pt1 pt2 ft0 ft1 ft2 zt bel
            have Rvb_31 := Lib.hid (show BsZ _ _ _ _ from b8)
            clear b8
            have Rvu_31 := Lib.hid (show SlZ _ _ _ _ from t8)
            clear t8
            obtain ⟨ps0, ps1, ps2, fs0, fs1, fs2, zs⟩ := StkB.three Ks_31.out
            obtain ⟨pt0, pt1, pt2, ft0, ft1, ft2, zt⟩ := StkB.three Kt_31.out
            obtain ⟨pu0, pu1, pu2, fu0, fu1, fu2, zu⟩ := StkB.three Ku_31.out
            go_wp2_with fail
            refine Calls.mono (HLO.out _ _ _ _ _ _ _ (BsZ.alloc Rvb_31.out _) (SlZ.alloc Rvu_31.out _) j8 i8 KQ.out) ?_
            rintro e w32 ⟨rfl, bel⟩
            have ns_v : w3.heap.size < w31.heap.size := by have := Blk.lt Ks_31.out; omega
            have nt_v : w10.heap.size < w31.heap.size := by have := Blk.lt Kt_31.out; omega
            have nu_v : w30.heap.size < w31.heap.size := by have := Blk.lt Ku_31.out; omega
            have ncc_v : w1.heap.size < w31.heap.size := by have := Blk.lt C_31.out.1; omega
            have mv : w.heap.size ≤ w31.heap.size := by have := H_31.out.size; omega
            have Rsb_32 := Lib.hid (BsZ.below (BsZ.alloc Rsb_31.out _) bel)
            have Rsu_32 := Lib.hid (SlZ.below (SlZ.alloc Rsu_31.out _) bel)
            have Rtb_32 := Lib.hid (BsZ.below (BsZ.alloc Rtb_31.out _) bel)
            have Rtu_32 := Lib.hid (SlZ.below (SlZ.alloc Rtu_31.out _) bel)
            have Rvb_32 := Lib.hid (BsZ.below (BsZ.alloc Rvb_31.out _) bel)
            have Rvu_32 := Lib.hid (SlZ.below (SlZ.alloc Rvu_31.out _) bel)
            have Ks_32 := Lib.hid (Blk.after (Blk.alloc Ks_31.out _) bel)
            have Kt_32 := Lib.hid (Blk.after (Blk.alloc Kt_31.out _) bel)
            have Ku_32 := Lib.hid (Blk.after (Blk.alloc Ku_31.out _) bel)
            have Kv_32 := Lib.hid (Blk.after (show Blk _ (w31.heap.size) 55 #[.slice A8 128 c8, .slice U8 128 d8, .int .i64 ((96 - N : Nat) : Int)] from Blk.newAt (by simp [putStk, World.setCell])) bel)
            have H_32 := Lib.hid (Below.step (Below.al H_31.out _) bel)
            have C_32 := Lib.hid (CodesAt.after (CodesAt.alloc C_31.out _) bel)
            clear Ks_31 Kt_31 Ku_31 Rsb_31 Rsu_31 Rtb_31 Rtu_31 Rvb_31 Rvu_31 H_31 C_31 ps0 ps1 ps2 fs0 fs1 fs2 zs pt0 pt1 pt2 ft0 ft1 ft2 zt pu0 pu1 pu2 fu0 fu1 fu2 zu bel
            obtain ⟨ps0, ps1, ps2, fs0, fs1, fs2, zs⟩ := StkB.three Ks_32.out
            obtain ⟨pt0, pt1, pt2, ft0, ft1, ft2, zt⟩ := StkB.three Kt_32.out
            obtain ⟨pu0, pu1, pu2, fu0, fu1, fu2, zu⟩ := StkB.three Ku_32.out
            obtain ⟨pv0, pv1, pv2, fv0, fv1, fv2, zv⟩ := StkB.three Kv_32.out
            go_wp2_with fail
            go_roundw
            case rel => exact ⟨k + 1, A8, c8, U8, d8, lb1, lu2, p6, by go_num, Lib.hid (by omega), j8, i8, Lib.hid (Below.al (Below.put H_32.out mt) _), Lib.hid (Blk.alloc (Blk.putFar Ks_32.out (Nat.ne_of_lt ns_t)) _), Lib.hid (Blk.alloc (StkB.put Kt_32.out) _), Lib.hid (BsZ.alloc (BsZ.put Rsb_32.out Kt_32.out) _), Lib.hid (SlZ.alloc (SlZ.put Rsu_32.out Kt_32.out) _), Lib.hid (BsZ.alloc (BsZ.put Rvb_32.out Kt_32.out) _), Lib.hid (SlZ.alloc (SlZ.put Rvu_32.out Kt_32.out) _), Lib.hid (CodesAt.alloc (CodesAt.put C_32.out (Nat.ne_of_lt ncc_t) (Nat.le_of_lt ncc_t)) _), KQ⟩
            case measure => simp [intOf] <;> omega
        · have hk8i : ¬ ((k : Int) + 8 ≤ (N : Int)) := by omega
          go_wp2_with fail
          go_roundw
          case rel => exact ⟨k + 1, At, ct, Ut, dt, lb, lu, p, by go_num, Lib.hid (by omega), jt, it, Lib.hid (Below.al H_20.out _), Lib.hid (Blk.alloc Ks_20.out _), Lib.hid (Blk.alloc Kt_20.out _), Lib.hid (BsZ.alloc Rsb_20.out _), Lib.hid (SlZ.alloc Rsu_20.out _), Lib.hid (BsZ.alloc Rtb_20.out _), Lib.hid (SlZ.alloc Rtu_20.out _), Lib.hid (CodesAt.alloc C_20.out _), KP⟩
          case measure => simp [intOf] <;> omega
      · obtain rfl : k = N := by have := HKN.out; omega
        have PO := fun (W : World) => pop_any At Ut 128 ct 128 dt (96 - k) k (by omega) (by omega) (by omega) (by omega) W
        rw [popN k hN96] at PO
        have HPO := Lib.hid PO
        clear PO HKN
        obtain ⟨ps0, ps1, ps2, fs0, fs1, fs2, zs⟩ := StkB.three Ks_19.out
        obtain ⟨pt0, pt1, pt2, ft0, ft1, ft2, zt⟩ := StkB.three Kt_19.out
        go_wp2_with fail
        refine Calls.mono (HPO.out _) ?_
        rintro e w20 ⟨rfl, bel⟩
        have Rsb_20 := Lib.hid (BsZ.below Rsb_19.out bel)
        have Rsu_20 := Lib.hid (SlZ.below Rsu_19.out bel)
        have Rtb_20 := Lib.hid (BsZ.below Rtb_19.out bel)
        have Rtu_20 := Lib.hid (SlZ.below Rtu_19.out bel)
        have Ks_20 := Lib.hid (Blk.after Ks_19.out bel)
        have Kt_20 := Lib.hid (Blk.after Kt_19.out bel)
        have H_20 := Lib.hid (Below.step H_19.out bel)
        have C_20 := Lib.hid (CodesAt.after C_19.out bel)
        clear Ks_19 Kt_19 Rsb_19 Rsu_19 Rtb_19 Rtu_19 H_19 C_19 ps0 ps1 ps2 fs0 fs1 fs2 zs pt0 pt1 pt2 ft0 ft1 ft2 zt bel
        have nsu : w3.heap.size < w20.heap.size := Blk.lt Ks_20.out
        have KU := Lib.hid (show Blk (w20.alloc (Obj.cells #[.slice At 128 ct, .slice Ut 128 dt, .int .i64 (96 : Nat)] 55)) w20.heap.size 55 #[.slice At 128 ct, .slice Ut 128 dt, .int .i64 (96 : Nat)] from Blk.newAt rfl)
        have KS := Lib.hid (Blk.alloc Ks_20.out (Obj.cells #[.slice At 128 ct, .slice Ut 128 dt, .int .i64 (96 : Nat)] 55))
        have R1 := Lib.hid (BsZ.alloc Rtb_20.out (Obj.cells #[.slice At 128 ct, .slice Ut 128 dt, .int .i64 (96 : Nat)] 55))
        have R2 := Lib.hid (BsZ.alloc Rsb_20.out (Obj.cells #[.slice At 128 ct, .slice Ut 128 dt, .int .i64 (96 : Nat)] 55))
        have R3 := Lib.hid (SlZ.alloc Rtu_20.out (Obj.cells #[.slice At 128 ct, .slice Ut 128 dt, .int .i64 (96 : Nat)] 55))
        have HH := Lib.hid (Below.al H_20.out (Obj.cells #[.slice At 128 ct, .slice Ut 128 dt, .int .i64 (96 : Nat)] 55))
        clear Ks_20 Kt_20 H_20 Rsb_20 Rsu_20 Rtb_20 Rtu_20 C_20
        go_upto_region 28 with (fail)
        generalize w20.alloc (Obj.cells #[.slice At 128 ct, .slice Ut 128 dt, .int .i64 (96 : Nat)] 55) = wu at *
        obtain ⟨u0, u1, u2, -, -, -, zu⟩ := StkB.three KU.out
        obtain ⟨s0, s1, s2, -, -, -, zs'⟩ := StkB.three KS.out
        obtain ⟨ad, y1, rfl, -, hy1, c104⟩ := Sl.at_ (R3.out : Sl _ _ _ _ _ _) (k := 104) (by omega)
        obtain ⟨ad', y2, e2, -, hy2, c96⟩ := Sl.at_ (R3.out : Sl _ _ _ _ _ _) (k := 96) (by omega)
        obtain rfl : ad = ad' := by injection e2
        rw [get_of_drop KP.out.u 104 (by omega), u0_104] at hy1
        rw [get_of_drop KP.out.u 96 (by omega), u0_96] at hy2
        obtain rfl : true = y1 := by injection hy1
        obtain rfl : false = y2 := by injection hy2
        have hct : ¬ (ct = 96) := by omega
        have hc5 : ¬ (c5 = 96) := by omega
        have hct1 : (96 : Int) ≤ (ct : Int) := by omega
        have hc51 : (96 : Int) ≤ (c5 : Int) := by omega
        have SM := fun W (h1 : BsZ W At 128 lb) (h2 : BsZ W A5 128 (L0 x z)) => same_bytes (At.map (·.add 96)) (A5.map (·.add 96)) 32 (ct - 96) 32 (c5 - 96) _ _ W _ (Bs.part (k := 96) (m := 32) (h1 : Bs _ _ _ _ _) (by omega) (by omega)) (Bs.part (k := 96) (m := 32) (h2 : Bs _ _ _ _ _) (by omega) (by omega)) (by unfold maxLen; omega) (by unfold maxLen; omega)
        have hsm : decide (List.take 32 (List.drop 96 lb) = List.take 32 (List.drop 96 (L0 x z))) = true := by rw [KP.out.b]; simp
        rw [hsm] at SM
        have hadd : (fun x : Addr => x.add 96) = fun x : Addr => ⟨x.block, x.off + 96, none⟩ := by funext x; simp [Addr.add]
        simp only [hadd] at SM
        have HSM := Lib.hid SM
        replace c104 : wu.cell? ⟨ad.block, ad.off + 104, none⟩ = some (.bool true) := by simpa [Addr.add] using c104
        replace c96 : wu.cell? ⟨ad.block, ad.off + 96, none⟩ = some (.bool false) := by simpa [Addr.add] using c96
        clear hadd SM hsm hy1 hy2 e2
        go_wp2_with fail
        go_quiet ((go_at_call 39; exact Calls.quiet_of (HSM.out _ (BsZ.drewN R1.out _) (BsZ.drewN R2.out _))))
        go_wp2
        go_ret
        exact ⟨rfl, below_drewN HH.out _⟩
end Go.Proofs.Ytgamodmenlhedaa.pp
