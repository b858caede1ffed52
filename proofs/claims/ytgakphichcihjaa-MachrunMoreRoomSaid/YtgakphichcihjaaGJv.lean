/- The draw Input. -/
import Derived.Test.YtgakphichcihjaaPd5
import Derived.Test.YtgakphichcihjaaGJp
import Derived.Test.YtgakphichcihjaaKti
import Derived.Deep.CutBlock
namespace Go.Proofs.Ytgakphichcihjaa.pm
open Go.RowKit
set_option linter.unusedVariables false
set_option maxRecDepth 10000
theorem info_word : (Try.prog.info? 43).map (fun i => (i.zero, i.size, i.bytes)) = some (some (.int .u64 0), 1, 8) := by kernel_rfl
def InpD (B cb : Nat) (A : Option Addr) (n c : Nat) (l : List Nat) (w : World) (e : Ending) (w' : World) : Prop :=
  ∃ (r : Value) (inp : List Nat) (p' : Nat), e = .returned r ∧ inp.length ≤ 4 ∧ (∀ v ∈ inp, v < 18446744073709551616) ∧ w'.ownsRow w.heap.size 43 1 r inp.length (inV8 inp) ∧ CodesAt w' B cb A n c l p' ∧ w.grownBy w' (some cb)
theorem inV8_app (a : List Nat) (v : Nat) : inV8 (a ++ [v]) = inV8 a ++ [.int .u64 (v : Int)] := by unfold inV8; rw [List.map_append]; rfl
set_option maxHeartbeats 2000000 in
theorem input_d (B cb : Nat) (A : Option Addr) (n c : Nat) (l : List Nat) (p : Nat) (w : World) (h : CodesAt w B cb A n c l p) :
    Calls Try.prog 45 #[.pointer (some ⟨cb, 0, none⟩)] w (InpD B cb A n c l w) := by
  obtain ⟨i0, hi0, hz0, hz1, hz2⟩ := info_parts info_word
  have hlt := h.1.lt
  have hB := h.2.2.2.1
  have HC := Lib.hid h
  clear h
  go_enter Try.func45, Try.ntmps45
  go_wp2_with fail
  refine (next_d _ _ _ _ _ _ _ 4 _ HC.out (by omega) (by omega)).mono ?_
  rintro e w1 ⟨t, p1, ht, rfl, c1, g1⟩
  have htm : t ≤ 4 := by omega
  have HC1 := Lib.hid c1
  have HG1 := Lib.hid g1
  clear ht c1 g1 HC
  go_wp2
  go_loopw [3, 4] (fun o x wr => ∃ (k p1 : Nat) (pre : List Nat), x = .int .i64 k ∧ k ≤ 4 ∧ Hid (pre.length + k ≤ 4) ∧ Hid (∀ s ∈ pre, s < 18446744073709551616) ∧ wr.ownsRow w.heap.size 43 1 o pre.length (inV8 pre) ∧ Hid (CodesAt wr B cb A n c l p1) ∧ Hid (w.grownBy wr (some cb))) (fun _ x _ => (intOf x).toNat)
  case atStart => exact ⟨t, p1, [], rfl, by omega, Lib.hid (by simpa using htm), Lib.hid (fun s hs => by simp at hs), World.ownsRow_nil _ _ _ _, HC1, HG1⟩
  case round =>
    obtain ⟨k, p2, pre, rfl, hk, HL, HP, own, HCW, HG⟩ := hrel
    have hpl : pre.length ≤ 4 := by have := HL.out; omega
    have hk0 : (0 : Int) ≤ (k : Int) := by omega
    have hk1 : (k : Int) ≤ 4 := by omega
    clear HC1 HG1
    rcases Nat.eq_zero_or_pos k with rfl | hpos
    · have HE : Hid (pre.length ≤ 4) := Lib.hid (by have := HL.out; omega)
      go_wp2
      go_ret
      exact ⟨_, pre, p2, rfl, HE.out, HP.out, own, HCW.out, HG.out⟩
    · have hpi : (0 : Int) < (k : Int) := by omega
      go_wp2_with fail
      refine (word_d _ _ _ _ _ _ _ _ HCW.out).mono ?_
      rintro e w3 ⟨s, p3, hso, rfl, c3, g3⟩
      have HSO := Lib.hid hso
      have HC3 := Lib.hid c3
      have HG3 := Lib.hid (grownBy_trans HG.out g3)
      have own3 := own_draw own g3 hlt
      have hsz3 : w.heap.size ≤ w3.heap.size := HG3.out.size
      clear hso c3 g3 own HCW HG
      go_wp2_with (at_builtin; refine wpList_append_any _ rfl (.tmp 11) (.tmp 14) _ rfl w.heap.size 43 i0 _ 1 8 Try.underlying49 hi0 hz0 hz1 hz2 rfl (by omega) _ (pre).length (inV8 pre) rfl (own3.alloc _) (w3.heap.size + 1) (some ⟨w3.heap.size, 0, none⟩) 1 1 [Value.int .u64 s] rfl (reads_new rfl) (by simp [Value.oneCell']) (by unfold maxLen; omega) (by omega) (by simp; omega) ?_; intro v4 w4 own4 hg4 hat4)
      have HN4 := Lib.hid (own_ne_codes (own3.alloc (.cells #[Value.int .u64 s] 43)) hlt)
      have HLT4 := Lib.hid (fun j (e : _ = some j) => ((own3.alloc (.cells #[Value.int .u64 s] 43)).lt j e).1)
      go_roundw
      case rel =>
        refine ⟨k - 1, p3, pre ++ [s], (by congr 1; omega), by omega, Lib.hid (by have := HL.out; simp; omega), Lib.hid (fun q hq => ?_), ?_, Lib.hid ((HC3.out.alloc _).grown' hg4 HN4.out (fun j e => by have := HLT4.out j e; omega)), Lib.hid (grownBy_step (grownBy_al HG3.out _) hg4 (fun j e => .inl (HLT4.out j e)))⟩
        · rcases List.mem_append.1 hq with h1 | h1
          · exact HP.out q h1
          · simp at h1; subst h1; exact HSO.out
        · rw [inV8_app, List.length_append]; exact own4
      case measure => simp [intOf]; omega
end Go.Proofs.Ytgakphichcihjaa.pm
namespace Go.Proofs.Ytgakphichcihjaa.pm
open Go.RowKit
set_option linter.unusedVariables false
set_option maxRecDepth 10000
theorem GT.more {w : World} {lo hi lo' hi' : Nat} {A : Option Addr} {t : List Fr} (h : GT w lo hi A t) (hl : lo' ≤ lo) (hh : hi ≤ hi') : GT w lo' hi' A t := by
  obtain ⟨vs, h1, h2, h3⟩ := h
  exact ⟨vs, h1.more hl hh, h2.more hl hh, h3⟩
def SceneD (A : Option Addr) (m c : Nat) (l : List Nat) (w : World) (e : Ending) (w' : World) : Prop :=
  ∃ (al : Int) (t : List Fr) (inp : List Nat) (F size : Nat) (At : Option Addr) (ct : Nat) (iv : Value) (p' : Nat), e = .returned (.tuple #[.agg #[.int .i64 al, .slice At t.length ct], iv, .int .i64 (F : Int), .int .i64 (size : Int), .pointer (some ⟨w.heap.size + 1, 0, none⟩)]) ∧
    TgP 4 al t ∧ F < 256 ∧ size ≤ 1279 ∧ (∀ v ∈ inp, v < 18446744073709551616) ∧ GT w' (w.heap.size + 1 + 1) w'.heap.size At t ∧ InX w' w'.heap.size iv inp ∧ t.length ≤ ct ∧ CodesAt w' w.heap.size (w.heap.size + 1) A m c l p' ∧ Below w.heap.size w w'
set_option maxHeartbeats 4000000 in
theorem scene_any (A : Option Addr) (n c : Nat) (l : List Nat) (w : World) (hb : Bs w w.heap.size A n l) (hn : n ≤ maxLen) (hc : n ≤ c) :
    Calls Try.prog 22 #[.slice A n c] w (SceneD A (min n 300) c (l.take (min n 300)) w) := by
  obtain ⟨W1, hW1⟩ : ∃ W1, W1 = w.alloc (.cells #[.int .i64 0, .slice none 0 0] 24) := ⟨_, rfl⟩
  have HK1 : Hid (Blk W1 w.heap.size 24 #[.int .i64 0, .slice none 0 0]) := Lib.hid (by rw [hW1]; exact Blk.new _ _ _)
  have hB1 : Below w.heap.size w W1 := by rw [hW1]; exact (Below.refl _ _).alloc (Nat.le_refl _) _
  have hs1 : W1.heap.size = w.heap.size + 1 := by rw [hW1]; simp
  have HBS : Hid (Bs W1 w.heap.size A n l) := Lib.hid (by
    rw [hW1]
    exact hb.alloc (Nat.le_refl _) _)
  have HW1 := Lib.hid hW1
  have HB1 := Lib.hid hB1
  clear hb hW1 hB1
  go_enter Try.func22, Try.ntmps22
  go_upto_region 1 with (fail)
  rw [← HW1.out]
  go_wp2_with fail
  refine (newcodes_any A n c l 300 _ hn hc (by omega)).mono ?_
  rintro e w2 ⟨rfl, hw2⟩
  have HC2 : Hid (CodesAt w2 w.heap.size (w.heap.size + 1) A (min n 300) c (l.take (min n 300)) 0) := Lib.hid (by
    rw [hw2]
    exact ⟨Blk.newAt (by omega), ((HBS.out.take (Nat.min_le_left _ _)).alloc (by omega) _), Nat.zero_le _, Nat.le_succ _, by omega⟩)
  have HB2 : Hid (Below w.heap.size w w2) := Lib.hid (by rw [hw2]; exact HB1.out.alloc (by omega) _)
  have HK12 : Hid (Blk w2 w.heap.size 24 #[.int .i64 0, .slice none 0 0]) := Lib.hid (by rw [hw2]; exact HK1.out.alloc _)
  have hs2 : w2.heap.size = w.heap.size + 1 + 1 := by rw [hw2]; simp [hs1]
  generalize min n 300 = m at *
  generalize l.take m = l' at *
  clear hw2 HBS HK1
  have hs21 : w.heap.size < w2.heap.size := by omega
  go_wp2_with fail
  refine (target_d _ _ _ _ _ _ _ 4 12 _ HC2.out (by omega) (by omega) (by omega)).mono ?_
  rintro e w3 ⟨al, p, Ap, cp, p3, rfl, hpo, hgt, hcp, c3, g3⟩
  have HPO := Lib.hid hpo
  have HGT := Lib.hid hgt
  have HC3 := Lib.hid c3
  have HB3 : Hid (Below w.heap.size w w3) := Lib.hid (HB2.out.trans (below_of_grownR g3 (fun k e => by injection e; omega) (by omega)))
  have HK13 := Lib.hid (HK12.out.grown g3 (some_ne (by omega)))
  have hs3 : w2.heap.size ≤ w3.heap.size := g3.size
  clear hpo hgt c3 g3 HC2 HK12
  go_upto_region 3 with (fail)
  obtain ⟨W4, hW4⟩ : ∃ W4, W4 = w3.alloc (.cells #[.int .i64 al, .slice Ap p.length cp] 24) := ⟨_, rfl⟩
  rw [← hW4]
  have HK7 : Hid (Blk W4 w3.heap.size 24 #[.int .i64 al, .slice Ap p.length cp]) := Lib.hid (by rw [hW4]; exact Blk.new _ _ _)
  have hB4 : Below w3.heap.size w3 W4 := by rw [hW4]; exact (Below.refl _ _).alloc (Nat.le_refl _) _
  have HC4 := Lib.hid (HC3.out.after hB4)
  have HB4 : Hid (Below w.heap.size w W4) := Lib.hid (HB3.out.trans (hB4.mono (by omega)))
  have HK14 := Lib.hid (HK13.out.after hB4)
  have HGT4 := Lib.hid (HGT.out.keep (Kp.of_below hB4 (Nat.le_refl _)))
  obtain ⟨g7, hg7⟩ : ∃ g7, g7 = w3.heap.size := ⟨_, rfl⟩
  rw [← hg7] at HK7 HGT4 ⊢
  have hs4 : W4.heap.size = g7 + 1 := by rw [hW4, hg7]; simp
  have hg72 : w2.heap.size ≤ g7 := by omega
  clear hW4 hB4 hg7 HC3 HB3 HK13 HGT
  have hcb : w.heap.size + 1 < W4.heap.size := by omega
  go_wp2_with fail
  refine (input_d _ _ _ _ _ _ _ _ HC4.out).mono ?_
  rintro e w5 ⟨r, inp, p5, rfl, hil, hiw, o5, c5, g5⟩
  have HIW := Lib.hid hiw
  have HO5 := Lib.hid o5
  have HC5 := Lib.hid c5
  have HG5 := Lib.hid g5
  have hs5 : W4.heap.size ≤ w5.heap.size := g5.size
  clear hiw o5 c5 g5 HC4
  go_wp2_with fail
  refine (next_d _ _ _ _ _ _ _ 256 _ HC5.out (by omega) (by omega)).mono ?_
  rintro e w6 ⟨F, p6, hF, rfl, c6, g6⟩
  have HC6 := Lib.hid c6
  have HG6 := Lib.hid (grownBy_trans HG5.out g6)
  have HO6 := Lib.hid (own_draw HO5.out g6 (by omega))
  have hs6 : w5.heap.size ≤ w6.heap.size := g6.size
  have hF' : F < 256 := by omega
  clear c6 g6 HC5 HG5 HO5 hF
  go_wp2_with fail
  refine (next_d _ _ _ _ _ _ _ 80 _ HC6.out (by omega) (by omega)).mono ?_
  rintro e w7 ⟨z, p7, hz, rfl, c7, g7'⟩
  have HC7 := Lib.hid c7
  have HG7 := Lib.hid (grownBy_trans HG6.out g7')
  have HO7 := Lib.hid (own_draw HO6.out g7' (by omega))
  have hs7 : w6.heap.size ≤ w7.heap.size := g7'.size
  have hz' : z < 80 := by omega
  clear c7 g7' HC6 HG6 HO6 hz
  obtain ⟨S, hS⟩ : ∃ S : Nat, S = 16 * z := ⟨_, rfl⟩
  have hSi : (16 : Int) * (z : Int) = (S : Int) := by omega
  have hSb : S ≤ 1264 := by omega
  have hSbi : (S : Int) ≤ 1264 := by omega
  have hwS : IntKind.i64.wrap (S : Int) = (S : Int) := IntWalk.i64_in _ (by omega)
  clear hS
  go_wp2_with fail
  refine (next_d _ _ _ _ _ _ _ 4 _ HC7.out (by omega) (by omega)).mono ?_
  rintro e w8 ⟨k4, p8, hk4, rfl, c8, g8⟩
  have HC8 := Lib.hid c8
  have HG8 := Lib.hid (grownBy_trans HG7.out g8)
  have HO8 := Lib.hid (own_draw HO7.out g8 (by omega))
  have hs8 : w7.heap.size ≤ w8.heap.size := g8.size
  clear c8 g8 HC7 HG7 HO7 hk4
  go_upto_if 25 with (fail)
  go_cut [11] (fun s11 wx => ∃ S2 p9 : Nat, S2 ≤ 1279 ∧ s11 = .int .i64 (S2 : Int) ∧ Hid (CodesAt wx w.heap.size (w.heap.size + 1) A m c l' p9) ∧ Hid (W4.grownBy wx (some (w.heap.size + 1))) ∧ Hid (wx.ownsRow W4.heap.size 43 1 r inp.length (inV8 inp)) ∧ W4.heap.size ≤ wx.heap.size)
  case first =>
    rcases hk3 : ((k4 : Int) == 3) with _ | _
    · go_wp2
      go_meet
      exact ⟨S, p8, by omega, rfl, HC8, HG8, HO8, by omega⟩
    · go_wp2_with fail
      refine (next_d _ _ _ _ _ _ _ 16 _ HC8.out (by omega) (by omega)).mono ?_
      rintro e w9 ⟨j, p9, hj, rfl, c9, g9⟩
      have HC9 := Lib.hid c9
      have HG9 := Lib.hid (grownBy_trans HG8.out g9)
      have HO9 := Lib.hid (own_draw HO8.out g9 (by omega))
      have hs9 : w8.heap.size ≤ w9.heap.size := g9.size
      obtain ⟨S3, hS3⟩ : ∃ S3 : Nat, S3 = S + j := ⟨_, rfl⟩
      have hS3i : (S : Int) + (j : Int) = (S3 : Int) := by omega
      have hS3b : S3 ≤ 1279 := by omega
      have hwS3 : IntKind.i64.wrap (S3 : Int) = (S3 : Int) := IntWalk.i64_in _ (by omega)
      clear c9 g9 HC8 HG8 HO8 hj hS3
      go_wp2
      go_meet
      exact ⟨S3, p9, hS3b, rfl, HC9, HG9, HO9, by omega⟩
  case rest =>
    obtain ⟨S2, p9, hS2, rfl, HC9, HG9, HO9, hs9⟩ := hcut
    obtain ⟨W9, hW9⟩ : ∃ W9, W9 = wc := ⟨_, rfl⟩
    subst hW9
    have HK79 := Lib.hid (HK7.out.grown HG9.out (some_ne (by omega)))
    have HK19 := Lib.hid (HK14.out.grown HG9.out (some_ne (by omega)))
    have HB9 : Hid (Below w.heap.size w W9) := Lib.hid (HB4.out.trans (below_of_grownR HG9.out (fun k e => by injection e; omega) (by omega)))
    have HGT9 := Lib.hid (HGT4.out.keep (Kp.of_grown HG9.out (by omega) (.inl (by omega))))
    clear HC8 HG8 HO8 HK7 HK14 HB4 HGT4 hSi hwS
    obtain ⟨Ai, ci, rfl, -⟩ := own_form HO9.out
    have HIC := own_cap HO9.out
    obtain ⟨x0, x1, -, -, xg⟩ := HK79.out.c2
    obtain ⟨y0, y1, f0, f1, yg⟩ := HK19.out.c2
    go_wp2
    obtain ⟨Wz, hWz⟩ : ∃ Wz, Wz = (W9.setCell ⟨w.heap.size, 0, none⟩ (.int .i64 al)).setCell ⟨w.heap.size, 1, none⟩ (.slice Ap p.length cp) := ⟨_, rfl⟩
    rw [← hWz]
    have hKz : Blk Wz w.heap.size 24 #[.int .i64 al, .slice Ap p.length cp] := by
      rw [hWz]
      exact (HK19.out.set_ 0 _).set_ 1 _
    obtain ⟨r0, r1, -⟩ := hKz.c2
    have hsz : Wz.heap.size = W9.heap.size := by rw [hWz]; simp [World.setCell]
    have hk1 : Kp (w.heap.size + 1 + 1) W9.heap.size W9 Wz := by
      rw [hWz]
      exact ((Kp.refl _ _ _).set (p := ⟨w.heap.size, 0, none⟩) (.inl (by show w.heap.size < _; omega)) _).set (p := ⟨w.heap.size, 1, none⟩) (.inl (by show w.heap.size < _; omega)) _
    have hGT : GT Wz (w.heap.size + 1 + 1) Wz.heap.size Ap p := by
      rw [hsz]
      exact (GT.more HGT9.out (by omega) (by omega)).keep hk1
    have hIX : InX Wz Wz.heap.size (.slice Ai inp.length ci) inp := by
      rw [hsz]
      exact ⟨Ai, ci, rfl, HIC.2, by omega, ((Rx.keep ((Rx.of_own HO9.out).more (by omega) (Nat.le_refl _)) hk1)).more (Nat.zero_le _) (Nat.le_refl _)⟩
    have hCz : CodesAt Wz w.heap.size (w.heap.size + 1) A m c l' p9 := by
      rw [hWz]
      exact (HC9.out.set (by show w.heap.size + 1 ≠ w.heap.size; omega) (Nat.le_refl _) _).set (by show w.heap.size + 1 ≠ w.heap.size; omega) (Nat.le_refl _) _
    have hBz : Below w.heap.size w Wz := by
      rw [hWz]
      exact (HB9.out.setCell (Nat.le_refl _) _).setCell (Nat.le_refl _) _
    refine bodyPost_ret (v := .tuple #[.agg #[.int .i64 al, .slice Ap p.length cp], .slice Ai inp.length ci, .int .i64 F, .int .i64 S2, .pointer (some ⟨w.heap.size + 1, 0, none⟩)]) (by simp [results, Try.results22, go_sem, r0, r1]) rfl ?_
    exact ⟨al, p, inp, F, S2, Ap, cp, _, p9, rfl, HPO.out, hF', hS2, HIW.out, hGT, hIX, hcp, hCz, hBz⟩
end Go.Proofs.Ytgakphichcihjaa.pm
namespace Go.Proofs.Ytgakphichcihjaa.pm
open Go.RowKit
set_option linter.unusedVariables false
set_option maxRecDepth 10000
theorem tgp_rt {most : Nat} {al : Int} {p : List Fr} (hm : most ≤ 80) (h : TgP most al p) : tgE al p = 0 ∧ RT al p := by
  have hE := tgp_ok hm h
  obtain ⟨h1, h2, h3, h4, h5⟩ := h
  have ha : 16 ≤ al ∧ al ≤ 64 := by unfold AlOk at h1; omega
  refine ⟨hE, tgE_gt hE ⟨⟨by omega, by omega⟩, fun f hf => ?_⟩ fun i hi x hx => ?_⟩
  · obtain ⟨a, b, c, d, e, g, k, l, -⟩ := h5 f hf
    exact ⟨⟨by omega, by omega⟩, ⟨by omega, by omega⟩, fun x hx => (l x hx).1.2.1⟩
  · obtain ⟨-, -, -, -, -, -, -, l, -⟩ := h5 _ (getD_mem' hi)
    exact (l x hx).1.2.2
end Go.Proofs.Ytgakphichcihjaa.pm
