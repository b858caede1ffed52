/- The draw Input. -/
import Derived.Test.YtcnndoefgjbmiaaGreatKti
import Derived.Test.YtcnndoefgjbmiaaGreatGJn
set_option linter.unusedVariables false
set_option maxRecDepth 10000
set_option maxHeartbeats 8000000
namespace Go.Proofs.YtcnndoefgjbmiaaGreat.pm
open Go.RowKit
theorem info_word : (Tryz.prog.info? 36).map (fun i => (i.zero, i.size, i.bytes)) = some (some (.int .u64 0), 1, 8) := by kernel_rfl
def InpD (B cb : Nat) (A : Option Addr) (n c : Nat) (l : List Nat) (w : World) (e : Ending) (w' : World) : Prop :=
 ∃ (r : Value) (inp : List Nat) (p' : Nat), e = .returned r ∧ inp.length ≤ 4 ∧ (∀ v ∈ inp, v < 18446744073709551616) ∧ w'.ownsRow w.heap.size 36 1 r inp.length (inV8 inp) ∧ CodesAt w' B cb A n c l p' ∧ w.grownBy w' (some cb)
theorem inV8_app (a : List Nat) (v : Nat) : inV8 (a ++ [v]) = inV8 a ++ [.int .u64 (v : Int)] := by unfold inV8; rw [List.map_append]; rfl
theorem input_d (B cb : Nat) (A : Option Addr) (n c : Nat) (l : List Nat) (p : Nat) (w : World) (h : CodesAt w B cb A n c l p) :
 Calls Tryz.prog 15 #[.pointer (some ⟨cb, 0, none⟩)] w (InpD B cb A n c l w) := by
 obtain ⟨i0, hi0, hz0, hz1, hz2⟩ := info_parts info_word
 have hlt := h.1.lt
 have hB := h.2.2.2.1
 have HC := hQ h
 clear h
 go_enter Tryz.func15, Tryz.ntmps15
 go_wp2_with fail
 refine (next_d _ _ _ _ _ _ _ 4 _ HC.out (by omega) (by omega)).mono ?_
 rintro e w1 ⟨t, p1, ht, rfl, c1, g1⟩
 have htm : t ≤ 4 := by omega
 have HC1 := hQ c1
 have HG1 := hQ g1
 clear ht c1 g1 HC
 go_wp2
 go_loopw [3, 4] (fun o x wr => ∃ (k p1 : Nat) (pre : List Nat), x = .int .i64 k ∧ k ≤ 4 ∧ Hid (pre.length + k ≤ 4) ∧ Hid (∀ s ∈ pre, s < 18446744073709551616) ∧ wr.ownsRow w.heap.size 36 1 o pre.length (inV8 pre) ∧ Hid (CodesAt wr B cb A n c l p1) ∧ Hid (w.grownBy wr (some cb))) (fun _ x _ => (intOf x).toNat)
 case atStart => exact ⟨t, p1, [], rfl, by omega, hQ (by simpa using htm), hQ (fun s hs => by simp at hs), World.ownsRow_nil _ _ _ _, HC1, HG1⟩
 case round =>
  obtain ⟨k, p2, pre, rfl, hk, HL, HP, own, HCW, HG⟩ := hrel
  have hpl : pre.length ≤ 4 := by have := HL.out; omega
  have hk0 : (0 : Int) ≤ (k : Int) := by omega
  have hk1 : (k : Int) ≤ 4 := by omega
  clear HC1 HG1
  rcases Nat.eq_zero_or_pos k with rfl | hpos
  · have HE : Hid (pre.length ≤ 4) := hQ (by have := HL.out; omega)
    go_wp2
    go_ret
    exact ⟨_, pre, p2, rfl, HE.out, HP.out, own, HCW.out, HG.out⟩
  · have hpi : (0 : Int) < (k : Int) := by omega
    go_wp2_with fail
    refine (word_d _ _ _ _ _ _ _ _ HCW.out).mono ?_
    rintro e w3 ⟨s, p3, hso, rfl, c3, g3⟩
    have HSO := hQ hso
    have HC3 := hQ c3
    have HG3 := hQ (grownBy_trans HG.out g3)
    have own3 := own_draw own g3 hlt
    have hsz3 : w.heap.size ≤ w3.heap.size := HG3.out.size
    clear hso c3 g3 own HCW HG
    go_wp2_with (at_builtin; refine wpList_append_any _ rfl (.tmp 11) (.tmp 14) _ rfl w.heap.size 36 i0 _ 1 8 Tryz.underlying27 hi0 hz0 hz1 hz2 rfl (by omega) _ (pre).length (inV8 pre) rfl (own3.alloc _) (w3.heap.size + 1) (some ⟨w3.heap.size, 0, none⟩) 1 1 [Value.int .u64 s] rfl (reads_new rfl) (by simp [Value.oneCell']) (by unfold maxLen; omega) (by omega) (by simp; omega) ?_; intro v4 w4 own4 hg4 hat4)
    have HN4 := hQ (own_ne_codes (own3.alloc (.cells #[Value.int .u64 s] 36)) hlt)
    have HLT4 := hQ (fun j (e : _ = some j) => ((own3.alloc (.cells #[Value.int .u64 s] 36)).lt j e).1)
    go_roundw
    case rel =>
     refine ⟨k - 1, p3, pre ++ [s], (by congr 1; omega), by omega, hQ (by have := HL.out; simp; omega), hQ (fun q hq => ?_), ?_, hQ ((HC3.out.alloc _).grown' hg4 HN4.out (fun j e => by have := HLT4.out j e; omega)), hQ (grownBy_step (grownBy_al HG3.out _) hg4 (fun j e => .inl (HLT4.out j e)))⟩
     · rcases List.mem_append.1 hq with h1 | h1
       · exact HP.out q h1
       · simp at h1; subst h1; exact HSO.out
     · rw [inV8_app, List.length_append]; exact own4
    case measure => simp [intOf]; omega
theorem GT.more {w : World} {lo hi lo' hi' : Nat} {A : Option Addr} {t : List Fr} (h : GT w lo hi A t) (hl : lo' ≤ lo) (hh : hi ≤ hi') : GT w lo' hi' A t := by
 obtain ⟨vs, h1, h2, h3⟩ := h
 exact ⟨vs, h1.more hl hh, h2.more hl hh, h3⟩
def SceneD (A : Option Addr) (m c : Nat) (l : List Nat) (w : World) (e : Ending) (w' : World) : Prop :=
 ∃ (al : Int) (t : List Fr) (inp : List Nat) (F size : Nat) (At : Option Addr) (ct : Nat) (iv : Value) (p' : Nat), e = .returned (.tuple #[.agg #[.int .i64 al, .slice At t.length ct], iv, .int .i64 (F : Int), .int .i64 (size : Int), .pointer (some ⟨w.heap.size + 1, 0, none⟩)]) ∧
  TgP 4 al t ∧ F < 256 ∧ size ≤ 1279 ∧ (∀ v ∈ inp, v < 18446744073709551616) ∧ GT w' (w.heap.size + 1 + 1) w'.heap.size At t ∧ InX w' w'.heap.size iv inp ∧ t.length ≤ ct ∧ CodesAt w' w.heap.size (w.heap.size + 1) A m c l p' ∧ Below w.heap.size w w'
theorem scene_any (A : Option Addr) (n c : Nat) (l : List Nat) (w : World) (hb : Bs w w.heap.size A n l) (hn : n ≤ maxLen) (hc : n ≤ c) :
 Calls Tryz.prog 5 #[.slice A n c] w (SceneD A (min n 300) c (l.take (min n 300)) w) := by
 obtain ⟨W1, hW1⟩ : ∃ W1, W1 = w.alloc (.cells #[.int .i64 0, .slice none 0 0] 26) := ⟨_, rfl⟩
 have HK1 : Hid (Blk W1 w.heap.size 26 #[.int .i64 0, .slice none 0 0]) := hQ (by rw [hW1]; exact Blk.new _ _ _)
 have hB1 : Below w.heap.size w W1 := by rw [hW1]; exact bR.alloc nL _
 have hs1 : W1.heap.size = w.heap.size + 1 := by rw [hW1]; simp
 have HBS : Hid (Bs W1 w.heap.size A n l) := hQ (by
  rw [hW1]
  exact hb.alloc nL _)
 have HW1 := hQ hW1
 have HB1 := hQ hB1
 clear hb hW1 hB1
 go_enter Tryz.func5, Tryz.ntmps5
 go_upto_region 1 with (fail)
 rw [← HW1.out]
 go_wp2_with fail
 refine (newcodes_any A n c l 300 _ hn hc (by omega)).mono ?_
 rintro e w2 ⟨rfl, hw2⟩
 have HC2 : Hid (CodesAt w2 w.heap.size (w.heap.size + 1) A (min n 300) c (l.take (min n 300)) 0) := hQ (by
  rw [hw2]
  exact ⟨Blk.newAt (by omega), ((HBS.out.take (Nat.min_le_left _ _)).alloc (by omega) _), Nat.zero_le _, Nat.le_succ _, by omega⟩)
 have HB2 : Hid (Below w.heap.size w w2) := hQ (by rw [hw2]; exact HB1.out.alloc (by omega) _)
 have HK12 : Hid (Blk w2 w.heap.size 26 #[.int .i64 0, .slice none 0 0]) := hQ (by rw [hw2]; exact HK1.out.alloc _)
 have hs2 : w2.heap.size = w.heap.size + 1 + 1 := by rw [hw2]; simp [hs1]
 generalize min n 300 = m at *
 generalize l.take m = l' at *
 clear hw2 HBS HK1
 have hs21 : w.heap.size < w2.heap.size := by omega
 go_wp2_with fail
 refine (target_d _ _ _ _ _ _ _ 4 12 _ HC2.out (by omega) (by omega) (by omega)).mono ?_
 rintro e w3 ⟨al, p, Ap, cp, p3, rfl, hpo, hgt, hcp, c3, g3⟩
 have HPO := hQ hpo
 have HGT := hQ hgt
 have HC3 := hQ c3
 have HB3 : Hid (Below w.heap.size w w3) := hQ (HB2.out.trans (below_of_grownR g3 (fun k e => by injection e; omega) (by omega)))
 have HK13 := hQ (HK12.out.grown g3 (some_ne (by omega)))
 have hs3 : w2.heap.size ≤ w3.heap.size := g3.size
 clear hpo hgt c3 g3 HC2 HK12
 go_upto_region 3 with (fail)
 obtain ⟨W4, hW4⟩ : ∃ W4, W4 = w3.alloc (.cells #[.int .i64 al, .slice Ap p.length cp] 26) := ⟨_, rfl⟩
 rw [← hW4]
 have HK7 : Hid (Blk W4 w3.heap.size 26 #[.int .i64 al, .slice Ap p.length cp]) := hQ (by rw [hW4]; exact Blk.new _ _ _)
 have hB4 : Below w3.heap.size w3 W4 := by rw [hW4]; exact bR.alloc nL _
 have HC4 := hQ (HC3.out.after hB4)
 have HB4 : Hid (Below w.heap.size w W4) := hQ (HB3.out.trans (hB4.mono (by omega)))
 have HK14 := hQ (HK13.out.after hB4)
 have HGT4 := hQ (HGT.out.keep (Kp.of_below hB4 nL))
 obtain ⟨g7, hg7⟩ : ∃ g7, g7 = w3.heap.size := ⟨_, rfl⟩
 rw [← hg7] at HK7 HGT4 ⊢
 have hs4 : W4.heap.size = g7 + 1 := by rw [hW4, hg7]; simp
 have hg72 : w2.heap.size ≤ g7 := by omega
 clear hW4 hB4 hg7 HC3 HB3 HK13 HGT
 have hcb : w.heap.size + 1 < W4.heap.size := by omega
 go_wp2_with fail
 refine (input_d _ _ _ _ _ _ _ _ HC4.out).mono ?_
 rintro e w5 ⟨r, inp, p5, rfl, hil, hiw, o5, c5, g5⟩
 have HIW := hQ hiw
 have HO5 := hQ o5
 have HC5 := hQ c5
 have HG5 := hQ g5
 have hs5 : W4.heap.size ≤ w5.heap.size := g5.size
 clear hiw o5 c5 g5 HC4
 go_wp2_with fail
 refine (next_d _ _ _ _ _ _ _ 256 _ HC5.out (by omega) (by omega)).mono ?_
 rintro e w6 ⟨F, p6, hF, rfl, c6, g6⟩
 have HC6 := hQ c6
 have HG6 := hQ (grownBy_trans HG5.out g6)
 have HO6 := hQ (own_draw HO5.out g6 (by omega))
 have hs6 : w5.heap.size ≤ w6.heap.size := g6.size
 have hF' : F < 256 := by omega
 clear c6 g6 HC5 HG5 HO5 hF
 go_wp2_with fail
 refine (next_d _ _ _ _ _ _ _ 80 _ HC6.out (by omega) (by omega)).mono ?_
 rintro e w7 ⟨z, p7, hz, rfl, c7, g7'⟩
 have HC7 := hQ c7
 have HG7 := hQ (grownBy_trans HG6.out g7')
 have HO7 := hQ (own_draw HO6.out g7' (by omega))
 have hs7 : w6.heap.size ≤ w7.heap.size := g7'.size
 have hz' : z < 80 := by omega
 clear c7 g7' HC6 HG6 HO6 hz
 obtain ⟨S, hS⟩ : ∃ S : Nat, S = 16 * z := ⟨_, rfl⟩
 have hSi : (16 : Int) * (z : Int) = (S : Int) := by omega
 have hSb : S ≤ 1264 := by omega
 have hSbi : (S : Int) ≤ 1264 := by omega
 have hwS : IntKind.i64.wrap (S : Int) = (S : Int) := IntWalk.i64_in _ (by omega)
 clear hS
 go_wp2_with fail
 refine (next_d _ _ _ _ _ _ _ 4 _ HC7.out (by omega) (by omega)).mono ?_
 rintro e w8 ⟨k4, p8, hk4, rfl, c8, g8⟩
 have HC8 := hQ c8
 have HG8 := hQ (grownBy_trans HG7.out g8)
 have HO8 := hQ (own_draw HO7.out g8 (by omega))
 have hs8 : w7.heap.size ≤ w8.heap.size := g8.size
 clear c8 g8 HC7 HG7 HO7 hk4
 go_upto_if 25 with (fail)
 go_cut [11] (fun s11 wx => ∃ S2 p9 : Nat, S2 ≤ 1279 ∧ s11 = .int .i64 (S2 : Int) ∧ Hid (CodesAt wx w.heap.size (w.heap.size + 1) A m c l' p9) ∧ Hid (W4.grownBy wx (some (w.heap.size + 1))) ∧ Hid (wx.ownsRow W4.heap.size 36 1 r inp.length (inV8 inp)) ∧ W4.heap.size ≤ wx.heap.size)
 case first =>
  rcases hk3 : ((k4 : Int) == 3) with _ | _
  · go_wp2
    go_meet
    exact ⟨S, p8, by omega, rfl, HC8, HG8, HO8, by omega⟩
  · go_wp2_with fail
    refine (next_d _ _ _ _ _ _ _ 16 _ HC8.out (by omega) (by omega)).mono ?_
    rintro e w9 ⟨j, p9, hj, rfl, c9, g9⟩
    have HC9 := hQ c9
    have HG9 := hQ (grownBy_trans HG8.out g9)
    have HO9 := hQ (own_draw HO8.out g9 (by omega))
    have hs9 : w8.heap.size ≤ w9.heap.size := g9.size
    obtain ⟨S3, hS3⟩ : ∃ S3 : Nat, S3 = S + j := ⟨_, rfl⟩
    have hS3i : (S : Int) + (j : Int) = (S3 : Int) := by omega
    have hS3b : S3 ≤ 1279 := by omega
    have hwS3 : IntKind.i64.wrap (S3 : Int) = (S3 : Int) := IntWalk.i64_in _ (by omega)
    clear c9 g9 HC8 HG8 HO8 hj hS3
    go_wp2
    go_meet
    exact ⟨S3, p9, hS3b, rfl, HC9, HG9, HO9, by omega⟩
 case rest =>
  obtain ⟨S2, p9, hS2, rfl, HC9, HG9, HO9, hs9⟩ := hcut
  obtain ⟨W9, hW9⟩ : ∃ W9, W9 = wc := ⟨_, rfl⟩
  subst hW9
  have HK79 := hQ (HK7.out.grown HG9.out (some_ne (by omega)))
  have HK19 := hQ (HK14.out.grown HG9.out (some_ne (by omega)))
  have HB9 : Hid (Below w.heap.size w W9) := hQ (HB4.out.trans (below_of_grownR HG9.out (fun k e => by injection e; omega) (by omega)))
  have HGT9 := hQ (HGT4.out.keep (Kp.of_grown HG9.out (by omega) (.inl (by omega))))
  clear HC8 HG8 HO8 HK7 HK14 HB4 HGT4 hSi hwS
  obtain ⟨Ai, ci, rfl, -⟩ := own_form HO9.out
  have HIC := own_cap HO9.out
  obtain ⟨x0, x1, -, -, xg⟩ := HK79.out.c2
  obtain ⟨y0, y1, f0, f1, yg⟩ := HK19.out.c2
  go_wp2
  obtain ⟨Wz, hWz⟩ : ∃ Wz, Wz = (W9.setCell ⟨w.heap.size, 0, none⟩ (.int .i64 al)).setCell ⟨w.heap.size, 1, none⟩ (.slice Ap p.length cp) := ⟨_, rfl⟩
  rw [← hWz]
  have hKz : Blk Wz w.heap.size 26 #[.int .i64 al, .slice Ap p.length cp] := by
   rw [hWz]
   exact (HK19.out.set_ 0 _).set_ 1 _
  obtain ⟨r0, r1, -⟩ := hKz.c2
  have hsz : Wz.heap.size = W9.heap.size := by rw [hWz]; simp [World.setCell]
  have hk1 : Kp (w.heap.size + 1 + 1) W9.heap.size W9 Wz := by
   rw [hWz]
   exact ((Kp.refl _ _ _).set (p := ⟨w.heap.size, 0, none⟩) (.inl (by show w.heap.size < _; omega)) _).set (p := ⟨w.heap.size, 1, none⟩) (.inl (by show w.heap.size < _; omega)) _
  have hGT : GT Wz (w.heap.size + 1 + 1) Wz.heap.size Ap p := by
   rw [hsz]
   exact (GT.more HGT9.out (by omega) (by omega)).keep hk1
  have hIX : InX Wz Wz.heap.size (.slice Ai inp.length ci) inp := by
   rw [hsz]
   exact ⟨Ai, ci, rfl, HIC.2, by omega, ((Rx.keep ((Rx.of_own HO9.out).more (by omega) nL) hk1)).more (Nat.zero_le _) nL⟩
  have hCz : CodesAt Wz w.heap.size (w.heap.size + 1) A m c l' p9 := by
   rw [hWz]
   exact (HC9.out.set (by show w.heap.size + 1 ≠ w.heap.size; omega) nL _).set (by show w.heap.size + 1 ≠ w.heap.size; omega) nL _
  have hBz : Below w.heap.size w Wz := by
   rw [hWz]
   exact (HB9.out.setCell nL _).setCell nL _
  refine bodyPost_ret (v := .tuple #[.agg #[.int .i64 al, .slice Ap p.length cp], .slice Ai inp.length ci, .int .i64 F, .int .i64 S2, .pointer (some ⟨w.heap.size + 1, 0, none⟩)]) (by simp [results, Tryz.results5, go_sem, r0, r1]) rfl ?_
  exact ⟨al, p, inp, F, S2, Ap, cp, _, p9, rfl, HPO.out, hF', hS2, HIW.out, hGT, hIX, hcp, hCz, hBz⟩
theorem reads_of_blk {w : World} {g : Nat} {t : TypeId} {cs : Array Value} {n size : Nat} (h : Blk w g t cs) (hl : cs.size = n * size) : Reads w w.heap.size size (some ⟨g, 0, none⟩) n cs.toList :=
 ⟨by rw [Array.length_toList, hl], fun _ => ⟨⟨g, 0, none⟩, rfl, h.lt, fun j u hu => by
  have e : (⟨g, 0, none⟩ : Addr).add j = ⟨g, j, none⟩ := by unfold Addr.add; by_cases hj : j = 0 <;> simp [hj]
  rw [e, Blk.cell h j]
  rw [Array.getElem?_toList] at hu
  exact hu⟩⟩
theorem inx_nil (w : World) (B : Nat) : InX w B (.slice none 0 0) [] := ⟨none, 0, rfl, by simp, by simp, Rx.nil _ _ _ _⟩
theorem nx_blk {w : World} {g : Nat} {code : List Ins} (h1 : Blk w g 50 (inV code).toArray) : Nx w 0 w.heap.size (some ⟨g, 0, none⟩) code := by
 have := reads_of_blk (n := code.length) (size := 5) h1 (by rw [List.size_toArray]; exact flat_len icells_len code)
 exact Rx.of_reads (by simpa using this)
def awT : List Fr := [⟨0, 16, [⟨0, 0, 0, 0, 5⟩, ⟨23, 0, 0, 0, 0⟩]⟩]
theorem awT_E : tgE 16 awT = 0 := by kernel_rfl
theorem awT_rt : RT 16 awT := tgE_gt awT_E ⟨by unfold I64; decide, fun f hf => by
 obtain rfl : f = ⟨0, 16, [⟨0, 0, 0, 0, 5⟩, ⟨23, 0, 0, 0, 0⟩]⟩ := by simpa [awT] using hf
 refine ⟨by unfold I64; decide, by unfold I64; decide, fun x hx => ?_⟩
 have : x = ⟨0, 0, 0, 0, 5⟩ ∨ x = ⟨23, 0, 0, 0, 0⟩ := by simpa using hx
 rcases this with rfl | rfl <;> (unfold InR I64; decide)⟩ fun i hi x hx => by
 obtain rfl : i = 0 := by simpa [awT] using hi
 have : x = ⟨0, 0, 0, 0, 5⟩ ∨ x = ⟨23, 0, 0, 0, 0⟩ := by simpa [awT] using hx
 rcases this with rfl | rfl <;> decide
theorem aw_run : outV (runX awT 9 (9 + 2) (startX awT [] 16 (tpOf 16 16) 9)) = fun At ct => .agg #[.int .i64 0, .int .u64 0, .int .u64 5, .int .u64 0, .slice At 0 ct, .int .i64 2] := by kernel_rfl
theorem awake12 (w : World) : Calls Tryz.prog 4 #[] w fun e w' => e = .returned (.bool true) ∧ Below w.heap.size w w' := by
 obtain ⟨W1, hW1⟩ : ∃ W1, W1 = (w.alloc (.cells #[.int .i64 0, .int .i64 0, .int .i64 0, .int .i64 0, .int .u64 5, .int .i64 23, .int .i64 0, .int .i64 0, .int .i64 0, .int .u64 0] 50)).alloc (.cells #[.int .i64 0, .int .i64 16, .slice (some ⟨w.heap.size, 0, none⟩) 2 2] 53) := ⟨_, rfl⟩
 have hB1 : Below w.heap.size w W1 := by rw [hW1]; exact (bR.alloc nL _).alloc (by simp) _
 have h1 : Blk W1 w.heap.size 50 (inV [⟨0, 0, 0, 0, 5⟩, ⟨23, 0, 0, 0, 0⟩]).toArray := by rw [hW1]; exact (Blk.new _ _ _).alloc _
 have h2 : Blk W1 (w.heap.size + 1) 53 #[.int .i64 0, .int .i64 16, .slice (some ⟨w.heap.size, 0, none⟩) 2 2] := by rw [hW1]; exact Blk.newAt (by simp)
 have hg : Gx W1 0 W1.heap.size (some ⟨w.heap.size + 1, 0, none⟩) awT := by
  have hr := reads_of_blk (n := 1) (size := 3) h2 rfl
  refine ⟨_, Rx.of_reads hr, fun i hi => ?_⟩
  obtain rfl : i = 0 := by simpa [awT] using hi
  exact ⟨some ⟨w.heap.size, 0, none⟩, 2, rfl, rfl, rfl, nx_blk h1, (by show 2 ≤ maxLen; decide), (by show 2 ≤ 2; decide)⟩
 have HO := hQ (out_x ⟨w.heap.size + 1, 0, none⟩ awT 1 16 (.slice none 0 0) [] 9 16 (by omega) (by omega) awT_rt awT_E W1 hg (inx_nil _ _) (fun v hv => by cases hv))
 have HB1 := hQ hB1
 have hs1 := hB1.size
 have HW1 := hQ hW1
 clear hW1 hB1 h1 h2 hg
 go_enter Tryz.func4, Tryz.ntmps4
 go_wp2_with fail
 rw [← HW1.out]
 refine HO.out.mono ?_
 rintro e w2 ⟨At, ct, rfl, b2, -⟩
 have HB2 : Hid (Below w.heap.size w w2) := hQ (HB1.out.trans (b2.mono hs1))
 rw [aw_run]
 have hs2 := HB2.out.size
 clear b2 HO
 go_wp2
 go_ret
 exact ⟨ret_bool (by decide), HB2.out.alloc hs2 _⟩
end Go.Proofs.YtcnndoefgjbmiaaGreat.pm
