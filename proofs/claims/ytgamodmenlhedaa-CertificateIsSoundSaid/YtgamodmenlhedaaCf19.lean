/- The scene of chapter 30's statements. -/
import Derived.Test.YtgamodmenlhedaaCf18
import Derived.Deep.DrawnRows
import Derived.Deep.RegionWith
import Derived.Deep.CutBlock
namespace Go.Proofs.Ytgamodmenlhedaa.cf
open Go.RowKit
set_option linter.unusedVariables false
set_option maxRecDepth 10000
attribute [local go_sem ↓] Go.wp_at_zero Go.wp_at_succ

/-- what scene gives back -/
def SceneR (w : World) (e : Ending) (w' : World) : Prop :=
  ∃ (gb m : Nat) (g : List (List Int)) (free : Bool) (Av : Option Addr) (cv : Nat) (v : List Int) (An : Option Addr) (cn : Nat) (nl : List Int) (cb : Nat),
    e = .returned (.tuple #[.slice (some ⟨gb, 0, none⟩) m m, .slice Av m cv, .slice An m cn, .pointer (some ⟨cb, 0, none⟩)]) ∧
    Gz w' (some ⟨gb, 0, none⟩) m g ∧ GraphOk 7 free g ∧ Right g v ∧ Iz w' Av m v ∧ Iz w' An m nl ∧ 1 ≤ m ∧ m ≤ 8 ∧ Below w.heap.size w w'
theorem six_ex (k : Nat) (hk : k < 6) (y : Int) : ∃ x : Int, (#[Value.int .i64 16, Value.int .i64 (-16), Value.int .i64 1, Value.int .i64 (-1), Value.int .i64 40, Value.int .i64 y] : Array Value)[k]? = some (.int .i64 x) := by
  have h : k = 0 ∨ k = 1 ∨ k = 2 ∨ k = 3 ∨ k = 4 ∨ k = 5 := by omega
  rcases h with rfl | rfl | rfl | rfl | rfl | rfl <;> exact ⟨_, rfl⟩
theorem CodesAt.dr {w : World} {B g n c p : Nat} {A : Option Addr} {l : List Nat} (h : CodesAt w B g A n c l p) : CodesAt w.drew B g A n c l p := h
/-- a row of numbers of the call's own, of a length that is not 0 -/
theorem own_at {w : World} {base nb m cn : Nat} {L : List Int} (h : w.ownsRow base 3 1 (.slice (some ⟨nb, 0, none⟩) m cn) m (L.map (Value.int .i64))) {i : Nat} (hi : i < m) : w.cell? ⟨nb, i, none⟩ = some (.int .i64 (L.getD i 0)) ∧ w.frozen? ⟨nb, i, none⟩ = false := by
  refine ⟨(h.cellAt i (by omega)).trans ?_, h.frozenAt i⟩
  have hl : L.length = m := by have := h.1; simpa using this
  rw [List.getElem?_map, List.getD_eq_getElem?_getD, List.getElem?_eq_getElem (by omega)]
  rfl
theorem own_put {w : World} {base nb m cn : Nat} {L : List Int} (h : w.ownsRow base 3 1 (.slice (some ⟨nb, 0, none⟩) m cn) m (L.map (Value.int .i64))) (i : Nat) (x : Int) : (w.setCell ⟨nb, i, none⟩ (.int .i64 x)).ownsRow base 3 1 (.slice (some ⟨nb, 0, none⟩) m cn) m ((L.set i x).map (Value.int .i64)) ∧ w.grownBy (w.setCell ⟨nb, i, none⟩ (.int .i64 x)) (some nb) := by
  have := h.stored i (.int .i64 x)
  rw [List.map_set]; exact this

/-- between two changes of the numbers -/
def ScCut (w W9 : World) (A : Option Addr) (N c : Nat) (L : List Nat) (nb m cn : Nat) (wx : World) : Prop :=
  ∃ (p : Nat) (L' : List Int), wx.ownsRow W9.heap.size 3 1 (.slice (some ⟨nb, 0, none⟩) m cn) m (L'.map (Value.int .i64)) ∧ CodesAt wx w.heap.size w.heap.size A N c L p ∧ W9.grownBy wx (some w.heap.size)
section
variable {w W9 wx w' : World} {A : Option Addr} {N c : Nat} {L : List Nat} {nb m cn : Nat}
theorem ScCut.dr (h : ScCut w W9 A N c L nb m cn wx) : ScCut w W9 A N c L nb m cn wx.drew := by
  obtain ⟨p, L', a, b, d⟩ := h
  exact ⟨p, L', a.drew, CodesAt.dr b, grownBy_trans d (grownBy_drewN' wx 1 _)⟩
theorem ScCut.alloc (h : ScCut w W9 A N c L nb m cn wx) (o : Obj) : ScCut w W9 A N c L nb m cn (wx.alloc o) := by
  obtain ⟨p, L', a, b, d⟩ := h
  exact ⟨p, L', a.alloc o, b.alloc o, grownBy_al d o⟩
theorem ScCut.put (h : ScCut w W9 A N c L nb m cn wx) (hlt : w.heap.size < W9.heap.size) (j : Nat) (x : Int) : ScCut w W9 A N c L nb m cn (wx.setCell ⟨nb, j, none⟩ (.int .i64 x)) := by
  obtain ⟨p, L', a, b, d⟩ := h
  obtain ⟨s1, s2⟩ := own_put a j x
  have hnb := (a.lt nb rfl).1
  exact ⟨p, _, s1, b.grown' s2 (fun e => by injection e with e; omega) (fun k e => by injection e with e; omega), grownBy_step d s2 (fun k e => by injection e with e; exact .inl (by omega))⟩
theorem ScCut.draw (h : ScCut w W9 A N c L nb m cn wx) (hlt : w.heap.size < W9.heap.size) {p' : Nat} (hc : CodesAt w' w.heap.size w.heap.size A N c L p') (hg : wx.grownBy w' (some w.heap.size)) : ScCut w W9 A N c L nb m cn w' := by
  obtain ⟨p, L', a, b, d⟩ := h
  exact ⟨p', L', own_draw a hg hlt, hc, grownBy_trans d hg⟩
theorem ScCut.at_ (h : ScCut w W9 A N c L nb m cn wx) {j : Nat} (hj : j < m) : (∃ x, wx.cell? ⟨nb, j, none⟩ = some (.int .i64 x)) ∧ wx.frozen? ⟨nb, j, none⟩ = false ∧ nb < wx.heap.size ∧ W9.heap.size ≤ nb := by
  obtain ⟨p, L', a, b, d⟩ := h
  exact ⟨⟨_, (own_at a hj).1⟩, (own_at a hj).2, (a.lt nb rfl).2, (a.lt nb rfl).1⟩
end
/-- a draw of a number of choices, of whatever number -/
theorem ScCut.next {w W9 wx : World} {A : Option Addr} {N c : Nat} {L : List Nat} {nb m cn : Nat} (h : ScCut w W9 A N c L nb m cn wx) (hlt : w.heap.size < W9.heap.size) (q : Int) (hq : q ≤ 1000000) (hq0 : -1000000 ≤ q) :
    Calls Try.prog 28 #[.pointer (some ⟨w.heap.size, 0, none⟩), .int .i64 q] wx fun e w' => ∃ v : Nat, (v = 0 ∨ (v : Int) < q) ∧ e = .returned (.int .i64 v) ∧ ScCut w W9 A N c L nb m cn w' ∧ wx.grownBy w' (some w.heap.size) := by
  obtain ⟨p, L', a, b, d⟩ := id h
  exact (next_d _ _ _ _ _ _ _ q _ b hq hq0).mono fun e w' ⟨v, p', hv, he, hc, hg⟩ => ⟨v, hv, he, h.draw hlt hc hg, hg⟩
theorem ScCut.int {w W9 wx : World} {A : Option Addr} {N c : Nat} {L : List Nat} {nb m cn : Nat} (h : ScCut w W9 A N c L nb m cn wx) (hlt : w.heap.size < W9.heap.size) :
    Calls Try.prog 48 #[.pointer (some ⟨w.heap.size, 0, none⟩)] wx fun e w' => ∃ x : Int, e = .returned (.int .i64 x) ∧ ScCut w W9 A N c L nb m cn w' ∧ wx.grownBy w' (some w.heap.size) := by
  obtain ⟨p, L', a, b, d⟩ := id h
  exact (int_d _ _ _ _ _ _ _ _ b).mono fun e w' ⟨x, p', he, hc, hg⟩ => ⟨x, he, h.draw hlt hc hg, hg⟩

set_option maxHeartbeats 4000000 in
theorem scene_any (A : Option Addr) (n c : Nat) (l : List Nat) (w : World) (hb : Bs w w.heap.size A n l) (hn : n ≤ maxLen) (hc : n ≤ c) :
    Calls Try.prog 14 #[.slice A n c] w (SceneR w) := by
  obtain ⟨i0, hi0, hz0, hz1, hz2⟩ := info_parts info_int
  have HN := Lib.hid (newcodes_any A n c l 150 w hn hc (by omega))
  have HC0 := Lib.hid (codes_new (c := c) hb 150 (by omega))
  have hs0 : w.heap.size < (w.alloc (.cells #[.slice A (min n 150) c, .int .i64 0] 100)).heap.size := by simp
  have HB0 : Hid (Below w.heap.size w (w.alloc (.cells #[.slice A (min n 150) c, .int .i64 0] 100))) := Lib.hid ((Below.refl _ _).alloc (Nat.le_refl _) _)
  clear hb hn hc
  go_enter Try.func14, Try.ntmps14
  go_wp2_with fail
  refine HN.out.mono ?_
  rintro e w0 ⟨rfl, hw0⟩
  rw [← hw0] at HC0 hs0 HB0
  clear hw0 HN
  obtain ⟨N, hN⟩ : ∃ N, N = min n 150 := ⟨_, rfl⟩
  obtain ⟨L, hL⟩ : ∃ L, L = List.take (min n 150) l := ⟨_, rfl⟩
  rw [← hL, ← hN] at HC0
  clear hL hN
  go_wp2_with fail
  refine (next_d _ _ _ _ _ _ _ 4 _ HC0.out (by omega) (by omega)).mono ?_
  rintro e w1 ⟨v1, p1, hv1, rfl, c1, g1⟩
  have HC1 := Lib.hid c1
  have HG1 := Lib.hid g1
  have hs1 : w.heap.size < w1.heap.size := by have := g1.size; omega
  clear c1 g1 hv1
  go_wp2_with fail
  refine (graph_d _ _ _ _ _ _ _ 7 _ _ HC1.out (by omega) (by omega)).mono ?_
  rintro e w2 ⟨gb, m, g, p2, rfl, HGG, HOK, hm1, hm8, c2, g2⟩
  have HC2 := Lib.hid c2
  have HG2 := Lib.hid (grownBy_trans HG1.out g2)
  have hs2 : w.heap.size < w2.heap.size := by have := g2.size; omega
  have HGO : Hid (GrowG w2 w0.heap.size gb m g) := Lib.hid (by
    obtain ⟨a1, vs, a2, a3⟩ := HGG.out
    exact ⟨a1, vs, own_base a2 HG1.out.size, fun i hi => by obtain ⟨r, b1, b2⟩ := a3 i hi; exact ⟨r, b1, own_base b2 HG1.out.size⟩⟩)
  obtain ⟨free, hfree⟩ : ∃ free, GraphOk 7 free g := ⟨_, HOK.out⟩
  replace HOK := Lib.hid hfree
  clear hfree
  clear c2 g2 HG1 HC1 HGG HC0
  go_wp2_with fail
  refine (weights_d _ _ _ _ _ _ _ m _ HC2.out (by omega)).mono ?_
  rintro e w3 ⟨rv, v, p3, rfl, hvl, hvb, own3, c3, g3⟩
  have HC3 := Lib.hid c3
  have HG3 := Lib.hid (grownBy_trans HG2.out g3)
  have hs3 : w.heap.size < w3.heap.size := by have := g3.size; omega
  have HGO3 := Lib.hid (HGO.out.draw g3 (by omega))
  have HGL : Hid (g.length = m) := Lib.hid HGO.out.1
  have HRT : Hid (Right g v) := Lib.hid ⟨HOK.out.1, by rw [hvl, HGL.out], fun i hi => hvb i (by omega)⟩
  obtain ⟨Av, cv, rfl, -, -, hiv⟩ := fresh_ints own3
  have OWV : Hid (w3.ownsRow w0.heap.size 3 1 (.slice Av m cv) m (v.map (Value.int .i64))) := Lib.hid (by have := own_base own3 HG2.out.size; rwa [hvl] at this)
  have HIV : Hid (Iz w3 Av m v) := Lib.hid (by rwa [hvl] at hiv)
  have HAL := Lib.hid (all_any (some ⟨gb, 0, none⟩) Av m m m cv g v w3 HGO3.out.gz HIV.out (by unfold maxLen; omega) (by unfold maxLen; omega))
  rw [hvl]
  clear c3 g3 HG2 HC2 HGO hiv own3 hvb hvl
  go_wp2_with fail
  refine HAL.out.mono ?_
  rintro e w4 ⟨hb4, hcase⟩
  have HC4 := Lib.hid (HC3.out.after hb4)
  have HG4 := Lib.hid (grownBy_trans HG3.out (grownBy_of_below hb4 (some w.heap.size)))
  have hs4 : w.heap.size < w4.heap.size := by have := hb4.size; omega
  have HGO4 := Lib.hid (HGO3.out.below hb4)
  have OWV4 := Lib.hid (own_keep OWV.out hb4 (Nat.le_refl _))
  have hz4 := hb4.size
  clear HC3 HG3 HGO3 OWV HIV HAL
  have hc2 : (∃ x : Int, x ≠ 0 ∧ e = .returned (.tuple #[.slice none 0 0, .int .i64 x])) ∨ (∃ (r : Value) (b : List Int), b.length = m ∧ e = .returned (.tuple #[r, .int .i64 0]) ∧ w4.ownsRow w3.heap.size 3 1 r m (b.map (Value.int .i64))) := by
    rcases hcase with ⟨h, he⟩ | ⟨_, _, he⟩ | ⟨_, _, _, he⟩ | ⟨_, _, r, b, hs, _, he, ho⟩
    · exact .inl ⟨4, by decide, he⟩
    · exact .inl ⟨8, by decide, he⟩
    · exact .inl ⟨9, by decide, he⟩
    · have hbl : b.length = m := by rw [hs.1, HGL.out]
      exact .inr ⟨r, b, hbl, he, by rwa [hbl] at ho⟩
  clear hcase hb4
  -- the numbers before they are copied
  have hrest : ∀ (W : World) (p' : Nat), CodesAt W w.heap.size w.heap.size A N c L p' → w0.grownBy W (some w.heap.size) → GrowG W w0.heap.size gb m g → W.ownsRow w0.heap.size 3 1 (.slice Av m cv) m (v.map (Value.int .i64)) → ∀ w', W.grownBy w' (some w.heap.size) → ∀ (An : Option Addr) (cn : Nat) (nl : List Int), Iz w' An m nl → SceneR w (.returned (.tuple #[.slice (some ⟨gb, 0, none⟩) m m, .slice Av m cv, .slice An m cn, .pointer (some ⟨w.heap.size, 0, none⟩)])) w' := fun W p' hcc hg hgg hov w' hg' An cn nl hnl =>
    ⟨gb, m, g, free, Av, cv, v, An, cn, nl, w.heap.size, rfl, (hgg.draw hg' (by omega)).gz, HOK.out, HRT.out, Iz.of_own (own_draw hov hg' (by omega)), hnl, hm1, hm8, (HB0.out).trans (below_of_grown (grownBy_trans hg hg') (Nat.le_refl _) (by omega))⟩
  have HREST := Lib.hid hrest
  clear hrest
  rcases hc2 with ⟨x, hx, rfl⟩ | ⟨r, nl, hbl, rfl, own9⟩
  case' inl =>
    have hx1 : (x != 0) = true := by rw [bne_iff_ne]; exact hx
    go_wp2_with fail
    refine (weights_d _ _ _ _ _ _ _ m _ HC4.out (by omega)).mono ?_
    rintro e w5 ⟨r, nl, p5, rfl, hbl, -, own9, c5, g5⟩
    rw [hbl] at own9
    have HC9 := Lib.hid c5
    have HG9 := Lib.hid (grownBy_trans HG4.out g5)
    have HGO9 := Lib.hid (HGO4.out.draw g5 (by omega))
    have OWV9 := Lib.hid (own_draw OWV4.out g5 (by omega))
    have hs9 : w.heap.size < w5.heap.size := by have := g5.size; omega
    clear c5 g5 hx hx1
  case' inr =>
    have HC9 := HC4
    have HG9 := HG4
    have HGO9 := HGO4
    have OWV9 := OWV4
    have hs9 := hs4
  all_goals
    clear HC4 HG4 HGO4 OWV4 hz4
    rename World => W9
    obtain ⟨Ab, cb9, rfl, -⟩ := own_form own9
    have HI9 : Hid (Iz W9 Ab m nl) := Lib.hid (Iz.of_own own9)
    have HNL := Lib.hid hbl
    clear own9 hbl
    go_wp2_with (at_builtin; refine wpList_append_any _ rfl (.const (.slice none 0 0)) (.tmp 36) _ rfl W9.heap.size 3 i0 _ 1 8 Try.underlying24 hi0 hz0 hz1 hz2 rfl (by omega) _ 0 [] rfl (World.ownsRow_nil _ _ _ _) W9.heap.size Ab m cb9 (nl.map (Value.int .i64)) rfl HI9.out (ints_one nl) (by unfold maxLen; omega) (by omega) (Nat.le_refl _) ?_; intro v10 W10 own10 hg10 hat10; have OWN10 := Lib.hid own10; have HG10 : Hid (W9.grownBy W10 none) := Lib.hid hg10; clear own10 hg10 hat10)
    obtain ⟨nb, cn, hform, -, -⟩ := (by simpa using OWN10.out : W10.ownsRow W9.heap.size 3 1 v10 m (nl.map (Value.int .i64))).form (by omega)
    subst hform
    have HSC : Hid (ScCut w W9 A N c L nb m cn W10) := Lib.hid ⟨_, nl, by simpa using OWN10.out, HC9.out.grown' HG10.out (fun e => by cases e) (fun k e => by cases e), grownBy_step (World.grownBy.refl _ _) HG10.out (fun j e => by cases e)⟩
    clear OWN10 HG10 HI9
    refine (HSC.out.next hs9 4 (by omega) (by omega)).mono ?_
    rintro e W11 ⟨k0, hk0, rfl, sc11, -⟩
    have HS11 := Lib.hid sc11
    have hk03 : k0 ≤ 3 := by omega
    clear hk0 sc11 HSC
    go_wp2
    go_loopw [11] (fun x wr => ∃ k : Nat, k ≤ 3 ∧ x = .int .i64 k ∧ Hid (ScCut w W9 A N c L nb m cn wr)) (fun x _ => (intOf x).toNat)
    case atStart => exact ⟨k0, hk03, rfl, HS11⟩
    case round =>
      obtain ⟨k, hk3, rfl, HS⟩ := hrel
      clear HS11
      have hk0' : (0 : Int) ≤ (k : Int) := by omega
      have hk3' : (k : Int) ≤ 3 := by omega
      cases k with
      | zero =>
        obtain ⟨p', L', ho, hcc, hgg⟩ := HS.out
        have HR := Lib.hid (HREST.out W9 _ HC9.out HG9.out HGO9.out OWV9.out wr hgg (some ⟨nb, 0, none⟩) cn L' (Iz.of_own ho))
        clear ho hcc hgg
        go_wp2
        exact bodyPost_ret (by simp [results, Try.results14, go_sem]) rfl HR.out
      | succ k =>
        go_wp2_with fail
        refine (HS.out.next hs9 m (by omega) (by omega)).mono ?_
        rintro e W12 ⟨j, hj, rfl, sc12, -⟩
        have hjm : j < m := by omega
        obtain ⟨⟨y0, q12⟩, f12, z12, z9⟩ := sc12.at_ hjm
        have HS12 := Lib.hid sc12
        have hj0 : (0 : Int) ≤ (j : Int) := by omega
        have hji : (j : Int) < (m : Int) := by omega
        clear hj sc12 HS
        go_upto_region 12 with (fail)
        go_region_with (first
            | (go_at_call 48; refine Calls.mono (ScCut.int (ScCut.dr HS12.out) hs9) ?_; rintro e W13 ⟨x13, rfl, sc13, g13⟩; obtain ⟨⟨y13, q13⟩, f13, z13, -⟩ := sc13.at_ hjm; have HS13 := Lib.hid sc13; clear sc13 g13)
            | (go_at_call 28; refine Calls.mono (ScCut.next (w := w) (W9 := W9) (A := A) (N := N) (c := c) (L := L) (nb := nb) (m := m) (cn := cn) ?_ hs9 6 (by omega) (by omega)) ?_; (with_reducible first | exact HS13.out | exact ScCut.alloc HS13.out _); rintro e W14 ⟨v14, hv14, rfl, sc14, g14⟩; obtain ⟨⟨y14, q14⟩, f14, z14, -⟩ := sc14.at_ hjm; have HS14 := Lib.hid sc14; have hu0 : (0 : Int) ≤ (v14 : Int) := (by omega); have hu1 : (v14 : Int) < 6 := (by omega); obtain ⟨x6, hx6⟩ := six_ex v14 (by omega) x13; (try (have hq6 := (Blk.cell ((Blk.new W13 3 #[Value.int .i64 16, Value.int .i64 (-16), Value.int .i64 1, Value.int .i64 (-1), Value.int .i64 40, Value.int .i64 x13]).grown g14 (by intro e; injection e; omega)) v14).trans hx6)); clear sc14 g14 hv14))
        all_goals
          go_wp2
          go_roundw
          case rel => exact ⟨k, by omega, (by first | rfl | go_num | (congr 1; omega)), (by first | exact Lib.hid (HS14.out.put hs9 _ _) | exact Lib.hid ((HS14.out.put hs9 _ _).alloc _))⟩
          case measure => simp [intOf]; try omega
end Go.Proofs.Ytgamodmenlhedaa.cf
