/- CertificateRefusesCycles: the walk of the law. -/
import Derived.Test.YtgamodmenlhedaaCmPlain
import Derived.Test.YtgamodmenlhedaaCf22
namespace Go.Proofs.Ytgamodmenlhedaa.cf
open Go.RowKit
set_option linter.unusedVariables false
theorem own_apart {w : World} {base n : Nat} {e : TypeId} {size : Nat} {vn vo v' : Value} {xs : List Value} (h : w.ownsRow base e size vn n xs) (ha : vn.ownBlock = none ∨ vn.ownBlock ≠ vo.ownBlock) (hat : v'.ownBlock = vo.ownBlock ∨ v'.ownBlock = some w.heap.size) : vn.ownBlock = none ∨ vn.ownBlock ≠ v'.ownBlock := by
  rcases ha with h1 | h1
  · exact .inl h1
  · rcases hq : vn.ownBlock with _ | b
    · exact .inl rfl
    · refine .inr fun e2 => ?_
      rcases hat with h2 | h2
      · rw [h2] at e2; exact h1 (hq.trans e2)
      · rw [h2] at e2; injection e2 with e2; have := (h.lt b hq).2; omega
theorem apart_symm {a b : Option Nat} (h : a = none ∨ a ≠ b) : b = none ∨ b ≠ a := by
  rcases b with _ | b
  · exact .inl rfl
  · refine .inr fun e => ?_
    rcases h with h | h
    · rw [h] at e; cases e
    · exact h e.symm
end Go.Proofs.Ytgamodmenlhedaa.cf
namespace Go.Proofs.Ytgamodmenlhedaa.cr
open Go.RowKit Go.Proofs.Ytgamodmenlhedaa.cf
set_option linter.unusedVariables false
set_option maxRecDepth 10000
set_option maxHeartbeats 4000000 in
theorem law (A : Option Addr) (n c : Nat) (l : List Nat) (Am : Option Addr) (nm cm : Nat) (ml : List Int) (w : World) (hb : Bs w w.heap.size A n l) (hn : n ≤ maxLen) (hc : n ≤ c) (hml : Iz w Am nm ml) (hnm : nm ≤ maxLen) :
    Calls Try.prog 6 #[.slice A n c, .slice Am nm cm] w fun e w' => e = .returned (.bool true) ∧ Below w.heap.size w w' := by
  obtain ⟨i0, hi0, hz0, hz1, hz2⟩ := info_parts info_int
  have HNC := Lib.hid (fun W => newcodes_any A n c l 150 W hn hc (by omega))
  have HBS := Lib.hid hb
  have HML := Lib.hid hml
  have hnm2 := hnm
  unfold maxLen at hnm2
  clear hb hn hc hml
  by_cases hm100 : nm ≤ 100
  case neg =>
    have hmi : (100 : Int) < (nm : Int) := by omega
    go_enter Try.func6, Try.ntmps6
    go_wp2_with fail
    refine (awake30 _).mono ?_
    rintro e w1 ⟨rfl, hb1⟩
    go_wp2
    go_ret
    exact ⟨ret_bool (by simp; try omega), hb1⟩
  have hmi : (nm : Int) ≤ 100 := by omega
  go_enter Try.func6, Try.ntmps6
  go_wp2_with fail
  refine (awake30 _).mono ?_
  rintro e w1 ⟨rfl, hb1⟩
  have HC0 := Lib.hid (codes_new (c := c) ((Bs.below HBS.out hb1).more hb1.size) 150 (by omega))
  have HB1 := Lib.hid hb1
  clear hb1 HBS
  go_wp2_with fail
  refine (HNC.out w1).mono ?_
  rintro e w2 ⟨rfl, hw2⟩
  rw [← hw2] at HC0
  have hs2 : w1.heap.size < w2.heap.size := by rw [hw2]; simp
  have HB2 : Hid (Below w.heap.size w w2) := Lib.hid (by rw [hw2]; exact HB1.out.alloc HB1.out.size _)
  have hws : w.heap.size ≤ w1.heap.size := HB1.out.size
  obtain ⟨N, hN⟩ : ∃ N, N = min n 150 := ⟨_, rfl⟩
  obtain ⟨L, hL⟩ : ∃ L, L = List.take (min n 150) l := ⟨_, rfl⟩
  rw [← hL, ← hN] at HC0
  clear hL hN hw2 HNC HB1
  go_wp2_with fail
  refine (graph_d _ _ _ _ _ _ _ 7 _ _ HC0.out (by omega) (by omega)).mono ?_
  rintro e w3' ⟨gb, m, g, p3, rfl, HGG, HOK, hm1, hm8, c3, g3⟩
  have HG0 := Lib.hid HGG.out.gz
  have HGL : Hid (g.length = m) := Lib.hid HGG.out.1
  have HC3' := Lib.hid c3
  have HB3' : Hid (Below w.heap.size w w3') := Lib.hid (HB2.out.trans (below_of_grown g3 hws (by omega)))
  have hs3' : w2.heap.size ≤ w3'.heap.size := g3.size
  clear c3 g3 HC0 HB2
  go_wp2_with fail
  refine (find_any _ _ _ g w3' HG0.out HOK.out.1).mono ?_
  rintro e w3 ⟨hbf, hfind⟩
  have HGG3 := Lib.hid (HGG.out.below hbf)
  have HC3 := Lib.hid (HC3'.out.after hbf)
  have HB3 := Lib.hid (HB3'.out.trans (hbf.mono HB3'.out.size))
  have hs3 : w2.heap.size ≤ w3.heap.size := by have := hbf.size; omega
  clear HGG HG0 HC3' HB3' hs3' hbf
  have hfnd : ∃ (Al : Option Addr) (cl len : Nat) (ok : Bool), e = .returned (.tuple #[.slice Al len cl, .bool ok]) ∧ len ≤ 1000 ∧ (ok = true → 0 < len ∧ ∃ f n, f < g.length ∧ 1 ≤ n ∧ n ≤ g.length ∧ Walk g n f f) ∧ (ok = false → ∀ f, f < g.length → ∀ n, 1 ≤ n → n ≤ g.length → ¬ Walk g n f f) := by
    rcases hfind with ⟨Al, cl, len, he, h1, h2, h3⟩ | ⟨he, h⟩
    · exact ⟨Al, cl, len, true, he, h2, fun _ => ⟨h1, h3⟩, (fun hh => (by cases hh))⟩
    · exact ⟨none, 0, 0, false, he, by omega, (fun hh => (by cases hh)), fun _ => h⟩
  obtain ⟨Al, cl, len, ok, rfl, hlen, hyes, hnot⟩ := hfnd
  have HYES := Lib.hid hyes
  have HNOT := Lib.hid hnot
  clear hfind hyes hnot
  go_wp2
  go_loopw [9, 10, 11] (fun o d x wr => ∃ (k p1 : Nat) (pre nl : List Int), x = .int .i64 k ∧ k ≤ m ∧ Hid (pre.length = k) ∧ Hid (nl.length = k) ∧ Hid (∀ i, i < pre.length → 16 ≤ pre.getD i 0 ∧ pre.getD i 0 ≤ 80) ∧ wr.ownsRow w3.heap.size 3 1 o pre.length (pre.map (Value.int .i64)) ∧ wr.ownsRow w3.heap.size 3 1 d nl.length (nl.map (Value.int .i64)) ∧ Hid (d.ownBlock = none ∨ d.ownBlock ≠ o.ownBlock) ∧ Hid (CodesAt wr w1.heap.size w1.heap.size A N c L p1) ∧ Hid (w3.grownBy wr (some w1.heap.size))) (fun _ _ x _ => m - (intOf x).toNat)
  case atStart => exact ⟨0, p3, [], [], rfl, by omega, Lib.hid (by simp), Lib.hid (by simp), Lib.hid (fun i hi => by simp at hi), World.ownsRow_nil _ _ _ _, World.ownsRow_nil _ _ _ _, Lib.hid (.inl rfl), HC3, Lib.hid (World.grownBy.refl _ _)⟩
  case round =>
    obtain ⟨k, p1, pre, nl, rfl, hk, HL, HNL, HP, own, ownd, HAP, HCW, HG⟩ := hrel
    have hsz := HG.out.size
    have hpl : pre.length ≤ 100 := by have := HL.out; omega
    have hnl : nl.length ≤ 100 := by have := HNL.out; omega
    have hk0 : (0 : Int) ≤ (k : Int) := by omega
    clear HC3
    by_cases hlt : k < m
    · have hki : (k : Int) < (m : Int) := by omega
      go_wp2_with fail
      refine (next_d _ _ _ _ _ _ _ 5 _ HCW.out (by omega) (by omega)).mono ?_
      rintro e w4 ⟨v4, p4, hv4, rfl, c4, g4⟩
      have HG4 := Lib.hid (grownBy_trans HG.out g4)
      have own4 := own_draw own g4 (by omega)
      have ownd4 := own_draw ownd g4 (by omega)
      have hsz4 : w3.heap.size ≤ w4.heap.size := HG4.out.size
      have HC4 := Lib.hid c4
      have ha0 : (0 : Int) ≤ (v4 : Int) := by omega
      have ha1 : (v4 : Int) < 5 := by omega
      obtain ⟨y, hy⟩ : ∃ y : Int, y = 16 + 16 * (v4 : Int) := ⟨_, rfl⟩
      have HY : Hid (16 ≤ y ∧ y ≤ 80) := Lib.hid (by omega)
      have HYE := Lib.hid hy.symm
      clear c4 g4 hv4 own ownd HCW HG hy
      go_wp2_with ((at_builtin; refine wpList_append_any _ rfl (.tmp 39) (.tmp 44) _ rfl w3.heap.size 3 i0 _ 1 8 Try.underlying24 hi0 hz0 hz1 hz2 rfl (by omega) _ (pre).length ((pre).map (Value.int .i64)) rfl (own4.alloc _) (w4.heap.size + 1) (some ⟨w4.heap.size, 0, none⟩) 1 1 [Value.int .i64 (16 + 16 * (v4 : Int))] rfl (reads_one w4 _ _) (by simp [Value.oneCell']) (by unfold maxLen; omega) (by omega) (by simp; omega) ?_; intro v5 w5 own5 hg5 hat5); have OWD5 := Lib.hid ((ownd4.alloc (.cells #[Value.int .i64 (16 + 16 * (v4 : Int))] 3)).kept hg5 HAP.out); have HAP5 := Lib.hid (own_apart (ownd4.alloc (.cells #[Value.int .i64 (16 + 16 * (v4 : Int))] 3)) HAP.out hat5); have HN5 := own_ne_codes (g := w1.heap.size) (own4.alloc (.cells #[Value.int .i64 (16 + 16 * (v4 : Int))] 3)) (by omega); have HLT5 := (fun j (e : _ = some j) => ((own4.alloc (.cells #[Value.int .i64 (16 + 16 * (v4 : Int))] 3)).lt j e).1); have HC5 := Lib.hid ((HC4.out.alloc (.cells #[Value.int .i64 (16 + 16 * (v4 : Int))] 3)).grown' hg5 HN5 (fun j e => by have := HLT5 j e; omega)); have HG5 := Lib.hid (grownBy_step (grownBy_al HG4.out _) hg5 (fun j e => .inl (HLT5 j e))); clear HN5 HLT5 hg5 hat5)
      have hsz5 : w3.heap.size ≤ w5.heap.size := HG5.out.size
      refine (next_d _ _ _ _ _ _ _ 256 _ HC5.out (by omega) (by omega)).mono ?_
      rintro e w6 ⟨v6, p6, hv6, rfl, c6, g6⟩
      have HG6 := Lib.hid (grownBy_trans HG5.out g6)
      have own6 := own_draw own5 g6 (by omega)
      have ownd6 := own_draw OWD5.out g6 (by omega)
      have HC6 := Lib.hid c6
      have hb0 : (0 : Int) ≤ (v6 : Int) := by omega
      have hb1 : (v6 : Int) < 256 := by omega
      clear c6 g6 hv6 own5 own4 ownd4 HC4 HC5 HG4 HG5 HAP
      go_wp2_with fail
      refine (next_d _ _ _ _ _ _ _ 256 _ HC6.out (by omega) (by omega)).mono ?_
      rintro e w7 ⟨v7, p7, hv7, rfl, c7, g7⟩
      have HG7 := Lib.hid (grownBy_trans HG6.out g7)
      have own7 := own_draw own6 g7 (by omega)
      have ownd7 := own_draw ownd6 g7 (by omega)
      have hsz7 : w3.heap.size ≤ w7.heap.size := HG7.out.size
      have HC7 := Lib.hid c7
      have hd0 : (0 : Int) ≤ (v7 : Int) := by omega
      have hd1 : (v7 : Int) < 256 := by omega
      have hmul : (0 : Int) ≤ (v6 : Int) * (v7 : Int) ∧ (v6 : Int) * (v7 : Int) ≤ 65025 := ⟨Int.mul_nonneg hb0 hd0, by
        have := Int.mul_le_mul (show (v6 : Int) ≤ 255 by omega) (show (v7 : Int) ≤ 255 by omega) hd0 (by omega)
        omega⟩
      obtain ⟨hx0, hx1⟩ := hmul
      obtain ⟨x, hx⟩ : ∃ x : Int, x = (v6 : Int) * (v7 : Int) := ⟨_, rfl⟩
      have HXE := Lib.hid hx.symm
      clear c7 g7 hv7 own6 ownd6 HC6 HG6 hx
      go_wp2_with ((at_builtin; refine wpList_append_any _ rfl (.tmp 46) (.tmp 52) _ rfl w3.heap.size 3 i0 _ 1 8 Try.underlying24 hi0 hz0 hz1 hz2 rfl (by omega) _ (nl).length ((nl).map (Value.int .i64)) rfl (ownd7.alloc _) (w7.heap.size + 1) (some ⟨w7.heap.size, 0, none⟩) 1 1 [Value.int .i64 ((v6 : Int) * (v7 : Int))] rfl (reads_one w7 _ _) (by simp [Value.oneCell']) (by unfold maxLen; omega) (by omega) (by simp; omega) ?_; intro v8 w8 own8 hg8 hat8); have OW8 := Lib.hid ((own7.alloc (.cells #[Value.int .i64 ((v6 : Int) * (v7 : Int))] 3)).kept hg8 (apart_symm HAP5.out)); have HAP8 := Lib.hid (apart_symm (own_apart (own7.alloc (.cells #[Value.int .i64 ((v6 : Int) * (v7 : Int))] 3)) (apart_symm HAP5.out) hat8)); have HN8 := own_ne_codes (g := w1.heap.size) (ownd7.alloc (.cells #[Value.int .i64 ((v6 : Int) * (v7 : Int))] 3)) (by omega); have HLT8 := (fun j (e : _ = some j) => ((ownd7.alloc (.cells #[Value.int .i64 ((v6 : Int) * (v7 : Int))] 3)).lt j e).1); have HC8 := Lib.hid ((HC7.out.alloc (.cells #[Value.int .i64 ((v6 : Int) * (v7 : Int))] 3)).grown' hg8 HN8 (fun j e => by have := HLT8 j e; omega)); have HG8 := Lib.hid (grownBy_step (grownBy_al HG7.out _) hg8 (fun j e => .inl (HLT8 j e))); clear HN8 HLT8 hg8 hat8)
      go_roundw
      case rel =>
        refine ⟨k + 1, p7, pre ++ [y], nl ++ [x], by go_num, by omega, Lib.hid (by have := HL.out; simp; omega), Lib.hid (by have := HNL.out; simp; omega), Lib.hid (fun i hi => ?_), by rw [← HYE.out]; simpa using OW8.out, by rw [← HXE.out]; simpa using own8, HAP8, HC8, HG8⟩
        simp at hi
        rcases Nat.lt_or_ge i pre.length with a1 | a1
        · rw [cf.getD_app_lt a1]; exact HP.out i a1
        · obtain rfl : i = pre.length := by omega
          rw [getD_app_end]; exact HY.out
      case measure => simp [intOf]; omega
    · have hkm : k = m := by omega
      have HPL : Hid (pre.length = m) := Lib.hid (by rw [HL.out, hkm])
      have HNM : Hid (nl.length = m) := Lib.hid (by rw [HNL.out, hkm])
      have HGR := Lib.hid (HGG3.out.draw HG.out hs2).gz
      have HBW : Hid (Below w.heap.size w wr) := Lib.hid (HB3.out.trans (below_of_grown HG.out hws (by omega)))
      have HR : Hid (Right g pre) := Lib.hid ⟨HOK.out.1, by rw [HPL.out, HGL.out], fun i hi => by have := HP.out i hi; exact ⟨by omega, by omega⟩⟩
      have HW1 : Hid (∀ i, i < g.length → 1 ≤ pre.getD i 0) := Lib.hid (fun i hi => by have := HP.out i (by rw [HPL.out]; rw [HGL.out] at hi; exact hi); omega)
      have HNO : Hid (RankedN g → ¬ Over g pre) := Lib.hid (fun ⟨rk, hr, hrb⟩ => not_over_small (M := 80) (by omega) (by omega) hr (fun i hi => by have := hrb i hi; rw [HGL.out] at this; omega) (fun i hi => (HP.out i (by rw [HPL.out]; rw [HGL.out] at hi; exact hi)).2))
      rw [HPL.out] at own
      rw [HNM.out] at ownd
      obtain ⟨Aw, cw, rfl, -⟩ := own_form own
      obtain ⟨An, cn, rfl, -⟩ := own_form ownd
      have HV := Lib.hid (show Iz wr Aw m pre from Iz.of_own own)
      have HIN := Lib.hid (show Iz wr An m nl from Iz.of_own ownd)
      have HMW := Lib.hid (HML.out.below HBW.out)
      clear own ownd HL HNL HP HCW HG HGG3 HB3 hpl hnl hkm HAP
      generalize wr = w6 at *
      cases ok with
      | false =>
        have HNS : Hid (¬ Stuck g) := Lib.hid (fun hs => by
          obtain ⟨i, q, h1, h2, h3, h4⟩ := stuck_cycle hs
          exact HNOT.out rfl i h1 q h2 h3 h4)
        go_wp2_with fail
        refine (all_any _ _ _ _ _ _ g pre w6 HGR.out HV.out (by unfold maxLen; omega) (by unfold maxLen; omega)).mono ?_
        rintro e w7 ⟨hb7, hcase⟩
        rcases hcase with ⟨h, rfl⟩ | ⟨_, hst, rfl⟩ | ⟨_, ho, hrk, rfl⟩ | ⟨_, -, r, b, hs, hbd, rfl, own7⟩
        · exact absurd HR.out h
        · exact absurd hst HNS.out
        · exact absurd ho (HNO.out hrk)
        have hbl : b.length = m := by rw [hs.1, HGL.out]
        rw [hbl] at own7
        obtain ⟨Ab, cb, rfl, -⟩ := own_form own7
        have HB7 := Lib.hid (HBW.out.trans (hb7.mono HBW.out.size))
        have hck := check_any (some ⟨gb, 0, none⟩) Aw Ab m m m cw m cb g pre b w7 (HGR.out.below hb7) (HV.out.below hb7) (Iz.of_own own7) (by unfold maxLen; omega) (by unfold maxLen; omega) (by unfold maxLen; omega)
        rw [(sol_tight HR.out hs hbd).1] at hck
        have HCK := Lib.hid hck
        clear hck hs hbd hbl own7 hb7 HGR HV HBW
        go_wp2_with fail
        (with_reducible refine HCK.out.mono ?_)
        rintro e w8 ⟨rfl, hb8⟩
        go_wp2
        go_ret
        exact ⟨rfl, HB7.out.trans (hb8.mono HB7.out.size)⟩
      | true =>
        obtain ⟨hl0, f, q, hf, hq1, hq2, hwk⟩ := HYES.out rfl
        have hli : (0 : Int) < (len : Int) := by omega
        have HCY : Hid (∀ z, chkV g pre z ≠ 0) := Lib.hid (fun z h => no_cycle (chkV_ok.1 h).1.1.1 (chkV_ok.1 h).2 HW1.out hf hq1 hwk)
        have h1 := HCY.out nl
        have h2 := HCY.out ml
        have HC1 := Lib.hid (check_any (some ⟨gb, 0, none⟩) Aw An m m m cw m cn g pre nl w6 HGR.out HV.out HIN.out (by unfold maxLen; omega) (by unfold maxLen; omega) (by unfold maxLen; omega))
        have HC2 := Lib.hid (fun W (a : Gz W (some ⟨gb, 0, none⟩) m g) (b : Iz W Aw m pre) (d : Iz W Am nm ml) => check_any (some ⟨gb, 0, none⟩) Aw Am m m m cw nm cm g pre ml W a b d (by unfold maxLen; omega) (by unfold maxLen; omega) hnm)
        clear hwk hf hq1 hq2 hl0
        generalize chkV g pre nl = z1 at *
        generalize chkV g pre ml = z2 at *
        have hz1b : (z1 != 0) = true := by rw [bne_iff_ne]; exact h1
        have hz2b : (z2 != 0) = true := by rw [bne_iff_ne]; exact h2
        go_wp2_with fail
        (with_reducible refine HC1.out.mono ?_)
        rintro e w7 ⟨rfl, hb7⟩
        have HB7 := Lib.hid (HBW.out.trans (hb7.mono HBW.out.size))
        have HC3 := Lib.hid (HC2.out w7 (HGR.out.below hb7) (HV.out.below hb7) (HMW.out.below hb7))
        clear hb7
        go_wp2_with fail
        (with_reducible refine HC3.out.mono ?_)
        rintro e w8 ⟨rfl, hb8⟩
        have HB8 := Lib.hid (HB7.out.trans (hb8.mono HB7.out.size))
        clear hb8
        go_wp2
        go_ret
        exact ⟨rfl, HB8.out⟩
end Go.Proofs.Ytgamodmenlhedaa.cr
