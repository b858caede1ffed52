/- Bytes of programs: Parse, Decode and Functions of sircode. -/
import Derived.Test.YtinfeglhjmnlaaaDoorYo
import Derived.Test.YtinfeglhjmnlaaaDoorGSc
import Derived.Deep.CutBlock
namespace Go.Proofs.YtinfeglhjmnlaaaDoor.pm
open Go.RowKit
set_option linter.unusedVariables false
set_option maxRecDepth 10000

theorem parse_any (A : Option Addr) (n c : Nat) (l : List Nat) (w : World) (hb : Bs w w.heap.size A n l) (hn : n ≤ maxLen) (hc : n ≤ c) (hcm : c ≤ maxLen) :
    Calls Tryd.prog 67 #[.slice A n c] w (PaD l w) := by
  by_cases h : 1048576 < n ∨ n < 9
  · exact parse_err A n c l w hb hn h
  · exact parse_ok A n c l w hb (by omega) (by omega) hc hcm
def PrD (l : List Nat) (w : World) (e : Ending) (w' : World) : Prop :=
  ∃ A c, e = .returned (.tuple #[.agg #[.slice A (parF l).length c], .int .i64 (parE l : Int)]) ∧ Fx w' w.heap.size w'.heap.size A (parF l) ∧ (parF l).length ≤ c ∧ Below w.heap.size w w'
def FsD (l : List Nat) (w : World) (e : Ending) (w' : World) : Prop :=
  ∃ A c, e = .returned (.tuple #[.slice A (parD l).length c, .int .i64 (parE l : Int)]) ∧ Dx w' w.heap.size w'.heap.size A (parD l) ∧ (parD l).length ≤ c ∧ Below w.heap.size w w'
/-- the program that bytes decode to -/
def decP (l : List Nat) : List Fn := if decS l = 0 then parF l else []
def DpD (l : List Nat) (w : World) (e : Ending) (w' : World) : Prop :=
  ∃ A c, e = .returned (.tuple #[.agg #[.slice A (decP l).length c], .int .i64 (decS l)]) ∧ Fx w' w.heap.size w'.heap.size A (decP l) ∧ (decP l).length ≤ c ∧ Below w.heap.size w w'
set_option maxHeartbeats 1000000 in
theorem sParse_any (A : Option Addr) (n c : Nat) (l : List Nat) (w : World) (hb : Bs w w.heap.size A n l) (hn : n ≤ maxLen) (hc : n ≤ c) (hcm : c ≤ maxLen) :
    Calls Tryd.prog 30 #[.slice A n c] w (PrD l w) := by
  obtain ⟨W1, hW1⟩ : ∃ W1, W1 = w.alloc (.cells #[.slice none 0 0] 44) := ⟨_, rfl⟩
  obtain ⟨g2, hg2⟩ : ∃ g, g = w.heap.size := ⟨_, rfl⟩
  have hB1 : Below w.heap.size w W1 := by rw [hW1]; exact (Below.refl _ _).alloc (Nat.le_refl _) _
  have HKT : Hid (Blk W1 g2 44 #[.slice none 0 0]) := Lib.hid (by rw [hW1, hg2]; exact Blk.new _ _ _)
  have HW1 := Lib.hid hW1
  have HG2 := Lib.hid hg2
  have HB1 := Lib.hid hB1
  have hs1 : W1.heap.size = g2 + 1 := by rw [hW1, hg2]; simp
  have HC := Lib.hid (parse_any A n c l W1 ((hb.below hB1).more hB1.size) hn hc hcm)
  have hwg : w.heap.size ≤ g2 := by omega
  clear hW1 hg2 hB1 hb
  go_enter Tryd.func30, Tryd.ntmps30
  go_upto_region 1 with (fail)
  rw [← HW1.out, ← HG2.out]
  go_wp2_with fail
  refine HC.out.mono ?_
  rintro e w2 ⟨Ap, cp, D, cd, rfl, hf, -, ⟨hcp, -⟩, bel2⟩
  go_upto_region 2 with (fail)
  obtain ⟨W3, hW3⟩ : ∃ W3, W3 = w2.alloc (.cells #[.slice Ap (parF l).length cp] 44) := ⟨_, rfl⟩
  obtain ⟨g4, hg4⟩ : ∃ g, g = w2.heap.size := ⟨_, rfl⟩
  rw [← hW3, ← hg4]
  have hb3 : Below w2.heap.size w2 W3 := by rw [hW3]; exact (Below.refl _ _).alloc (Nat.le_refl _) _
  have HK4 : Hid (Blk W3 g4 44 #[.slice Ap (parF l).length cp]) := Lib.hid (by rw [hW3, hg4]; exact Blk.new _ _ _)
  have HK2 : Hid (Blk W3 g2 44 #[.slice none 0 0]) := Lib.hid ((HKT.out.after bel2).after hb3)
  have hb13 : Below W1.heap.size W1 W3 := bel2.trans (hb3.mono bel2.size)
  have HB3 := Lib.hid (HB1.out.trans (hb13.mono (by omega)))
  have HF3 : Hid (Fx W3 W1.heap.size w2.heap.size Ap (parF l)) := Lib.hid (hf.keep (Kp.of_below hb3 (Nat.le_refl _)))
  have hz3 : w2.heap.size ≤ W3.heap.size := hb3.size
  have HZ := Lib.hid (put1_6 HK2.out (.slice Ap (parF l).length cp))
  have HFIN : Hid (PrD l w (.returned (.tuple #[.agg #[.slice Ap (parF l).length cp], .int .i64 (parE l : Int)])) (W3.setCell ⟨g2, 0, none⟩ (.slice Ap (parF l).length cp))) := Lib.hid
    ⟨Ap, cp, rfl, (HF3.out.keep ((Kp.refl _ _ _).set (.inl (by show g2 < W1.heap.size; omega)) _)).more (by omega) (by simpa using hz3), hcp, HB3.out.setCell (p := ⟨g2, 0, none⟩) hwg _⟩
  clear hW3 hg4 hb3 hb13 hf bel2 HC HKT HB1
  generalize (parF l).length = np at *
  generalize parE l = ep at *
  obtain ⟨d0, df0, dz⟩ := HK2.out.c1
  obtain ⟨x0, -, xz⟩ := HK4.out.c1
  go_wp2
  obtain ⟨e0, -⟩ := HZ.out.c1
  exact bodyPost_ret (v := .tuple #[.agg #[.slice Ap np cp], .int .i64 (ep : Int)]) (by simp [results, Tryd.results30, go_sem, e0]) rfl HFIN.out
set_option maxHeartbeats 1000000 in
theorem sFuncs_any (A : Option Addr) (n c : Nat) (l : List Nat) (w : World) (hb : Bs w w.heap.size A n l) (hn : n ≤ maxLen) (hc : n ≤ c) (hcm : c ≤ maxLen) :
    Calls Tryd.prog 28 #[.slice A n c] w (FsD l w) := by
  have HC := Lib.hid (parse_any A n c l w hb hn hc hcm)
  clear hb
  go_enter Tryd.func28, Tryd.ntmps28
  go_wp2_with fail
  refine HC.out.mono ?_
  rintro e w2 ⟨Ap, cp, D, cd, rfl, -, hd, ⟨-, hcd⟩, bel2⟩
  have hb3 : Below w2.heap.size w2 (w2.alloc (.cells #[.slice Ap (parF l).length cp] 44)) := (Below.refl _ _).alloc (Nat.le_refl _) _
  have HFIN : Hid (FsD l w (.returned (.tuple #[.slice D (parD l).length cd, .int .i64 (parE l : Int)])) (w2.alloc (.cells #[.slice Ap (parF l).length cp] 44))) := Lib.hid
    ⟨D, cd, rfl, (hd.keep (Kp.of_below hb3 (Nat.le_refl _))).more (Nat.le_refl _) hb3.size, hcd, bel2.trans (hb3.mono bel2.size)⟩
  clear hd hcd bel2 hb3 HC
  generalize (parD l).length = np at *
  generalize (parF l).length = nf at *
  generalize parE l = ep at *
  go_wp2
  go_ret2
  exact HFIN.out
theorem decP_0 {l : List Nat} (h : parE l = 0) (h2 : progE (parF l) = 0) : decS l = 0 ∧ decP l = parF l := by
  have h3 : decS l = 0 := by unfold decS; rw [if_neg (by simpa using h), h2]
  exact ⟨h3, by unfold decP; rw [if_pos h3]⟩
theorem decP_1 {l : List Nat} (h : parE l ≠ 0) : decS l = (parE l : Int) ∧ decP l = [] := by
  have h3 : decS l = (parE l : Int) := by unfold decS; rw [if_pos h]
  exact ⟨h3, by unfold decP; rw [if_neg (by rw [h3]; omega)]⟩
theorem decP_2 {l : List Nat} (h : parE l = 0) (h2 : progE (parF l) ≠ 0) : decS l = progE (parF l) ∧ decP l = [] := by
  have h3 : decS l = progE (parF l) := by unfold decS; rw [if_neg (by simpa using h)]
  exact ⟨h3, by unfold decP; rw [if_neg (by rw [h3]; exact h2)]⟩
set_option maxHeartbeats 1000000 in
theorem sDecode_any (A : Option Addr) (n c : Nat) (l : List Nat) (w : World) (hT : Tb w) (hb : Bs w w.heap.size A n l) (hn : n ≤ maxLen) (hc : n ≤ c) (hcm : c ≤ maxLen) :
    Calls Tryd.prog 32 #[.slice A n c] w (DpD l w) := by
  obtain ⟨W1, hW1⟩ : ∃ W1, W1 = w.alloc (.cells #[.slice none 0 0] 44) := ⟨_, rfl⟩
  obtain ⟨g2, hg2⟩ : ∃ g, g = w.heap.size := ⟨_, rfl⟩
  have hB1 : Below w.heap.size w W1 := by rw [hW1]; exact (Below.refl _ _).alloc (Nat.le_refl _) _
  have HKT : Hid (Blk W1 g2 44 #[.slice none 0 0]) := Lib.hid (by rw [hW1, hg2]; exact Blk.new _ _ _)
  have HW1 := Lib.hid hW1
  have HG2 := Lib.hid hg2
  have HB1 := Lib.hid hB1
  have hs1 : W1.heap.size = g2 + 1 := by rw [hW1, hg2]; simp
  have HC := Lib.hid (sParse_any A n c l W1 ((hb.below hB1).more hB1.size) hn hc hcm)
  have HT := Lib.hid hT
  have hwg : w.heap.size ≤ g2 := by omega
  clear hW1 hg2 hB1 hb hT
  go_enter Tryd.func32, Tryd.ntmps32
  go_upto_region 1 with (fail)
  rw [← HW1.out, ← HG2.out]
  go_wp2_with fail
  refine HC.out.mono ?_
  rintro e w2 ⟨Ap, cp, rfl, hf, hcp, bel2⟩
  go_upto_region 2 with (fail)
  obtain ⟨W3, hW3⟩ : ∃ W3, W3 = w2.alloc (.cells #[.slice Ap (parF l).length cp] 44) := ⟨_, rfl⟩
  obtain ⟨g4, hg4⟩ : ∃ g, g = w2.heap.size := ⟨_, rfl⟩
  rw [← hW3, ← hg4]
  have hb3 : Below w2.heap.size w2 W3 := by rw [hW3]; exact (Below.refl _ _).alloc (Nat.le_refl _) _
  have HK4 : Hid (Blk W3 g4 44 #[.slice Ap (parF l).length cp]) := Lib.hid (by rw [hW3, hg4]; exact Blk.new _ _ _)
  have HK2 : Hid (Blk W3 g2 44 #[.slice none 0 0]) := Lib.hid ((HKT.out.after bel2).after hb3)
  have hb13 : Below W1.heap.size W1 W3 := bel2.trans (hb3.mono bel2.size)
  have HB3 := Lib.hid (HB1.out.trans (hb13.mono (by omega)))
  have HF3 : Hid (Fx W3 W1.heap.size w2.heap.size Ap (parF l)) := Lib.hid (hf.keep (Kp.of_below hb3 (Nat.le_refl _)))
  have hz3 : w2.heap.size ≤ W3.heap.size := hb3.size
  have HCP := Lib.hid hcp
  have HCK := Lib.hid (check_any Ap (parF l) cp W3 W1.heap.size w2.heap.size (HT.out.below HB3.out) HF3.out hz3 (by have := parF_len l; unfold maxLen; omega) (parF_fnr l))
  clear hW3 hg4 hb3 hb13 hf bel2 HC HKT HB1 hcp
  obtain ⟨np, hnp⟩ : ∃ k, k = (parF l).length := ⟨_, rfl⟩
  have HNP := Lib.hid hnp
  rw [← hnp] at HK4 HCK HCP ⊢
  clear hnp
  by_cases he : parE l = 0
  · rw [he]
    obtain ⟨x0, -, xz⟩ := HK4.out.c1
    go_wp2_with fail
    refine HCK.out.mono ?_
    rintro e w4 ⟨rfl, bel4⟩
    have HB4 := Lib.hid (HB3.out.trans (bel4.mono HB3.out.size))
    have HK24 := Lib.hid (HK2.out.after bel4)
    have HK44 := Lib.hid (HK4.out.after bel4)
    have HF4 : Hid (Fx w4 W1.heap.size w2.heap.size Ap (parF l)) := Lib.hid (HF3.out.keep (Kp.of_below bel4 hz3))
    have hz4 : w2.heap.size ≤ w4.heap.size := Nat.le_trans hz3 bel4.size
    clear bel4 HB3 HK2 HK4 HF3 x0 xz HCK
    obtain ⟨d0, df0, dz⟩ := HK24.out.c1
    obtain ⟨x0, -, xz⟩ := HK44.out.c1
    by_cases hp : progE (parF l) = 0
    · have hd := decP_0 he hp
      have HZ := Lib.hid (put1_6 HK24.out (.slice Ap np cp))
      have HFIN : Hid (DpD l w (.returned (.tuple #[.agg #[.slice Ap np cp], .int .i64 0])) (w4.setCell ⟨g2, 0, none⟩ (.slice Ap np cp))) := Lib.hid (by
        refine ⟨Ap, cp, by rw [hd.1, hd.2, ← HNP.out], ?_, by rw [hd.2, ← HNP.out]; exact HCP.out, HB4.out.setCell (p := ⟨g2, 0, none⟩) hwg _⟩
        rw [hd.2]
        exact (HF4.out.keep ((Kp.refl _ _ _).set (.inl (by show g2 < W1.heap.size; omega)) _)).more (by omega) (by simpa using hz4))
      rw [hp]
      clear hd hp he
      go_wp2
      obtain ⟨e0, -⟩ := HZ.out.c1
      exact bodyPost_ret (v := .tuple #[.agg #[.slice Ap np cp], .int .i64 0]) (by simp [results, Tryd.results32, go_sem, e0]) rfl HFIN.out
    · have hd := decP_2 he hp
      have HZ := Lib.hid (put1_6 HK24.out (.slice none 0 0))
      have hne : (progE (parF l) != 0) = true := by simpa using hp
      have HFIN : Hid (DpD l w (.returned (.tuple #[.agg #[.slice none 0 0], .int .i64 (progE (parF l))])) (w4.setCell ⟨g2, 0, none⟩ (.slice none 0 0))) := Lib.hid (by
        refine ⟨none, 0, by rw [hd.1, hd.2]; rfl, ?_, by rw [hd.2]; exact Nat.le_refl _, HB4.out.setCell (p := ⟨g2, 0, none⟩) hwg _⟩
        rw [hd.2]
        exact ⟨[], Rx.nil _ _ _ _, fun i hi => by simp at hi⟩)
      clear hd hp he
      generalize progE (parF l) = pe at *
      go_wp2
      obtain ⟨e0, -⟩ := HZ.out.c1
      exact bodyPost_ret (v := .tuple #[.agg #[.slice none 0 0], .int .i64 pe]) (by simp [results, Tryd.results32, go_sem, e0]) rfl HFIN.out
  · have hd := decP_1 he
    have hbe : ((parE l : Int) == 0) = false := by rw [beq_eq_false_iff_ne]; omega
    have hne : ((parE l : Int) != 0) = true := by rw [bne_iff_ne]; omega
    have HZ := Lib.hid (put1_6 HK2.out (.slice none 0 0))
    have HFIN : Hid (DpD l w (.returned (.tuple #[.agg #[.slice none 0 0], .int .i64 (parE l : Int)])) (W3.setCell ⟨g2, 0, none⟩ (.slice none 0 0))) := Lib.hid (by
      refine ⟨none, 0, by rw [hd.1, hd.2]; rfl, ?_, by rw [hd.2]; exact Nat.le_refl _, HB3.out.setCell (p := ⟨g2, 0, none⟩) hwg _⟩
      rw [hd.2]
      exact ⟨[], Rx.nil _ _ _ _, fun i hi => by simp at hi⟩)
    obtain ⟨d0, df0, dz⟩ := HK2.out.c1
    obtain ⟨x0, -, xz⟩ := HK4.out.c1
    clear hd he HCK
    generalize parE l = pe at *
    go_wp2
    obtain ⟨e0, -⟩ := HZ.out.c1
    exact bodyPost_ret (v := .tuple #[.agg #[.slice none 0 0], .int .i64 (pe : Int)]) (by simp [results, Tryd.results32, go_sem, e0]) rfl HFIN.out
end Go.Proofs.YtinfeglhjmnlaaaDoor.pm
