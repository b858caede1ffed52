/- Bytes of targets: slices.Equal of bytes. -/
import Derived.Test.YtinfeglhjmnlaaaDoorGPu
import Derived.Deep.CutBlock
import Derived.BigQuiet
import Derived.Deep.QuietTactic
import Derived.Test.YtinfeglhjmnlaaaDoorGHx
import Derived.Test.YtinfeglhjmnlaaaDoorGHk
namespace Go.Proofs.YtinfeglhjmnlaaaDoor.pm
open Go.RowKit
set_option linter.unusedVariables false
set_option maxRecDepth 10000

theorem eq_bytes (A A' : Option Addr) (n c m d : Nat) (l r : List Nat) (w : World) (B : Nat) (hb : Bs w B A n l) (hr : Bs w B A' m r) (hn : n ≤ maxLen) (hm : m ≤ maxLen) :
    Calls Tryd.prog 48 #[.slice A n c, .slice A' m d] w fun e w' => e = .returned (.bool (decide (l = r))) ∧ ∃ k, w' = w.drewN k := by
  have hln := hb.len
  have hlm := hr.len
  have HN := Lib.hid hln
  have HM := Lib.hid hlm
  clear hln hlm
  unfold maxLen at hn hm
  by_cases hnm : n = m
  · subst hnm
    go_enter Tryd.func48, Tryd.ntmps48
    go_wp2
    go_loopw [13] (fun i wr => ∃ k : Nat, k ≤ n ∧ i = .int .i64 k ∧ Hid (l.take k = r.take k) ∧ ∃ q, wr = w.drewN q) (fun i _ => n - (intOf i).toNat)
    case atStart => exact ⟨0, by omega, rfl, Lib.hid rfl, 0, rfl⟩
    case round =>
      obtain ⟨k, hk, rfl, H, q, rfl⟩ := hrel
      by_cases hlt : k < n
      · obtain ⟨ad, rfl, hbl, hcell⟩ := hb.at_ hlt
        obtain ⟨ad', rfl, hbl', hcell'⟩ := hr.at_ hlt
        have hl2 := HN.out
        have hr2 := HM.out
        have htl := take_succ_getD l k (by omega)
        have htr := take_succ_getD r k (by omega)
        have hki : (k : Int) < (n : Int) := by omega
        have hk0 : (0 : Int) ≤ (k : Int) := by omega
        by_cases hxy : l.getD k 0 = r.getD k 0
        · have H' := Lib.hid (show l.take (k + 1) = r.take (k + 1) by rw [htl, htr, hxy, H.out])
          rw [← hxy] at hcell'
          clear htl htr hl2 hr2 hxy H hb hr
          generalize l.getD k 0 = x at *
          go_upto_region 6 with (fail)
          go_quiet (fail)
          go_wp2
          go_roundw
          case rel => exact ⟨k + 1, by omega, by go_num, H', by first | exact ⟨_, rfl⟩ | exact ⟨_, World.drewN_drewN _ _ _⟩⟩
          case measure => simp [intOf]; omega
        · have H' := Lib.hid (show l ≠ r by rintro rfl; exact hxy rfl)
          have hne : (((l.getD k 0 : Nat) : Int) != ((r.getD k 0 : Nat) : Int)) = true := by rw [bne_iff_ne]; omega
          clear htl htr hl2 hr2 hxy H hb hr
          generalize l.getD k 0 = x at *
          generalize r.getD k 0 = y at *
          go_upto_region 6 with (fail)
          go_quiet (fail)
          go_wp2
          go_ret
          exact ⟨ret_bool (by simpa using H'.out), by first | exact ⟨_, rfl⟩ | exact ⟨_, World.drewN_drewN _ _ _⟩⟩
      · go_wp2_with fail
        go_ret
        refine ⟨ret_bool ?_, _, rfl⟩
        have h1 := H.out
        rw [List.take_of_length_le (by have := HN.out; omega), List.take_of_length_le (by have := HM.out; omega)] at h1
        simpa using h1
  · have hne : ((n : Int) != (m : Int)) = true := by rw [bne_iff_ne]; omega
    go_enter Tryd.func48, Tryd.ntmps48
    go_wp2
    go_ret
    refine ⟨ret_bool ?_, 0, rfl⟩
    have : l ≠ r := by
      rintro rfl
      exact hnm (HN.out.symm.trans HM.out)
    simpa using this
end Go.Proofs.YtinfeglhjmnlaaaDoor.pm
namespace Go.Proofs.YtinfeglhjmnlaaaDoor.pm
open Go.RowKit
set_option linter.unusedVariables false
set_option maxRecDepth 10000

def DcD (l : List Nat) (w : World) (e : Ending) (w' : World) : Prop :=
  ∃ (al bd : Int) (t : List Fr) (At : Option Addr) (ct : Nat), e = .returned (.tuple #[.agg #[.int .i64 al, .slice At t.length ct], .int .i64 bd, .int .i64 (decE l)]) ∧
    ((decE l = 0 ∧ decT false l = some (al, bd, t)) ∨ (decE l ≠ 0 ∧ al = 0 ∧ bd = 0 ∧ t = [])) ∧ Gx w' w.heap.size w'.heap.size At t ∧ t.length ≤ ct ∧ t.length ≤ 80 ∧ RgT al t ∧ Below w.heap.size w w'
theorem blk_put2 {w : World} {g : Nat} {t : TypeId} {b0 b1 : Value} (h : Blk w g t #[b0, b1]) (a0 a1 : Value) : Blk ((w.setCell ⟨g, 0, none⟩ a0).setCell ⟨g, 1, none⟩ a1) g t #[a0, a1] := by
  have := (h.set_ 0 a0).set_ 1 a1
  simpa using this
theorem rgn : RgT 0 [] := ⟨⟨by unfold I64; omega, fun f hf => by cases hf⟩, fun f hf => by cases hf⟩
theorem gxn (w : World) (lo hi : Nat) : Gx w lo hi none [] := ⟨[], Rx.nil _ _ _ _, fun i hi => by simp at hi⟩
theorem DcD.err {l : List Nat} {w w' : World} {r : Int} (h : decE l = r) (h0 : r ≠ 0) (hb : Below w.heap.size w w') : DcD l w (.returned (.tuple #[.agg #[.int .i64 0, .slice none 0 0], .int .i64 0, .int .i64 r])) w' :=
  ⟨0, 0, [], none, 0, by rw [h]; rfl, .inr ⟨by rw [h]; exact h0, rfl, rfl, rfl⟩, gxn _ _ _, Nat.le_refl _, by simp, rgn, hb⟩
set_option maxHeartbeats 2000000 in
theorem dec_err (A : Option Addr) (n c : Nat) (l : List Nat) (w : World) (hb : Bs w w.heap.size A n l) (hn : n ≤ maxLen) (he : 1048576 < n ∨ n < 10) :
    Calls Tryd.prog 17 #[.slice A n c] w (DcD l w) := by
  have hln := hb.len
  obtain ⟨W1, hW1⟩ : ∃ W1, W1 = w.alloc (.cells #[.int .i64 0, .slice none 0 0] 29) := ⟨_, rfl⟩
  have hB1 : Below w.heap.size w W1 := by rw [hW1]; exact (Below.refl _ _).alloc (Nat.le_refl _) _
  have HKT : Hid (Blk W1 w.heap.size 29 #[.int .i64 0, .slice none 0 0]) := Lib.hid (by rw [hW1]; exact Blk.new _ _ _)
  have HB1 := Lib.hid hB1
  have HW1 := Lib.hid hW1
  have HZ := Lib.hid (blk_put2 HKT.out (.int .i64 0) (.slice none 0 0))
  have HZB : Hid (Below w.heap.size w ((W1.setCell ⟨w.heap.size, 0, none⟩ (.int .i64 0)).setCell ⟨w.heap.size, 1, none⟩ (.slice none 0 0))) := Lib.hid ((hB1.setCell (p := ⟨w.heap.size, 0, none⟩) (Nat.le_refl _) _).setCell (p := ⟨w.heap.size, 1, none⟩) (Nat.le_refl _) _)
  have hni : (n : Int) ≤ 9223372036854775807 := by unfold maxLen at hn; omega
  obtain ⟨d0, d1, df0, df1, dz⟩ := HKT.out.c2
  by_cases h1 : 1048576 < n
  · have HE : Hid (decE l = 3) := Lib.hid (by unfold decE; rw [if_pos (by omega)])
    have h1i : (1048576 : Int) < (n : Int) := by omega
    clear hW1 hB1 hb he hln h1
    go_enter Tryd.func17, Tryd.ntmps17
    go_upto_region 1 with (fail)
    rw [← HW1.out]
    go_wp2
    obtain ⟨e0, e1, -⟩ := HZ.out.c2
    exact bodyPost_ret (v := .tuple #[.agg #[.int .i64 0, .slice none 0 0], .int .i64 0, .int .i64 3]) (by simp [results, Tryd.results17, go_sem, e0, e1]) rfl (DcD.err HE.out (by decide) HZB.out)
  · have h2 : n < 10 := he.resolve_left h1
    have HE : Hid (decE l = 1) := Lib.hid (by unfold decE; rw [if_neg (by omega), if_pos (by omega)])
    have h2i : (n : Int) < 10 := by omega
    clear hW1 hB1 hb he hln h1 h2
    go_enter Tryd.func17, Tryd.ntmps17
    go_upto_region 1 with (fail)
    rw [← HW1.out]
    go_wp2
    obtain ⟨e0, e1, -⟩ := HZ.out.c2
    exact bodyPost_ret (v := .tuple #[.agg #[.int .i64 0, .slice none 0 0], .int .i64 0, .int .i64 1]) (by simp [results, Tryd.results17, go_sem, e0, e1]) rfl (DcD.err HE.out (by decide) HZB.out)
end Go.Proofs.YtinfeglhjmnlaaaDoor.pm
