/- Contract of ref28.back. -/
import Derived.Test.YtgamodmenlhedaaCfPlain4
namespace Go.Proofs.Ytgamodmenlhedaa.cf
open Go.RowKit
set_option linter.unusedVariables false
set_option maxRecDepth 10000

set_option maxHeartbeats 4000000 in
theorem back_any (A : Option Addr) (m c : Nat) (g : List (List Int)) (i f n : Nat) (w : World) (h : Gz w A m g) (hg : GrOk g) (hi : i < m) (hf : f ≤ 1000) (hn : n ≤ 1000) :
    Calls Try.prog 60 #[.slice A m c, .int .i64 (i : Int), .int .i64 (f : Int), .int .i64 (n : Int)] w fun e w' => e = .returned (.bool (walkB g n i f)) ∧ Below w.heap.size w w' := by
  have HL := Lib.hid h.len
  have HI := Lib.hid h
  have HG := Lib.hid hg
  have hm80 : m ≤ 80 := by have := hg.2.1; rw [h.len] at this; exact this
  have HST : Hid (Reach g i 0 [(i : Int)]) := Lib.hid (reach_start (by omega))
  have HBD : Hid (∀ t L, Reach g i t L → decide ((f : Int) ∈ L) = walkB g t i f) := Lib.hid (fun t L hr => walkB_of hr)
  have HO0 : Hid ((w.alloc (.cells #[.int .i64 (i : Int)] 3)).ownsRow w.heap.size 3 1 (.slice (some ⟨w.heap.size, 0, none⟩) 1 1) 1 ([(i : Int)].map (Value.int .i64))) := Lib.hid (World.ownsRow_lit (base := w.heap.size) (e := 3) (size := 1) w #[.int .i64 (i : Int)] 1 (Nat.le_refl _) (by unfold maxLen; omega) rfl)
  have HB0 : Hid (Below w.heap.size w (w.alloc (.cells #[.int .i64 (i : Int)] 3))) := Lib.hid ((Below.refl _ _).alloc (Nat.le_refl _) _)
  clear h hg
  go_enter Try.func60, Try.ntmps60
  go_wp2
  go_loopw [3, 9] (fun x a wr => ∃ (t left : Nat) (L : List Int), x = .int .i64 left ∧ Hid (t + left = n) ∧ left ≤ 1000 ∧ Hid (Reach g i t L) ∧ wr.ownsRow w.heap.size 3 1 a L.length (L.map (Value.int .i64)) ∧ Hid (Below w.heap.size w wr)) (fun x _ _ => (intOf x).toNat)
  case atStart => exact ⟨0, n, [(i : Int)], rfl, Lib.hid (by omega), hn, HST, HO0.out, HB0⟩
  case round =>
    obtain ⟨t, left, L, rfl, HT, hl1, HR, own, bel⟩ := hrel
    clear HST HO0 HB0
    have hsz := bel.out.size
    obtain ⟨Al, cl, rfl, -, hcl, hil⟩ := fresh_ints own
    have HIL := Lib.hid hil
    have hll : L.length ≤ 512 := set_len HR.out.1
    clear hil own
    generalize wr = wo at *
    have hl0 : (0 : Int) ≤ (left : Int) := by omega
    have hl2 : (left : Int) ≤ 1000 := by omega
    rcases Nat.eq_zero_or_pos left with rfl | hpos
    · have hh := has_any Al L.length cl L (f : Int) wo HIL.out (by unfold maxLen; omega)
      rw [HBD.out t L HR.out, show t = n by have := HT.out; omega] at hh
      have HH := Lib.hid hh
      clear hh
      go_wp2_with (go_at_call 84; refine HH.out.mono ?_; rintro e w' ⟨rfl, rfl⟩)
      go_ret
      exact ⟨rfl, bel.out⟩
    · have hpi : (0 : Int) < (left : Int) := by omega
      go_wp2
      go_loopw [10, 11] (fun a x wr => ∃ (q : Nat) (N : List Int), q ≤ L.length ∧ x = .int .i64 q ∧ Hid (Next g L q N) ∧ wr.ownsRow w.heap.size 3 1 a N.length (N.map (Value.int .i64)) ∧ Hid (Below wo.heap.size wo wr)) (fun _ x _ => L.length - (intOf x).toNat)
      case atStart => exact ⟨0, [], by omega, rfl, Lib.hid (next_start g L), World.ownsRow_nil _ _ _ _, Lib.hid (Below.refl _ _)⟩
      case round =>
        obtain ⟨q, N, hq, rfl, HN, own, bel2⟩ := hrel
        have hsz2 := bel2.out.size
        have hq0 : (0 : Int) ≤ (q : Int) := by omega
        obtain ⟨An, cn, rfl, -, hcn, hin⟩ := fresh_ints own
        have hnl : N.length ≤ 512 := set_len HN.out.1
        by_cases hlt : q < L.length
        · have hqi : (q : Int) < (L.length : Int) := by omega
          obtain ⟨al, rfl, -, cal⟩ := (HIL.out.below bel2.out).at_ hlt
          obtain ⟨j, hj, hjl⟩ := reach_lt HG.out (by rw [HL.out]; exact hi) HR.out hlt
          have HNS := Lib.hid (next_succ HG.out HN.out (q := q) (by rw [hj]; simpa using hjl))
          rw [hj] at cal HNS
          simp only [Int.toNat_natCast] at HNS
          rw [HL.out] at hjl
          have hj0 : (0 : Int) ≤ (j : Int) := by omega
          have hji : (j : Int) < (m : Int) := by omega
          obtain ⟨ag, A', n', c', rfl, -, cag, hr, hm', -⟩ := (HI.out.below (bel.out.trans (bel2.out.mono hsz))).at_ hjl
          have hn' : n' ≤ 512 := by
            have := set_len (HG.out.2.2 j (by rw [HL.out]; exact hjl)).1
            rw [hr.len] at this; exact this
          have HU := Lib.hid (union_any An A' N.length cn n' c' N (nx g j) wr hin hr (by omega) (by omega))
          clear hj hin hr own
          go_wp2_with (go_at_call 88; refine HU.out.mono ?_; rintro e w' ⟨r, rfl, ownr, hb3⟩)
          go_roundw
          case rel => exact ⟨q + 1, _, by omega, by go_num, HNS, own_base ownr (Nat.le_trans hsz hsz2), Lib.hid (bel2.out.trans (hb3.mono hsz2))⟩
          case measure => simp [intOf]; omega
        · have hqe : q = L.length := by omega
          have HRN : Hid (Reach g i (t + 1) N) := Lib.hid (next_reach HG.out (by rw [HL.out]; exact hi) HR.out (by rw [← hqe]; exact HN.out))
          clear hqe
          go_wp2
          go_roundw
          case rel => exact ⟨t + 1, left - 1, N, (by congr 1; omega), Lib.hid (by have := HT.out; omega), by omega, HRN, own, Lib.hid (bel.out.trans (bel2.out.mono hsz))⟩
          case measure => simp [intOf]; try omega
end Go.Proofs.Ytgamodmenlhedaa.cf
