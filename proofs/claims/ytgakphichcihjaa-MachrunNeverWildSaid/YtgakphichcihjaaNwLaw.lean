/- MachrunNeverWild: the walk of the law. -/
import Derived.Test.YtgakphichcihjaaGJx
import Derived.Deep.CutBlock
namespace Go.Proofs.Ytgakphichcihjaa.pm
open Go.RowKit
set_option linter.unusedVariables false
set_option maxRecDepth 10000
set_option maxHeartbeats 4000000 in
theorem nw_law (A : Option Addr) (n c : Nat) (l : List Nat) (w : World) (hb : Bs w w.heap.size A n l) (hn : n ≤ maxLen) (hc : n ≤ c) :
    Calls Try.prog 6 #[.slice A n c] w fun e w' => e = .returned (.bool true) ∧ Below w.heap.size w w' := by
  have HB := Lib.hid hb
  clear hb
  go_enter Try.func6, Try.ntmps6
  go_wp2_with fail
  refine (awake12 _).mono ?_
  rintro e w1 ⟨rfl, b1⟩
  have HB1 := Lib.hid b1
  have hs1 := b1.size
  have HBS1 : Hid (Bs w1 w1.heap.size A n l) := Lib.hid ((HB.out.below b1).more hs1)
  clear b1
  go_wp2_with fail
  refine (scene_any A n c l w1 HBS1.out hn hc).mono ?_
  rintro e w2 ⟨al, p, inp, F, S, Ap, cp, iv, p', rfl, htg, hF, hS, hiw, hgt, hix, hcp, -, b2⟩
  obtain ⟨hE, hrt⟩ := tgp_rt (by omega) htg
  obtain ⟨ad, rfl⟩ := Gx.ad hgt.gx hrt.len.1
  have HRT := Lib.hid hrt
  have HE := Lib.hid hE
  have HIW := Lib.hid hiw
  have HGX := Lib.hid (hgt.gx.more (Nat.zero_le _) (Nat.le_refl _))
  have HIX := Lib.hid hix
  have HB2 : Hid (Below w.heap.size w w2) := Lib.hid (HB1.out.trans (b2.mono hs1))
  clear htg hiw hgt hix b2 hE hrt
  obtain ⟨Ai, ci, rfl, -⟩ := HIX.out
  go_upto_region 4 with (fail)
  obtain ⟨W3, hW3⟩ : ∃ W3, W3 = (w2.alloc (.cells #[.int .i64 al, .slice (some ad) p.length cp] 24)).alloc (.cells #[.int .i64 (S : Int), .int .i64 0, .int .i64 2048] 3) := ⟨_, rfl⟩
  have HK3 : Hid (Blk W3 w2.heap.size 24 #[.int .i64 al, .slice (some ad) p.length cp]) := Lib.hid (by rw [hW3]; exact (Blk.new _ _ _).alloc _)
  have HKR : Hid (Blk W3 (w2.heap.size + 1) 3 #[.int .i64 (S : Int), .int .i64 0, .int .i64 2048]) := Lib.hid (by rw [hW3]; exact Blk.newAt (by simp))
  have hB3 : Below w2.heap.size w2 W3 := by rw [hW3]; exact ((Below.refl _ _).alloc (Nat.le_refl _) _).alloc (by simp) _
  have HB3 : Hid (Below w.heap.size w W3) := Lib.hid (HB2.out.trans (hB3.mono HB2.out.size))
  have HG3 : Hid (Gx W3 0 W3.heap.size (some ad) p) := Lib.hid ((HGX.out.keep (Kp.of_below hB3 (Nat.le_refl _))).more (Nat.zero_le _) hB3.size)
  have HI3 : Hid (InX W3 W3.heap.size (.slice Ai inp.length ci) inp) := Lib.hid ((HIX.out.after hB3).more hB3.size)
  have HW3 := Lib.hid hW3
  clear hW3 hB3 HGX HIX
  obtain ⟨g3, hg3⟩ : ∃ g3, g3 = w2.heap.size := ⟨_, rfl⟩
  obtain ⟨g4, hg4⟩ : ∃ g4, g4 = w2.heap.size + 1 := ⟨_, rfl⟩
  rw [← hg3] at HK3
  rw [← hg4] at HKR
  go_upto_block 0 with (fail)
  rw [← HW3.out, ← hg4, ← hg3]
  have HSZ : Hid (S ≤ 2048) := Lib.hid (by omega)
  clear hg3 hg4 HW3 HB2
  go_wp2
  go_loopw [25] (fun v wr => ∃ j : Nat, j ≤ 3 ∧ v = .int .i64 j ∧ Hid (Below W3.heap.size W3 wr)) (fun v _ => 3 - (intOf v).toNat)
  case atStart => exact ⟨0, by omega, rfl, Lib.hid (Below.refl _ _)⟩
  case round =>
    obtain ⟨j, hj, rfl, HBr⟩ := hrel
    have hj0 : (0 : Int) ≤ (j : Int) := by omega
    obtain ⟨x0, x1, -, -, xz⟩ := (HK3.out.after HBr.out).c2
    have HKr := Lib.hid (HKR.out.after HBr.out)
    by_cases hlt : j < 3
    · have hji : (j : Int) < 3 := by omega
      obtain ⟨q, hq, hc⟩ : ∃ q : Nat, q ≤ 2048 ∧ wr.cell? ⟨g4, j, none⟩ = some (.int .i64 (q : Int)) := by
        have e : j = 0 ∨ j = 1 ∨ j = 2 := by omega
        rcases e with rfl | rfl | rfl
        · exact ⟨S, HSZ.out, HKr.out.cell 0⟩
        · exact ⟨0, by omega, HKr.out.cell 1⟩
        · exact ⟨2048, by omega, HKr.out.cell 2⟩
      have hgl := HKr.out.lt
      have HR := Lib.hid (run_o HRT.out HE.out ad cp (.slice Ai inp.length ci) inp HIW.out F q (by omega) (by omega) wr ((HG3.out.keep (Kp.of_below HBr.out (Nat.le_refl _))).more (Nat.zero_le _) HBr.out.size) ((HI3.out.after HBr.out).more HBr.out.size))
      have HW := Lib.hid (end_wild (p := p) (inp := inp) q (tpOf al q) F)
      go_wp2_with fail
      refine HR.out.mono ?_
      rintro e w5 ⟨At, ct, rfl, b5, -⟩
      have HB5 : Hid (Below W3.heap.size W3 w5) := Lib.hid (HBr.out.trans (b5.mono HBr.out.size))
      generalize endX p inp q (tpOf al q) F = M at *
      have hk6 : (M.kind == 6) = false := by rw [beq_eq_false_iff_ne]; exact HW.out
      unfold outV
      clear b5 x0 x1 xz hc hgl HR HW
      go_wp2
      go_roundw
      case rel => exact ⟨j + 1, by omega, by go_num, Lib.hid (HB5.out.alloc HB5.out.size _)⟩
      case measure => simp [intOf]; omega
    · obtain rfl : j = 3 := by omega
      go_wp2
      go_ret
      exact ⟨rfl, HB3.out.trans (HBr.out.mono HB3.out.size)⟩
end Go.Proofs.Ytgakphichcihjaa.pm
