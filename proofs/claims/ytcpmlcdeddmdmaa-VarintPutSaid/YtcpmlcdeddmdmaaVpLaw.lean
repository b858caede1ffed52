/- VarintPut: the walk of the law: for every slice of bytes, every number and every int the law returns true and changes nothing that was there. -/
import Derived.Test.YtcpmlcdeddmdmaaZig
namespace Go.Proofs.Ytcpmlcdeddmdmaa.vp
open Go.RowKit
set_option linter.unusedVariables false

set_option maxHeartbeats 1000000 in
theorem law (A : Option Addr) (n c : Nat) (l : List Nat) (v : Nat) (hv : v < 18446744073709551616) (i : Int) (h0 : -9223372036854775808 ≤ i) (h1 : i ≤ 9223372036854775807) (w : World) (hb : Bs w w.heap.size A n l) (hn : n ≤ maxLen) :
    Calls Try.prog 6 #[.slice A n c, .int .u64 v, .int .i64 i] w fun e w' => e = .returned (.bool true) ∧ Below w.heap.size w w' := by
  have HV := Lib.hid hv
  have H0 := Lib.hid h0
  have H1 := Lib.hid h1
  clear hv h0 h1
  unfold maxLen at hn
  by_cases hle : n ≤ 1000
  · go_enter Try.func6, Try.ntmps6
    go_wp2_with fail
    refine (awake01 w).mono ?_
    rintro e w1 ⟨rfl, rfl⟩
    go_wp2_with fail
    refine (put_any A n c l v HV.out w _ hb (Nat.le_refl _) (by omega)).mono ?_
    rintro e w1 ⟨r1, rfl, own1, bel1⟩
    have hb1 := hb.below bel1
    have hs1 := bel1.size
    obtain ⟨A1, c1, rfl, hm1⟩ := own_form own1
    have B1 := Bs.of_own own1 (by intro x hx; rcases List.mem_append.1 hx with h | h; exact hb.2 x h; exact put_lt v HV.out x h)
    have HB := Lib.hid bel1
    clear bel1 own1
    generalize hL : l ++ put v = L at *
    have HL := Lib.hid hL
    clear hL
    go_wp2_with fail
    refine (refput_any A n c l v HV.out w1 _ hb1 hs1 (by omega)).mono ?_
    rintro e w2 ⟨r2, rfl, own2, bel2⟩
    rw [HL.out] at own2
    have hb2 := hb1.below (bel2.mono hs1)
    have hs2 := bel2.size
    obtain ⟨A2, c2, rfl, hm2⟩ := own_form own2
    have B2 := Bs.of_own own2 B1.2
    have B1' := (B1.below bel2).more hs2
    have HB2 := Lib.hid (HB.out.trans (bel2.mono hs1))
    clear bel2 own2 B1 hb1 HB
    go_wp2_with fail
    refine (same_true A1 A2 _ c1 _ c2 L w2 _ B1' B2 hm1 hm2).mono ?_
    rintro e w3 ⟨rfl, q, rfl⟩
    have hb3 := hb2.drewN q
    clear B1' B2
    go_wp2_with fail
    refine (putint_any A n c l i H0.out H1.out _ _ hb3 (by simp; omega) (by omega)).mono ?_
    rintro e w4 ⟨r4, rfl, own4, bel4⟩
    simp only [drewN_heap] at own4 bel4
    have hs4 := bel4.size
    simp only [drewN_heap] at hs4
    have hb4 := hb3.below (bel4.mono (by omega))
    have B4 := fresh_bytes own4 (bytes_append hb.2 (put_lt _ (zz_lt i H0.out H1.out)))
    have HB4 := Lib.hid (HB2.out.trans ((below_drewN (Below.refl _ _) q).trans (bel4.mono (by omega))))
    clear own4 bel4 hb3 HB2 hb2
    obtain ⟨A4, c4, rfl, hm4, B4⟩ := B4
    generalize hM : l ++ put (zz i) = M at *
    have HM := Lib.hid hM
    clear hM
    go_wp2_with fail
    refine (refputint_any A n c l i H0.out H1.out _ _ hb4 (by omega) (by omega)).mono ?_
    rintro e w5 ⟨r5, rfl, own5, bel5⟩
    rw [HM.out] at own5
    have hs5 := bel5.size
    have B4' := (B4.below bel5).more hs5
    obtain ⟨A5, c5, rfl, hm5, B5⟩ := fresh_bytes own5 B4.2
    have HB5 := Lib.hid (HB4.out.trans (bel5.mono (by omega)))
    clear own5 bel5 B4 hb4 HB4
    go_wp2_with fail
    refine (same_true A4 A5 _ c4 _ c5 M w5 _ B4' B5 hm4 hm5).mono ?_
    rintro e w6 ⟨rfl, q', rfl⟩
    clear B4' B5
    go_wp2_with fail
    refine (len_any v HV.out _).mono ?_
    rintro e w7 ⟨rfl, rfl⟩
    go_wp2_with fail
    refine (reflen_any v HV.out _).mono ?_
    rintro e w8 ⟨rfl, rfl⟩
    go_wp2
    go_ret
    exact ⟨rfl, below_drewN HB5.out q'⟩
  · have hgt : (1000 : Int) < (n : Int) := by omega
    go_enter Try.func6, Try.ntmps6
    go_wp2_with fail
    refine (awake01 w).mono ?_
    rintro e w1 ⟨rfl, rfl⟩
    go_wp2
    go_ret
    exact ⟨rfl, Below.refl _ _⟩
end Go.Proofs.Ytcpmlcdeddmdmaa.vp
