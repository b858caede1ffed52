/- VarintReadInvertsPut: the walk of the law. -/
import Derived.Test.YtcpmlcdeddmdmaaRdi
import Derived.Test.YtcpmlcdeddmdmaaRdInv
import Derived.Test.YtcpmlcdeddmdmaaZig
namespace Go.Proofs.Ytcpmlcdeddmdmaa.vi
open Go.RowKit
set_option linter.unusedVariables false

theorem own_cap {w : World} {base n c : Nat} {e : TypeId} {size : Nat} {A : Option Addr} {xs : List Value} (h : w.ownsRow base e size (.slice A n c) n xs) : n ≤ c ∧ c ≤ maxLen := by
  rcases h.2 with ⟨h1, rfl⟩ | ⟨g, cap, cur, h1, _, _, h2, h3, _⟩
  · simp at h1
    omega
  · simp at h1
    omega
set_option maxHeartbeats 2000000 in
set_option maxRecDepth 10000 in
theorem law (A : Option Addr) (n c : Nat) (l : List Nat) (A' : Option Addr) (m d : Nat) (r : List Nat) (v : Nat) (hv : v < 18446744073709551616) (i : Int) (h0 : -9223372036854775808 ≤ i) (h1 : i ≤ 9223372036854775807) (w : World)
    (hb : Bs w w.heap.size A n l) (hn : n ≤ maxLen) (hr : Bs w w.heap.size A' m r) (hm : m ≤ maxLen) :
    Calls Try.prog 11 #[.slice A n c, .slice A' m d, .int .u64 v, .int .i64 i] w fun e w' => e = .returned (.bool true) ∧ Below w.heap.size w w' := by
  have HV := Lib.hid hv
  have H0 := Lib.hid h0
  have H1 := Lib.hid h1
  clear hv h0 h1
  unfold maxLen at hn hm
  have HL := Lib.hid hb.len
  have HR := Lib.hid hr.len
  by_cases hle : n ≤ 1000 ∧ m ≤ 1000
  · obtain ⟨hle, hle'⟩ := hle
    obtain ⟨i0, hi0, hz0, hz1, hz2⟩ := info_parts info_u8
    go_enter Try.func11, Try.ntmps11
    go_wp2_with fail
    refine (awake01 w).mono ?_
    rintro e w1 ⟨rfl, rfl⟩
    go_wp2_with fail
    refine (put_any A n c l v HV.out w _ hb (Nat.le_refl _) (by omega)).mono ?_
    rintro e w1 ⟨r1, rfl, own1, bel1⟩
    have hp10 := put_len v
    have hz10 := put_len (zz i)
    have hs1 := bel1.size
    have hr1 := hr.below bel1
    obtain ⟨A1, c1, rfl, hm1, B1⟩ := fresh_bytes own1 (bytes_append hb.2 (put_lt v HV.out))
    have HB1 := Lib.hid bel1
    have HB0 := Lib.hid hb
    have HPV := Lib.hid (put_lt v HV.out)
    clear bel1 own1 hb hr
    have hl1 : (l ++ put v).length = n + (put v).length := by simp [HL.out]
    have HL1 := Lib.hid hl1
    have hlb : (l ++ put v).length ≤ 1010 := by omega
    clear hl1
    generalize hL1 : l ++ put v = L1 at *
    have HE1 := Lib.hid hL1
    clear hL1
    go_wp2_with fail
    refine (putint_any A1 _ c1 _ i H0.out H1.out w1 _ B1 (Nat.le_refl _) (by omega)).mono ?_
    rintro e w2 ⟨r2, rfl, own2, bel2⟩
    have hs2 := bel2.size
    have hr2 := hr1.below (bel2.mono hs1)
    have HB2 := Lib.hid (HB1.out.trans (bel2.mono hs1))
    have hl2 : (L1 ++ put (zz i)).length ≤ 1020 := by rw [List.length_append]; omega
    have hL2b : ∀ x ∈ L1 ++ put (zz i), x < 256 := bytes_append B1.2 (put_lt _ (zz_lt i H0.out H1.out))
    have HL2b := Lib.hid hL2b
    have hN0 : n ≤ (L1 ++ put (zz i)).length := by rw [List.length_append]; have := HL1.out; omega
    have hmb : m ≤ 1000 := hle'
    clear bel2 B1 hr1 HB1 hL2b
    generalize hL2 : L1 ++ put (zz i) = L2 at *
    have HE2 := Lib.hid hL2
    clear hL2
    go_wp2_with (at_builtin; refine wpList_append_any _ rfl (.tmp 40) (.tmp 41) _ rfl w1.heap.size 5 i0 _ 1 1 Try.underlying22 hi0 hz0 hz1 hz2 rfl (by omega) r2 _ _ rfl own2 _ A' m d (nb r) rfl hr2.1 (nb_one r) (by unfold maxLen; omega) (by omega) (by omega) ?_; intro r3 w3 own3 hg3 hat3; obtain ⟨A3, c3, rfl, hm3⟩ := own_form own3)
    have hbel3 : Below w.heap.size w w3 := HB2.out.grown hg3 (by omega) fun k hk => by have := (own2.lt k hk).1; omega
    rw [← nb_append] at own3
    obtain ⟨hcap, hcm⟩ := own_cap own3
    have B3 := Bs.of_own own3 (bytes_append HL2b.out hr2.2)
    have hs3 := hbel3.size
    have hb3 := HB0.out.below hbel3
    have HBel3 := Lib.hid hbel3
    have hq : ((L2.length + m : Nat) : Int) = (L2.length : Int) + (m : Int) := by omega
    have hlen3 : (L2 ++ r).length = L2.length + m := by rw [List.length_append, HR.out]
    have hlen2 : L2.length = L1.length + (put (zz i)).length := by rw [← HE2.out, List.length_append]
    have HLEN := Lib.hid hlen3
    have HLEN2 := Lib.hid hlen2
    have hN : n ≤ L2.length + m := by omega
    have hNb : L2.length + m ≤ 3000 := by omega
    have hLm : m ≤ L2.length + m := by omega
    clear own3 hg3 hat3 own2 hr2 hbel3 HB2 hq hlen3 hlen2
    generalize hN3 : L2.length + m = N3 at *
    have HN3 := Lib.hid hN3
    clear hN3
    go_wp2_with fail
    have hU : rdU (L2 ++ r) ((n : Nat) : Int) = (v, L1.length, 0) := by
      have h := rdU_of_put l (put (zz i) ++ r) v HV.out
      rw [HL.out, ← HL1.out] at h
      rw [← HE2.out, ← HE1.out, List.append_assoc]
      rw [← HE1.out] at h
      exact h
    have hI : rdU (L2 ++ r) ((L1.length : Nat) : Int) = (zz i, L2.length, 0) := by
      have h := rdU_of_put L1 r (zz i) (zz_lt i H0.out H1.out)
      rw [← HLEN2.out, HE2.out] at h
      exact h
    have HU := Lib.hid hU
    have HI := Lib.hid hI
    have HA := Lib.hid HL1.out
    have htake : (L2 ++ r).take n = l := by rw [← HE2.out, ← HE1.out, List.append_assoc, List.append_assoc, ← HL.out, List.take_left]
    have HT := Lib.hid htake
    clear hU hI htake
    refine (uint_any A3 N3 c3 (L2 ++ r) n (by omega) (by omega) w3 _ B3 (by omega)).mono ?_
    rintro e w4 ⟨rfl, rfl⟩
    rw [HU.out]
    unfold retU
    go_wp2_with fail
    refine (int_any A3 N3 c3 (L2 ++ r) (L1.length : Nat) (by omega) (by omega) w3 _ B3 (by omega)).mono ?_
    rintro e w4 ⟨rfl, rfl⟩
    rw [HI.out]
    unfold retI
    rw [uz_zz]
    have hen : (N3 : Int) - (m : Int) = (L2.length : Int) := by have := HN3.out; omega
    have hbt := B3.take hN
    rw [HT.out] at hbt
    clear B3
    generalize hp : (put v).length = pl at *
    have HP := Lib.hid hp
    have hadd : (n : Int) + (pl : Int) = (L1.length : Int) := by have := HA.out; omega
    clear hp
    have hlv := len_any v HV.out w3
    rw [HP.out] at hlv
    have HLV := Lib.hid hlv
    clear hlv
    go_wp2_with fail
    refine HLV.out.mono ?_
    rintro e w4 ⟨rfl, rfl⟩
    have hki : (n : Int) ≤ (c3 : Int) := by omega
    have hki2 : n ≤ c3 := by omega
    unfold maxLen at hcm
    have hbl3 := hb3.more hs3
    go_wp2_with fail
    refine (same_true A3 A _ _ _ _ l w3 _ hbt hbl3 (by unfold maxLen; omega) (by unfold maxLen; omega)).mono ?_
    rintro e w5 ⟨rfl, q, rfl⟩
    go_wp2
    go_ret
    exact ⟨rfl, below_drewN HBel3.out q⟩
  · have hgt : (1000 : Int) < (n : Int) ∨ (n : Int) ≤ 1000 ∧ (1000 : Int) < (m : Int) := by omega
    rcases hgt with h | ⟨h, h'⟩
    all_goals
      go_enter Try.func11, Try.ntmps11
      go_wp2_with fail
      refine (awake01 w).mono ?_
      rintro e w1 ⟨rfl, rfl⟩
      go_wp2
      go_ret
      exact ⟨rfl, Below.refl _ _⟩
end Go.Proofs.Ytcpmlcdeddmdmaa.vi
