/- Contracts: Uint and Int of the program and of the reference. -/
import Derived.Test.YtinfeglhjmnlaaaDoorGHp
namespace Go.Proofs.YtinfeglhjmnlaaaDoor
open Go.RowKit
set_option linter.unusedVariables false

def retU (r : Nat × Nat × Nat) : Ending := .returned (.tuple #[.int .u64 (r.1 : Nat), .int .i64 (r.2.1 : Nat), .int .i64 (r.2.2 : Nat)])
theorem retU_eq {x y z : Int} {p q t : Nat} {r : Nat × Nat × Nat} (h : r = (p, q, t)) (hx : x = (p : Int)) (hy : y = (q : Int)) (hz : z = (t : Int)) :
    Ending.returned (.tuple #[.int .u64 x, .int .i64 y, .int .i64 z]) = retU r := by rw [h, hx, hy, hz]; rfl

set_option maxHeartbeats 4000000 in
set_option maxRecDepth 10000 in
theorem uint_any (A : Option Addr) (n c : Nat) (l : List Nat) (x : Int) (h0 : -9223372036854775808 ≤ x) (h1 : x ≤ 9223372036854775807) (w : World) (B : Nat) (hb : Bs w B A n l) (hn : n ≤ 4000000) :
    Calls Tryd.prog 114 #[.slice A n c, .int .i64 x] w fun e w' => e = retU (rdU l x) ∧ w = w' := by
  have HL := Lib.hid hb.len
  by_cases hx : 0 ≤ x ∧ x ≤ n
  · obtain ⟨hx0, hx1⟩ := hx
    obtain ⟨a, rfl⟩ := Int.eq_ofNat_of_zero_le hx0
    have HR : Hid (rdF (10 - 0) l (a + 0) 0 (Int.toNat 0) = rdU l a) := by
      have := HL.out
      show rdF 10 l a 0 0 = rdU l (a : Int)
      unfold rdU
      rw [if_pos (by omega)]
      simp
    clear h0 h1 hx0
    go_enter Tryd.func114, Tryd.ntmps114
    go_wp2
    go_loop [7, 8] (fun v i => ∃ (k : Nat) (y : Int), k ≤ 10 ∧ i = .int .i64 k ∧ v = .int .u64 y ∧ (k ≤ 9 → ∃ u : Nat, y = u ∧ u < 128 ^ k) ∧ Hid (rdF (10 - k) l (a + k) k y.toNat = rdU l a)) (fun _ i => 10 - (intOf i).toNat)
    case atStart => exact ⟨0, 0, by omega, rfl, rfl, fun _ => ⟨0, rfl, by simp⟩, HR⟩
    case round =>
      clear HR
      obtain ⟨k, y, hk, rfl, rfl, hy, H⟩ := hrel
      by_cases hk9 : k ≤ 9
      · obtain ⟨u, rfl, hu⟩ := hy hk9
        obtain ⟨f, hf⟩ : ∃ f, 10 - k = f + 1 := ⟨9 - k, by omega⟩
        have hf2 : f = 10 - (k + 1) := by omega
        have hu63 : u < 9223372036854775808 := Nat.lt_of_lt_of_le hu (pow_128_le hk9)
        have HU := Lib.hid hu
        have HU63 := Lib.hid hu63
        have HF := Lib.hid hf
        have HF2 := Lib.hid hf2
        clear hf hf2 hu hu63 hy
        by_cases hp : a + k < n
        · obtain ⟨ad, rfl, hbl, hcell⟩ := hb.at_ hp
          have hc := hb.lt (a + k)
          have HP : Hid (a + k < l.length) := by rw [HL.out]; exact hp
          generalize hcc : l.getD (a + k) 0 = c at *
          have HC := Lib.hid hcc
          clear hcc hb
          have hand : bits .and .u8 (c : Int) 127 = ((c % 128 : Nat) : Int) := by
            have := u8_and_nat c 127 hc (by decide)
            rw [and127 c hc] at this
            exact this
          by_cases hc128 : 128 ≤ c
          · have hbig := rdF_big (f := f) (k := k) (v := u) HP.out HC.out hc128
            have HB := Lib.hid hbig
            clear hbig
            by_cases hk8 : k ≤ 8
            · have hor := or_shift u k (c % 128) HU.out (Nat.lt_of_lt_of_le (Nat.mul_lt_mul_of_lt_of_le (show c % 128 < 128 by omega) (pow_128_le hk8) (by decide)) (by decide)) (by have := HU63.out; omega)
              have hlt : u + c % 128 * 128 ^ k < 128 ^ (k + 1) := by
                have h1 := HU.out
                have h2 : c % 128 * 128 ^ k ≤ 127 * 128 ^ k := Nat.mul_le_mul_right _ (by omega)
                rw [Nat.pow_succ]
                omega
              have HOR := Lib.hid hor
              have HLT := Lib.hid hlt
              clear hor hlt
              go_wp2
              go_round
              case rel => exact ⟨k + 1, _, by omega, by go_num, by rw [show (c : Int) % 128 = ((c % 128 : Nat) : Int) by omega, HOR.out], fun _ => ⟨_, rfl, HLT.out⟩, Lib.hid (by have h := H.out; rw [HF.out, Int.toNat_natCast, HB.out] at h; rw [← HF2.out, Int.toNat_natCast, ← Nat.add_assoc]; exact h)⟩
              case measure => simp [intOf]; omega
            · have hf0 : f = 0 := by have := HF.out; omega
              subst hf0
              go_wp2
              go_round
              case rel => exact ⟨k + 1, _, by omega, by go_num, rfl, fun h => absurd h (by omega), Lib.hid (by have h := H.out; rw [HF.out, Int.toNat_natCast, HB.out] at h; rw [show 10 - (k + 1) = 0 by omega]; simp only [rdF] at h ⊢; exact h)⟩
              case measure => simp [intOf]; omega
          · have hc1 : c % 128 = c := by omega
            rw [hc1] at hand
            clear hc1
            by_cases hbad : (k = 9 ∧ 1 < c) ∨ (0 < k ∧ c = 0)
            · have hres := rdF_bad (f := f) (v := u) HP.out HC.out hc128 hbad
              have hr : rdU l a = (0, 0, 2) := by have h := H.out; rw [HF.out, Int.toNat_natCast, hres] at h; exact h.symm
              have HRR := Lib.hid hr
              clear hres hr H HF HF2
              go_wp2
              all_goals first
                | (go_ret3; rw [HRR.out]; exact ⟨rfl, rfl⟩)
                | (exfalso; omega)
                | (exfalso; simp at *; omega)
            · have hres := rdF_ok (f := f) (v := u) HP.out HC.out hc128 hbad
              have hr : rdU l a = (u + c * 128 ^ k, a + k + 1, 0) := by have h := H.out; rw [HF.out, Int.toNat_natCast, hres] at h; exact h.symm
              have HRR := Lib.hid hr
              have hmul : c * 128 ^ k < 18446744073709551616 := by
                rcases Nat.lt_or_ge k 9 with h9 | h9
                · exact Nat.lt_of_lt_of_le (Nat.mul_lt_mul_of_lt_of_le (show c < 128 by omega) (pow_128_le (show k ≤ 8 by omega)) (by decide)) (by decide)
                · have : k = 9 := by omega
                  subst this
                  have : c ≤ 1 := by omega
                  exact Nat.lt_of_le_of_lt (Nat.mul_le_mul_right _ this) (by decide)
              have hor := or_shift u k c HU.out hmul (by have := HU63.out; omega)
              have HOR := Lib.hid hor
              clear hres hr H HF HF2 hmul hor
              go_wp2
              all_goals first
                | (go_ret3; exact ⟨retU_eq HRR.out HOR.out (by omega) (by omega), rfl⟩)
                | (exfalso; omega)
                | (exfalso; simp at *; omega)
        · have hres := rdF_short (f := f) (l := l) (p := a + k) (k := k) (v := u) (by rw [HL.out]; exact hp)
          have hr : rdU l a = (0, 0, 1) := by have h := H.out; rw [HF.out, Int.toNat_natCast, hres] at h; exact h.symm
          have HRR := Lib.hid hr
          clear hres hr hb H HF HF2
          go_wp2
          go_ret3
          rw [HRR.out]
          exact ⟨rfl, rfl⟩
      · have hk10 : k = 10 := by omega
        subst hk10
        have hr : rdU l a = (0, 0, 2) := by have h := H.out; simp [rdF] at h; exact h.symm
        have HRR := Lib.hid hr
        clear hr hb H hy
        go_wp2
        go_ret3
        rw [HRR.out]
        exact ⟨rfl, rfl⟩
  · have hr : rdU l x = (0, 0, 1) := by
      have := HL.out
      unfold rdU
      rw [if_neg (by omega)]
    have HR := Lib.hid hr
    clear hr hb
    have hx' : x < 0 ∨ (n : Int) < x := by omega
    go_enter Tryd.func114, Tryd.ntmps114
    rcases hx' with h | h
    all_goals
      go_wp2
      go_ret3
      rw [HR.out]
      exact ⟨rfl, rfl⟩

set_option maxHeartbeats 4000000 in
set_option maxRecDepth 10000 in
theorem refuint_any (A : Option Addr) (n c : Nat) (l : List Nat) (x : Int) (h0 : -9223372036854775808 ≤ x) (h1 : x ≤ 9223372036854775807) (w : World) (B : Nat) (hb : Bs w B A n l) (hn : n ≤ 4000000) :
    Calls Tryd.prog 115 #[.slice A n c, .int .i64 x] w fun e w' => e = retU (rdU l x) ∧ w = w' := by
  have HL := Lib.hid hb.len
  by_cases hx : 0 ≤ x ∧ x ≤ n
  · obtain ⟨hx0, hx1⟩ := hx
    obtain ⟨a, rfl⟩ := Int.eq_ofNat_of_zero_le hx0
    have HR : Hid (rdF (10 - 0) l (a + 0) 0 (Int.toNat 0) = rdU l a) := by
      have := HL.out
      show rdF 10 l a 0 0 = rdU l (a : Int)
      unfold rdU
      rw [if_pos (by omega)]
      simp
    clear h0 h1 hx0
    go_enter Tryd.func115, Tryd.ntmps115
    go_wp2
    go_loop [7, 8] (fun v i => ∃ (k : Nat) (y : Int), k ≤ 10 ∧ i = .int .i64 k ∧ v = .int .u64 y ∧ (k ≤ 9 → ∃ u : Nat, y = u ∧ u < 128 ^ k) ∧ Hid (rdF (10 - k) l (a + k) k y.toNat = rdU l a)) (fun _ i => 10 - (intOf i).toNat)
    case atStart => exact ⟨0, 0, by omega, rfl, rfl, fun _ => ⟨0, rfl, by simp⟩, HR⟩
    case round =>
      clear HR
      obtain ⟨k, y, hk, rfl, rfl, hy, H⟩ := hrel
      by_cases hk9 : k ≤ 9
      · obtain ⟨u, rfl, hu⟩ := hy hk9
        obtain ⟨f, hf⟩ : ∃ f, 10 - k = f + 1 := ⟨9 - k, by omega⟩
        have hf2 : f = 10 - (k + 1) := by omega
        have hu63 : u < 9223372036854775808 := Nat.lt_of_lt_of_le hu (pow_128_le hk9)
        have HU := Lib.hid hu
        have HU63 := Lib.hid hu63
        have HF := Lib.hid hf
        have HF2 := Lib.hid hf2
        clear hf hf2 hu hu63 hy
        by_cases hp : a + k < n
        · obtain ⟨ad, rfl, hbl, hcell⟩ := hb.at_ hp
          have hc := hb.lt (a + k)
          have HP : Hid (a + k < l.length) := by rw [HL.out]; exact hp
          generalize hcc : l.getD (a + k) 0 = c at *
          have HC := Lib.hid hcc
          clear hcc hb
          have hand : bits .and .u8 (c : Int) 127 = ((c % 128 : Nat) : Int) := by
            have := u8_and_nat c 127 hc (by decide)
            rw [and127 c hc] at this
            exact this
          by_cases hc128 : 128 ≤ c
          · have hbig := rdF_big (f := f) (k := k) (v := u) HP.out HC.out hc128
            have HB := Lib.hid hbig
            clear hbig
            by_cases hk8 : k ≤ 8
            · have hor := or_shift u k (c % 128) HU.out (Nat.lt_of_lt_of_le (Nat.mul_lt_mul_of_lt_of_le (show c % 128 < 128 by omega) (pow_128_le hk8) (by decide)) (by decide)) (by have := HU63.out; omega)
              have hlt : u + c % 128 * 128 ^ k < 128 ^ (k + 1) := by
                have h1 := HU.out
                have h2 : c % 128 * 128 ^ k ≤ 127 * 128 ^ k := Nat.mul_le_mul_right _ (by omega)
                rw [Nat.pow_succ]
                omega
              have HOR := Lib.hid hor
              have HLT := Lib.hid hlt
              clear hor hlt
              have ht9 : ((k : Int) == 9) = false := by simp; omega
              go_wp2
              go_round
              case rel => exact ⟨k + 1, _, by omega, by go_num, by rw [show (c : Int) % 128 = ((c % 128 : Nat) : Int) by omega, HOR.out], fun _ => ⟨_, rfl, HLT.out⟩, Lib.hid (by have h := H.out; rw [HF.out, Int.toNat_natCast, HB.out] at h; rw [← HF2.out, Int.toNat_natCast, ← Nat.add_assoc]; exact h)⟩
              case measure => simp [intOf]; omega
            · have hf0 : f = 0 := by have := HF.out; omega
              subst hf0
              have ht9 : ((k : Int) == 9) = true := by simp; omega
              have hr : rdU l a = (0, 0, 2) := by have h := H.out; rw [HF.out, Int.toNat_natCast, HB.out] at h; simp only [rdF] at h; exact h.symm
              have HRR := Lib.hid hr
              clear hr H HF HF2 HB
              go_wp2
              go_ret3
              rw [HRR.out]
              exact ⟨rfl, rfl⟩
          · have hc1 : c % 128 = c := by omega
            rw [hc1] at hand
            clear hc1
            by_cases hbad : (k = 9 ∧ 1 < c) ∨ (0 < k ∧ c = 0)
            · have hres := rdF_bad (f := f) (v := u) HP.out HC.out hc128 hbad
              have hr : rdU l a = (0, 0, 2) := by have h := H.out; rw [HF.out, Int.toNat_natCast, hres] at h; exact h.symm
              have HRR := Lib.hid hr
              clear hres hr H HF HF2
              go_wp2
              all_goals first
                | (go_ret3; rw [HRR.out]; exact ⟨rfl, rfl⟩)
                | (exfalso; omega)
                | (exfalso; simp at *; omega)
            · have hres := rdF_ok (f := f) (v := u) HP.out HC.out hc128 hbad
              have hr : rdU l a = (u + c * 128 ^ k, a + k + 1, 0) := by have h := H.out; rw [HF.out, Int.toNat_natCast, hres] at h; exact h.symm
              have HRR := Lib.hid hr
              have hmul : c * 128 ^ k < 18446744073709551616 := by
                rcases Nat.lt_or_ge k 9 with h9 | h9
                · exact Nat.lt_of_lt_of_le (Nat.mul_lt_mul_of_lt_of_le (show c < 128 by omega) (pow_128_le (show k ≤ 8 by omega)) (by decide)) (by decide)
                · have : k = 9 := by omega
                  subst this
                  have : c ≤ 1 := by omega
                  exact Nat.lt_of_le_of_lt (Nat.mul_le_mul_right _ this) (by decide)
              have hor := or_shift u k c HU.out hmul (by have := HU63.out; omega)
              have HOR := Lib.hid hor
              clear hres hr H HF HF2 hmul hor
              by_cases h99 : k = 9
              · have ht9 : ((k : Int) == 9) = true := by simp; omega
                have hc1 : c ≤ 1 := by omega
                have hkp : 0 < k := by omega
                have hcz : ((c : Int) == 0) = false := by simp; omega
                clear h99 hbad
                go_wp2
                go_ret3
                exact ⟨retU_eq HRR.out HOR.out (by omega) (by omega), rfl⟩
              · have ht9 : ((k : Int) == 9) = false := by simp; omega
                clear h99
                go_wp2
                all_goals first
                  | (go_ret3; exact ⟨retU_eq HRR.out HOR.out (by omega) (by omega), rfl⟩)
                  | (exfalso; omega)
        · have hres := rdF_short (f := f) (l := l) (p := a + k) (k := k) (v := u) (by rw [HL.out]; exact hp)
          have hr : rdU l a = (0, 0, 1) := by have h := H.out; rw [HF.out, Int.toNat_natCast, hres] at h; exact h.symm
          have HRR := Lib.hid hr
          clear hres hr hb H HF HF2
          go_wp2
          go_ret3
          rw [HRR.out]
          exact ⟨rfl, rfl⟩
      · have hk10 : k = 10 := by omega
        subst hk10
        have hr : rdU l a = (0, 0, 2) := by have h := H.out; simp [rdF] at h; exact h.symm
        have HRR := Lib.hid hr
        clear hr hb H hy
        go_wp2
        go_ret3
        rw [HRR.out]
        exact ⟨rfl, rfl⟩
  · have hr : rdU l x = (0, 0, 1) := by
      have := HL.out
      unfold rdU
      rw [if_neg (by omega)]
    have HR := Lib.hid hr
    clear hr hb
    have hx' : x < 0 ∨ (n : Int) < x := by omega
    go_enter Tryd.func115, Tryd.ntmps115
    rcases hx' with h | h
    all_goals
      go_wp2
      go_ret3
      rw [HR.out]
      exact ⟨rfl, rfl⟩
end Go.Proofs.YtinfeglhjmnlaaaDoor
