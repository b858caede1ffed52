/- Contracts of the package value and of its reference: Size, Bytes, FromBytes. -/
import Derived.Test.YtgakphichcihjaaValPlain
namespace Go.Proofs.Ytgakphichcihjaa
open Go.RowKit
set_option linter.unusedVariables false
set_option maxRecDepth 10000

set_option maxRecDepth 10000 in
theorem size_any (x : Int) (h0 : -9223372036854775808 ≤ x) (h1 : x ≤ 9223372036854775807) (w : World) :
    Calls Try.prog 78 #[.int .i64 x] w fun e w' => e = .returned (.bool (sizeB x)) ∧ w = w' := by
  by_cases h : 1 ≤ x ∧ x ≤ 16
  · obtain ⟨h2, h3⟩ := h
    obtain ⟨n, rfl⟩ := Int.eq_ofNat_of_zero_le (show 0 ≤ x by omega)
    have hand := i64_and_nat n (n - 1) (by omega) (by omega)
    rw [show ((n - 1 : Nat) : Int) = (n : Int) - 1 by omega] at hand
    have HP := Lib.hid (sizeB_and n (by omega) (by omega))
    go_enter Try.func78, Try.ntmps78
    go_wp2
    go_ret
    exact ⟨ret_bool (by rw [← HP.out, Bool.eq_iff_iff, beq_iff_eq, decide_eq_true_iff]; omega), rfl⟩
  · have hp : sizeB x = false := by
      rcases hb : sizeB x with _ | _
      · rfl
      · have := (sizeB_iff x).1 hb
        omega
    have HP := Lib.hid hp
    have hx : x < 1 ∨ (1 ≤ x ∧ 16 < x) := by omega
    clear hp h
    rcases hx with h | ⟨h, h'⟩
    all_goals
      go_enter Try.func78, Try.ntmps78
      go_wp2
      go_ret
      exact ⟨ret_bool (by rw [HP.out]), rfl⟩
theorem refsize_any (x : Int) (h0 : -9223372036854775808 ≤ x) (h1 : x ≤ 9223372036854775807) (w : World) :
    Calls Try.prog 84 #[.int .i64 x] w fun e w' => e = .returned (.bool (sizeB x)) ∧ w = w' := by
  have HP : Hid (sizeB x = true ↔ x = 1 ∨ x = 2 ∨ x = 4 ∨ x = 8 ∨ x = 16) := sizeB_iff x
  go_enter Try.func84, Try.ntmps84
  go_wp2
  all_goals
    go_ret
    refine ⟨ret_bool ?_, rfl⟩
    rw [Bool.eq_iff_iff, HP.out]
    simp
    try omega

set_option maxHeartbeats 2000000 in
theorem bytes_any (a b : Nat) (ha : a < 18446744073709551616) (hb : b < 18446744073709551616) (x : Int) (h0 : -9223372036854775808 ≤ x) (h1 : x ≤ 9223372036854775807) (w : World) :
    Calls Try.prog 90 #[.agg #[.int .u64 a, .int .u64 b], .int .i64 x] w fun e w' => ∃ r, e = .returned r ∧ w'.ownsRow w.heap.size 5 1 r (if sizeB x = true then x.toNat else 0) (nb (bytesV a b (if sizeB x = true then x.toNat else 0))) ∧ Below w.heap.size w w' := by
  have hsz := fun W : World => size_any x h0 h1 W
  rcases hb : sizeB x with _ | _
  · rw [hb] at hsz
    have HS := Lib.hid hsz
    clear hsz hb
    go_enter Try.func90, Try.ntmps90
    go_wp2_with fail
    refine (HS.out _).mono ?_
    rintro e w1 ⟨rfl, rfl⟩
    go_wp2
    go_ret
    exact ⟨_, rfl, by simpa [bytesV, nb] using World.ownsRow_nil _ _ _ _, by go_grown⟩
  · rw [hb] at hsz
    have HS := Lib.hid hsz
    have hx := (sizeB_iff x).1 hb
    obtain ⟨n, rfl⟩ := Int.eq_ofNat_of_zero_le (show 0 ≤ x by omega)
    have hn : n ≤ 16 := by omega
    obtain ⟨i0, hi0, hz0, hz1, hz2⟩ := info_parts info_u8
    clear hsz hb hx h0 h1
    go_enter Try.func90, Try.ntmps90
    go_wp2_with fail
    refine (HS.out _).mono ?_
    rintro e w1 ⟨rfl, rfl⟩
    go_wp2_with fail
    go_loopw [5, 12] (fun o i wr => ∃ k : Nat, k ≤ n ∧ i = .int .i64 k ∧ wr.ownsRow (w.heap.size + 1) 5 1 o k (nb (bytesV a b k)) ∧ Hid (Below (w.heap.size + 1) (w.alloc (.cells #[.int .u64 a, .int .u64 b] 54)) wr)) (fun _ i _ => n - (intOf i).toNat)
    case atStart => exact ⟨0, by omega, rfl, World.ownsRow_nil _ _ _ _, Below.refl _ _⟩
    case round =>
      obtain ⟨k, hk, rfl, own, bel⟩ := hrel
      have hc0 : wr.cell? ⟨w.heap.size, 0, none⟩ = some (.int .u64 a) := by rw [bel.out.cell (p := ⟨w.heap.size, 0, none⟩) (Nat.lt_succ_self _)]; go_simp
      have hc1 : wr.cell? ⟨w.heap.size, 1, none⟩ = some (.int .u64 b) := by rw [bel.out.cell (p := ⟨w.heap.size, 1, none⟩) (Nat.lt_succ_self _)]; go_simp
      have hsz := bel.out.size
      simp at hsz
      by_cases hlt : k < n
      · have HV : Hid (byteV a b k = if k < 8 then a / 256 ^ k % 256 else b / 256 ^ (k - 8) % 256) := rfl
        by_cases h8 : k < 8
        · have hk8 : (k : Int) % 8 = k := by omega
          have HE : Hid ((a : Int) / 2 ^ (8 * k) % 256 = ((byteV a b k : Nat) : Int)) := by
            show (a : Int) / 2 ^ (8 * k) % 256 = ((byteV a b k : Nat) : Int)
            rw [HV.out, if_pos h8, ← pow_256]
            simp
          go_wp2_with (at_builtin; refine wpList_append_any _ rfl (.tmp 21) (.tmp 28) _ rfl (w.heap.size + 1) 5 i0 _ 1 1 Try.underlying25 hi0 hz0 hz1 hz2 rfl (by omega) _ k _ rfl (own.alloc _) (wr.heap.size + 1) (some ⟨wr.heap.size, 0, none⟩) 1 1 [.int .u8 ((a : Int) / 2 ^ (8 * k) % 256)] rfl (reads_one wr _ _) (fun u hu => by simp at hu; subst hu; rfl) (by unfold maxLen; omega) (by omega) (by simp; omega) ?_; intro v1 w2 hown1 hg1 hat1)
          go_roundw
          case rel => exact ⟨k + 1, by omega, by go_num, by rw [bytesV_succ, nb_append]; rw [HE.out] at hown1; exact hown1, Lib.hid (below_append (bel.out.alloc hsz _) (own.alloc _) hg1 (Nat.le_refl _) (by simp; omega))⟩
          case measure => simp [intOf]; omega
        · have hk8 : (k : Int) % 8 = k - 8 := by omega
          have HE : Hid ((b : Int) / 2 ^ (8 * (k - 8)) % 256 = ((byteV a b k : Nat) : Int)) := by
            show (b : Int) / 2 ^ (8 * (k - 8)) % 256 = ((byteV a b k : Nat) : Int)
            rw [HV.out, if_neg h8, ← pow_256]
            simp
          go_wp2_with (at_builtin; refine wpList_append_any _ rfl (.tmp 21) (.tmp 28) _ rfl (w.heap.size + 1) 5 i0 _ 1 1 Try.underlying25 hi0 hz0 hz1 hz2 rfl (by omega) _ k _ rfl (own.alloc _) (wr.heap.size + 1) (some ⟨wr.heap.size, 0, none⟩) 1 1 [.int .u8 ((b : Int) / 2 ^ (8 * (k - 8)) % 256)] rfl (reads_one wr _ _) (fun u hu => by simp at hu; subst hu; rfl) (by unfold maxLen; omega) (by omega) (by simp; omega) ?_; intro v1 w2 hown1 hg1 hat1)
          go_roundw
          case rel => exact ⟨k + 1, by omega, by go_num, by rw [bytesV_succ, nb_append]; rw [HE.out] at hown1; exact hown1, Lib.hid (below_append (bel.out.alloc hsz _) (own.alloc _) hg1 (Nat.le_refl _) (by simp; omega))⟩
          case measure => simp [intOf]; omega
      · go_wp2
        go_ret
        refine ⟨_, rfl, ?_, ?_⟩
        · have hkn : k = n := by omega
          subst hkn
          simpa using own_base own (Nat.le_succ _)
        · exact ((Below.refl _ _).alloc (Nat.le_refl _) _).trans (bel.out.mono (Nat.le_succ _))
end Go.Proofs.Ytgakphichcihjaa
