/- The contracts of both checksums. -/
import Derived.Test.YtcpmlcdeddmdmaaCrcPlain
namespace Go.Proofs.Ytcpmlcdeddmdmaa
open Go.RowKit
set_option linter.unusedVariables false

theorem u32_and1 (c : Nat) (h : c < 4294967296) : bits .and .u32 (c : Int) 1 = ((c % 2 : Nat) : Int) := by
  have := u32_and_nat c 1 h (by decide)
  rw [nat_mask1] at this
  exact this
theorem not_nat32 (c : Nat) (h : c < 4294967296) : 4294967295 ^^^ c = 4294967295 - c := by
  apply Nat.eq_of_testBit_eq
  intro i
  have e : 4294967295 - c = 2 ^ 32 - (c + 1) := by omega
  rw [e, Nat.testBit_two_pow_sub_succ (by omega), Nat.testBit_xor, show (4294967295 : Nat) = 2 ^ 32 - 1 from rfl, Nat.testBit_two_pow_sub_one]
  by_cases hi : i < 32
  · simp [hi]
  · simp [hi]
    exact Nat.testBit_lt_two_pow (Nat.lt_of_lt_of_le h (Nat.pow_le_pow_right (n := 2) (by decide) (show 32 ≤ i by omega)))
theorem u32_not (c : Nat) (h : c < 4294967296) : bits .xor .u32 IntKind.u32.max (c : Int) = ((4294967295 - c : Nat) : Int) := by
  rw [← not_nat32 c h]
  exact u32_xor_nat 4294967295 c (by decide) h
theorem crc_step_one (c : Nat) (h : c < 4294967296) (h1 : (bits .and .u32 (c : Int) 1 != 0) = true) : bits .xor .u32 ((c : Int) / 2) 3988292384 = ((crcStep c : Nat) : Int) := by
  rw [u32_and1 c h] at h1
  have h2 : c % 2 = 1 := by
    have : ((c % 2 : Nat) : Int) ≠ 0 := by simpa using h1
    omega
  unfold crcStep
  rw [if_pos h2]
  exact u32_xor_nat (c / 2) 3988292384 (by omega) (by decide)
theorem crc_step_zero (c : Nat) (h : c < 4294967296) (h1 : (bits .and .u32 (c : Int) 1 != 0) = false) : (c : Int) / 2 = ((crcStep c : Nat) : Int) := by
  rw [u32_and1 c h] at h1
  have h2 : ¬ c % 2 = 1 := by
    have : ((c % 2 : Nat) : Int) = 0 := by simpa using h1
    omega
  unfold crcStep
  rw [if_neg h2]
  omega
theorem crc_ref_one (c : Nat) (h : c < 4294967296) (h1 : (bits .and .u32 (c : Int) 1 == 1) = true) : bits .xor .u32 ((c : Int) / 2) 3988292384 = ((crcStep c : Nat) : Int) := by
  refine crc_step_one c h ?_
  have : bits .and .u32 (c : Int) 1 = 1 := by simpa using h1
  rw [this]; rfl
theorem crc_ref_zero (c : Nat) (h : c < 4294967296) (h1 : (bits .and .u32 (c : Int) 1 == 1) = false) : (c : Int) / 2 = ((crcStep c : Nat) : Int) := by
  refine crc_step_zero c h ?_
  rw [u32_and1 c h] at h1 ⊢
  have h2 : ((c % 2 : Nat) : Int) ≠ 1 := by simpa using h1
  have : ((c % 2 : Nat) : Int) = 0 := by omega
  rw [this]; rfl
set_option maxHeartbeats 1000000 in
theorem crc_any (A : Option Addr) (n c : Nat) (l : List Nat) (w : World) (B : Nat) (hb : Bs w B A n l) (hn : n ≤ maxLen) :
    Calls Try.prog 29 #[.slice A n c] w fun e w' => e = .returned (.int .u32 (crc l : Nat)) ∧ w = w' := by
  have hlen := hb.len
  have HL := Lib.hid hlen
  clear hlen
  unfold maxLen at hn
  go_enter Try.func29, Try.ntmps29
  go_wp2
  go_loop [3, 8] (fun v i => ∃ k : Nat, k ≤ n ∧ i = .int .i64 k ∧ v = .int .u32 (crcAll 4294967295 (l.take k) : Nat)) (fun _ i => n - (intOf i).toNat)
  case atStart => exact ⟨0, Nat.zero_le _, rfl, rfl⟩
  case round =>
    obtain ⟨k, hk, rfl, rfl⟩ := hrel
    have hcl : crcAll 4294967295 (l.take k) < 4294967296 := crcAll_lt (by decide) _ fun x hx => hb.2 x (List.mem_of_mem_take hx)
    by_cases hlt : k < n
    · obtain ⟨ad, rfl, hbl, hcell⟩ := hb.at_ hlt
      have hx := hb.lt k
      have hsn : crcAll 4294967295 (l.take (k + 1)) = crcByte (crcAll 4294967295 (l.take k)) (l.getD k 0) := by
        rw [take_succ_getD l k (by have := HL.out; omega), crcAll_snoc]
      have HS := Lib.hid hsn
      clear hsn hb
      generalize l.getD k 0 = x at *
      generalize crcAll 4294967295 (l.take k) = cc at *
      have hxor := u32_xor_nat cc x hcl (by omega)
      go_wp2
      clear hxor
      go_loop [3, 16] (fun v i => ∃ j : Nat, j ≤ 8 ∧ i = .int .i64 j ∧ v = .int .u32 (crcSteps j (cc ^^^ x) : Nat)) (fun _ i => 8 - (intOf i).toNat)
      case atStart => exact ⟨0, by omega, rfl, rfl⟩
      case round =>
        obtain ⟨j, hj, rfl, rfl⟩ := hrel
        have hsl : crcSteps j (cc ^^^ x) < 4294967296 := crcSteps_lt (Nat.xor_lt_two_pow (n := 32) hcl (by omega)) j
        by_cases hlj : j < 8
        · go_wp2
          · go_round
            case rel => exact ⟨j + 1, by omega, by go_num, by show _ = Value.int .u32 ((crcStep (crcSteps j (cc ^^^ x)) : Nat) : Int); rw [crc_step_one _ hsl (by assumption)]⟩
            case measure => simp [intOf]; omega
          · go_round
            case rel => exact ⟨j + 1, by omega, by go_num, by show _ = Value.int .u32 ((crcStep (crcSteps j (cc ^^^ x)) : Nat) : Int); rw [crc_step_zero _ hsl (by assumption)]⟩
            case measure => simp [intOf]; omega
        · have hj8 : j = 8 := by omega
          subst hj8
          go_wp2
          go_round
          case rel => exact ⟨k + 1, by omega, by go_num, by rw [HS.out]; rfl⟩
          case measure => simp [intOf]; omega
    · have hkn : l.take k = l := List.take_of_length_le (by have := HL.out; omega)
      rw [hkn] at hcl ⊢
      have hnot := u32_not _ hcl
      have HK := Lib.hid hkn
      clear hkn hb
      go_wp2
      go_ret
      exact ⟨rfl, rfl⟩

set_option maxHeartbeats 1000000 in
theorem refcrc_any (A : Option Addr) (n c : Nat) (l : List Nat) (w : World) (B : Nat) (hb : Bs w B A n l) (hn : n ≤ maxLen) :
    Calls Try.prog 31 #[.slice A n c] w fun e w' => e = .returned (.int .u32 (crc l : Nat)) ∧ w = w' := by
  have hlen := hb.len
  have HL := Lib.hid hlen
  clear hlen
  unfold maxLen at hn
  go_enter Try.func31, Try.ntmps31
  go_wp2
  go_loop [3, 4] (fun v i => ∃ k : Nat, k ≤ n ∧ i = .int .i64 k ∧ v = .int .u32 (crcAll 4294967295 (l.take k) : Nat)) (fun _ i => n - (intOf i).toNat)
  case atStart => exact ⟨0, Nat.zero_le _, rfl, rfl⟩
  case round =>
    obtain ⟨k, hk, rfl, rfl⟩ := hrel
    have hcl : crcAll 4294967295 (l.take k) < 4294967296 := crcAll_lt (by decide) _ fun x hx => hb.2 x (List.mem_of_mem_take hx)
    by_cases hlt : k < n
    · obtain ⟨ad, rfl, hbl, hcell⟩ := hb.at_ hlt
      have hx := hb.lt k
      have hsn : crcAll 4294967295 (l.take (k + 1)) = crcByte (crcAll 4294967295 (l.take k)) (l.getD k 0) := by
        rw [take_succ_getD l k (by have := HL.out; omega), crcAll_snoc]
      have HS := Lib.hid hsn
      clear hsn hb
      generalize l.getD k 0 = x at *
      generalize crcAll 4294967295 (l.take k) = cc at *
      have hxor := u32_xor_nat cc x hcl (by omega)
      go_wp2
      clear hxor
      go_loop [3, 5] (fun v i => ∃ j : Nat, j ≤ 8 ∧ i = .int .i64 j ∧ v = .int .u32 (crcSteps j (cc ^^^ x) : Nat)) (fun _ i => 8 - (intOf i).toNat)
      case atStart => exact ⟨0, by omega, rfl, rfl⟩
      case round =>
        obtain ⟨j, hj, rfl, rfl⟩ := hrel
        have hsl : crcSteps j (cc ^^^ x) < 4294967296 := crcSteps_lt (Nat.xor_lt_two_pow (n := 32) hcl (by omega)) j
        by_cases hlj : j < 8
        · go_wp2
          · go_round
            case rel => exact ⟨j + 1, by omega, by go_num, by show _ = Value.int .u32 ((crcStep (crcSteps j (cc ^^^ x)) : Nat) : Int); rw [crc_ref_one _ hsl (by assumption)]⟩
            case measure => simp [intOf]; omega
          · go_round
            case rel => exact ⟨j + 1, by omega, by go_num, by show _ = Value.int .u32 ((crcStep (crcSteps j (cc ^^^ x)) : Nat) : Int); rw [crc_ref_zero _ hsl (by assumption)]⟩
            case measure => simp [intOf]; omega
        · have hj8 : j = 8 := by omega
          subst hj8
          go_wp2
          go_round
          case rel => exact ⟨k + 1, by omega, by go_num, by rw [HS.out]; rfl⟩
          case measure => simp [intOf]; omega
    · have hkn : l.take k = l := List.take_of_length_le (by have := HL.out; omega)
      rw [hkn] at hcl ⊢
      have hnot := u32_not _ hcl
      have HK := Lib.hid hkn
      clear hkn hb
      go_wp2
      go_ret
      exact ⟨rfl, rfl⟩
end Go.Proofs.Ytcpmlcdeddmdmaa
