/- CRC-32 as plain functions on numbers, and that a change of one byte changes it. -/
import Derived.Test.YtinfeglhjmnlaaaDoorGBa
namespace Go.Proofs.YtinfeglhjmnlaaaDoor

def crcStep (c : Nat) : Nat := if c % 2 = 1 then (c / 2) ^^^ 3988292384 else c / 2
def crcSteps : Nat → Nat → Nat
  | 0, c => c
  | j + 1, c => crcStep (crcSteps j c)
def crcByte (c x : Nat) : Nat := crcSteps 8 (c ^^^ x)
def crcAll (c : Nat) (l : List Nat) : Nat := l.foldl crcByte c
def crc (l : List Nat) : Nat := 4294967295 - crcAll 4294967295 l

theorem crcStep_lt {c : Nat} (h : c < 4294967296) : crcStep c < 4294967296 := by
  unfold crcStep
  split
  · exact Nat.xor_lt_two_pow (n := 32) (by omega) (by decide)
  · omega
theorem crcSteps_lt {c : Nat} (h : c < 4294967296) (j : Nat) : crcSteps j c < 4294967296 := by
  induction j with
  | zero => exact h
  | succ j ih => exact crcStep_lt ih
theorem crcByte_lt {c x : Nat} (h : c < 4294967296) (hx : x < 256) : crcByte c x < 4294967296 :=
  crcSteps_lt (Nat.xor_lt_two_pow (n := 32) h (by omega)) 8
theorem crcAll_lt {c : Nat} (h : c < 4294967296) (l : List Nat) (hl : ∀ x ∈ l, x < 256) : crcAll c l < 4294967296 := by
  induction l generalizing c with
  | nil => exact h
  | cons x l ih => exact ih (crcByte_lt h (hl x (by simp))) fun y hy => hl y (by simp [hy])
theorem crcAll_snoc (c : Nat) (l : List Nat) (x : Nat) : crcAll c (l ++ [x]) = crcByte (crcAll c l) x := by simp [crcAll]
theorem crcAll_append (c : Nat) (l m : List Nat) : crcAll c (l ++ m) = crcAll (crcAll c l) m := by simp [crcAll]

/-- a step tells its argument: the highest bit of the result is the lowest bit of the argument -/
theorem crcStep_inj {a b : Nat} (ha : a < 4294967296) (hb : b < 4294967296) (h : crcStep a = crcStep b) : a = b := by
  have top : ∀ c, c < 4294967296 → (crcStep c).testBit 31 = decide (c % 2 = 1) := by
    intro c hc
    unfold crcStep
    have h31 : (c / 2).testBit 31 = false := Nat.testBit_lt_two_pow (by omega)
    split
    · rename_i h1
      rw [Nat.testBit_xor, h31]
      simp [h1]
      decide
    · rename_i h1
      rw [h31]
      simp [h1]
  have e := congrArg (fun n => n.testBit 31) h
  simp only [top a ha, top b hb, decide_eq_decide] at e
  unfold crcStep at h
  by_cases h1 : a % 2 = 1
  · rw [if_pos h1, if_pos (e.1 h1)] at h
    have := congrArg (· ^^^ 3988292384) h
    simp only [Nat.xor_assoc, Nat.xor_self, Nat.xor_zero] at this
    have := e.1 h1
    omega
  · have h2 : ¬ b % 2 = 1 := fun x => h1 (e.2 x)
    rw [if_neg h1, if_neg h2] at h
    omega
theorem crcSteps_inj {a b : Nat} (ha : a < 4294967296) (hb : b < 4294967296) (j : Nat) (h : crcSteps j a = crcSteps j b) : a = b := by
  induction j with
  | zero => exact h
  | succ j ih => exact ih (crcStep_inj (crcSteps_lt ha j) (crcSteps_lt hb j) h)
theorem xor_cancel {a b c : Nat} (h : a ^^^ c = b ^^^ c) : a = b := by
  have := congrArg (· ^^^ c) h
  simpa [Nat.xor_assoc] using this
theorem xor_cancel_left {a b c : Nat} (h : c ^^^ a = c ^^^ b) : a = b := by
  rw [Nat.xor_comm c a, Nat.xor_comm c b] at h
  exact xor_cancel h
theorem crcByte_inj_left {a b x : Nat} (ha : a < 4294967296) (hb : b < 4294967296) (hx : x < 256) (h : crcByte a x = crcByte b x) : a = b :=
  xor_cancel (crcSteps_inj (Nat.xor_lt_two_pow (n := 32) ha (by omega)) (Nat.xor_lt_two_pow (n := 32) hb (by omega)) 8 h)
theorem crcByte_inj_right {a x y : Nat} (ha : a < 4294967296) (hx : x < 256) (hy : y < 256) (h : crcByte a x = crcByte a y) : x = y :=
  xor_cancel_left (crcSteps_inj (Nat.xor_lt_two_pow (n := 32) ha (by omega)) (Nat.xor_lt_two_pow (n := 32) ha (by omega)) 8 h)
theorem crcAll_inj {a b : Nat} (ha : a < 4294967296) (hb : b < 4294967296) (l : List Nat) (hl : ∀ x ∈ l, x < 256) (h : crcAll a l = crcAll b l) : a = b := by
  induction l generalizing a b with
  | nil => exact h
  | cons x l ih =>
    have hx := hl x (by simp)
    exact crcByte_inj_left ha hb hx (ih (crcByte_lt ha hx) (crcByte_lt hb hx) (fun y hy => hl y (by simp [hy])) h)
theorem crc_lt (l : List Nat) : crc l < 4294967296 := by unfold crc; omega
/-- one byte changed: another checksum -/
theorem crc_set {l : List Nat} (hl : ∀ x ∈ l, x < 256) {k y : Nat} (hk : k < l.length) (hy : y < 256) (hne : y ≠ l[k]) : crc (l.set k y) ≠ crc l := by
  intro h
  have hd : ∀ x ∈ l.drop (k + 1), x < 256 := fun x hx => hl x (List.mem_of_mem_drop hx)
  have ht : ∀ x ∈ l.take k, x < 256 := fun x hx => hl x (List.mem_of_mem_take hx)
  have hs : ∀ x ∈ l.set k y, x < 256 := fun x hx => by
    rcases List.mem_or_eq_of_mem_set hx with h | h
    · exact hl x h
    · omega
  have b1 := crcAll_lt (c := 4294967295) (by decide) _ hl
  have b2 := crcAll_lt (c := 4294967295) (by decide) _ hs
  have b3 := crcAll_lt (c := 4294967295) (by decide) _ ht
  unfold crc at h
  have e : crcAll 4294967295 (l.set k y) = crcAll 4294967295 l := by omega
  have hl2 : l = l.take k ++ ([l[k]] ++ l.drop (k + 1)) := by simp
  rw [List.set_eq_take_append_cons_drop, if_pos hk] at e
  have e2 : crcAll 4294967295 l = crcAll 4294967295 (l.take k ++ ([l[k]] ++ l.drop (k + 1))) := congrArg _ hl2
  rw [e2, show y :: l.drop (k + 1) = [y] ++ l.drop (k + 1) from rfl, crcAll_append, crcAll_append, crcAll_append, crcAll_append] at e
  have hlk := hl l[k] (List.getElem_mem hk)
  have := crcAll_inj (crcByte_lt b3 hy) (crcByte_lt b3 hlk) _ hd e
  exact hne (crcByte_inj_right b3 hy hlk this)
theorem xor_ne {x m : Nat} (hm : m ≠ 0) : x ^^^ m ≠ x := by
  intro h
  have : x ^^^ m = x ^^^ 0 := by simpa using h
  exact hm (xor_cancel_left this)
end Go.Proofs.YtinfeglhjmnlaaaDoor
namespace Go.Proofs.YtinfeglhjmnlaaaDoor
open Go.RowKit
set_option linter.unusedVariables false

theorem u32_and1 (c : Nat) (h : c < 4294967296) : bits .and .u32 (c : Int) 1 = ((c % 2 : Nat) : Int) := by
  have := u32_and_nat c 1 h (by decide)
  rw [nat_mask1] at this
  exact this
theorem not_nat32 (c : Nat) (h : c < 4294967296) : 4294967295 ^^^ c = 4294967295 - c := by
  apply Nat.eq_of_testBit_eq
  intro i
  have e : 4294967295 - c = 2 ^ 32 - (c + 1) := by omega
  rw [e, Nat.testBit_two_pow_sub_succ (by omega), Nat.testBit_xor, show (4294967295 : Nat) = 2 ^ 32 - 1 from rfl, Nat.testBit_two_pow_sub_one]
  by_cases hi : i < 32
  · simp [hi]
  · simp [hi]
    exact Nat.testBit_lt_two_pow (Nat.lt_of_lt_of_le h (Nat.pow_le_pow_right (n := 2) (by decide) (show 32 ≤ i by omega)))
theorem u32_not (c : Nat) (h : c < 4294967296) : bits .xor .u32 IntKind.u32.max (c : Int) = ((4294967295 - c : Nat) : Int) := by
  rw [← not_nat32 c h]
  exact u32_xor_nat 4294967295 c (by decide) h
theorem crc_step_one (c : Nat) (h : c < 4294967296) (h1 : (bits .and .u32 (c : Int) 1 != 0) = true) : bits .xor .u32 ((c : Int) / 2) 3988292384 = ((crcStep c : Nat) : Int) := by
  rw [u32_and1 c h] at h1
  have h2 : c % 2 = 1 := by
    have : ((c % 2 : Nat) : Int) ≠ 0 := by simpa using h1
    omega
  unfold crcStep
  rw [if_pos h2]
  exact u32_xor_nat (c / 2) 3988292384 (by omega) (by decide)
theorem crc_step_zero (c : Nat) (h : c < 4294967296) (h1 : (bits .and .u32 (c : Int) 1 != 0) = false) : (c : Int) / 2 = ((crcStep c : Nat) : Int) := by
  rw [u32_and1 c h] at h1
  have h2 : ¬ c % 2 = 1 := by
    have : ((c % 2 : Nat) : Int) = 0 := by simpa using h1
    omega
  unfold crcStep
  rw [if_neg h2]
  omega
theorem crc_ref_one (c : Nat) (h : c < 4294967296) (h1 : (bits .and .u32 (c : Int) 1 == 1) = true) : bits .xor .u32 ((c : Int) / 2) 3988292384 = ((crcStep c : Nat) : Int) := by
  refine crc_step_one c h ?_
  have : bits .and .u32 (c : Int) 1 = 1 := by simpa using h1
  rw [this]; rfl
theorem crc_ref_zero (c : Nat) (h : c < 4294967296) (h1 : (bits .and .u32 (c : Int) 1 == 1) = false) : (c : Int) / 2 = ((crcStep c : Nat) : Int) := by
  refine crc_step_zero c h ?_
  rw [u32_and1 c h] at h1 ⊢
  have h2 : ((c % 2 : Nat) : Int) ≠ 1 := by simpa using h1
  have : ((c % 2 : Nat) : Int) = 0 := by omega
  rw [this]; rfl
set_option maxHeartbeats 1000000 in
theorem crc_any (A : Option Addr) (n c : Nat) (l : List Nat) (w : World) (B : Nat) (hb : Bs w B A n l) (hn : n ≤ maxLen) :
    Calls Tryd.prog 90 #[.slice A n c] w fun e w' => e = .returned (.int .u32 (crc l : Nat)) ∧ w = w' := by
  have hlen := hb.len
  have HL := Lib.hid hlen
  clear hlen
  unfold maxLen at hn
  go_enter Tryd.func90, Tryd.ntmps90
  go_wp2
  go_loop [3, 8] (fun v i => ∃ k : Nat, k ≤ n ∧ i = .int .i64 k ∧ v = .int .u32 (crcAll 4294967295 (l.take k) : Nat)) (fun _ i => n - (intOf i).toNat)
  case atStart => exact ⟨0, Nat.zero_le _, rfl, rfl⟩
  case round =>
    obtain ⟨k, hk, rfl, rfl⟩ := hrel
    have hcl : crcAll 4294967295 (l.take k) < 4294967296 := crcAll_lt (by decide) _ fun x hx => hb.2 x (List.mem_of_mem_take hx)
    by_cases hlt : k < n
    · obtain ⟨ad, rfl, hbl, hcell⟩ := hb.at_ hlt
      have hx := hb.lt k
      have hsn : crcAll 4294967295 (l.take (k + 1)) = crcByte (crcAll 4294967295 (l.take k)) (l.getD k 0) := by
        rw [take_succ_getD l k (by have := HL.out; omega), crcAll_snoc]
      have HS := Lib.hid hsn
      clear hsn hb
      generalize l.getD k 0 = x at *
      generalize crcAll 4294967295 (l.take k) = cc at *
      have hxor := u32_xor_nat cc x hcl (by omega)
      go_wp2
      clear hxor
      go_loop [3, 16] (fun v i => ∃ j : Nat, j ≤ 8 ∧ i = .int .i64 j ∧ v = .int .u32 (crcSteps j (cc ^^^ x) : Nat)) (fun _ i => 8 - (intOf i).toNat)
      case atStart => exact ⟨0, by omega, rfl, rfl⟩
      case round =>
        obtain ⟨j, hj, rfl, rfl⟩ := hrel
        have hsl : crcSteps j (cc ^^^ x) < 4294967296 := crcSteps_lt (Nat.xor_lt_two_pow (n := 32) hcl (by omega)) j
        by_cases hlj : j < 8
        · go_wp2
          · go_round
            case rel => exact ⟨j + 1, by omega, by go_num, by show _ = Value.int .u32 ((crcStep (crcSteps j (cc ^^^ x)) : Nat) : Int); rw [crc_step_one _ hsl (by assumption)]⟩
            case measure => simp [intOf]; omega
          · go_round
            case rel => exact ⟨j + 1, by omega, by go_num, by show _ = Value.int .u32 ((crcStep (crcSteps j (cc ^^^ x)) : Nat) : Int); rw [crc_step_zero _ hsl (by assumption)]⟩
            case measure => simp [intOf]; omega
        · have hj8 : j = 8 := by omega
          subst hj8
          go_wp2
          go_round
          case rel => exact ⟨k + 1, by omega, by go_num, by rw [HS.out]; rfl⟩
          case measure => simp [intOf]; omega
    · have hkn : l.take k = l := List.take_of_length_le (by have := HL.out; omega)
      rw [hkn] at hcl ⊢
      have hnot := u32_not _ hcl
      have HK := Lib.hid hkn
      clear hkn hb
      go_wp2
      go_ret
      exact ⟨rfl, rfl⟩

set_option maxHeartbeats 1000000 in
theorem refcrc_any (A : Option Addr) (n c : Nat) (l : List Nat) (w : World) (B : Nat) (hb : Bs w B A n l) (hn : n ≤ maxLen) :
    Calls Tryd.prog 75 #[.slice A n c] w fun e w' => e = .returned (.int .u32 (crc l : Nat)) ∧ w = w' := by
  have hlen := hb.len
  have HL := Lib.hid hlen
  clear hlen
  unfold maxLen at hn
  go_enter Tryd.func75, Tryd.ntmps75
  go_wp2
  go_loop [3, 4] (fun v i => ∃ k : Nat, k ≤ n ∧ i = .int .i64 k ∧ v = .int .u32 (crcAll 4294967295 (l.take k) : Nat)) (fun _ i => n - (intOf i).toNat)
  case atStart => exact ⟨0, Nat.zero_le _, rfl, rfl⟩
  case round =>
    obtain ⟨k, hk, rfl, rfl⟩ := hrel
    have hcl : crcAll 4294967295 (l.take k) < 4294967296 := crcAll_lt (by decide) _ fun x hx => hb.2 x (List.mem_of_mem_take hx)
    by_cases hlt : k < n
    · obtain ⟨ad, rfl, hbl, hcell⟩ := hb.at_ hlt
      have hx := hb.lt k
      have hsn : crcAll 4294967295 (l.take (k + 1)) = crcByte (crcAll 4294967295 (l.take k)) (l.getD k 0) := by
        rw [take_succ_getD l k (by have := HL.out; omega), crcAll_snoc]
      have HS := Lib.hid hsn
      clear hsn hb
      generalize l.getD k 0 = x at *
      generalize crcAll 4294967295 (l.take k) = cc at *
      have hxor := u32_xor_nat cc x hcl (by omega)
      go_wp2
      clear hxor
      go_loop [3, 5] (fun v i => ∃ j : Nat, j ≤ 8 ∧ i = .int .i64 j ∧ v = .int .u32 (crcSteps j (cc ^^^ x) : Nat)) (fun _ i => 8 - (intOf i).toNat)
      case atStart => exact ⟨0, by omega, rfl, rfl⟩
      case round =>
        obtain ⟨j, hj, rfl, rfl⟩ := hrel
        have hsl : crcSteps j (cc ^^^ x) < 4294967296 := crcSteps_lt (Nat.xor_lt_two_pow (n := 32) hcl (by omega)) j
        by_cases hlj : j < 8
        · go_wp2
          · go_round
            case rel => exact ⟨j + 1, by omega, by go_num, by show _ = Value.int .u32 ((crcStep (crcSteps j (cc ^^^ x)) : Nat) : Int); rw [crc_ref_one _ hsl (by assumption)]⟩
            case measure => simp [intOf]; omega
          · go_round
            case rel => exact ⟨j + 1, by omega, by go_num, by show _ = Value.int .u32 ((crcStep (crcSteps j (cc ^^^ x)) : Nat) : Int); rw [crc_ref_zero _ hsl (by assumption)]⟩
            case measure => simp [intOf]; omega
        · have hj8 : j = 8 := by omega
          subst hj8
          go_wp2
          go_round
          case rel => exact ⟨k + 1, by omega, by go_num, by rw [HS.out]; rfl⟩
          case measure => simp [intOf]; omega
    · have hkn : l.take k = l := List.take_of_length_le (by have := HL.out; omega)
      rw [hkn] at hcl ⊢
      have hnot := u32_not _ hcl
      have HK := Lib.hid hkn
      clear hkn hb
      go_wp2
      go_ret
      exact ⟨rfl, rfl⟩
end Go.Proofs.YtinfeglhjmnlaaaDoor
