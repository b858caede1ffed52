/- The varint of a number as a plain list of numbers below 256, and the zigzag number. -/
import Derived.Test.YtinfeglhjmnlaaaDoorGBa
namespace Go.Proofs.YtinfeglhjmnlaaaDoor

def putF : Nat → Nat → List Nat
  | 0, v => [v]
  | f + 1, v => if v < 128 then [v] else (v % 128 + 128) :: putF f (v / 128)
def put (v : Nat) : List Nat := putF 9 v
def zz (v : Int) : Nat := if 0 ≤ v then (2 * v).toNat else (-2 * v - 1).toNat

theorem putF_small (f v : Nat) (h : v < 128) : putF f v = [v] := by
  cases f with
  | zero => rfl
  | succ f => simp [putF, h]
theorem putF_big (f v : Nat) (h : ¬ v < 128) : putF (f + 1) v = (v % 128 + 128) :: putF f (v / 128) := by simp [putF, h]
theorem putF_len (f v : Nat) : 1 ≤ (putF f v).length ∧ (putF f v).length ≤ f + 1 := by
  induction f generalizing v with
  | zero => simp [putF]
  | succ f ih =>
    unfold putF
    split
    · simp
    · have := ih (v / 128)
      simp only [List.length_cons]
      omega
theorem putF_lt (f v : Nat) (h : v < 2 * 128 ^ f) : ∀ x ∈ putF f v, x < 256 := by
  induction f generalizing v with
  | zero =>
    intro x hx
    simp [putF] at hx h
    omega
  | succ f ih =>
    intro x hx
    unfold putF at hx
    split at hx
    · simp at hx; omega
    · rcases List.mem_cons.1 hx with rfl | hx
      · omega
      · exact ih (v / 128) (by rw [Nat.pow_succ] at h; omega) x hx
theorem put_lt (v : Nat) (h : v < 18446744073709551616) : ∀ x ∈ put v, x < 256 := putF_lt 9 v (by omega)
theorem put_len (v : Nat) : 1 ≤ (put v).length ∧ (put v).length ≤ 10 := putF_len 9 v
theorem zz_lt (v : Int) (h : -9223372036854775808 ≤ v) (h' : v ≤ 9223372036854775807) : zz v < 18446744073709551616 := by unfold zz; split <;> omega
theorem or128 : ∀ x, x < 256 → x ||| 128 = x % 128 + 128 := by decide +kernel
theorem not_nat64 (c : Nat) (h : c < 18446744073709551616) : 18446744073709551615 ^^^ c = 18446744073709551615 - c := by
  apply Nat.eq_of_testBit_eq
  intro i
  have e : 18446744073709551615 - c = 2 ^ 64 - (c + 1) := by omega
  rw [e, Nat.testBit_two_pow_sub_succ (by omega), Nat.testBit_xor, show (18446744073709551615 : Nat) = 2 ^ 64 - 1 from rfl, Nat.testBit_two_pow_sub_one]
  by_cases hi : i < 64
  · simp [hi]
  · simp [hi]
    exact Nat.testBit_lt_two_pow (Nat.lt_of_lt_of_le h (Nat.pow_le_pow_right (n := 2) (by decide) (show 64 ≤ i by omega)))
end Go.Proofs.YtinfeglhjmnlaaaDoor
namespace Go.Proofs.YtinfeglhjmnlaaaDoor
open Go.RowKit
set_option linter.unusedVariables false

theorem same_bytes (A A' : Option Addr) (n c m d : Nat) (l r : List Nat) (w : World) (B : Nat) (hb : Bs w B A n l) (hr : Bs w B A' m r) (hn : n ≤ maxLen) (hm : m ≤ maxLen) :
    Calls Tryd.prog 21 #[.slice A n c, .slice A' m d] w fun e w' => e = .returned (.bool (decide (l = r))) ∧ ∃ k, w' = w.drewN k := by
  have hln := hb.len
  have hlm := hr.len
  have HN := Lib.hid hln
  have HM := Lib.hid hlm
  clear hln hlm
  unfold maxLen at hn hm
  by_cases hnm : n = m
  · subst hnm
    go_enter Tryd.func21, Tryd.ntmps21
    go_wp2
    go_loopw [5] (fun i wr => ∃ k : Nat, k ≤ n ∧ i = .int .i64 k ∧ Hid (l.take k = r.take k) ∧ ∃ q, wr = w.drewN q) (fun i _ => n - (intOf i).toNat)
    case atStart => exact ⟨0, by omega, rfl, Lib.hid rfl, 0, rfl⟩
    case round =>
      obtain ⟨k, hk, rfl, H, q, rfl⟩ := hrel
      by_cases hlt : k < n
      · obtain ⟨ad, rfl, hbl, hcell⟩ := hb.at_ hlt
        obtain ⟨ad', rfl, hbl', hcell'⟩ := hr.at_ hlt
        have hl2 := HN.out
        have hr2 := HM.out
        have htl := take_succ_getD l k (by omega)
        have htr := take_succ_getD r k (by omega)
        have hki : (k : Int) < (n : Int) := by omega
        have hk0 : (0 : Int) ≤ (k : Int) := by omega
        by_cases hxy : l.getD k 0 = r.getD k 0
        · have H' := Lib.hid (show l.take (k + 1) = r.take (k + 1) by rw [htl, htr, hxy, H.out])
          rw [← hxy] at hcell'
          clear htl htr hl2 hr2 hxy H hb hr
          generalize l.getD k 0 = x at *
          go_wp2_with fail
          go_quiet (fail)
          go_wp2
          go_roundw
          case rel => exact ⟨k + 1, by omega, by go_num, H', by first | exact ⟨_, rfl⟩ | exact ⟨_, World.drewN_drewN _ _ _⟩⟩
          case measure => simp [intOf]; omega
        · have H' := Lib.hid (show l ≠ r by rintro rfl; exact hxy rfl)
          have hne : (((l.getD k 0 : Nat) : Int) != ((r.getD k 0 : Nat) : Int)) = true := by rw [bne_iff_ne]; omega
          clear htl htr hl2 hr2 hxy H hb hr
          generalize l.getD k 0 = x at *
          generalize r.getD k 0 = y at *
          go_wp2_with fail
          go_quiet (fail)
          go_wp2
          go_ret
          exact ⟨ret_bool (by simpa using H'.out), by first | exact ⟨_, rfl⟩ | exact ⟨_, World.drewN_drewN _ _ _⟩⟩
      · go_wp2_with fail
        go_ret
        refine ⟨ret_bool ?_, _, rfl⟩
        have h1 := H.out
        rw [List.take_of_length_le (by have := HN.out; omega), List.take_of_length_le (by have := HM.out; omega)] at h1
        simpa using h1
  · have hne : ((n : Int) != (m : Int)) = true := by rw [bne_iff_ne]; omega
    go_enter Tryd.func21, Tryd.ntmps21
    go_wp2
    go_ret
    refine ⟨ret_bool ?_, 0, rfl⟩
    have : l ≠ r := by
      rintro rfl
      exact hnm (HN.out.symm.trans HM.out)
    simpa using this

theorem clone_any (A : Option Addr) (n c : Nat) (l : List Nat) (w : World) (B : Nat) (hb : Bs w B A n l) (hB : B ≤ w.heap.size) (hn : n ≤ 140737488355328) :
    Calls Tryd.prog 97 #[.slice A n c] w fun e w' => ∃ v, e = .returned v ∧ w'.ownsRow w.heap.size 5 1 v n (nb l) ∧ Below w.heap.size w w' := by
  have he := fun W : World => Lib.run_eql_slice_nil (P := Tryd.prog) W 22 5 A n c 0 0 Tryd.underlying22
  obtain ⟨i0, hi0, hz0, hz1, hz2⟩ := info_parts info_u8
  cases A with
  | none =>
    obtain ⟨rfl, rfl⟩ := hb.none_n
    go_enter Tryd.func97, Tryd.ntmps97
    go_wp2
    go_ret
    exact ⟨_, rfl, World.ownsRow_nil _ _ _ _, Below.refl _ _⟩
  | some a =>
    go_enter Tryd.func97, Tryd.ntmps97
    go_wp2_with (at_builtin; refine wpList_append_any _ rfl (.tmp 5) (.tmp 6) _ rfl w.heap.size 5 i0 _ 1 1 Tryd.underlying22 hi0 hz0 hz1 hz2 rfl (by omega) (.slice (some ⟨w.heap.size, 0, none⟩) 0 0) 0 [] rfl (World.ownsRow_lit w #[] 0 (Nat.le_refl _) (by simp) (by simp)) B (some a) n c (nb l) rfl (hb.1.alloc hB _) (nb_one l) (by unfold maxLen; omega) (by omega) (by simp) ?_; intro v1 w1 hown1 hg1 hat1)
    go_ret
    exact ⟨_, rfl, by simpa using hown1, below_append ((Below.refl _ _).alloc (Nat.le_refl _) _) (World.ownsRow_lit (size := 1) w #[] 0 (Nat.le_refl _) (by simp) (by simp)) hg1 (Nat.le_refl _) (by simp)⟩

theorem or_u8 (u : Nat) : bits .or .u8 ((u : Int) % 256) 128 = ((u % 128 + 128 : Nat) : Int) := by
  have h := u8_or_nat (u % 256) 128 (by omega) (by decide)
  rw [or128 _ (by omega), show u % 256 % 128 = u % 128 by omega] at h
  exact h

set_option maxHeartbeats 1000000 in
set_option maxRecDepth 10000 in
theorem refput_any (A : Option Addr) (n c : Nat) (l : List Nat) (v : Nat) (hv : v < 18446744073709551616) (w : World) (B : Nat) (hb : Bs w B A n l) (hB : B ≤ w.heap.size) (hn : n ≤ 140737488355000) :
    Calls Tryd.prog 37 #[.slice A n c, .int .u64 v] w fun e w' => ∃ r, e = .returned r ∧ w'.ownsRow w.heap.size 5 1 r (l ++ put v).length (nb (l ++ put v)) ∧ Below w.heap.size w w' := by
  have HV := Lib.hid hv
  clear hv
  obtain ⟨i0, hi0, hz0, hz1, hz2⟩ := info_parts info_u8
  go_enter Tryd.func37, Tryd.ntmps37
  go_wp2_with (at_builtin; refine wpList_append_any _ rfl (.const (.slice none 0 0)) (.tmp 6) _ rfl w.heap.size 5 i0 _ 1 1 Tryd.underlying22 hi0 hz0 hz1 hz2 rfl (by omega) (.slice none 0 0) 0 [] rfl (World.ownsRow_nil _ _ _ _) B A n c (nb l) rfl hb.1 (nb_one l) (by unfold maxLen; omega) (by omega) (by simp) ?_; intro o1 w1 own1' hg1' hat1')
  have own1 : w1.ownsRow w.heap.size 5 1 o1 n (nb l) := by simpa using own1'
  have bel1 : Below w.heap.size w w1 := below_append (Below.refl _ _) (World.ownsRow_nil w w.heap.size 5 1) hg1' (Nat.le_refl _) (by simp)
  clear own1' hg1' hat1' 
  have hlen := hb.len
  have HL := Lib.hid hlen
  clear hlen hb
  go_wp2
  go_loopw [1, 5] (fun x o wr => ∃ (f u : Nat) (pre : List Nat), u < 2 * 128 ^ f ∧ f ≤ 9 ∧ x = .int .u64 u ∧ Hid (pre ++ putF f u = l ++ put v) ∧ wr.ownsRow w.heap.size 5 1 o pre.length (nb pre) ∧ Hid (Below w.heap.size w wr)) (fun x _ _ => (intOf x).toNat)
  case atStart => exact ⟨9, v, l, by have := HV.out; omega, by omega, rfl, Lib.hid rfl, by rw [HL.out]; exact own1, Lib.hid bel1⟩
  case round =>
    obtain ⟨f, u, pre, hu, hf, rfl, H, own, bel⟩ := hrel
    have hsz := bel.out.size
    have hpl : pre.length + (putF f u).length = n + (put v).length := by have := congrArg List.length H.out; simp only [List.length_append, HL.out] at this; exact this
    have hp10 := put_len v
    have hpf := (putF_len f u).1
    have hpre : pre.length ≤ 140737488355100 := by omega
    clear hpl hp10 hpf
    by_cases hlt : u < 128
    · have HP := Lib.hid (putF_small f u hlt)
      clear hu
      go_wp2_with (at_builtin; refine wpList_append_any _ rfl (.tmp 18) (.tmp 21) _ rfl w.heap.size 5 i0 _ 1 1 Tryd.underlying22 hi0 hz0 hz1 hz2 rfl (by omega) _ pre.length (nb pre) rfl (own.alloc _) (wr.heap.size + 1) (some ⟨wr.heap.size, 0, none⟩) 1 1 (nb [u]) rfl (reads_one wr _ _) (nb_one _) (by unfold maxLen; omega) (by omega) (by simp; omega) ?_; intro v1 w2 hown1 hg1 hat1)
      go_ret
      refine ⟨_, rfl, ?_, below_append (bel.out.alloc hsz _) (own.alloc _) hg1 (Nat.le_refl _) (by simp; omega)⟩
      have h := H.out
      rw [HP.out] at h
      rw [← h, nb_append]
      simpa using hown1
    · have hf0 : f ≠ 0 := by
        rintro rfl
        simp at hu
        omega
      obtain ⟨g, rfl⟩ := Nat.exists_eq_succ_of_ne_zero hf0
      have HP := Lib.hid (putF_big g u hlt)
      have HU := Lib.hid (show u / 128 < 2 * 128 ^ g by rw [Nat.succ_eq_add_one, Nat.pow_succ] at hu; omega)
      have hor := or_u8 u
      clear hu
      go_wp2_with (at_builtin; refine wpList_append_any _ rfl (.tmp 10) (.tmp 14) _ rfl w.heap.size 5 i0 _ 1 1 Tryd.underlying22 hi0 hz0 hz1 hz2 rfl (by omega) _ pre.length (nb pre) rfl (own.alloc _) (wr.heap.size + 1) (some ⟨wr.heap.size, 0, none⟩) 1 1 (nb [u % 128 + 128]) rfl (reads_one wr _ _) (nb_one _) (by unfold maxLen; omega) (by omega) (by simp; omega) ?_; intro v1 w2 hown1 hg1 hat1)
      go_roundw
      case rel => exact ⟨g, u / 128, pre ++ [u % 128 + 128], HU.out, by omega, by go_num, Lib.hid (by have h := H.out; rw [HP.out] at h; simpa using h), by rw [nb_append]; simpa using hown1, Lib.hid (below_append (bel.out.alloc hsz _) (own.alloc _) hg1 (Nat.le_refl _) (by simp; omega))⟩
      case measure => simp [intOf]; omega
end Go.Proofs.YtinfeglhjmnlaaaDoor
