/- Contracts: zigzag, PutInt. -/
import Derived.Test.YtcpmlcdeddmdmaaPut
namespace Go.Proofs.Ytcpmlcdeddmdmaa
open Go.RowKit
set_option linter.unusedVariables false

theorem zz_u64 (v : Int) (h0 : -9223372036854775808 ≤ v) (h1 : v ≤ 9223372036854775807) :
    bits .xor .u64 (IntKind.u64.wrap (IntKind.u64.wrap v * 2)) (IntKind.u64.wrap (v / 9223372036854775808)) = ((zz v : Nat) : Int) := by
  unfold zz
  by_cases h : 0 ≤ v
  · rw [if_pos h]
    have e1 : IntKind.u64.wrap (IntKind.u64.wrap v * 2) = ((2 * v).toNat : Int) := by simp only [IntKind.wrap_u64]; omega
    have e2 : IntKind.u64.wrap (v / 9223372036854775808) = ((0 : Nat) : Int) := by simp only [IntKind.wrap_u64]; omega
    rw [e1, e2, u64_xor_nat _ _ (by omega) (by omega), Nat.xor_zero]
  · rw [if_neg h]
    have e1 : IntKind.u64.wrap (IntKind.u64.wrap v * 2) = ((2 * v + 18446744073709551616).toNat : Int) := by simp only [IntKind.wrap_u64]; omega
    have e2 : IntKind.u64.wrap (v / 9223372036854775808) = ((18446744073709551615 : Nat) : Int) := by simp only [IntKind.wrap_u64]; omega
    rw [e1, e2, u64_xor_nat _ _ (by omega) (by omega), Nat.xor_comm, not_nat64 _ (by omega)]
    omega
theorem zigzag_any (v : Int) (h0 : -9223372036854775808 ≤ v) (h1 : v ≤ 9223372036854775807) (w : World) :
    Calls Try.prog 62 #[.int .i64 v] w fun e w' => e = .returned (.int .u64 (zz v : Nat)) ∧ w = w' := by
  go_enter Try.func62, Try.ntmps62
  go_wp2
  go_ret
  exact ⟨ret_int (zz_u64 v h0 h1), rfl⟩
set_option maxHeartbeats 1000000 in
theorem putint_any (A : Option Addr) (n c : Nat) (l : List Nat) (v : Int) (h0 : -9223372036854775808 ≤ v) (h1 : v ≤ 9223372036854775807) (w : World) (B : Nat) (hb : Bs w B A n l) (hB : B ≤ w.heap.size) (hn : n ≤ 140737488355000) :
    Calls Try.prog 35 #[.slice A n c, .int .i64 v] w fun e w' => ∃ r, e = .returned r ∧ w'.ownsRow w.heap.size 5 1 r (l ++ put (zz v)).length (nb (l ++ put (zz v))) ∧ Below w.heap.size w w' := by
  have hz := zz_u64 v h0 h1
  have HZ := Lib.hid (zz_lt v h0 h1)
  go_enter Try.func35, Try.ntmps35
  go_wp2_with fail
  refine (put_any A n c l (zz v) HZ.out w B hb hB hn).mono ?_
  rintro e w1 ⟨r, rfl, own, bel⟩
  clear hz
  go_wp2
  go_ret
  exact ⟨_, rfl, own, bel⟩
set_option maxHeartbeats 1000000 in
theorem refputint_any (A : Option Addr) (n c : Nat) (l : List Nat) (v : Int) (h0 : -9223372036854775808 ≤ v) (h1 : v ≤ 9223372036854775807) (w : World) (B : Nat) (hb : Bs w B A n l) (hB : B ≤ w.heap.size) (hn : n ≤ 140737488355000) :
    Calls Try.prog 36 #[.slice A n c, .int .i64 v] w fun e w' => ∃ r, e = .returned r ∧ w'.ownsRow w.heap.size 5 1 r (l ++ put (zz v)).length (nb (l ++ put (zz v))) ∧ Below w.heap.size w w' := by
  have HZ := Lib.hid (zz_lt v h0 h1)
  go_enter Try.func36, Try.ntmps36
  go_wp2_with fail
  refine (zigzag_any v h0 h1 w).mono ?_
  rintro e w1 ⟨rfl, rfl⟩
  go_wp2_with fail
  refine (refput_any A n c l (zz v) HZ.out w B hb hB hn).mono ?_
  rintro e w1 ⟨r, rfl, own, bel⟩
  go_wp2
  go_ret
  exact ⟨_, rfl, own, bel⟩
theorem same_true (A A' : Option Addr) (n c m d : Nat) (l : List Nat) (w : World) (B : Nat) (hb : Bs w B A n l) (hr : Bs w B A' m l) (hn : n ≤ maxLen) (hm : m ≤ maxLen) :
    Calls Try.prog 32 #[.slice A n c, .slice A' m d] w fun e w' => e = .returned (.bool true) ∧ ∃ k, w' = w.drewN k :=
  (same_bytes A A' n c m d l l w B hb hr hn hm).mono fun e w' ⟨he, h⟩ => ⟨by rw [he]; exact ret_bool (by simp), h⟩
set_option maxRecDepth 10000 in
theorem awake01 (w : World) : Calls Try.prog 28 #[] w fun e w' => e = .returned (.bool true) ∧ w = w' := by
  go_enter Try.func28, Try.ntmps28
  go_wp2_with fail
  refine (len_any 300 (by omega) w).mono ?_
  rintro e w1 ⟨rfl, rfl⟩
  rw [show (put 300).length = 2 from rfl]
  go_wp2
  go_ret
  exact ⟨rfl, rfl⟩
end Go.Proofs.Ytcpmlcdeddmdmaa
