/- Values as two words, their bytes, truncation: plain laws. -/
import Derived.Test.YtdijeijbcoeopaaDoorGBa
set_option linter.unusedVariables false
set_option maxRecDepth 10000
set_option maxHeartbeats 8000000
namespace Go.Proofs.YtdijeijbcoeopaaDoor
def sizeB (x : Int) : Bool := x == 1 || x == 2 || x == 4 || x == 8 || x == 16
theorem sizeB_iff (x : Int) : sizeB x = true ↔ x = 1 ∨ x = 2 ∨ x = 4 ∨ x = 8 ∨ x = 16 := by simp only [sizeB, Bool.or_eq_true, beq_iff_eq]; omega
theorem sizeB_and (n : Nat) (h0 : 1 ≤ n) (h1 : n ≤ 16) : decide (n &&& (n - 1) = 0) = sizeB (n : Int) := by
 have h : ∀ n : Nat, n < 17 → 1 ≤ n → decide (n &&& (n - 1) = 0) = sizeB (n : Int) := by decide +kernel
 exact h n (by omega) h0
def le : List Nat → Nat
 | [] => 0
 | c :: r => c + 256 * le r
theorem le_snoc (l : List Nat) (c : Nat) : le (l ++ [c]) = le l + c * 256 ^ l.length := by
 induction l with
 | nil => simp [le]
 | cons x l ih =>
  simp only [List.cons_append, le, ih, List.length_cons, Nat.pow_succ]
  rw [Nat.mul_add, Nat.add_assoc, Nat.mul_comm 256 (c * _), Nat.mul_assoc]
theorem le_lt (l : List Nat) (h : ∀ x ∈ l, x < 256) : le l < 256 ^ l.length := by
 induction l with
 | nil => simp [le]
 | cons x l ih =>
  have h1 := ih fun y hy => h y (by simp [hy])
  have h2 := h x (by simp)
  simp only [le, List.length_cons, Nat.pow_succ]
  omega
def digs (a m : Nat) : List Nat := (List.range m).map fun k => a / 256 ^ k % 256
theorem digs_succ (a m : Nat) : digs a (m + 1) = digs a m ++ [a / 256 ^ m % 256] := by simp [digs, List.range_succ]
theorem digs_len (a m : Nat) : (digs a m).length = m := by simp [digs]
theorem le_digs (a m : Nat) : le (digs a m) = a % 256 ^ m := by
 induction m with
 | zero => simp [digs, le, Nat.mod_one]
 | succ m ih =>
  rw [digs_succ, le_snoc, ih, digs_len, Nat.pow_succ, Nat.mod_mul, Nat.mul_comm (256 ^ m)]
def byteV (a b k : Nat) : Nat := if k < 8 then a / 256 ^ k % 256 else b / 256 ^ (k - 8) % 256
def bytesV (a b n : Nat) : List Nat := (List.range n).map (byteV a b)
theorem bytesV_succ (a b n : Nat) : bytesV a b (n + 1) = bytesV a b n ++ [byteV a b n] := by simp [bytesV, List.range_succ]
theorem bytesV_lt (a b n : Nat) : ∀ x ∈ bytesV a b n, x < 256 := by
 intro x hx
 obtain ⟨k, _, rfl⟩ := List.mem_map.1 hx
 unfold byteV
 split <;> exact Nat.mod_lt _ (by decide)
theorem bytesV_take (a b n : Nat) : (bytesV a b n).take 8 = digs a (min n 8) := by
 apply List.ext_getElem?
 intro i
 simp only [bytesV, digs, List.getElem?_take, List.getElem?_map]
 by_cases h8 : i < 8
 · rw [if_pos h8]
   by_cases hn : i < n
   · rw [List.getElem?_range hn, List.getElem?_range (by omega)]
     simp [byteV, h8]
   · rw [List.getElem?_eq_none (by simp; omega), List.getElem?_eq_none (by simp; omega)]
     rfl
 · rw [if_neg h8, List.getElem?_eq_none (by simp; omega)]
   rfl
theorem bytesV_drop (a b n : Nat) (hn : n ≤ 16) : ((bytesV a b n).drop 8).take 8 = digs b (n - 8) := by
 apply List.ext_getElem?
 intro i
 simp only [bytesV, digs, List.getElem?_take, List.getElem?_drop, List.getElem?_map]
 by_cases h8 : i < n - 8
 · rw [if_pos (by omega), List.getElem?_range (by omega), List.getElem?_range h8]
   simp [byteV]
   intro h; omega
 · rw [List.getElem?_eq_none (l := List.range (n - 8)) (by simp; omega), List.getElem?_eq_none (l := List.range n) (by simp; omega)]
   split <;> rfl
def loV (l : List Nat) : Nat := le (l.take 8)
def hiV (l : List Nat) : Nat := le ((l.drop 8).take 8)
theorem pow256_8 : 256 ^ 8 = 18446744073709551616 := by decide
theorem le8_lt (l : List Nat) (h : ∀ x ∈ l, x < 256) (hl : l.length ≤ 8) : le l < 18446744073709551616 := by
 have := le_lt l h
 have h2 : 256 ^ l.length ≤ 256 ^ 8 := Nat.pow_le_pow_right (by decide) hl
 rw [← pow256_8]
 omega
theorem loV_lt (l : List Nat) (h : ∀ x ∈ l, x < 256) : loV l < 18446744073709551616 := le8_lt _ (fun x hx => h x (List.mem_of_mem_take hx)) (by simp; omega)
theorem hiV_lt (l : List Nat) (h : ∀ x ∈ l, x < 256) : hiV l < 18446744073709551616 := le8_lt _ (fun x hx => h x (List.mem_of_mem_drop (List.mem_of_mem_take hx))) (by simp; omega)
theorem loV_snoc (l : List Nat) (c : Nat) (h : l.length < 8) : loV (l ++ [c]) = loV l + c * 256 ^ l.length := by
 unfold loV
 rw [List.take_of_length_le (by simp; omega), List.take_of_length_le (by omega), le_snoc]
theorem hiV_snoc_lo (l : List Nat) (c : Nat) (h : l.length < 8) : hiV (l ++ [c]) = hiV l := by
 unfold hiV
 rw [List.drop_of_length_le (by simp; omega), List.drop_of_length_le (by omega)]
theorem loV_snoc_hi (l : List Nat) (c : Nat) (h : 8 ≤ l.length) : loV (l ++ [c]) = loV l := by
 unfold loV
 rw [List.take_append_of_le_length h]
theorem hiV_snoc (l : List Nat) (c : Nat) (h : 8 ≤ l.length) (h' : l.length < 16) : hiV (l ++ [c]) = hiV l + c * 256 ^ (l.length - 8) := by
 unfold hiV
 rw [List.drop_append_of_le_length h, List.take_of_length_le (by simp; omega), List.take_of_length_le (by simp; omega), le_snoc, List.length_drop]
def truncV (a b n : Nat) : Nat × Nat := (a % 256 ^ (min n 8), b % 256 ^ (n - 8))
theorem loV_bytes (a b n : Nat) : loV (bytesV a b n) = (truncV a b n).1 := by unfold loV truncV; rw [bytesV_take, le_digs]
theorem hiV_bytes (a b n : Nat) (h : n ≤ 16) : hiV (bytesV a b n) = (truncV a b n).2 := by unfold hiV truncV; rw [bytesV_drop _ _ _ h, le_digs]
theorem truncV_lt (a b n : Nat) (ha : a < 18446744073709551616) (hb : b < 18446744073709551616) : (truncV a b n).1 < 18446744073709551616 ∧ (truncV a b n).2 < 18446744073709551616 :=
 ⟨Nat.lt_of_le_of_lt (Nat.mod_le _ _) ha, Nat.lt_of_le_of_lt (Nat.mod_le _ _) hb⟩
theorem pow_256 (k : Nat) : 2 ^ (8 * k) = 256 ^ k := by rw [Nat.pow_mul]
theorem or_shift8 (u k c : Nat) (hu : u < 256 ^ k) (h : c * 256 ^ k < 18446744073709551616) (hu64 : u < 18446744073709551616) :
 bits .or .u64 (u : Int) (IntKind.u64.wrap ((c : Int) * 2 ^ (8 * k))) = ((u + c * 256 ^ k : Nat) : Int) := by
 have e : (c : Int) * 2 ^ (8 * k) = ((c * 256 ^ k : Nat) : Int) := by
  rw [← pow_256]
  simp
 have e2 : IntKind.u64.wrap ((c : Int) * 2 ^ (8 * k)) = ((c * 256 ^ k : Nat) : Int) := by
  rw [e, IntKind.wrap_u64]
  omega
 rw [e2, u64_or_nat _ _ hu64 h, Nat.or_comm, nat_join (8 * k) (c * 256 ^ k) u (by rw [pow_256]; simp) (by rw [pow_256]; exact hu)]
 congr 1
 omega
open Go.RowKit
set_option maxRecDepth 10000 in
theorem size_any (x : Int) (h0 : -9223372036854775808 ≤ x) (h1 : x ≤ 9223372036854775807) (w : World) :
 Calls Tryd.prog 69 #[.int .i64 x] w fun e w' => e = .returned (.bool (sizeB x)) ∧ w = w' := by
 by_cases h : 1 ≤ x ∧ x ≤ 16
 · obtain ⟨h2, h3⟩ := h
   obtain ⟨n, rfl⟩ := Int.eq_ofNat_of_zero_le (show 0 ≤ x by omega)
   have hand := i64_and_nat n (n - 1) (by omega) (by omega)
   rw [show ((n - 1 : Nat) : Int) = (n : Int) - 1 by omega] at hand
   have HP := hQ (sizeB_and n (by omega) (by omega))
   go_enter Tryd.func69, Tryd.ntmps69
   go_wp2
   go_ret
   exact ⟨ret_bool (by rw [← HP.out, Bool.eq_iff_iff, beq_iff_eq, decide_eq_true_iff]; omega), rfl⟩
 · have hp : sizeB x = false := by
    rcases hb : sizeB x with _ | _
    · rfl
    · have := (sizeB_iff x).1 hb
      omega
   have HP := hQ hp
   have hx : x < 1 ∨ (1 ≤ x ∧ 16 < x) := by omega
   clear hp h
   rcases hx with h | ⟨h, h'⟩
   all_goals
    go_enter Tryd.func69, Tryd.ntmps69
    go_wp2
    go_ret
    exact ⟨ret_bool (by rw [HP.out]), rfl⟩
theorem refsize_any (x : Int) (h0 : -9223372036854775808 ≤ x) (h1 : x ≤ 9223372036854775807) (w : World) :
 Calls Tryd.prog 78 #[.int .i64 x] w fun e w' => e = .returned (.bool (sizeB x)) ∧ w = w' := by
 have HP : Hid (sizeB x = true ↔ x = 1 ∨ x = 2 ∨ x = 4 ∨ x = 8 ∨ x = 16) := sizeB_iff x
 go_enter Tryd.func78, Tryd.ntmps78
 go_wp2
 all_goals
  go_ret
  refine ⟨ret_bool ?_, rfl⟩
  rw [Bool.eq_iff_iff, HP.out]
  simp
  try omega
theorem bytes_any (a b : Nat) (ha : a < 18446744073709551616) (hb : b < 18446744073709551616) (x : Int) (h0 : -9223372036854775808 ≤ x) (h1 : x ≤ 9223372036854775807) (w : World) :
 Calls Tryd.prog 54 #[.agg #[.int .u64 a, .int .u64 b], .int .i64 x] w fun e w' => ∃ r, e = .returned r ∧ w'.ownsRow w.heap.size 5 1 r (if sizeB x = true then x.toNat else 0) (nb (bytesV a b (if sizeB x = true then x.toNat else 0))) ∧ Below w.heap.size w w' := by
 have hsz := fun W : World => size_any x h0 h1 W
 rcases hb : sizeB x with _ | _
 · rw [hb] at hsz
   have HS := hQ hsz
   clear hsz hb
   go_enter Tryd.func54, Tryd.ntmps54
   go_wp2_with fail
   refine (HS.out _).mono ?_
   rintro e w1 ⟨rfl, rfl⟩
   go_wp2
   go_ret
   exact ⟨_, rfl, by simpa [bytesV, nb] using World.ownsRow_nil _ _ _ _, by go_grown⟩
 · rw [hb] at hsz
   have HS := hQ hsz
   have hx := (sizeB_iff x).1 hb
   obtain ⟨n, rfl⟩ := Int.eq_ofNat_of_zero_le (show 0 ≤ x by omega)
   have hn : n ≤ 16 := by omega
   obtain ⟨i0, hi0, hz0, hz1, hz2⟩ := info_parts info_u8
   clear hsz hb hx h0 h1
   go_enter Tryd.func54, Tryd.ntmps54
   go_wp2_with fail
   refine (HS.out _).mono ?_
   rintro e w1 ⟨rfl, rfl⟩
   go_wp2_with fail
   go_loopw [5, 12] (fun o i wr => ∃ k : Nat, k ≤ n ∧ i = .int .i64 k ∧ wr.ownsRow (w.heap.size + 1) 5 1 o k (nb (bytesV a b k)) ∧ Hid (Below (w.heap.size + 1) (w.alloc (.cells #[.int .u64 a, .int .u64 b] 37)) wr)) (fun _ i _ => n - (intOf i).toNat)
   case atStart => exact ⟨0, by omega, rfl, World.ownsRow_nil _ _ _ _, Below.refl _ _⟩
   case round =>
    obtain ⟨k, hk, rfl, own, bel⟩ := hrel
    have hc0 : wr.cell? ⟨w.heap.size, 0, none⟩ = some (.int .u64 a) := by rw [bel.out.cell (p := ⟨w.heap.size, 0, none⟩) (Nat.lt_succ_self _)]; go_simp
    have hc1 : wr.cell? ⟨w.heap.size, 1, none⟩ = some (.int .u64 b) := by rw [bel.out.cell (p := ⟨w.heap.size, 1, none⟩) (Nat.lt_succ_self _)]; go_simp
    have hsz := bel.out.size
    simp at hsz
    by_cases hlt : k < n
    · have HV : Hid (byteV a b k = if k < 8 then a / 256 ^ k % 256 else b / 256 ^ (k - 8) % 256) := rfl
      by_cases h8 : k < 8
      · have hk8 : (k : Int) % 8 = k := by omega
        have HE : Hid ((a : Int) / 2 ^ (8 * k) % 256 = ((byteV a b k : Nat) : Int)) := by
         show (a : Int) / 2 ^ (8 * k) % 256 = ((byteV a b k : Nat) : Int)
         rw [HV.out, if_pos h8, ← pow_256]
         simp
        go_wp2_with (at_builtin; refine wpList_append_any _ rfl (.tmp 21) (.tmp 28) _ rfl (w.heap.size + 1) 5 i0 _ 1 1 Tryd.underlying22 hi0 hz0 hz1 hz2 rfl (by omega) _ k _ rfl (own.alloc _) (wr.heap.size + 1) (some ⟨wr.heap.size, 0, none⟩) 1 1 [.int .u8 ((a : Int) / 2 ^ (8 * k) % 256)] rfl (reads_one wr _ _) (fun u hu => by simp at hu; subst hu; rfl) (by unfold maxLen; omega) (by omega) (by simp; omega) ?_; intro v1 w2 hown1 hg1 hat1)
        go_roundw
        case rel => exact ⟨k + 1, by omega, by go_num, by rw [bytesV_succ, nb_append]; rw [HE.out] at hown1; exact hown1, hQ (below_append (bel.out.alloc hsz _) (own.alloc _) hg1 nL (by simp; omega))⟩
        case measure => simp [intOf]; omega
      · have hk8 : (k : Int) % 8 = k - 8 := by omega
        have HE : Hid ((b : Int) / 2 ^ (8 * (k - 8)) % 256 = ((byteV a b k : Nat) : Int)) := by
         show (b : Int) / 2 ^ (8 * (k - 8)) % 256 = ((byteV a b k : Nat) : Int)
         rw [HV.out, if_neg h8, ← pow_256]
         simp
        go_wp2_with (at_builtin; refine wpList_append_any _ rfl (.tmp 21) (.tmp 28) _ rfl (w.heap.size + 1) 5 i0 _ 1 1 Tryd.underlying22 hi0 hz0 hz1 hz2 rfl (by omega) _ k _ rfl (own.alloc _) (wr.heap.size + 1) (some ⟨wr.heap.size, 0, none⟩) 1 1 [.int .u8 ((b : Int) / 2 ^ (8 * (k - 8)) % 256)] rfl (reads_one wr _ _) (fun u hu => by simp at hu; subst hu; rfl) (by unfold maxLen; omega) (by omega) (by simp; omega) ?_; intro v1 w2 hown1 hg1 hat1)
        go_roundw
        case rel => exact ⟨k + 1, by omega, by go_num, by rw [bytesV_succ, nb_append]; rw [HE.out] at hown1; exact hown1, hQ (below_append (bel.out.alloc hsz _) (own.alloc _) hg1 nL (by simp; omega))⟩
        case measure => simp [intOf]; omega
    · go_wp2
      go_ret
      refine ⟨_, rfl, ?_, ?_⟩
      · have hkn : k = n := by omega
        subst hkn
        simpa using own_base own (Nat.le_succ _)
      · exact (bR.alloc nL _).trans (bel.out.mono (Nat.le_succ _))
theorem refbytes_any (a b : Nat) (ha : a < 18446744073709551616) (hb : b < 18446744073709551616) (x : Int) (h0 : -9223372036854775808 ≤ x) (h1 : x ≤ 9223372036854775807) (w : World) :
 Calls Tryd.prog 83 #[.agg #[.int .u64 a, .int .u64 b], .int .i64 x] w fun e w' => ∃ r, e = .returned r ∧ w'.ownsRow w.heap.size 5 1 r (if sizeB x = true then x.toNat else 0) (nb (bytesV a b (if sizeB x = true then x.toNat else 0))) ∧ Below w.heap.size w w' := by
 have hsz := fun W : World => refsize_any x h0 h1 W
 rcases hb : sizeB x with _ | _
 · rw [hb] at hsz
   have HS := hQ hsz
   clear hsz hb
   go_enter Tryd.func83, Tryd.ntmps83
   go_wp2_with fail
   refine wp_loop_rounds 1 ?_
   rw [rounds_succ]
   go_wp2_with fail
   refine (HS.out _).mono ?_
   rintro e w1 ⟨rfl, rfl⟩
   go_wp2
   go_ret
   exact ⟨_, rfl, by simpa [bytesV, nb] using World.ownsRow_nil _ _ _ _, by go_grown⟩
 · rw [hb] at hsz
   have HS := hQ hsz
   have hx := (sizeB_iff x).1 hb
   obtain ⟨n, rfl⟩ := Int.eq_ofNat_of_zero_le (show 0 ≤ x by omega)
   have hn : n ≤ 16 := by omega
   obtain ⟨i0, hi0, hz0, hz1, hz2⟩ := info_parts info_u8
   clear hsz hb hx h0 h1
   go_enter Tryd.func83, Tryd.ntmps83
   go_wp2_with fail
   go_loopw [5, 6] (fun o i wr => ∃ k : Nat, k ≤ n ∧ i = .int .i64 k ∧ wr.ownsRow (w.heap.size + 1) 5 1 o k (nb (bytesV a b k)) ∧ Hid (Below (w.heap.size + 1) (w.alloc (.cells #[.int .u64 a, .int .u64 b] 37)) wr)) (fun _ i _ => n - (intOf i).toNat)
   case atStart => exact ⟨0, by omega, rfl, World.ownsRow_nil _ _ _ _, Below.refl _ _⟩
   case round =>
    obtain ⟨k, hk, rfl, own, bel⟩ := hrel
    have hc0 : wr.cell? ⟨w.heap.size, 0, none⟩ = some (.int .u64 a) := by rw [bel.out.cell (p := ⟨w.heap.size, 0, none⟩) (Nat.lt_succ_self _)]; go_simp
    have hc1 : wr.cell? ⟨w.heap.size, 1, none⟩ = some (.int .u64 b) := by rw [bel.out.cell (p := ⟨w.heap.size, 1, none⟩) (Nat.lt_succ_self _)]; go_simp
    have hsz := bel.out.size
    simp at hsz
    by_cases hlt : k < n
    · have HV : Hid (byteV a b k = if k < 8 then a / 256 ^ k % 256 else b / 256 ^ (k - 8) % 256) := rfl
      by_cases h8 : k < 8
      · have hk8 : (k : Int) % 8 = k := by omega
        have HE : Hid ((a : Int) / 2 ^ (8 * k) % 256 = ((byteV a b k : Nat) : Int)) := by
         show (a : Int) / 2 ^ (8 * k) % 256 = ((byteV a b k : Nat) : Int)
         rw [HV.out, if_pos h8, ← pow_256]
         simp
        go_wp2_with fail
        refine (HS.out _).mono ?_
        rintro e w1 ⟨rfl, rfl⟩
        go_wp2_with (at_builtin; refine wpList_append_any _ rfl (.tmp 18) (.tmp 25) _ rfl (w.heap.size + 1) 5 i0 _ 1 1 Tryd.underlying22 hi0 hz0 hz1 hz2 rfl (by omega) _ k _ rfl (own.alloc _) (wr.heap.size + 1) (some ⟨wr.heap.size, 0, none⟩) 1 1 [.int .u8 ((a : Int) / 2 ^ (8 * k) % 256)] rfl (reads_one wr _ _) (fun u hu => by simp at hu; subst hu; rfl) (by unfold maxLen; omega) (by omega) (by simp; omega) ?_; intro v1 w2 hown1 hg1 hat1)
        go_roundw
        case rel => exact ⟨k + 1, by omega, by go_num, by rw [bytesV_succ, nb_append]; rw [HE.out] at hown1; exact hown1, hQ (below_append (bel.out.alloc hsz _) (own.alloc _) hg1 nL (by simp; omega))⟩
        case measure => simp [intOf]; omega
      · have hk8 : (k : Int) % 8 = k - 8 := by omega
        have HE : Hid ((b : Int) / 2 ^ (8 * (k - 8)) % 256 = ((byteV a b k : Nat) : Int)) := by
         show (b : Int) / 2 ^ (8 * (k - 8)) % 256 = ((byteV a b k : Nat) : Int)
         rw [HV.out, if_neg h8, ← pow_256]
         simp
        go_wp2_with fail
        refine (HS.out _).mono ?_
        rintro e w1 ⟨rfl, rfl⟩
        go_wp2_with (at_builtin; refine wpList_append_any _ rfl (.tmp 27) (.tmp 35) _ rfl (w.heap.size + 1) 5 i0 _ 1 1 Tryd.underlying22 hi0 hz0 hz1 hz2 rfl (by omega) _ k _ rfl (own.alloc _) (wr.heap.size + 1) (some ⟨wr.heap.size, 0, none⟩) 1 1 [.int .u8 ((b : Int) / 2 ^ (8 * (k - 8)) % 256)] rfl (reads_one wr _ _) (fun u hu => by simp at hu; subst hu; rfl) (by unfold maxLen; omega) (by omega) (by simp; omega) ?_; intro v1 w2 hown1 hg1 hat1)
        go_roundw
        case rel => exact ⟨k + 1, by omega, by go_num, by rw [bytesV_succ, nb_append]; rw [HE.out] at hown1; exact hown1, hQ (below_append (bel.out.alloc hsz _) (own.alloc _) hg1 nL (by simp; omega))⟩
        case measure => simp [intOf]; omega
    · go_wp2_with fail
      refine (HS.out _).mono ?_
      rintro e w1 ⟨rfl, rfl⟩
      go_wp2
      go_ret
      refine ⟨_, rfl, ?_, ?_⟩
      · have hkn : k = n := by omega
        subst hkn
        simpa using own_base own (Nat.le_succ _)
      · exact (bR.alloc nL _).trans (bel.out.mono (Nat.le_succ _))
theorem loV_take16 (l : List Nat) (m : Nat) (h : 16 ≤ m) : loV (l.take m) = loV l := by unfold loV; rw [List.take_take, Nat.min_eq_left (by omega)]
theorem hiV_take16 (l : List Nat) (m : Nat) (h : 16 ≤ m) : hiV (l.take m) = hiV l := by
 unfold hiV; rw [List.drop_take, List.take_take, Nat.min_eq_left (by omega)]
def fromV (lo hi : Nat) : Ending := .returned (.agg #[.int .u64 (lo : Int), .int .u64 (hi : Int)])
theorem fromV_eq {x y : Int} {a b : Nat} (hx : x = (a : Int)) (hy : y = (b : Int)) : Ending.returned (.agg #[.int .u64 x, .int .u64 y]) = fromV a b := by rw [hx, hy]; rfl
theorem fb_lo (w : World) (o : Obj) (a b v : Value) (t : TypeId) (q : Nat) : (((w.alloc o).alloc (.cells #[a, b] t)).drewN q).setCell ⟨w.heap.size + 1, 0, none⟩ v = ((w.alloc o).alloc (.cells #[v, b] t)).drewN q := by
 have h := World.setCell_alloc_at (w := w.alloc o) #[a, b] t (w.heap.size + 1) 0 v (by simp)
 show (((w.alloc o).alloc (.cells #[a, b] t)).setCell ⟨w.heap.size + 1, 0, none⟩ v).drewN q = _
 rw [h]
 rfl
theorem fb_hi (w : World) (o : Obj) (a b v : Value) (t : TypeId) (q : Nat) : (((w.alloc o).alloc (.cells #[a, b] t)).drewN q).setCell ⟨w.heap.size + 1, 1, none⟩ v = ((w.alloc o).alloc (.cells #[a, v] t)).drewN q := by
 have h := World.setCell_alloc_at (w := w.alloc o) #[a, b] t (w.heap.size + 1) 1 v (by simp)
 show (((w.alloc o).alloc (.cells #[a, b] t)).setCell ⟨w.heap.size + 1, 1, none⟩ v).drewN q = _
 rw [h]
 rfl
theorem frombytes_any (A : Option Addr) (n c : Nat) (l : List Nat) (w : World) (B : Nat) (hb : Bs w B A n l) (hB : B ≤ w.heap.size) (hn : n ≤ maxLen) (hcap : n ≤ c) :
 Calls Tryd.prog 53 #[.slice A n c] w fun e w' => e = fromV (loV l) (hiV l) ∧ Below w.heap.size w w' := by
 unfold maxLen at hn
 have HL := hQ hb.len
 have hcase : n ≤ 16 ∨ 16 < n := by omega
 rcases hcase with hc | hc
 · go_enter Tryd.func53, Tryd.ntmps53
   go_wp2_with fail
   go_loopw [12] (fun i wr => ∃ k q : Nat, k ≤ n ∧ i = .int .i64 k ∧ wr = ((w.alloc (.cells #[.int .u64 0, .int .u64 0] 37)).alloc (.cells #[.int .u64 (loV (l.take k) : Nat), .int .u64 (hiV (l.take k) : Nat)] 37)).drewN q) (fun i _ => n - (intOf i).toNat)
   case atStart => exact ⟨0, 0, by omega, rfl, by simp [loV, hiV, le]; rfl⟩
   case round =>
    obtain ⟨k, q, hk, rfl, rfl⟩ := hrel
    by_cases hlt : k < n
    · have hkn : k < n := by omega
      have hk16 : k < 16 := by omega
      obtain ⟨ad, rfl, hbl, hcell⟩ := hb.at_ hkn
      have hx := hb.lt k
      have htk := take_succ_getD l k (by rw [HL.out]; exact hkn)
      have hlk : (l.take k).length = k := by rw [List.length_take, HL.out]; omega
      have hbt : ∀ x ∈ l.take k, x < 256 := fun x hx => hb.2 x (List.mem_of_mem_take hx)
      have HT := hQ htk
      have HLK := hQ hlk
      have HLO := hQ (loV_lt _ hbt)
      have HHI := hQ (hiV_lt _ hbt)
      have hbl2 : (ad.add k).block < w.heap.size := by rw [block_of_add]; omega
      have hki : (k : Int) < (n : Int) := by omega
      have hki0 : (0 : Int) ≤ (k : Int) := by omega
      clear htk hlk
      by_cases h8 : k < 8
      · have hl1 : loV (l.take (k + 1)) = loV (l.take k) + l.getD k 0 * 256 ^ k := by rw [HT.out, loV_snoc _ _ (by rw [HLK.out]; exact h8), HLK.out]
        have hh1 : hiV (l.take (k + 1)) = hiV (l.take k) := by rw [HT.out, hiV_snoc_lo _ _ (by rw [HLK.out]; exact h8)]
        have hlk : loV (l.take k) < 256 ^ k := by
         unfold loV
         rw [List.take_of_length_le (by rw [HLK.out]; omega)]
         have := le_lt _ hbt
         rw [HLK.out] at this
         exact this
        have hmul : l.getD k 0 * 256 ^ k < 18446744073709551616 := by
         have h1 : l.getD k 0 * 256 ^ k ≤ 255 * 256 ^ 7 := Nat.mul_le_mul (by omega) (Nat.pow_le_pow_right (by decide) (by omega))
         exact Nat.lt_of_le_of_lt h1 (by decide)
        have hor := or_shift8 _ k _ hlk hmul HLO.out
        rw [← hl1] at hor
        have HH1 := hQ hh1
        have HOR := hQ hor
        clear hl1 hh1 hlk hmul hor hbt hb
        generalize loV (l.take k) = lo at *
        generalize hiV (l.take k) = hi at *
        generalize l.getD k 0 = x at *
        go_wp2_with fail
        go_region
        rw [fb_lo, HOR.out]
        go_wp2
        go_roundw
        case rel => exact ⟨k + 1, q + 1, by omega, by go_num, by rw [HH1.out]⟩
        case measure => simp [intOf]; omega
      · have hl1 : hiV (l.take (k + 1)) = hiV (l.take k) + l.getD k 0 * 256 ^ (k - 8) := by rw [HT.out, hiV_snoc _ _ (by rw [HLK.out]; omega) (by rw [HLK.out]; omega), HLK.out]
        have hh1 : loV (l.take (k + 1)) = loV (l.take k) := by rw [HT.out, loV_snoc_hi _ _ (by rw [HLK.out]; omega)]
        have hlk : hiV (l.take k) < 256 ^ (k - 8) := by
         unfold hiV
         rw [List.take_of_length_le (by rw [List.length_drop, HLK.out]; omega)]
         have := le_lt ((l.take k).drop 8) (fun x hx => hbt x (List.mem_of_mem_drop hx))
         rw [List.length_drop, HLK.out] at this
         exact this
        have hmul : l.getD k 0 * 256 ^ (k - 8) < 18446744073709551616 := by
         have h1 : l.getD k 0 * 256 ^ (k - 8) ≤ 255 * 256 ^ 7 := Nat.mul_le_mul (by omega) (Nat.pow_le_pow_right (by decide) (by omega))
         exact Nat.lt_of_le_of_lt h1 (by decide)
        have hor := or_shift8 _ (k - 8) _ hlk hmul HHI.out
        rw [← hl1] at hor
        have HH1 := hQ hh1
        have HOR := hQ hor
        clear hl1 hh1 hlk hmul hor hbt hb
        generalize loV (l.take k) = lo at *
        generalize hiV (l.take k) = hi at *
        generalize l.getD k 0 = x at *
        go_wp2_with fail
        go_region
        rw [fb_hi, HOR.out]
        go_wp2
        go_roundw
        case rel => exact ⟨k + 1, q + 1, by omega, by go_num, by rw [HH1.out]⟩
        case measure => simp [intOf]; omega
    · have HK : Hid (loV (l.take k) = loV l ∧ hiV (l.take k) = hiV l) := by
       have := HL.out
       show loV (l.take k) = loV l ∧ hiV (l.take k) = hiV l
       first
        | (rw [List.take_of_length_le (by omega)]; exact ⟨rfl, rfl⟩)
        | exact ⟨loV_take16 l k (by omega), hiV_take16 l k (by omega)⟩
        | (rcases Nat.lt_or_ge k 16 with h | h; rw [List.take_of_length_le (by omega)]; exact ⟨rfl, rfl⟩; exact ⟨loV_take16 l k h, hiV_take16 l k h⟩)
      clear hb
      go_wp2
      all_goals
       go_returns
       refine ⟨fromV_eq (by rw [HK.out.1]) (by rw [HK.out.2]), ?_⟩
       exact ((below_drewN (by go_grown) _).setCell (by simp) _).setCell (by simp) _
 · go_enter Tryd.func53, Tryd.ntmps53
   go_wp2_with fail
   go_loopw [12] (fun i wr => ∃ k q : Nat, k ≤ 16 ∧ i = .int .i64 k ∧ wr = ((w.alloc (.cells #[.int .u64 0, .int .u64 0] 37)).alloc (.cells #[.int .u64 (loV (l.take k) : Nat), .int .u64 (hiV (l.take k) : Nat)] 37)).drewN q) (fun i _ => 16 - (intOf i).toNat)
   case atStart => exact ⟨0, 0, by omega, rfl, by simp [loV, hiV, le]; rfl⟩
   case round =>
    obtain ⟨k, q, hk, rfl, rfl⟩ := hrel
    by_cases hlt : k < 16
    · have hkn : k < n := by omega
      have hk16 : k < 16 := by omega
      obtain ⟨ad, rfl, hbl, hcell⟩ := hb.at_ hkn
      have hx := hb.lt k
      have htk := take_succ_getD l k (by rw [HL.out]; exact hkn)
      have hlk : (l.take k).length = k := by rw [List.length_take, HL.out]; omega
      have hbt : ∀ x ∈ l.take k, x < 256 := fun x hx => hb.2 x (List.mem_of_mem_take hx)
      have HT := hQ htk
      have HLK := hQ hlk
      have HLO := hQ (loV_lt _ hbt)
      have HHI := hQ (hiV_lt _ hbt)
      have hbl2 : (ad.add k).block < w.heap.size := by rw [block_of_add]; omega
      have hki : (k : Int) < (n : Int) := by omega
      have hki0 : (0 : Int) ≤ (k : Int) := by omega
      clear htk hlk
      by_cases h8 : k < 8
      · have hl1 : loV (l.take (k + 1)) = loV (l.take k) + l.getD k 0 * 256 ^ k := by rw [HT.out, loV_snoc _ _ (by rw [HLK.out]; exact h8), HLK.out]
        have hh1 : hiV (l.take (k + 1)) = hiV (l.take k) := by rw [HT.out, hiV_snoc_lo _ _ (by rw [HLK.out]; exact h8)]
        have hlk : loV (l.take k) < 256 ^ k := by
         unfold loV
         rw [List.take_of_length_le (by rw [HLK.out]; omega)]
         have := le_lt _ hbt
         rw [HLK.out] at this
         exact this
        have hmul : l.getD k 0 * 256 ^ k < 18446744073709551616 := by
         have h1 : l.getD k 0 * 256 ^ k ≤ 255 * 256 ^ 7 := Nat.mul_le_mul (by omega) (Nat.pow_le_pow_right (by decide) (by omega))
         exact Nat.lt_of_le_of_lt h1 (by decide)
        have hor := or_shift8 _ k _ hlk hmul HLO.out
        rw [← hl1] at hor
        have HH1 := hQ hh1
        have HOR := hQ hor
        clear hl1 hh1 hlk hmul hor hbt hb
        generalize loV (l.take k) = lo at *
        generalize hiV (l.take k) = hi at *
        generalize l.getD k 0 = x at *
        go_wp2_with fail
        go_region
        rw [fb_lo, HOR.out]
        go_wp2
        go_roundw
        case rel => exact ⟨k + 1, q + 1, by omega, by go_num, by rw [HH1.out]⟩
        case measure => simp [intOf]; omega
      · have hl1 : hiV (l.take (k + 1)) = hiV (l.take k) + l.getD k 0 * 256 ^ (k - 8) := by rw [HT.out, hiV_snoc _ _ (by rw [HLK.out]; omega) (by rw [HLK.out]; omega), HLK.out]
        have hh1 : loV (l.take (k + 1)) = loV (l.take k) := by rw [HT.out, loV_snoc_hi _ _ (by rw [HLK.out]; omega)]
        have hlk : hiV (l.take k) < 256 ^ (k - 8) := by
         unfold hiV
         rw [List.take_of_length_le (by rw [List.length_drop, HLK.out]; omega)]
         have := le_lt ((l.take k).drop 8) (fun x hx => hbt x (List.mem_of_mem_drop hx))
         rw [List.length_drop, HLK.out] at this
         exact this
        have hmul : l.getD k 0 * 256 ^ (k - 8) < 18446744073709551616 := by
         have h1 : l.getD k 0 * 256 ^ (k - 8) ≤ 255 * 256 ^ 7 := Nat.mul_le_mul (by omega) (Nat.pow_le_pow_right (by decide) (by omega))
         exact Nat.lt_of_le_of_lt h1 (by decide)
        have hor := or_shift8 _ (k - 8) _ hlk hmul HHI.out
        rw [← hl1] at hor
        have HH1 := hQ hh1
        have HOR := hQ hor
        clear hl1 hh1 hlk hmul hor hbt hb
        generalize loV (l.take k) = lo at *
        generalize hiV (l.take k) = hi at *
        generalize l.getD k 0 = x at *
        go_wp2_with fail
        go_region
        rw [fb_hi, HOR.out]
        go_wp2
        go_roundw
        case rel => exact ⟨k + 1, q + 1, by omega, by go_num, by rw [HH1.out]⟩
        case measure => simp [intOf]; omega
    · have HK : Hid (loV (l.take k) = loV l ∧ hiV (l.take k) = hiV l) := by
       have := HL.out
       show loV (l.take k) = loV l ∧ hiV (l.take k) = hiV l
       first
        | (rw [List.take_of_length_le (by omega)]; exact ⟨rfl, rfl⟩)
        | exact ⟨loV_take16 l k (by omega), hiV_take16 l k (by omega)⟩
        | (rcases Nat.lt_or_ge k 16 with h | h; rw [List.take_of_length_le (by omega)]; exact ⟨rfl, rfl⟩; exact ⟨loV_take16 l k h, hiV_take16 l k h⟩)
      clear hb
      go_wp2
      all_goals
       go_returns
       refine ⟨fromV_eq (by rw [HK.out.1]) (by rw [HK.out.2]), ?_⟩
       exact ((below_drewN (by go_grown) _).setCell (by simp) _).setCell (by simp) _
theorem reffrombytes_any (A : Option Addr) (n c : Nat) (l : List Nat) (w : World) (B : Nat) (hb : Bs w B A n l) (hB : B ≤ w.heap.size) (hn : n ≤ maxLen) (hcap : n ≤ c) :
 Calls Tryd.prog 82 #[.slice A n c] w fun e w' => e = fromV (loV l) (hiV l) ∧ Below w.heap.size w w' := by
 unfold maxLen at hn
 have HL := hQ hb.len
 go_enter Tryd.func82, Tryd.ntmps82
 go_wp2_with fail
 go_loopw [4] (fun i wr => ∃ k q : Nat, k ≤ n ∧ i = .int .i64 k ∧ wr = ((w.alloc (.cells #[.int .u64 0, .int .u64 0] 37)).alloc (.cells #[.int .u64 (loV (l.take k) : Nat), .int .u64 (hiV (l.take k) : Nat)] 37)).drewN q) (fun i _ => n - (intOf i).toNat)
 case atStart => exact ⟨0, 0, by omega, rfl, by simp [loV, hiV, le]; rfl⟩
 case round =>
  obtain ⟨k, q, hk, rfl, rfl⟩ := hrel
  by_cases hlt : k < n ∧ k < 16
  · have hkn : k < n := by omega
    have hk16 : k < 16 := by omega
    obtain ⟨ad, rfl, hbl, hcell⟩ := hb.at_ hkn
    have hx := hb.lt k
    have htk := take_succ_getD l k (by rw [HL.out]; exact hkn)
    have hlk : (l.take k).length = k := by rw [List.length_take, HL.out]; omega
    have hbt : ∀ x ∈ l.take k, x < 256 := fun x hx => hb.2 x (List.mem_of_mem_take hx)
    have HT := hQ htk
    have HLK := hQ hlk
    have HLO := hQ (loV_lt _ hbt)
    have HHI := hQ (hiV_lt _ hbt)
    have hbl2 : (ad.add k).block < w.heap.size := by rw [block_of_add]; omega
    have hki : (k : Int) < (n : Int) := by omega
    have hki0 : (0 : Int) ≤ (k : Int) := by omega
    clear htk hlk
    by_cases h8 : k < 8
    · have hl1 : loV (l.take (k + 1)) = loV (l.take k) + l.getD k 0 * 256 ^ k := by rw [HT.out, loV_snoc _ _ (by rw [HLK.out]; exact h8), HLK.out]
      have hh1 : hiV (l.take (k + 1)) = hiV (l.take k) := by rw [HT.out, hiV_snoc_lo _ _ (by rw [HLK.out]; exact h8)]
      have hlk : loV (l.take k) < 256 ^ k := by
       unfold loV
       rw [List.take_of_length_le (by rw [HLK.out]; omega)]
       have := le_lt _ hbt
       rw [HLK.out] at this
       exact this
      have hmul : l.getD k 0 * 256 ^ k < 18446744073709551616 := by
       have h1 : l.getD k 0 * 256 ^ k ≤ 255 * 256 ^ 7 := Nat.mul_le_mul (by omega) (Nat.pow_le_pow_right (by decide) (by omega))
       exact Nat.lt_of_le_of_lt h1 (by decide)
      have hor := or_shift8 _ k _ hlk hmul HLO.out
      rw [← hl1] at hor
      have HH1 := hQ hh1
      have HOR := hQ hor
      clear hl1 hh1 hlk hmul hor hbt hb
      generalize loV (l.take k) = lo at *
      generalize hiV (l.take k) = hi at *
      generalize l.getD k 0 = x at *
      go_wp2_with fail
      go_region
      rw [fb_lo, HOR.out]
      go_wp2
      go_roundw
      case rel => exact ⟨k + 1, q + 1, by omega, by go_num, by rw [HH1.out]⟩
      case measure => simp [intOf]; omega
    · have hl1 : hiV (l.take (k + 1)) = hiV (l.take k) + l.getD k 0 * 256 ^ (k - 8) := by rw [HT.out, hiV_snoc _ _ (by rw [HLK.out]; omega) (by rw [HLK.out]; omega), HLK.out]
      have hh1 : loV (l.take (k + 1)) = loV (l.take k) := by rw [HT.out, loV_snoc_hi _ _ (by rw [HLK.out]; omega)]
      have hlk : hiV (l.take k) < 256 ^ (k - 8) := by
       unfold hiV
       rw [List.take_of_length_le (by rw [List.length_drop, HLK.out]; omega)]
       have := le_lt ((l.take k).drop 8) (fun x hx => hbt x (List.mem_of_mem_drop hx))
       rw [List.length_drop, HLK.out] at this
       exact this
      have hmul : l.getD k 0 * 256 ^ (k - 8) < 18446744073709551616 := by
       have h1 : l.getD k 0 * 256 ^ (k - 8) ≤ 255 * 256 ^ 7 := Nat.mul_le_mul (by omega) (Nat.pow_le_pow_right (by decide) (by omega))
       exact Nat.lt_of_le_of_lt h1 (by decide)
      have hor := or_shift8 _ (k - 8) _ hlk hmul HHI.out
      rw [← hl1] at hor
      have HH1 := hQ hh1
      have HOR := hQ hor
      clear hl1 hh1 hlk hmul hor hbt hb
      generalize loV (l.take k) = lo at *
      generalize hiV (l.take k) = hi at *
      generalize l.getD k 0 = x at *
      go_wp2_with fail
      go_region
      rw [fb_hi, HOR.out]
      go_wp2
      go_roundw
      case rel => exact ⟨k + 1, q + 1, by omega, by go_num, by rw [HH1.out]⟩
      case measure => simp [intOf]; omega
  · have HK : Hid (loV (l.take k) = loV l ∧ hiV (l.take k) = hiV l) := by
     have := HL.out
     show loV (l.take k) = loV l ∧ hiV (l.take k) = hiV l
     first
      | (rw [List.take_of_length_le (by omega)]; exact ⟨rfl, rfl⟩)
      | exact ⟨loV_take16 l k (by omega), hiV_take16 l k (by omega)⟩
      | (rcases Nat.lt_or_ge k 16 with h | h; rw [List.take_of_length_le (by omega)]; exact ⟨rfl, rfl⟩; exact ⟨loV_take16 l k h, hiV_take16 l k h⟩)
    clear hb
    go_wp2
    all_goals
     go_returns
     refine ⟨fromV_eq (by rw [HK.out.1]) (by rw [HK.out.2]), ?_⟩
     exact ((below_drewN (by go_grown) _).setCell (by simp) _).setCell (by simp) _
def szOf (x : Int) : Nat := if sizeB x = true then x.toNat else 0
theorem szOf_le (x : Int) : szOf x ≤ 16 := by
 unfold szOf
 split
 · rename_i h
   have := (sizeB_iff x).1 h
   omega
 · omega
def truncS (a b : Nat) (x : Int) : Nat × Nat := truncV a b (szOf x)
def BytesR (w : World) (a b : Nat) (x : Int) (e : Ending) (w' : World) : Prop :=
 ∃ A c, e = .returned (.slice A (szOf x) c) ∧ Bs w' w'.heap.size A (szOf x) (bytesV a b (szOf x)) ∧ szOf x ≤ c ∧ w'.ownsRow w.heap.size 5 1 (.slice A (szOf x) c) (szOf x) (nb (bytesV a b (szOf x))) ∧ Below w.heap.size w w'
theorem own_cap' {w : World} {base n c : Nat} {e : TypeId} {size : Nat} {A : Option Addr} {xs : List Value} (h : w.ownsRow base e size (.slice A n c) n xs) : n ≤ c := by
 rcases h.2 with ⟨h1, rfl⟩ | ⟨g, cap, cur, h1, _, _, h2, h3, _⟩
 · simp at h1
   omega
 · simp at h1
   omega
theorem bytesR_of {w w' : World} {a b : Nat} {x : Int} {e : Ending} (h : ∃ r, e = .returned r ∧ w'.ownsRow w.heap.size 5 1 r (if sizeB x = true then x.toNat else 0) (nb (bytesV a b (if sizeB x = true then x.toNat else 0))) ∧ Below w.heap.size w w') : BytesR w a b x e w' := by
 obtain ⟨r, rfl, own, bel⟩ := h
 have own : w'.ownsRow w.heap.size 5 1 r (szOf x) (nb (bytesV a b (szOf x))) := own
 obtain ⟨A, c, rfl, _⟩ := own_form own
 exact ⟨A, c, rfl, Bs.of_own own (bytesV_lt _ _ _), own_cap' own, own, bel⟩
theorem bytes_r (a b : Nat) (ha : a < 18446744073709551616) (hb : b < 18446744073709551616) (x : Int) (h0 : -9223372036854775808 ≤ x) (h1 : x ≤ 9223372036854775807) (w : World) :
 Calls Tryd.prog 54 #[.agg #[.int .u64 a, .int .u64 b], .int .i64 x] w (BytesR w a b x) := (bytes_any a b ha hb x h0 h1 w).mono fun _ _ h => bytesR_of h
theorem refbytes_r (a b : Nat) (ha : a < 18446744073709551616) (hb : b < 18446744073709551616) (x : Int) (h0 : -9223372036854775808 ≤ x) (h1 : x ≤ 9223372036854775807) (w : World) :
 Calls Tryd.prog 83 #[.agg #[.int .u64 a, .int .u64 b], .int .i64 x] w (BytesR w a b x) := (refbytes_any a b ha hb x h0 h1 w).mono fun _ _ h => bytesR_of h
theorem trunc_any (a b : Nat) (ha : a < 18446744073709551616) (hb : b < 18446744073709551616) (x : Int) (h0 : -9223372036854775808 ≤ x) (h1 : x ≤ 9223372036854775807) (w : World) :
 Calls Tryd.prog 43 #[.agg #[.int .u64 a, .int .u64 b], .int .i64 x] w fun e w' => e = fromV (truncS a b x).1 (truncS a b x).2 ∧ Below w.heap.size w w' := by
 have H1 := hQ (fun W : World => bytes_r a b ha hb x h0 h1 W)
 have HT : Hid (loV (bytesV a b (szOf x)) = (truncS a b x).1 ∧ hiV (bytesV a b (szOf x)) = (truncS a b x).2) := hQ ⟨loV_bytes a b _, hiV_bytes a b _ (szOf_le x)⟩
 have hs := szOf_le x
 clear ha hb h0 h1
 go_enter Tryd.func43, Tryd.ntmps43
 go_wp2_with fail
 refine (H1.out _).mono ?_
 rintro e w1 ⟨A, c, rfl, hb, hc, _, bel⟩
 have hsz := bel.size
 simp at hsz
 have HB := hQ (Below.trans (B := w.heap.size) (a := w) (by go_grown) (bel.mono (by simp <;> omega)))
 obtain ⟨hc1, hf1⟩ := bcell bel
 have z1 : w.heap.size < w1.heap.size := by omega
 have z1' : w.heap.size + 1 < w1.heap.size := by omega
 clear bel
 go_wp2_with fail
 refine (frombytes_any A _ c _ w1 _ hb nL (by unfold maxLen; omega) hc).mono ?_
 rintro e w2 ⟨rfl, bel2⟩
 have HB2 := hQ (HB.out.trans (bel2.mono (by omega)))
 obtain ⟨hc2, hf2⟩ := bcell bel2
 have hsz2 := bel2.size
 have z2 : w.heap.size < w2.heap.size := by omega
 have z2' : w.heap.size + 1 < w2.heap.size := by omega
 rw [HT.out.1, HT.out.2]
 unfold fromV
 have q0 : w2.cell? ⟨w.heap.size + 1, 0, none⟩ = some (.int .u64 0) := by rw [hc2 _ _ z1', hc1 _ _ (by simp)]; go_simp
 have q1 : w2.cell? ⟨w.heap.size + 1, 1, none⟩ = some (.int .u64 0) := by rw [hc2 _ _ z1', hc1 _ _ (by simp)]; go_simp
 have f0 : w2.frozen? ⟨w.heap.size + 1, 0, none⟩ = false := by rw [hf2 _ _ z1', hf1 _ _ (by simp)]; go_simp
 have f1 : w2.frozen? ⟨w.heap.size + 1, 1, none⟩ = false := by rw [hf2 _ _ z1', hf1 _ _ (by simp)]; go_simp
 clear bel2 hb hc1 hc2 hf1 hf2
 go_wp2
 exact bodyPost_ret (v := .agg #[.int .u64 ((truncS a b x).1 : Nat), .int .u64 ((truncS a b x).2 : Nat)]) (by simp [results, Tryd.results43, go_sem, q0, q1]) rfl ⟨rfl, (HB2.out.setCell (by simp) _).setCell (by simp) _⟩
theorem reftrunc_any (a b : Nat) (ha : a < 18446744073709551616) (hb : b < 18446744073709551616) (x : Int) (h0 : -9223372036854775808 ≤ x) (h1 : x ≤ 9223372036854775807) (w : World) :
 Calls Tryd.prog 63 #[.agg #[.int .u64 a, .int .u64 b], .int .i64 x] w fun e w' => e = fromV (truncS a b x).1 (truncS a b x).2 ∧ Below w.heap.size w w' := by
 have H1 := hQ (fun W : World => refbytes_r a b ha hb x h0 h1 W)
 have HT : Hid (loV (bytesV a b (szOf x)) = (truncS a b x).1 ∧ hiV (bytesV a b (szOf x)) = (truncS a b x).2) := hQ ⟨loV_bytes a b _, hiV_bytes a b _ (szOf_le x)⟩
 have hs := szOf_le x
 clear ha hb h0 h1
 go_enter Tryd.func63, Tryd.ntmps63
 go_wp2_with fail
 refine (H1.out _).mono ?_
 rintro e w1 ⟨A, c, rfl, hb, hc, _, bel⟩
 have hsz := bel.size
 simp at hsz
 have HB := hQ (Below.trans (B := w.heap.size) (a := w) (by go_grown) (bel.mono (by simp <;> omega)))
 obtain ⟨hc1, hf1⟩ := bcell bel
 have z1 : w.heap.size < w1.heap.size := by omega
 have z1' : w.heap.size + 1 < w1.heap.size := by omega
 clear bel
 go_wp2_with fail
 refine (reffrombytes_any A _ c _ w1 _ hb nL (by unfold maxLen; omega) hc).mono ?_
 rintro e w2 ⟨rfl, bel2⟩
 have HB2 := hQ (HB.out.trans (bel2.mono (by omega)))
 obtain ⟨hc2, hf2⟩ := bcell bel2
 have hsz2 := bel2.size
 have z2 : w.heap.size < w2.heap.size := by omega
 have z2' : w.heap.size + 1 < w2.heap.size := by omega
 rw [HT.out.1, HT.out.2]
 unfold fromV
 have q0 : w2.cell? ⟨w.heap.size + 1, 0, none⟩ = some (.int .u64 0) := by rw [hc2 _ _ z1', hc1 _ _ (by simp)]; go_simp
 have q1 : w2.cell? ⟨w.heap.size + 1, 1, none⟩ = some (.int .u64 0) := by rw [hc2 _ _ z1', hc1 _ _ (by simp)]; go_simp
 have f0 : w2.frozen? ⟨w.heap.size + 1, 0, none⟩ = false := by rw [hf2 _ _ z1', hf1 _ _ (by simp)]; go_simp
 have f1 : w2.frozen? ⟨w.heap.size + 1, 1, none⟩ = false := by rw [hf2 _ _ z1', hf1 _ _ (by simp)]; go_simp
 clear bel2 hb hc1 hc2 hf1 hf2
 go_wp2
 exact bodyPost_ret (v := .agg #[.int .u64 ((truncS a b x).1 : Nat), .int .u64 ((truncS a b x).2 : Nat)]) (by simp [results, Tryd.results63, go_sem, q0, q1]) rfl ⟨rfl, (HB2.out.setCell (by simp) _).setCell (by simp) _⟩
theorem pair_any (a b c d : Nat) (w : World) :
 Calls Tryd.prog 55 #[.agg #[.int .u64 (a : Int), .int .u64 (b : Int)], .agg #[.int .u64 (c : Int), .int .u64 (d : Int)]] w fun e w' => e = fromV a c ∧ Below w.heap.size w w' := by
 go_enter Tryd.func55, Tryd.ntmps55
 go_wp2
 go_returns
 exact ⟨rfl, by go_grown⟩
theorem refpair_any (a b c d : Nat) (w : World) :
 Calls Tryd.prog 64 #[.agg #[.int .u64 (a : Int), .int .u64 (b : Int)], .agg #[.int .u64 (c : Int), .int .u64 (d : Int)]] w fun e w' => e = fromV a c ∧ Below w.heap.size w w' := by
 go_enter Tryd.func64, Tryd.ntmps64
 go_wp2
 go_returns
 exact ⟨rfl, by go_grown⟩
theorem high_any (a b : Nat) (w : World) :
 Calls Tryd.prog 56 #[.agg #[.int .u64 (a : Int), .int .u64 (b : Int)]] w fun e w' => e = fromV b 0 ∧ Below w.heap.size w w' := by
 go_enter Tryd.func56, Tryd.ntmps56
 go_wp2
 go_returns
 exact ⟨rfl, by go_grown⟩
theorem refhigh_any (a b : Nat) (w : World) :
 Calls Tryd.prog 65 #[.agg #[.int .u64 (a : Int), .int .u64 (b : Int)]] w fun e w' => e = fromV b 0 ∧ Below w.heap.size w w' := by
 go_enter Tryd.func65, Tryd.ntmps65
 go_wp2
 go_returns
 exact ⟨rfl, by go_grown⟩
end Go.Proofs.YtdijeijbcoeopaaDoor
