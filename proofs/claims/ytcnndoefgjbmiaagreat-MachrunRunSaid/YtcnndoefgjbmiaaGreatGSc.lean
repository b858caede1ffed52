/- Values as two words, their bytes, truncation: plain laws. -/
import Derived.Test.YtcnndoefgjbmiaaGreatGPm
import Derived.Deep.RegionHeld3
set_option linter.unusedVariables false
set_option maxRecDepth 10000
set_option maxHeartbeats 8000000
namespace Go.Proofs.YtcnndoefgjbmiaaGreat
def sizeB (x : Int) : Bool := x == 1 || x == 2 || x == 4 || x == 8 || x == 16
theorem sizeB_iff (x : Int) : sizeB x = true ↔ x = 1 ∨ x = 2 ∨ x = 4 ∨ x = 8 ∨ x = 16 := by simp only [sizeB, Bool.or_eq_true, beq_iff_eq]; omega
theorem sizeB_and (n : Nat) (h0 : 1 ≤ n) (h1 : n ≤ 16) : decide (n &&& (n - 1) = 0) = sizeB (n : Int) := by
 have h : ∀ n : Nat, n < 17 → 1 ≤ n → decide (n &&& (n - 1) = 0) = sizeB (n : Int) := by decide +kernel
 exact h n (by omega) h0
def le : List Nat → Nat
 | [] => 0
 | c :: r => c + 256 * le r
theorem le_snoc (l : List Nat) (c : Nat) : le (l ++ [c]) = le l + c * 256 ^ l.length := by
 induction l with
 | nil => simp [le]
 | cons x l ih =>
  simp only [List.cons_append, le, ih, List.length_cons, Nat.pow_succ]
  rw [Nat.mul_add, Nat.add_assoc, Nat.mul_comm 256 (c * _), Nat.mul_assoc]
theorem le_lt (l : List Nat) (h : ∀ x ∈ l, x < 256) : le l < 256 ^ l.length := by
 induction l with
 | nil => simp [le]
 | cons x l ih =>
  have h1 := ih fun y hy => h y (by simp [hy])
  have h2 := h x (by simp)
  simp only [le, List.length_cons, Nat.pow_succ]
  omega
def digs (a m : Nat) : List Nat := (List.range m).map fun k => a / 256 ^ k % 256
def byteV (a b k : Nat) : Nat := if k < 8 then a / 256 ^ k % 256 else b / 256 ^ (k - 8) % 256
def bytesV (a b n : Nat) : List Nat := (List.range n).map (byteV a b)
theorem bytesV_succ (a b n : Nat) : bytesV a b (n + 1) = bytesV a b n ++ [byteV a b n] := by simp [bytesV, List.range_succ]
theorem bytesV_len (a b n : Nat) : (bytesV a b n).length = n := by simp [bytesV]
theorem bytesV_lt (a b n : Nat) : ∀ x ∈ bytesV a b n, x < 256 := by
 intro x hx
 obtain ⟨k, _, rfl⟩ := List.mem_map.1 hx
 unfold byteV
 split <;> exact Nat.mod_lt _ (by decide)
theorem bytesV_take (a b n : Nat) : (bytesV a b n).take 8 = digs a (min n 8) := by
 apply List.ext_getElem?
 intro i
 simp only [bytesV, digs, List.getElem?_take, List.getElem?_map]
 by_cases h8 : i < 8
 · rw [if_pos h8]
   by_cases hn : i < n
   · rw [List.getElem?_range hn, List.getElem?_range (by omega)]
     simp [byteV, h8]
   · rw [List.getElem?_eq_none (by simp; omega), List.getElem?_eq_none (by simp; omega)]
     rfl
 · rw [if_neg h8, List.getElem?_eq_none (by simp; omega)]
   rfl
theorem bytesV_drop (a b n : Nat) (hn : n ≤ 16) : ((bytesV a b n).drop 8).take 8 = digs b (n - 8) := by
 apply List.ext_getElem?
 intro i
 simp only [bytesV, digs, List.getElem?_take, List.getElem?_drop, List.getElem?_map]
 by_cases h8 : i < n - 8
 · rw [if_pos (by omega), List.getElem?_range (by omega), List.getElem?_range h8]
   simp [byteV]
   intro h; omega
 · rw [List.getElem?_eq_none (l := List.range (n - 8)) (by simp; omega), List.getElem?_eq_none (l := List.range n) (by simp; omega)]
   split <;> rfl
def loV (l : List Nat) : Nat := le (l.take 8)
def hiV (l : List Nat) : Nat := le ((l.drop 8).take 8)
theorem pow256_8 : 256 ^ 8 = 18446744073709551616 := by decide
theorem le8_lt (l : List Nat) (h : ∀ x ∈ l, x < 256) (hl : l.length ≤ 8) : le l < 18446744073709551616 := by
 have := le_lt l h
 have h2 : 256 ^ l.length ≤ 256 ^ 8 := Nat.pow_le_pow_right (by decide) hl
 rw [← pow256_8]
 omega
theorem loV_lt (l : List Nat) (h : ∀ x ∈ l, x < 256) : loV l < 18446744073709551616 := le8_lt _ (fun x hx => h x (List.mem_of_mem_take hx)) (by simp; omega)
theorem hiV_lt (l : List Nat) (h : ∀ x ∈ l, x < 256) : hiV l < 18446744073709551616 := le8_lt _ (fun x hx => h x (List.mem_of_mem_drop (List.mem_of_mem_take hx))) (by simp; omega)
theorem loV_snoc (l : List Nat) (c : Nat) (h : l.length < 8) : loV (l ++ [c]) = loV l + c * 256 ^ l.length := by
 unfold loV
 rw [List.take_of_length_le (by simp; omega), List.take_of_length_le (by omega), le_snoc]
theorem hiV_snoc_lo (l : List Nat) (c : Nat) (h : l.length < 8) : hiV (l ++ [c]) = hiV l := by
 unfold hiV
 rw [List.drop_of_length_le (by simp; omega), List.drop_of_length_le (by omega)]
theorem loV_snoc_hi (l : List Nat) (c : Nat) (h : 8 ≤ l.length) : loV (l ++ [c]) = loV l := by
 unfold loV
 rw [List.take_append_of_le_length h]
theorem hiV_snoc (l : List Nat) (c : Nat) (h : 8 ≤ l.length) (h' : l.length < 16) : hiV (l ++ [c]) = hiV l + c * 256 ^ (l.length - 8) := by
 unfold hiV
 rw [List.drop_append_of_le_length h, List.take_of_length_le (by simp; omega), List.take_of_length_le (by simp; omega), le_snoc, List.length_drop]
theorem pow_256 (k : Nat) : 2 ^ (8 * k) = 256 ^ k := by rw [Nat.pow_mul]
theorem or_shift8 (u k c : Nat) (hu : u < 256 ^ k) (h : c * 256 ^ k < 18446744073709551616) (hu64 : u < 18446744073709551616) :
 bits .or .u64 (u : Int) (IntKind.u64.wrap ((c : Int) * 2 ^ (8 * k))) = ((u + c * 256 ^ k : Nat) : Int) := by
 have e : (c : Int) * 2 ^ (8 * k) = ((c * 256 ^ k : Nat) : Int) := by
  rw [← pow_256]
  simp
 have e2 : IntKind.u64.wrap ((c : Int) * 2 ^ (8 * k)) = ((c * 256 ^ k : Nat) : Int) := by
  rw [e, IntKind.wrap_u64]
  omega
 rw [e2, u64_or_nat _ _ hu64 h, Nat.or_comm, nat_join (8 * k) (c * 256 ^ k) u (by rw [pow_256]; simp) (by rw [pow_256]; exact hu)]
 congr 1
 omega
end Go.Proofs.YtcnndoefgjbmiaaGreat
namespace Go.Proofs.YtcnndoefgjbmiaaGreat.pm
def shps : List (Nat × Nat × Nat × Bool) :=
 [(1, 0, 0, true), (1, 1, 0, false), (1, 1, 1, false), (1, 1, 1, false), (1, 1, 1, false), (1, 1, 1, false), (1, 1, 1, false), (1, 1, 1, false), (1, 1, 1, false), (1, 1, 1, false), (1, 1, 1, false), (1, 1, 1, false), (1, 1, 0, false), (1, 0, 0, false), (1, 0, 0, false),
  (1, 2, 0, false), (2, 1, 0, false), (2, 2, 0, false), (4, 1, 0, false), (1, 5, 0, false), (6, 0, 0, false), (1, 6, 0, false), (3, 0, 0, false), (0, 0, 0, false), (0, 0, 0, true)]
def shp (op : Nat) : Nat × Nat × Nat × Bool := shps.getD op (0, 0, 0, false)
def inB (n l : Int) : Bool := decide (0 ≤ n ∧ n < l)
theorem inB_t {n l : Int} : inB n l = true ↔ 0 ≤ n ∧ n < l := by unfold inB; exact decide_eq_true_iff
theorem inB_f {n l : Int} : inB n l = false ↔ ¬ (0 ≤ n ∧ n < l) := by unfold inB; exact decide_eq_false_iff_not
def slotsE (l : List (Int × Int)) : Int := if 512 < l.length then 3 else if l.all (fun s => sizeB s.1 && powB s.2) = true then 0 else 5
def termB (op : Int) : Bool := op == 20 || op == 23 || op == 24
def firstE (l : List Int) : Int := (l.find? (· != 0)).getD 0
theorem firstE_zero {l : List Int} (h : ∀ x ∈ l, x = 0) : firstE l = 0 := by
 unfold firstE
 rw [List.find?_eq_none.2 (fun x hx => by rw [h x hx]; simp)]
 rfl
theorem firstE_mem {l : List Int} (h : firstE l = 0) : ∀ x ∈ l, x = 0 := by
 intro x hx
 unfold firstE at h
 rcases hf : l.find? (· != 0) with _ | y
 · have := List.find?_eq_none.1 hf x hx
   simpa using this
 · rw [hf] at h
   have := List.find?_some hf
   simp at h this
   exact absurd h this
theorem firstE_take {α : Type} {f : α → Int} {l : List α} {k : Nat} {z : α} (hk : k < l.length) (h0 : ∀ j, j < k → f (l.getD j z) = 0) (h1 : f (l.getD k z) ≠ 0) : firstE (l.map f) = f (l.getD k z) := by
 induction l generalizing k with
 | nil => simp at hk
 | cons a r ih =>
  unfold firstE
  rcases k with _ | k
  · simp at h1 ⊢
    simp [h1]
  · have ha : f a = 0 := by simpa using h0 0 (by omega)
    have := ih (k := k) (by simpa using hk) (fun j hj => by simpa using h0 (j + 1) (by omega)) (by simpa using h1)
    unfold firstE at this
    simpa [ha] using this
open Go.RowKit
attribute [local go_sem ↓] Go.wp_at_zero Go.wp_at_succ
theorem term_any (op : Int) (w : World) :
 Calls Tryz.prog 65 #[.int .i64 op] w fun e w' => e = .returned (.bool (termB op)) ∧ w = w' := by
 by_cases h1 : op = 20
 · subst h1
   go_enter Tryz.func65, Tryz.ntmps65
   go_wp2
   go_ret
   exact ⟨rfl, rfl⟩
 · by_cases h2 : op = 23
   · subst h2
     go_enter Tryz.func65, Tryz.ntmps65
     go_wp2
     go_ret
     exact ⟨rfl, rfl⟩
   · have b1 : (op == 20) = false := by simpa using h1
     have b2 : (op == 23) = false := by simpa using h2
     have HT : Hid (termB op = (op == 24)) := hQ (by unfold termB; rw [b1, b2]; simp)
     clear h1 h2
     go_enter Tryz.func65, Tryz.ntmps65
     go_wp2
     go_ret
     exact ⟨ret_bool (by rw [HT.out]), rfl⟩
section
variable {nf : Nat} {prm : Int} {sl : List (Int × Int)} {nc o : Nat} {a b c im : Int}
end
end Go.Proofs.YtcnndoefgjbmiaaGreat.pm
namespace Go.Proofs.YtcnndoefgjbmiaaGreat
open Go.RowKit
set_option maxRecDepth 10000 in
theorem size_any (x : Int) (h0 : -9223372036854775808 ≤ x) (h1 : x ≤ 9223372036854775807) (w : World) :
 Calls Tryz.prog 70 #[.int .i64 x] w fun e w' => e = .returned (.bool (sizeB x)) ∧ w = w' := by
 by_cases h : 1 ≤ x ∧ x ≤ 16
 · obtain ⟨h2, h3⟩ := h
   obtain ⟨n, rfl⟩ := Int.eq_ofNat_of_zero_le (show 0 ≤ x by omega)
   have hand := i64_and_nat n (n - 1) (by omega) (by omega)
   rw [show ((n - 1 : Nat) : Int) = (n : Int) - 1 by omega] at hand
   have HP := hQ (sizeB_and n (by omega) (by omega))
   go_enter Tryz.func70, Tryz.ntmps70
   go_wp2
   go_ret
   exact ⟨ret_bool (by rw [← HP.out, Bool.eq_iff_iff, beq_iff_eq, decide_eq_true_iff]; omega), rfl⟩
 · have hp : sizeB x = false := by
    rcases hb : sizeB x with _ | _
    · rfl
    · have := (sizeB_iff x).1 hb
      omega
   have HP := hQ hp
   have hx : x < 1 ∨ (1 ≤ x ∧ 16 < x) := by omega
   clear hp h
   rcases hx with h | ⟨h, h'⟩
   all_goals
    go_enter Tryz.func70, Tryz.ntmps70
    go_wp2
    go_ret
    exact ⟨ret_bool (by rw [HP.out]), rfl⟩
theorem refsize_any (x : Int) (h0 : -9223372036854775808 ≤ x) (h1 : x ≤ 9223372036854775807) (w : World) :
 Calls Tryz.prog 88 #[.int .i64 x] w fun e w' => e = .returned (.bool (sizeB x)) ∧ w = w' := by
 have HP : Hid (sizeB x = true ↔ x = 1 ∨ x = 2 ∨ x = 4 ∨ x = 8 ∨ x = 16) := sizeB_iff x
 go_enter Tryz.func88, Tryz.ntmps88
 go_wp2
 all_goals
  go_ret
  refine ⟨ret_bool ?_, rfl⟩
  rw [Bool.eq_iff_iff, HP.out]
  simp
  try omega
theorem bytes_any (a b : Nat) (ha : a < 18446744073709551616) (hb : b < 18446744073709551616) (x : Int) (h0 : -9223372036854775808 ≤ x) (h1 : x ≤ 9223372036854775807) (w : World) :
 Calls Tryz.prog 48 #[.agg #[.int .u64 a, .int .u64 b], .int .i64 x] w fun e w' => ∃ r, e = .returned r ∧ w'.ownsRow w.heap.size 5 1 r (if sizeB x = true then x.toNat else 0) (nb (bytesV a b (if sizeB x = true then x.toNat else 0))) ∧ Below w.heap.size w w' := by
 have hsz := fun W : World => size_any x h0 h1 W
 rcases hb : sizeB x with _ | _
 · rw [hb] at hsz
   have HS := hQ hsz
   clear hsz hb
   go_enter Tryz.func48, Tryz.ntmps48
   go_wp2_with fail
   refine (HS.out _).mono ?_
   rintro e w1 ⟨rfl, rfl⟩
   go_wp2
   go_ret
   exact ⟨_, rfl, by simpa [bytesV, nb] using World.ownsRow_nil _ _ _ _, by go_grown⟩
 · rw [hb] at hsz
   have HS := hQ hsz
   have hx := (sizeB_iff x).1 hb
   obtain ⟨n, rfl⟩ := Int.eq_ofNat_of_zero_le (show 0 ≤ x by omega)
   have hn : n ≤ 16 := by omega
   obtain ⟨i0, hi0, hz0, hz1, hz2⟩ := info_parts info_u8
   clear hsz hb hx h0 h1
   go_enter Tryz.func48, Tryz.ntmps48
   go_wp2_with fail
   refine (HS.out _).mono ?_
   rintro e w1 ⟨rfl, rfl⟩
   go_wp2_with fail
   go_loopw [5, 12] (fun o i wr => ∃ k : Nat, k ≤ n ∧ i = .int .i64 k ∧ wr.ownsRow (w.heap.size + 1) 5 1 o k (nb (bytesV a b k)) ∧ Hid (Below (w.heap.size + 1) (w.alloc (.cells #[.int .u64 a, .int .u64 b] 38)) wr)) (fun _ i _ => n - (intOf i).toNat)
   case atStart => exact ⟨0, by omega, rfl, World.ownsRow_nil _ _ _ _, Below.refl _ _⟩
   case round =>
    obtain ⟨k, hk, rfl, own, bel⟩ := hrel
    have hc0 : wr.cell? ⟨w.heap.size, 0, none⟩ = some (.int .u64 a) := by rw [bel.out.cell (p := ⟨w.heap.size, 0, none⟩) (Nat.lt_succ_self _)]; go_simp
    have hc1 : wr.cell? ⟨w.heap.size, 1, none⟩ = some (.int .u64 b) := by rw [bel.out.cell (p := ⟨w.heap.size, 1, none⟩) (Nat.lt_succ_self _)]; go_simp
    have hsz := bel.out.size
    simp at hsz
    by_cases hlt : k < n
    · have HV : Hid (byteV a b k = if k < 8 then a / 256 ^ k % 256 else b / 256 ^ (k - 8) % 256) := rfl
      by_cases h8 : k < 8
      · have hk8 : (k : Int) % 8 = k := by omega
        have HE : Hid ((a : Int) / 2 ^ (8 * k) % 256 = ((byteV a b k : Nat) : Int)) := by
         show (a : Int) / 2 ^ (8 * k) % 256 = ((byteV a b k : Nat) : Int)
         rw [HV.out, if_pos h8, ← pow_256]
         simp
        go_wp2_with (at_builtin; refine wpList_append_any _ rfl (.tmp 21) (.tmp 28) _ rfl (w.heap.size + 1) 5 i0 _ 1 1 Tryz.underlying22 hi0 hz0 hz1 hz2 rfl (by omega) _ k _ rfl (own.alloc _) (wr.heap.size + 1) (some ⟨wr.heap.size, 0, none⟩) 1 1 [.int .u8 ((a : Int) / 2 ^ (8 * k) % 256)] rfl (reads_one wr _ _) (fun u hu => by simp at hu; subst hu; rfl) (by unfold maxLen; omega) (by omega) (by simp; omega) ?_; intro v1 w2 hown1 hg1 hat1)
        go_roundw
        case rel => exact ⟨k + 1, by omega, by go_num, by rw [bytesV_succ, nb_append]; rw [HE.out] at hown1; exact hown1, hQ (below_append (bel.out.alloc hsz _) (own.alloc _) hg1 nL (by simp; omega))⟩
        case measure => simp [intOf]; omega
      · have hk8 : (k : Int) % 8 = k - 8 := by omega
        have HE : Hid ((b : Int) / 2 ^ (8 * (k - 8)) % 256 = ((byteV a b k : Nat) : Int)) := by
         show (b : Int) / 2 ^ (8 * (k - 8)) % 256 = ((byteV a b k : Nat) : Int)
         rw [HV.out, if_neg h8, ← pow_256]
         simp
        go_wp2_with (at_builtin; refine wpList_append_any _ rfl (.tmp 21) (.tmp 28) _ rfl (w.heap.size + 1) 5 i0 _ 1 1 Tryz.underlying22 hi0 hz0 hz1 hz2 rfl (by omega) _ k _ rfl (own.alloc _) (wr.heap.size + 1) (some ⟨wr.heap.size, 0, none⟩) 1 1 [.int .u8 ((b : Int) / 2 ^ (8 * (k - 8)) % 256)] rfl (reads_one wr _ _) (fun u hu => by simp at hu; subst hu; rfl) (by unfold maxLen; omega) (by omega) (by simp; omega) ?_; intro v1 w2 hown1 hg1 hat1)
        go_roundw
        case rel => exact ⟨k + 1, by omega, by go_num, by rw [bytesV_succ, nb_append]; rw [HE.out] at hown1; exact hown1, hQ (below_append (bel.out.alloc hsz _) (own.alloc _) hg1 nL (by simp; omega))⟩
        case measure => simp [intOf]; omega
    · go_wp2
      go_ret
      refine ⟨_, rfl, ?_, ?_⟩
      · have hkn : k = n := by omega
        subst hkn
        simpa using own_base own (Nat.le_succ _)
      · exact (bR.alloc nL _).trans (bel.out.mono (Nat.le_succ _))
theorem refbytes_any (a b : Nat) (ha : a < 18446744073709551616) (hb : b < 18446744073709551616) (x : Int) (h0 : -9223372036854775808 ≤ x) (h1 : x ≤ 9223372036854775807) (w : World) :
 Calls Tryz.prog 114 #[.agg #[.int .u64 a, .int .u64 b], .int .i64 x] w fun e w' => ∃ r, e = .returned r ∧ w'.ownsRow w.heap.size 5 1 r (if sizeB x = true then x.toNat else 0) (nb (bytesV a b (if sizeB x = true then x.toNat else 0))) ∧ Below w.heap.size w w' := by
 have hsz := fun W : World => refsize_any x h0 h1 W
 rcases hb : sizeB x with _ | _
 · rw [hb] at hsz
   have HS := hQ hsz
   clear hsz hb
   go_enter Tryz.func114, Tryz.ntmps114
   go_wp2_with fail
   refine wp_loop_rounds 1 ?_
   rw [rounds_succ]
   go_wp2_with fail
   refine (HS.out _).mono ?_
   rintro e w1 ⟨rfl, rfl⟩
   go_wp2
   go_ret
   exact ⟨_, rfl, by simpa [bytesV, nb] using World.ownsRow_nil _ _ _ _, by go_grown⟩
 · rw [hb] at hsz
   have HS := hQ hsz
   have hx := (sizeB_iff x).1 hb
   obtain ⟨n, rfl⟩ := Int.eq_ofNat_of_zero_le (show 0 ≤ x by omega)
   have hn : n ≤ 16 := by omega
   obtain ⟨i0, hi0, hz0, hz1, hz2⟩ := info_parts info_u8
   clear hsz hb hx h0 h1
   go_enter Tryz.func114, Tryz.ntmps114
   go_wp2_with fail
   go_loopw [5, 6] (fun o i wr => ∃ k : Nat, k ≤ n ∧ i = .int .i64 k ∧ wr.ownsRow (w.heap.size + 1) 5 1 o k (nb (bytesV a b k)) ∧ Hid (Below (w.heap.size + 1) (w.alloc (.cells #[.int .u64 a, .int .u64 b] 38)) wr)) (fun _ i _ => n - (intOf i).toNat)
   case atStart => exact ⟨0, by omega, rfl, World.ownsRow_nil _ _ _ _, Below.refl _ _⟩
   case round =>
    obtain ⟨k, hk, rfl, own, bel⟩ := hrel
    have hc0 : wr.cell? ⟨w.heap.size, 0, none⟩ = some (.int .u64 a) := by rw [bel.out.cell (p := ⟨w.heap.size, 0, none⟩) (Nat.lt_succ_self _)]; go_simp
    have hc1 : wr.cell? ⟨w.heap.size, 1, none⟩ = some (.int .u64 b) := by rw [bel.out.cell (p := ⟨w.heap.size, 1, none⟩) (Nat.lt_succ_self _)]; go_simp
    have hsz := bel.out.size
    simp at hsz
    by_cases hlt : k < n
    · have HV : Hid (byteV a b k = if k < 8 then a / 256 ^ k % 256 else b / 256 ^ (k - 8) % 256) := rfl
      by_cases h8 : k < 8
      · have hk8 : (k : Int) % 8 = k := by omega
        have HE : Hid ((a : Int) / 2 ^ (8 * k) % 256 = ((byteV a b k : Nat) : Int)) := by
         show (a : Int) / 2 ^ (8 * k) % 256 = ((byteV a b k : Nat) : Int)
         rw [HV.out, if_pos h8, ← pow_256]
         simp
        go_wp2_with fail
        refine (HS.out _).mono ?_
        rintro e w1 ⟨rfl, rfl⟩
        go_wp2_with (at_builtin; refine wpList_append_any _ rfl (.tmp 18) (.tmp 25) _ rfl (w.heap.size + 1) 5 i0 _ 1 1 Tryz.underlying22 hi0 hz0 hz1 hz2 rfl (by omega) _ k _ rfl (own.alloc _) (wr.heap.size + 1) (some ⟨wr.heap.size, 0, none⟩) 1 1 [.int .u8 ((a : Int) / 2 ^ (8 * k) % 256)] rfl (reads_one wr _ _) (fun u hu => by simp at hu; subst hu; rfl) (by unfold maxLen; omega) (by omega) (by simp; omega) ?_; intro v1 w2 hown1 hg1 hat1)
        go_roundw
        case rel => exact ⟨k + 1, by omega, by go_num, by rw [bytesV_succ, nb_append]; rw [HE.out] at hown1; exact hown1, hQ (below_append (bel.out.alloc hsz _) (own.alloc _) hg1 nL (by simp; omega))⟩
        case measure => simp [intOf]; omega
      · have hk8 : (k : Int) % 8 = k - 8 := by omega
        have HE : Hid ((b : Int) / 2 ^ (8 * (k - 8)) % 256 = ((byteV a b k : Nat) : Int)) := by
         show (b : Int) / 2 ^ (8 * (k - 8)) % 256 = ((byteV a b k : Nat) : Int)
         rw [HV.out, if_neg h8, ← pow_256]
         simp
        go_wp2_with fail
        refine (HS.out _).mono ?_
        rintro e w1 ⟨rfl, rfl⟩
        go_wp2_with (at_builtin; refine wpList_append_any _ rfl (.tmp 27) (.tmp 35) _ rfl (w.heap.size + 1) 5 i0 _ 1 1 Tryz.underlying22 hi0 hz0 hz1 hz2 rfl (by omega) _ k _ rfl (own.alloc _) (wr.heap.size + 1) (some ⟨wr.heap.size, 0, none⟩) 1 1 [.int .u8 ((b : Int) / 2 ^ (8 * (k - 8)) % 256)] rfl (reads_one wr _ _) (fun u hu => by simp at hu; subst hu; rfl) (by unfold maxLen; omega) (by omega) (by simp; omega) ?_; intro v1 w2 hown1 hg1 hat1)
        go_roundw
        case rel => exact ⟨k + 1, by omega, by go_num, by rw [bytesV_succ, nb_append]; rw [HE.out] at hown1; exact hown1, hQ (below_append (bel.out.alloc hsz _) (own.alloc _) hg1 nL (by simp; omega))⟩
        case measure => simp [intOf]; omega
    · go_wp2_with fail
      refine (HS.out _).mono ?_
      rintro e w1 ⟨rfl, rfl⟩
      go_wp2
      go_ret
      refine ⟨_, rfl, ?_, ?_⟩
      · have hkn : k = n := by omega
        subst hkn
        simpa using own_base own (Nat.le_succ _)
      · exact (bR.alloc nL _).trans (bel.out.mono (Nat.le_succ _))
set_option maxRecDepth 10000 in
theorem power_any (x : Int) (h0 : -9223372036854775808 ≤ x) (h1 : x ≤ 9223372036854775807) (w : World) :
 Calls Tryz.prog 41 #[.int .i64 x] w fun e w' => e = .returned (.bool (powB x)) ∧ w = w' := by
 by_cases h : 1 ≤ x ∧ x ≤ 16777216
 · obtain ⟨h2, h3⟩ := h
   obtain ⟨n, rfl⟩ := Int.eq_ofNat_of_zero_le (show 0 ≤ x by omega)
   have hand := i64_and_nat n (n - 1) (by omega) (by omega)
   rw [show ((n - 1 : Nat) : Int) = (n : Int) - 1 by omega] at hand
   have HP := hQ (powB_and n (by omega) (by omega))
   go_enter Tryz.func41, Tryz.ntmps41
   go_wp2
   go_ret
   exact ⟨ret_bool (by rw [← HP.out, Bool.eq_iff_iff, beq_iff_eq, decide_eq_true_iff]; omega), rfl⟩
 · have hp : powB x = false := by
    rcases hb : powB x with _ | _
    · rfl
    · exact absurd (powB_range x hb) h
   have HP := hQ hp
   have hx : x < 1 ∨ (1 ≤ x ∧ 16777216 < x) := by omega
   clear hp h
   rcases hx with h | ⟨h, h'⟩
   all_goals
    go_enter Tryz.func41, Tryz.ntmps41
    go_wp2
    go_ret
    exact ⟨ret_bool (by rw [HP.out]), rfl⟩
set_option maxRecDepth 10000 in
theorem refpower_any (x : Int) (h0 : -9223372036854775808 ≤ x) (h1 : x ≤ 9223372036854775807) (w : World) :
 Calls Tryz.prog 50 #[.int .i64 x] w fun e w' => e = .returned (.bool (powB x)) ∧ w = w' := by
 go_enter Tryz.func50, Tryz.ntmps50
 go_wp2
 go_loop [3] (fun v => ∃ j p : Nat, j ≤ 25 ∧ v = .int .i64 p ∧ Hid (p = 2 ^ j) ∧ p ≤ 33554432 ∧ Hid (∀ i, i < j → x ≠ ((2 ^ i : Nat) : Int))) (fun v => 33554433 - (intOf v).toNat)
 case atStart => exact ⟨0, 1, by omega, rfl, hQ rfl, by omega, hQ (fun i h => absurd h (by omega))⟩
 case round =>
  obtain ⟨j, p, hj, rfl, HP, hp, HN⟩ := hrel
  by_cases hj24 : j ≤ 24
  · have hp24 : p ≤ 16777216 := by rw [HP.out]; exact (pow24 hj24).2
    have hp1 : 1 ≤ p := by rw [HP.out]; exact (pow24 hj24).1
    by_cases hx : x = p
    · have hb : powB x = true := (powB_iff x).2 ⟨j, hj24, by rw [hx, HP.out]⟩
      have HB := hQ hb
      have hbe : (x == (p : Int)) = true := by simpa using hx
      clear hb hx
      go_wp2
      go_ret
      exact ⟨ret_bool (by rw [HB.out]), rfl⟩
    · have hbe : (x == (p : Int)) = false := by simpa using hx
      have HX := hQ hx
      clear hx
      go_wp2
      go_round
      case rel =>
       refine ⟨j + 1, p * 2, by omega, by go_num, hQ (by rw [HP.out, Nat.pow_succ]), by omega, hQ fun i hi => ?_⟩
       rcases Nat.lt_or_ge i j with h | h
       · exact HN.out i h
       · have : i = j := by omega
         rw [this, ← HP.out]
         exact HX.out
      case measure => simp [intOf]; omega
  · have hj25 : j = 25 := by omega
    have hp25 : p = 33554432 := by rw [HP.out, hj25]
    have hb : powB x = false := by
     rcases hb : powB x with _ | _
     · rfl
     · obtain ⟨k, hk, hx⟩ := (powB_iff x).1 hb
       exact absurd hx (HN.out k (by omega))
    have HB := hQ hb
    have hp26 : 16777216 < p := by omega
    clear hb hj25 hp25
    go_wp2
    go_ret
    exact ⟨ret_bool (by rw [HB.out]), rfl⟩
end Go.Proofs.YtcnndoefgjbmiaaGreat
namespace Go.Proofs.YtcnndoefgjbmiaaGreat.pm
open Go.RowKit
def I64 (x : Int) : Prop := -9223372036854775808 ≤ x ∧ x ≤ 9223372036854775807
def badS (s : Int × Int) : Bool := !sizeB s.1 || !powB s.2
theorem mem_getD {α : Type} {l : List α} {k : Nat} {z : α} (h : k < l.length) : l.getD k z ∈ l := by
 rw [List.getD_eq_getElem?_getD, List.getElem?_eq_getElem h]
 exact List.getElem_mem h
theorem blk_one {w : World} {g : Nat} {t : TypeId} {a : Value} (h : Blk w g t #[a]) : w.cell? ⟨g, 0, none⟩ = some a ∧ w.frozen? ⟨g, 0, none⟩ = false ∧ g < w.heap.size := ⟨Blk.cell h 0, Blk.frozen h 0, Blk.lt h⟩
def FnR (f : Fn) : Prop := ∀ s ∈ f.slots, I64 s.1 ∧ I64 s.2
section
variable {nf : Nat} {f : Fn}
end
end Go.Proofs.YtcnndoefgjbmiaaGreat.pm
