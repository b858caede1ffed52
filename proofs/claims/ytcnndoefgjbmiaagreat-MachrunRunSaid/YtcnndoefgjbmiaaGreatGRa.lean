/- Contracts of the reference of chapter 2: bit, set, twice, less, truth. -/
import Derived.Test.YtcnndoefgjbmiaaGreatGAp
set_option linter.unusedVariables false
set_option maxRecDepth 10000
set_option maxHeartbeats 8000000
namespace Go.Proofs.YtcnndoefgjbmiaaGreat
open Go.RowKit
theorem bit_lo (a b k : Nat) (hk : k < 64) : vN a b / 2 ^ k % 2 = a / 2 ^ k % 2 := ld_word a b k hk
theorem bit_hi (a b k : Nat) (ha : a < 18446744073709551616) (hk : 64 ≤ k) : vN a b / 2 ^ k % 2 = b / 2 ^ (k - 64) % 2 := by
 have e : 2 ^ k = 18446744073709551616 * 2 ^ (k - 64) := by
  rw [show (18446744073709551616 : Nat) = 2 ^ 64 from rfl, ← Nat.pow_add]
  congr 1; omega
 rw [e, ← Nat.div_div_eq_div_mul, show vN a b / 18446744073709551616 = b by unfold vN; omega]
theorem or_zero_bit (a k : Nat) (h : a / 2 ^ k % 2 = 0) : a ||| 2 ^ k = a + 2 ^ k := by
 have e1 := Nat.div_add_mod a (2 ^ (k + 1))
 have hp := Nat.two_pow_pos k
 have hm : a % 2 ^ (k + 1) < 2 ^ k := by
  have h1 : a % 2 ^ (k + 1) = 2 ^ k * (a / 2 ^ k % 2) + a % 2 ^ k := by
   rw [Nat.pow_succ, Nat.mod_mul, Nat.add_comm]
  rw [h1, h, Nat.mul_zero, Nat.zero_add]
  exact Nat.mod_lt _ hp
 generalize a % 2 ^ (k + 1) = l at *
 generalize hh : 2 ^ (k + 1) * (a / 2 ^ (k + 1)) = u at *
 have hu : u % 2 ^ (k + 1) = 0 := by rw [← hh]; exact Nat.mul_mod_right _ _
 have hl : l < 2 ^ (k + 1) := by rw [Nat.pow_succ]; omega
 rw [← e1, ← nat_join (k + 1) u l hu hl, Nat.or_assoc, Nat.or_comm l, nat_join k (2 ^ k) l (by simp) hm, nat_join (k + 1) u (2 ^ k + l) hu (by rw [Nat.pow_succ]; omega), nat_join (k + 1) u l hu hl]
 omega
theorem set_word (a k : Nat) (ha : a < 18446744073709551616) (hk : k < 64) (h : a / 2 ^ k % 2 = 0) : bits .or .u64 (a : Int) (IntKind.u64.wrap (2 ^ k)) = ((a + 2 ^ k : Nat) : Int) ∧ a + 2 ^ k < 18446744073709551616 := by
 have hp : 2 ^ k < 18446744073709551616 := Nat.pow_lt_pow_right (by decide) hk
 have e : IntKind.u64.wrap ((2 : Int) ^ k) = ((2 ^ k : Nat) : Int) := by
  rw [IntKind.wrap_u64, show ((2 : Int) ^ k) = ((2 ^ k : Nat) : Int) by simp]
  clear h
  generalize 2 ^ k = p at *
  omega
 have ho := or_zero_bit a k h
 have hlt : a ||| 2 ^ k < 2 ^ 64 := Nat.or_lt_two_pow (by omega) (by omega)
 rw [e, u64_or_nat _ _ ha hp, ho]
 exact ⟨rfl, by omega⟩
theorem bit_any (a b k : Nat) (ha : a < 18446744073709551616) (hb : b < 18446744073709551616) (hk : k < 128) (w : World) :
 Calls Tryz.prog 128 #[.agg #[.int .u64 (a : Int), .int .u64 (b : Int)], .int .i64 k] w fun e w' => e = .returned (.int .u64 ((vN a b / 2 ^ k % 2 : Nat) : Int)) ∧ Below w.heap.size w w' := by
 rcases Nat.lt_or_ge k 64 with h | h
 · have e1 := bit_and a k ha
   rw [← bit_lo a b k h] at e1
   have E1 := hQ e1
   generalize vN a b / 2 ^ k % 2 = t at *
   have h' : (k : Int) < 64 := by omega
   have h0 : (0 : Int) ≤ (k : Int) := by omega
   clear e1 ha hb hk
   go_enter Tryz.func128, Tryz.ntmps128
   go_wp2
   go_ret
   exact ⟨ret_int (by first | exact E1.out | (simpa using E1.out)), by go_grown⟩
 · obtain ⟨j, rfl⟩ : ∃ j, k = 64 + j := ⟨k - 64, by omega⟩
   have e1 := bit_and b j hb
   rw [show j = 64 + j - 64 by omega, ← bit_hi a b (64 + j) ha h] at e1
   rw [show 64 + j - 64 = j by omega] at e1
   have E1 := hQ e1
   generalize vN a b / 2 ^ (64 + j) % 2 = t at *
   have h' : ¬ ((64 : Int) + (j : Int) < 64) := by omega
   have h0 : (0 : Int) ≤ (j : Int) := by omega
   have h1 : (j : Int) < 64 := by omega
   clear e1 ha hb hk h
   go_enter Tryz.func128, Tryz.ntmps128
   go_wp2
   go_ret
   exact ⟨ret_int (by first | exact E1.out | (simpa using E1.out)), by go_grown⟩
theorem set_plain (a b k : Nat) (ha : a < 18446744073709551616) (hb : b < 18446744073709551616) (hk : k < 128) (h : vN a b / 2 ^ k % 2 = 0) :
 (k < 64 → bits .or .u64 (a : Int) (IntKind.u64.wrap (2 ^ k)) = ((loN (vN a b + 2 ^ k) : Nat) : Int) ∧ hiN (vN a b + 2 ^ k) = b) ∧
 (∀ j, k = 64 + j → bits .or .u64 (b : Int) (IntKind.u64.wrap (2 ^ j)) = ((hiN (vN a b + 2 ^ k) : Nat) : Int) ∧ loN (vN a b + 2 ^ k) = a) := by
 constructor
 · intro h64
   rw [bit_lo a b k h64] at h
   obtain ⟨e, hlt⟩ := set_word a k ha h64 h
   rw [e]
   generalize 2 ^ k = p at *
   have e2 : vN a b + p = vN (a + p) b := by unfold vN; omega
   rw [e2, loN_vN hlt, hiN_vN hlt hb]
   exact ⟨rfl, rfl⟩
 · rintro j rfl
   rw [bit_hi a b (64 + j) ha (by omega), show 64 + j - 64 = j by omega] at h
   obtain ⟨e, hlt⟩ := set_word b j hb (by omega) h
   rw [e]
   have e2 : vN a b + 2 ^ (64 + j) = vN a (b + 2 ^ j) := by
    unfold vN
    rw [Nat.pow_add, show (2 : Nat) ^ 64 = 18446744073709551616 from rfl]
    omega
   rw [e2, loN_vN ha, hiN_vN ha hlt]
   exact ⟨rfl, rfl⟩
theorem set_any (a b k : Nat) (ha : a < 18446744073709551616) (hb : b < 18446744073709551616) (hk : k < 128) (h : vN a b / 2 ^ k % 2 = 0) (w : World) :
 Calls Tryz.prog 129 #[.agg #[.int .u64 (a : Int), .int .u64 (b : Int)], .int .i64 k] w fun e w' => e = fromV (loN (vN a b + 2 ^ k)) (hiN (vN a b + 2 ^ k)) ∧ Below w.heap.size w w' := by
 obtain ⟨f1, f2⟩ := set_plain a b k ha hb hk h
 unfold fromV
 rcases Nat.lt_or_ge k 64 with hl | hl
 · obtain ⟨e1, e2⟩ := f1 hl
   have E1 := hQ e1
   have E2 := hQ e2
   clear e1 e2 f1 f2 h
   generalize loN (vN a b + 2 ^ k) = lo at *
   generalize hiN (vN a b + 2 ^ k) = hi at *
   have h' : (k : Int) < 64 := by omega
   have h0 : (0 : Int) ≤ (k : Int) := by omega
   clear ha hb hk
   go_enter Tryz.func129, Tryz.ntmps129
   go_wp2_with fail
   go_region
   go_wp2
   go_returns
   exact ⟨by rw [E1.out, E2.out], by first | go_grown | (apply below_drewN; go_grown) | exact Below.setCell (Below.setCell (below_drewN (by go_grown) _) (by simp) _) (by simp) _⟩
 · obtain ⟨j, rfl⟩ : ∃ j, k = 64 + j := ⟨k - 64, by omega⟩
   obtain ⟨e1, e2⟩ := f2 j rfl
   have E1 := hQ e1
   have E2 := hQ e2
   clear e1 e2 f1 f2 h
   generalize loN (vN a b + 2 ^ (64 + j)) = lo at *
   generalize hiN (vN a b + 2 ^ (64 + j)) = hi at *
   have h' : ¬ ((64 : Int) + (j : Int) < 64) := by omega
   have h0 : (0 : Int) ≤ (j : Int) := by omega
   have h1 : (j : Int) < 64 := by omega
   clear ha hb hk
   go_enter Tryz.func129, Tryz.ntmps129
   go_wp2_with fail
   go_region
   go_wp2
   go_returns
   exact ⟨by rw [E1.out, E2.out], by first | go_grown | (apply below_drewN; go_grown) | exact Below.setCell (Below.setCell (below_drewN (by go_grown) _) (by simp) _) (by simp) _⟩
theorem twice_any (a b : Nat) (ha : a < 18446744073709551616) (hb : b < 18446744073709551616) (w : World) :
 Calls Tryz.prog 130 #[.agg #[.int .u64 (a : Int), .int .u64 (b : Int)]] w fun e w' => e = fromV (loN (2 * vN a b)) (hiN (2 * vN a b)) ∧ Below w.heap.size w w' := by
 have e1 : IntKind.u64.wrap ((a : Int) * 2) = ((loN (2 * vN a b) : Nat) : Int) := by
  rw [IntKind.wrap_u64]; unfold loN vN; omega
 have e2 : bits .or .u64 (IntKind.u64.wrap ((b : Int) * 2)) ((a : Int) / 9223372036854775808) = ((hiN (2 * vN a b) : Nat) : Int) := by
  rw [twice_hi a b ha hb]; unfold hiN vN; omega
 have E1 := hQ e1
 have E2 := hQ e2
 clear e1 e2 ha hb
 unfold fromV
 generalize loN (2 * vN a b) = lo at *
 generalize hiN (2 * vN a b) = hi at *
 go_enter Tryz.func130, Tryz.ntmps130
 go_wp2
 go_returns
 exact ⟨by rw [E1.out, E2.out], by go_grown⟩
theorem refless_any (a b c d : Nat) (ha : a < 18446744073709551616) (hc : c < 18446744073709551616) (w : World) :
 Calls Tryz.prog 120 #[.agg #[.int .u64 (a : Int), .int .u64 (b : Int)], .agg #[.int .u64 (c : Int), .int .u64 (d : Int)]] w fun e w' => e = .returned (.bool (lessN a b c d)) ∧ Below w.heap.size w w' := by
 rcases Nat.lt_trichotomy b d with h | h | h
 · have hr : lessN a b c d = true := by unfold lessN vN; rw [decide_eq_true_iff]; omega
   rw [hr]
   clear ha hc hr
   have h' : (b : Int) < (d : Int) := by omega
   go_enter Tryz.func120, Tryz.ntmps120
   go_wp2
   go_ret
   exact ⟨rfl, by go_grown⟩
 · subst h
   by_cases h : a < c
   · have hr : lessN a b c b = true := by unfold lessN vN; rw [decide_eq_true_iff]; omega
     rw [hr]
     clear ha hc hr
     have h' : (a : Int) < (c : Int) := by omega
     go_enter Tryz.func120, Tryz.ntmps120
     go_wp2
     go_ret
     exact ⟨by simp [*], by go_grown⟩
   · have hr : lessN a b c b = false := by unfold lessN vN; rw [decide_eq_false_iff_not]; omega
     rw [hr]
     clear ha hc hr
     have h' : ¬ ((a : Int) < (c : Int)) := by omega
     go_enter Tryz.func120, Tryz.ntmps120
     go_wp2
     go_ret
     exact ⟨by simp [*], by go_grown⟩
 · have hr : lessN a b c d = false := by unfold lessN vN; rw [decide_eq_false_iff_not]; omega
   rw [hr]
   clear ha hc hr
   have h' : ¬ ((b : Int) < (d : Int)) := by omega
   have h'' : ¬ ((b : Int) = (d : Int)) := by omega
   have h3 : ¬ (b = d) := by omega
   go_enter Tryz.func120, Tryz.ntmps120
   go_wp2
   go_ret
   exact ⟨by first | rfl | simp [*], by go_grown⟩
theorem reftruth_any (t : Bool) (w : World) :
 Calls Tryz.prog 119 #[.bool t] w fun e w' => e = fromV (if t = true then 1 else 0) 0 ∧ Below w.heap.size w w' := by
 cases t
 · go_enter Tryz.func119, Tryz.ntmps119
   go_wp2
   go_returns
   exact ⟨rfl, by go_grown⟩
 · go_enter Tryz.func119, Tryz.ntmps119
   go_wp2
   go_returns
   exact ⟨rfl, by go_grown⟩
structure AddI (X Y k c o : Nat) : Prop where
 out : o = (X % 2 ^ k + Y % 2 ^ k) % 2 ^ k
 car : c = (X % 2 ^ k + Y % 2 ^ k) / 2 ^ k
theorem addI_0 (X Y : Nat) : AddI X Y 0 0 0 := ⟨by simp [Nat.mod_one], by simp [Nat.mod_one]⟩
theorem mod_succ_bit (X k : Nat) : X % 2 ^ (k + 1) = X % 2 ^ k + 2 ^ k * (X / 2 ^ k % 2) := by rw [Nat.pow_succ, Nat.mod_mul]
theorem addI_step {X Y k c o : Nat} (h : AddI X Y k c o) : o < 2 ^ k ∧ c ≤ 1 ∧ AddI X Y (k + 1) ((X / 2 ^ k % 2 + Y / 2 ^ k % 2 + c) / 2) (o + (X / 2 ^ k % 2 + Y / 2 ^ k % 2 + c) % 2 * 2 ^ k) := by
 obtain ⟨h1, h2⟩ := h
 have hp := Nat.two_pow_pos k
 have hx := Nat.mod_lt X hp
 have hy := Nat.mod_lt Y hp
 have e := Nat.div_add_mod (X % 2 ^ k + Y % 2 ^ k) (2 ^ k)
 have hc : (X % 2 ^ k + Y % 2 ^ k) / 2 ^ k < 2 := by rw [Nat.div_lt_iff_lt_mul hp]; omega
 have ho : o < 2 ^ k := by rw [h1]; exact Nat.mod_lt _ hp
 refine ⟨ho, by omega, ?_⟩
 have e2 : X % 2 ^ (k + 1) + Y % 2 ^ (k + 1) = o + 2 ^ k * (X / 2 ^ k % 2 + Y / 2 ^ k % 2 + c) := by
  rw [mod_succ_bit X k, mod_succ_bit Y k, Nat.mul_add, Nat.mul_add]
  rw [← h1, ← h2] at e
  generalize 2 ^ k * (X / 2 ^ k % 2) = z1 at *
  generalize 2 ^ k * (Y / 2 ^ k % 2) = z2 at *
  generalize 2 ^ k * c = z3 at *
  omega
 generalize X / 2 ^ k % 2 + Y / 2 ^ k % 2 + c = s at *
 have e3 : 2 ^ k * s = 2 ^ (k + 1) * (s / 2) + 2 ^ k * (s % 2) := by
  rw [Nat.pow_succ, Nat.mul_assoc, ← Nat.mul_add]
  congr 1
  omega
 have hlt : o + 2 ^ k * (s % 2) < 2 ^ (k + 1) := by
  have : s % 2 = 0 ∨ s % 2 = 1 := by omega
  rw [Nat.pow_succ]
  rcases this with h | h <;> rw [h] <;> omega
 have e4 : X % 2 ^ (k + 1) + Y % 2 ^ (k + 1) = (o + 2 ^ k * (s % 2)) + 2 ^ (k + 1) * (s / 2) := by rw [e2, e3]; omega
 refine ⟨?_, ?_⟩
 · rw [e4, Nat.add_mul_mod_self_left, Nat.mod_eq_of_lt hlt, Nat.mul_comm (2 ^ k)]
 · rw [e4, Nat.add_mul_div_left _ _ (Nat.two_pow_pos _), Nat.div_eq_of_lt hlt, Nat.zero_add]
theorem addI_128 {X Y c o : Nat} (h : AddI X Y 128 c o) (hX : X < M128) (hY : Y < M128) : o = (X + Y) % M128 := by
 have e : (2 : Nat) ^ 128 = M128 := rfl
 rw [h.out, e, Nat.mod_eq_of_lt hX, Nat.mod_eq_of_lt hY]
theorem low_bit {o k : Nat} (h : o < 2 ^ k) : o / 2 ^ k % 2 = 0 := by rw [Nat.div_eq_of_lt h]
theorem pair_eq {a b N : Nat} (ha : a < 18446744073709551616) (hb : b < 18446744073709551616) (h : vN a b = N % M128) : a = loN N ∧ b = hiN N := by
 rw [← loN_mod, ← hiN_mod N, ← h, loN_vN ha, hiN_vN ha hb]
 exact ⟨rfl, rfl⟩
theorem add_bit_lt {X Y k c o : Nat} (h : AddI X Y (k + 1) c (o + 2 ^ k)) (hk : k < 128) : o + 2 ^ k < M128 := by
 rw [h.out]
 exact Nat.lt_of_lt_of_le (Nat.mod_lt _ (Nat.two_pow_pos _)) (Nat.le_trans (Nat.pow_le_pow_right (by decide) (show k + 1 ≤ 128 by omega)) (by decide))
def MulI (X Y j o : Nat) : Prop := o = X * (Y / 2 ^ j) % M128
theorem mulI_start (X Y : Nat) (hY : Y < M128) : MulI X Y 128 0 := by
 unfold MulI
 rw [Nat.div_eq_of_lt (show Y < 2 ^ 128 from hY), Nat.mul_zero, Nat.zero_mod]
theorem mulI_step {X Y m o : Nat} (h : MulI X Y (m + 1) o) : (Y / 2 ^ m % 2 = 0 → MulI X Y m ((2 * o) % M128)) ∧ (Y / 2 ^ m % 2 = 1 → MulI X Y m (((2 * o) % M128 + X) % M128)) := by
 unfold MulI at *
 have hb := ld_bit Y m
 have e : (2 * o) % M128 = X * (2 * (Y / 2 ^ (m + 1))) % M128 := by
  rw [h, Nat.mul_mod_mod, Nat.mul_left_comm]
 constructor
 · intro ht
   rw [ht, Nat.add_zero] at hb
   rw [e, hb]
 · intro ht
   rw [ht] at hb
   rw [e, hb, Nat.mod_add_mod, Nat.mul_add, Nat.mul_one]
theorem mulI_end {X Y o : Nat} (h : MulI X Y 0 o) : o = X * Y % M128 := by
 unfold MulI at h
 rw [h, Nat.pow_zero, Nat.div_one]
theorem divI_turn {X Y m q r : Nat} (hX : X < M128) (hY : 0 < Y) (hYM : Y < M128) (hm : m < 128) (h : LdI X Y (m + 1) q r) :
 r < M128 ∧ q / 2 ^ m % 2 = 0 ∧ q + 2 ^ m < M128 ∧ (¬ (9223372036854775808 * 18446744073709551616 ≤ r ∨ ¬ ((2 * r) % M128 + X / 2 ^ m % 2 < Y)) → LdI X Y m q ((2 * r) % M128 + X / 2 ^ m % 2)) ∧
 ((9223372036854775808 * 18446744073709551616 ≤ r ∨ ¬ ((2 * r) % M128 + X / 2 ^ m % 2 < Y)) → LdI X Y m (q + 2 ^ m) (((2 * r) % M128 + X / 2 ^ m % 2 + (M128 - Y)) % M128)) := by
 have hr : r < Y := by rw [h.rest]; exact Nat.mod_lt _ hY
 have ht : X / 2 ^ m % 2 < 2 := Nat.mod_lt _ (by decide)
 have hq2 : q % 2 ^ (m + 1) = 0 := by rw [h.quo]; exact Nat.mul_mod_right _ _
 have hqX : q ≤ X := by
  rw [h.quo, Nat.mul_comm]
  exact Nat.le_trans (Nat.mul_le_mul_right _ (Nat.div_le_self _ _)) (Nat.div_mul_le_self _ _)
 refine ⟨by omega, ?_, ?_, ?_, ?_⟩
 · have e1 : q % 2 ^ (m + 1) = q % 2 ^ m + 2 ^ m * (q / 2 ^ m % 2) := mod_succ_bit q m
   rw [hq2] at e1
   have hp := Nat.two_pow_pos m
   rcases Nat.eq_zero_or_pos (q / 2 ^ m % 2) with h0 | h0
   · exact h0
   · have := Nat.mul_pos hp h0
     omega
 · have hp : 2 ^ (m + 1) ∣ M128 := ⟨2 ^ (127 - m), by rw [← Nat.pow_add, show m + 1 + (127 - m) = 128 by omega]; rfl⟩
   obtain ⟨u, hu⟩ := Nat.dvd_of_mod_eq_zero hq2
   obtain ⟨v, hv⟩ := hp
   have hp0 := Nat.two_pow_pos m
   have hlt : 2 ^ (m + 1) * u < 2 ^ (m + 1) * v := by rw [← hu, ← hv]; omega
   have huv : u + 1 ≤ v := Nat.lt_of_mul_lt_mul_left hlt
   have := Nat.mul_le_mul_left (2 ^ (m + 1)) huv
   rw [Nat.mul_add, ← hu, ← hv, Nat.mul_one, Nat.pow_succ] at this
   omega
 · intro hc
   have e : (2 * r) % M128 = 2 * r := by unfold M128 at *; omega
   rw [e] at hc ⊢
   exact ld_less hY h (by omega)
 · intro hc
   have hge : Y ≤ 2 * r + X / 2 ^ m % 2 := by
    rcases hc with hc | hc
    · unfold M128 at *; omega
    · have : (2 * r) % M128 ≤ 2 * r := Nat.mod_le _ _
      omega
   have := ld_more hY h hr ht hge
   have e : ((2 * r) % M128 + X / 2 ^ m % 2 + (M128 - Y)) % M128 = 2 * r + X / 2 ^ m % 2 - Y := by
    generalize X / 2 ^ m % 2 = t at *
    unfold M128 at *
    omega
   rw [e]
   exact this
theorem divI_start (X Y : Nat) (hX : X < M128) : LdI X Y 128 0 0 := by
 have e : X / 2 ^ 128 = 0 := Nat.div_eq_of_lt hX
 exact ⟨by rw [e, Nat.zero_mod], by rw [e, Nat.zero_div, Nat.mul_zero]⟩
theorem divI_end {X Y q r : Nat} (h : LdI X Y 0 q r) : q = X / Y := by
 have e := h.quo
 rw [Nat.pow_zero, Nat.one_mul, Nat.div_one] at e
 exact e
theorem sb_mk {wr W : World} {gx gy : Nat} {a b c d : Value} (Kx : Blk wr gx 38 #[a, b]) (Ky : Blk wr gy 38 #[c, d]) (h : Below wr.heap.size wr W) :
 W.cell? ⟨gx, 0, none⟩ = some a ∧ W.cell? ⟨gx, 1, none⟩ = some b ∧ W.cell? ⟨gy, 0, none⟩ = some c ∧ W.cell? ⟨gy, 1, none⟩ = some d ∧ Below wr.heap.size wr W := by
 have h1 := Blk.after Kx h
 have h2 := Blk.after Ky h
 exact ⟨Blk.cell h1 0, Blk.cell h1 1, Blk.cell h2 0, Blk.cell h2 1, h⟩
theorem sb_step {wr W W' : World} {gx gy : Nat} {a b c d : Value} (Kx : Blk wr gx 38 #[a, b]) (Ky : Blk wr gy 38 #[c, d]) (h : W.cell? ⟨gx, 0, none⟩ = some a ∧ W.cell? ⟨gx, 1, none⟩ = some b ∧ W.cell? ⟨gy, 0, none⟩ = some c ∧ W.cell? ⟨gy, 1, none⟩ = some d ∧ Below wr.heap.size wr W) (hb : Below W.heap.size W W') :
 W'.cell? ⟨gx, 0, none⟩ = some a ∧ W'.cell? ⟨gx, 1, none⟩ = some b ∧ W'.cell? ⟨gy, 0, none⟩ = some c ∧ W'.cell? ⟨gy, 1, none⟩ = some d ∧ Below wr.heap.size wr W' :=
 sb_mk Kx Ky (h.2.2.2.2.trans (hb.mono h.2.2.2.2.size))
theorem refadd_any (a b c d : Nat) (ha : a < 18446744073709551616) (hb : b < 18446744073709551616) (hc : c < 18446744073709551616) (hd : d < 18446744073709551616) (w : World) :
 Calls Tryz.prog 115 #[.agg #[.int .u64 (a : Int), .int .u64 (b : Int)], .agg #[.int .u64 (c : Int), .int .u64 (d : Int)]] w fun e w' => e = fromV (loN (vN a b + vN c d)) (hiN (vN a b + vN c d)) ∧ Below w.heap.size w w' := by
 have HA := hQ (And.intro ha (And.intro hb (And.intro hc hd)))
 have HE : Hid (∀ cn o0 o1 : Nat, o0 < 18446744073709551616 → o1 < 18446744073709551616 → AddI (vN a b) (vN c d) 128 cn (vN o0 o1) → o0 = loN (vN a b + vN c d) ∧ o1 = hiN (vN a b + vN c d)) :=
  hQ (fun cn o0 o1 h0 h1 h => pair_eq h0 h1 (addI_128 h (vN_lt ha hb) (vN_lt hc hd)))
 clear ha hb hc hd
 unfold fromV
 generalize hlo : loN (vN a b + vN c d) = lo at *
 generalize hhi : hiN (vN a b + vN c d) = hi at *
 clear hlo hhi
 go_enter Tryz.func115, Tryz.ntmps115
 go_wp2_with fail
 go_loopw [6, 7] (fun cc i wr => ∃ (k cn o0 o1 : Nat), i = .int .i64 k ∧ cc = .int .u64 cn ∧ Hid (k ≤ 128 ∧ o0 < 18446744073709551616 ∧ o1 < 18446744073709551616) ∧ Hid (AddI (vN a b) (vN c d) k cn (vN o0 o1)) ∧ Hid (Below w.heap.size w wr) ∧
  Hid (Blk wr w.heap.size 38 #[.int .u64 (a : Nat), .int .u64 (b : Nat)]) ∧ Hid (Blk wr (w.heap.size + 1) 38 #[.int .u64 (c : Nat), .int .u64 (d : Nat)]) ∧ Hid (Blk wr (w.heap.size + 1 + 1) 38 #[.int .u64 0, .int .u64 0]) ∧ Hid (Blk wr (w.heap.size + 1 + 1 + 1) 38 #[.int .u64 (o0 : Nat), .int .u64 (o1 : Nat)])) (fun _ i _ => 128 - (intOf i).toNat)
 case atStart =>
  exact ⟨0, 0, 0, 0, rfl, rfl, hQ ⟨by omega, by omega, by omega⟩, hQ (addI_0 (vN a b) (vN c d)), hQ ((((Below.refl w.heap.size w).alloc nL _).alloc (by simp) _).alloc (by simp; omega) _ |>.alloc (by simp; omega) _),
   hQ ((((Blk.newAt rfl).alloc _).alloc _).alloc _), hQ (((Blk.newAt (by simp)).alloc _).alloc _), hQ ((Blk.newAt (by simp)).alloc _), hQ (Blk.newAt (by simp))⟩
 case round =>
  obtain ⟨k, cn, o0, o1, rfl, rfl, HK, HI, HB, Kx, Ky, Kz, Ko⟩ := hrel
  obtain ⟨hk, ho0, ho1⟩ := HK.out
  obtain ⟨p0, p1, fp0, fp1, zp⟩ := Kz.out.two
  obtain ⟨q0, q1, fq0, fq1, zq⟩ := Ko.out.two
  by_cases hk8 : k < 128
  · obtain ⟨s1, s2, s3⟩ := addI_step HI.out
    have hbx : vN a b / 2 ^ k % 2 < 2 := Nat.mod_lt _ (by decide)
    have hby : vN c d / 2 ^ k % 2 < 2 := Nat.mod_lt _ (by decide)
    have cx : ((vN a b : Nat) : Int) / 2 ^ k % 2 = ((vN a b / 2 ^ k % 2 : Nat) : Int) := by simp
    have cy : ((vN c d : Nat) : Int) / 2 ^ k % 2 = ((vN c d / 2 ^ k % 2 : Nat) : Int) := by simp
    have es : IntKind.u64.wrap (IntKind.u64.wrap ((vN a b : Int) / 2 ^ k % 2 + (vN c d : Int) / 2 ^ k % 2) + (cn : Int)) = ((vN a b / 2 ^ k % 2 + vN c d / 2 ^ k % 2 + cn : Nat) : Int) := by
     rw [cx, cy]
     generalize vN a b / 2 ^ k % 2 = bx at *
     generalize vN c d / 2 ^ k % 2 = by' at *
     simp only [IntKind.wrap_u64]; omega
    have hs4 : vN a b / 2 ^ k % 2 + vN c d / 2 ^ k % 2 + cn < 4 := by omega
    generalize vN a b / 2 ^ k % 2 + vN c d / 2 ^ k % 2 + cn = s at *
    have ea : bits .and .u64 ((s : Nat) : Int) 1 = ((s % 2 : Nat) : Int) := by
     have := bits_and_u64_nat s 1 (by omega) (by omega)
     rw [show s &&& 1 = s % 2 from Nat.and_one_is_mod _] at this
     exact this
    have HSET := hQ (fun W : World => set_any o0 o1 k ho0 ho1 hk8 (low_bit s1) W)
    have hki : (k : Int) < 128 := by omega
    have hk0 : (0 : Int) ≤ (k : Int) := by omega
    have ES := hQ es
    have EA := hQ ea
    have S1 := hQ s1
    have S3 := hQ s3
    have HS4 := hQ hs4
    have HK8 := hQ (And.intro hk8 (And.intro ho0 ho1))
    have HS0 := hQ (sb_mk Kx.out Ky.out (Below.drew (Below.refl wr.heap.size wr)))
    clear cx cy es ea s1 s2 s3 hs4 hk ho0 ho1 hk8 hbx hby HK
    go_wp2_with fail
    go_region_held3 (fun W => W.cell? ⟨w.heap.size, 0, none⟩ = some (.int .u64 (a : Nat)) ∧ W.cell? ⟨w.heap.size, 1, none⟩ = some (.int .u64 (b : Nat)) ∧ W.cell? ⟨w.heap.size + 1, 0, none⟩ = some (.int .u64 (c : Nat)) ∧ W.cell? ⟨w.heap.size + 1, 1, none⟩ = some (.int .u64 (d : Nat)) ∧ Below wr.heap.size wr W)
     (first | exact sb_step Kx.out Ky.out (by assumption) bel5 | exact HS0.out)
     ((go_at_call 128; refine Calls.mono (bit_any _ _ k (by first | exact HA.out.1 | exact HA.out.2.2.1) (by first | exact HA.out.2.1 | exact HA.out.2.2.2) HK8.out.1 _) ?_; rintro e w5 ⟨rfl, bel5⟩))
    have hfin := (show _ ∧ _ ∧ _ ∧ _ ∧ Below wr.heap.size wr w5 from by assumption).2.2.2.2
    have Kx1 := hQ (Blk.after Kx.out hfin)
    have Ky1 := hQ (Blk.after Ky.out hfin)
    have Kz1 := hQ (Blk.after Kz.out hfin)
    have Ko1 := hQ (Blk.after Ko.out hfin)
    have HB1 := hQ (Below.step HB.out hfin)
    simp only [ES.out]
    clear hfin p0 p1 fp0 fp1 zp q0 q1 fq0 fq1 zq Kx Ky Kz Ko HS0 HB
    obtain ⟨q0, q1, fq0, fq1, zq⟩ := Ko1.out.two
    rcases (show s % 2 = 1 ∨ s % 2 = 0 by omega) with hs | hs
    · have ea := EA.out
      rw [hs] at ea
      have ea : bits .and .u64 (s : Int) 1 = 1 := ea
      have hI := S3.out
      rw [hs, Nat.one_mul] at hI
      have hlt := add_bit_lt hI HK8.out.1
      have e3 : vN (loN (vN o0 o1 + 2 ^ k)) (hiN (vN o0 o1 + 2 ^ k)) = vN o0 o1 + 2 ^ k := by rw [vN_lohi, Nat.mod_eq_of_lt hlt]
      rw [← e3] at hI
      have HI1 := hQ hI
      have hset := HSET.out
      unfold fromV at hset
      have hl := loN_lt (vN o0 o1 + 2 ^ k)
      have hh := hiN_lt (vN o0 o1 + 2 ^ k)
      generalize loN (vN o0 o1 + 2 ^ k) = l2 at *
      generalize hiN (vN o0 o1 + 2 ^ k) = u2 at *
      have HS2 := hQ hset
      have HLH := hQ (And.intro hl hh)
      clear e3 hI hlt hset hl hh HSET
      go_wp2_with fail
      refine (HS2.out _).mono ?_
      rintro e w6 ⟨rfl, bel⟩
      have Kx2 := hQ (Blk.after Kx1.out bel)
      have Ky2 := hQ (Blk.after Ky1.out bel)
      have Kz2 := hQ (Blk.after Kz1.out bel)
      have Ko2 := hQ (Blk.after Ko1.out bel)
      have HB2 := hQ (Below.step HB1.out bel)
      clear bel q0 q1 fq0 fq1 zq Kx1 Ky1 Kz1 Ko1 HB1
      obtain ⟨q0, q1, fq0, fq1, zq⟩ := Ko2.out.two
      go_wp2
      go_roundw
      case rel =>
       exact ⟨k + 1, s / 2, l2, u2, by go_num, by first | rfl | simp, hQ ⟨HK8.out.1, HLH.out.1, HLH.out.2⟩, HI1, hQ ((HB2.out.setCell (by simp <;> omega) _).setCell (by simp <;> omega) _), hQ ((Kx2.out.far (by simp <;> omega) _).far (by simp <;> omega) _), hQ ((Ky2.out.far (by simp <;> omega) _).far (by simp <;> omega) _), hQ ((Kz2.out.far (by simp <;> omega) _).far (by simp <;> omega) _), hQ ((Ko2.out.set_ 0 _).set_ 1 _)⟩
      case measure => simp [intOf] <;> omega
    · have ea := EA.out
      rw [hs] at ea
      have ea : bits .and .u64 (s : Int) 1 = 0 := ea
      have hI := S3.out
      rw [hs, Nat.zero_mul, Nat.add_zero] at hI
      have HI1 := hQ hI
      clear hI HSET
      go_wp2
      go_roundw
      case rel =>
       exact ⟨k + 1, s / 2, o0, o1, by go_num, by first | rfl | simp, hQ ⟨HK8.out.1, HK8.out.2.1, HK8.out.2.2⟩, HI1, HB1, Kx1, Ky1, Kz1, Ko1⟩
      case measure => simp [intOf] <;> omega
  · obtain rfl : k = 128 := by omega
    obtain ⟨e1, e2⟩ := HE.out cn o0 o1 ho0 ho1 HI.out
    clear HE HI HK hk8 hk ho0 ho1
    go_wp2
    refine bodyPost_ret (v := .agg #[.int .u64 (lo : Nat), .int .u64 (hi : Nat)]) (by simp [results, Tryz.results115, go_sem, *]) rfl ?_
    exact ⟨rfl, by first | exact HB.out | exact (HB.out.setCell (by simp; omega) _).setCell (by simp; omega) _⟩
theorem xor_ones (c : Nat) (hc : c < 18446744073709551616) : bits .xor .u64 IntKind.u64.max (c : Int) = ((18446744073709551615 - c : Nat) : Int) := by
 have e : IntKind.u64.max = ((18446744073709551615 : Nat) : Int) := by decide
 rw [e, bits_xor_u64_nat _ _ (by omega) hc]
 congr 1
 have h : (BitVec.allOnes 64 ^^^ BitVec.ofNat 64 c).toNat = (~~~ BitVec.ofNat 64 c).toNat := by rw [BitVec.allOnes_xor]
 rw [BitVec.toNat_xor, BitVec.toNat_not, BitVec.toNat_ofNat, BitVec.toNat_allOnes, Nat.mod_eq_of_lt (show c < 2 ^ 64 from hc)] at h
 exact h
theorem refsub_any (a b c d : Nat) (ha : a < 18446744073709551616) (hb : b < 18446744073709551616) (hc : c < 18446744073709551616) (hd : d < 18446744073709551616) (w : World) :
 Calls Tryz.prog 116 #[.agg #[.int .u64 (a : Int), .int .u64 (b : Int)], .agg #[.int .u64 (c : Int), .int .u64 (d : Int)]] w fun e w' => e = fromV (loN (vN a b + (M128 - vN c d))) (hiN (vN a b + (M128 - vN c d))) ∧ Below w.heap.size w w' := by
 have hl := loN_lt (vN a b + vN (18446744073709551615 - c) (18446744073709551615 - d))
 have hh := hiN_lt (vN a b + vN (18446744073709551615 - c) (18446744073709551615 - d))
 have h1 := fun W : World => refadd_any a b (18446744073709551615 - c) (18446744073709551615 - d) ha hb (by omega) (by omega) W
 have h2 := fun W : World => refadd_any (loN (vN a b + vN (18446744073709551615 - c) (18446744073709551615 - d))) (hiN (vN a b + vN (18446744073709551615 - c) (18446744073709551615 - d))) 1 0 hl hh (by omega) (by omega) W
 have hv := vN_lohi (vN a b + vN (18446744073709551615 - c) (18446744073709551615 - d))
 have he : loN (vN (loN (vN a b + vN (18446744073709551615 - c) (18446744073709551615 - d))) (hiN (vN a b + vN (18446744073709551615 - c) (18446744073709551615 - d))) + vN 1 0) = loN (vN a b + (M128 - vN c d)) ∧ hiN (vN (loN (vN a b + vN (18446744073709551615 - c) (18446744073709551615 - d))) (hiN (vN a b + vN (18446744073709551615 - c) (18446744073709551615 - d))) + vN 1 0) = hiN (vN a b + (M128 - vN c d)) := by
  apply lohi_congr
  rw [hv]
  have e1 : vN (18446744073709551615 - c) (18446744073709551615 - d) + vN c d + 1 = M128 := by unfold vN M128; omega
  have e2 : vN 1 0 = 1 := rfl
  have hX := vN_lt ha hb
  have hY := vN_lt hc hd
  rw [e2]
  generalize vN (18446744073709551615 - c) (18446744073709551615 - d) = z at *
  unfold M128 at *
  omega
 rw [he.1, he.2] at h2
 have c1 := xor_ones c hc
 have d1 := xor_ones d hd
 unfold fromV at h1 h2 ⊢
 generalize loN (vN a b + vN (18446744073709551615 - c) (18446744073709551615 - d)) = l1 at *
 generalize hiN (vN a b + vN (18446744073709551615 - c) (18446744073709551615 - d)) = u1 at *
 generalize loN (vN a b + (M128 - vN c d)) = lo at *
 generalize hiN (vN a b + (M128 - vN c d)) = hi at *
 generalize 18446744073709551615 - c = c2 at *
 generalize 18446744073709551615 - d = d2 at *
 have H1 := hQ h1
 have H2 := hQ h2
 have C1 := hQ c1
 have D1 := hQ d1
 clear h1 h2 hl hh hv he ha hb hc hd c1 d1
 go_enter Tryz.func116, Tryz.ntmps116
 go_wp2_with fail
 simp only [C1.out, D1.out]
 refine (H1.out _).mono ?_
 rintro e w1 ⟨rfl, bel1⟩
 have z1 := bel1.size
 simp at z1
 have HB1 := hQ (Below.step ((((Below.refl w.heap.size w).alloc nL _).alloc (by simp) _).alloc (by simp; omega) _) bel1)
 have Kz1 := hQ (Blk.after (show Blk _ (w.heap.size + 1 + 1) 38 #[.int .u64 0, .int .u64 0] from Blk.newAt (by simp)) bel1)
 clear bel1 z1 H1
 go_wp2_with fail
 refine (H2.out _).mono ?_
 rintro e w2 ⟨rfl, bel2⟩
 have HB2 := hQ (Below.step HB1.out bel2)
 have Kz2 := hQ (Blk.after Kz1.out bel2)
 clear bel2 H2 HB1 Kz1
 obtain ⟨q0, q1, f0, f1, zq⟩ := Kz2.out.two
 go_wp2
 refine bodyPost_ret (v := .agg #[.int .u64 (lo : Nat), .int .u64 (hi : Nat)]) (by simp [results, Tryz.results116, go_sem, *]) rfl ?_
 exact ⟨rfl, (HB2.out.setCell (by simp; omega) _).setCell (by simp; omega) _⟩
theorem refmul_any (a b c d : Nat) (ha : a < 18446744073709551616) (hb : b < 18446744073709551616) (hc : c < 18446744073709551616) (hd : d < 18446744073709551616) (w : World) :
 Calls Tryz.prog 117 #[.agg #[.int .u64 (a : Int), .int .u64 (b : Int)], .agg #[.int .u64 (c : Int), .int .u64 (d : Int)]] w fun e w' => e = fromV (loN (vN a b * vN c d)) (hiN (vN a b * vN c d)) ∧ Below w.heap.size w w' := by
 have HS : Hid (MulI (vN a b) (vN c d) 128 (vN 0 0)) := hQ (mulI_start _ _ (vN_lt hc hd))
 have HE : Hid (∀ o0 o1 : Nat, o0 < 18446744073709551616 → o1 < 18446744073709551616 → MulI (vN a b) (vN c d) 0 (vN o0 o1) → o0 = loN (vN a b * vN c d) ∧ o1 = hiN (vN a b * vN c d)) :=
  hQ (fun o0 o1 h0 h1 h => pair_eq h0 h1 (mulI_end h))
 have HBY := hQ (fun (k : Nat) (hk : k < 128) (W : World) => bit_any c d k hc hd hk W)
 have HTW := hQ (fun (o0 o1 : Nat) (h0 : o0 < 18446744073709551616) (h1 : o1 < 18446744073709551616) (W : World) => twice_any o0 o1 h0 h1 W)
 have HAD := hQ (fun (o0 o1 : Nat) (h0 : o0 < 18446744073709551616) (h1 : o1 < 18446744073709551616) (W : World) => refadd_any o0 o1 a b h0 h1 ha hb W)
 unfold fromV at HTW HAD
 clear ha hb hc hd
 unfold fromV
 generalize loN (vN a b * vN c d) = lo at *
 generalize hiN (vN a b * vN c d) = hi at *
 go_enter Tryz.func117, Tryz.ntmps117
 go_wp2_with fail
 go_loopw [6] (fun i wr => ∃ (j : Nat) (κ : Int) (o0 o1 : Nat), i = .int .i64 κ ∧ Hid (κ = (j : Int) - 1 ∧ j ≤ 128 ∧ o0 < 18446744073709551616 ∧ o1 < 18446744073709551616) ∧ Hid (MulI (vN a b) (vN c d) j (vN o0 o1)) ∧ Hid (Below w.heap.size w wr) ∧
  Hid (Blk wr w.heap.size 38 #[.int .u64 (a : Nat), .int .u64 (b : Nat)]) ∧ Hid (Blk wr (w.heap.size + 1) 38 #[.int .u64 (c : Nat), .int .u64 (d : Nat)]) ∧ Hid (Blk wr (w.heap.size + 1 + 1) 38 #[.int .u64 0, .int .u64 0]) ∧ Hid (Blk wr (w.heap.size + 1 + 1 + 1) 38 #[.int .u64 (o0 : Nat), .int .u64 (o1 : Nat)])) (fun i _ => (intOf i + 1).toNat)
 case atStart =>
  exact ⟨128, 127, 0, 0, rfl, hQ ⟨by omega, by omega, by omega, by omega⟩, HS, hQ ((((Below.refl w.heap.size w).alloc nL _).alloc (by simp) _).alloc (by simp; omega) _ |>.alloc (by simp; omega) _),
   hQ ((((Blk.newAt rfl).alloc _).alloc _).alloc _), hQ (((Blk.newAt (by simp)).alloc _).alloc _), hQ ((Blk.newAt (by simp)).alloc _), hQ (Blk.newAt (by simp))⟩
 case round =>
  clear HS
  obtain ⟨j, κ, o0, o1, rfl, HK, HI, HB, Kx, Ky, Kz, Ko⟩ := hrel
  obtain ⟨hκ, hj, ho0, ho1⟩ := HK.out
  obtain ⟨x0, x1, -, -, zx⟩ := Kx.out.two
  obtain ⟨y0, y1, -, -, zy⟩ := Ky.out.two
  obtain ⟨p0, p1, fp0, fp1, zp⟩ := Kz.out.two
  obtain ⟨q0, q1, fq0, fq1, zq⟩ := Ko.out.two
  rcases Nat.eq_zero_or_pos j with hj0 | hj0
  · subst hj0
    obtain rfl : κ = -1 := by omega
    obtain ⟨e1, e2⟩ := HE.out o0 o1 ho0 ho1 HI.out
    clear HE HI HK hκ hj ho0 ho1 HBY HTW HAD
    go_wp2
    refine bodyPost_ret (v := .agg #[.int .u64 (lo : Nat), .int .u64 (hi : Nat)]) (by simp [results, Tryz.results117, go_sem, *]) rfl ?_
    exact ⟨rfl, by first | exact HB.out | exact (HB.out.setCell (by simp; omega) _).setCell (by simp; omega) _⟩
  · obtain ⟨m, rfl⟩ : ∃ m, j = m + 1 := ⟨j - 1, by omega⟩
    obtain rfl : κ = (m : Int) := by omega
    obtain ⟨m1, m2⟩ := mulI_step HI.out
    have hk8 : m < 128 := by omega
    have e3 := vN_lohi (2 * vN o0 o1)
    have hl := loN_lt (2 * vN o0 o1)
    have hh := hiN_lt (2 * vN o0 o1)
    have htw := fun W : World => HTW.out o0 o1 ho0 ho1 W
    rw [← e3] at m1 m2
    generalize loN (2 * vN o0 o1) = l1 at *
    generalize hiN (2 * vN o0 o1) = u1 at *
    have hb2 : vN c d / 2 ^ m % 2 < 2 := Nat.mod_lt _ (by decide)
    have hby := fun W : World => HBY.out m hk8 W
    generalize vN c d / 2 ^ m % 2 = t at *
    have H1 := hQ htw
    have H2 := hQ hby
    have M1 := hQ m1
    have M2 := hQ m2
    have HT2 := hQ hb2
    have HL := hQ (And.intro hl hh)
    have HK8 := hQ hk8
    have hm0 : (0 : Int) ≤ (m : Int) := by omega
    have hm1 : (m : Int) < 128 := by omega
    clear htw hby m1 m2 hb2 hl hh hk8 e3 HK hκ hj hj0 ho0 ho1 HBY HTW HI
    go_wp2_with fail
    refine (H1.out _).mono ?_
    rintro e w1 ⟨rfl, bel⟩
    have Kx1 := hQ (Blk.after Kx.out bel)
    have Ky1 := hQ (Blk.after Ky.out bel)
    have Kz1 := hQ (Blk.after Kz.out bel)
    have Ko1 := hQ (Blk.after Ko.out bel)
    have HB1 := hQ (Below.step HB.out bel)
    clear bel x0 x1 zx y0 y1 zy p0 p1 fp0 fp1 zp q0 q1 fq0 fq1 zq Kx Ky Kz Ko HB H1
    obtain ⟨x0, x1, -, -, zx⟩ := Kx1.out.two
    obtain ⟨y0, y1, -, -, zy⟩ := Ky1.out.two
    obtain ⟨q0, q1, fq0, fq1, zq⟩ := Ko1.out.two
    go_wp2_with fail
    refine (H2.out _).mono ?_
    rintro e w2 ⟨rfl, bel⟩
    have Kx2 := hQ (Blk.after ((Kx1.out.far (by simp <;> omega) _).far (by simp <;> omega) _) bel)
    have Ky2 := hQ (Blk.after ((Ky1.out.far (by simp <;> omega) _).far (by simp <;> omega) _) bel)
    have Kz2 := hQ (Blk.after ((Kz1.out.far (by simp <;> omega) _).far (by simp <;> omega) _) bel)
    have Ko2 : Hid (Blk w2 (w.heap.size + 1 + 1 + 1) 38 #[.int .u64 (l1 : Nat), .int .u64 (u1 : Nat)]) := hQ (Blk.after ((Ko1.out.set_ 0 (.int .u64 (l1 : Nat))).set_ 1 (.int .u64 (u1 : Nat))) bel)
    have HB2 := hQ (Below.step ((HB1.out.setCell (p := ⟨w.heap.size + 1 + 1 + 1, 0, none⟩) (by simp <;> omega) (.int .u64 (l1 : Nat))).setCell (p := ⟨w.heap.size + 1 + 1 + 1, 1, none⟩) (by simp <;> omega) (.int .u64 (u1 : Nat))) bel)
    clear bel x0 x1 zx y0 y1 zy q0 q1 fq0 fq1 zq Kx1 Ky1 Kz1 Ko1 HB1 H2
    obtain ⟨x0, x1, -, -, zx⟩ := Kx2.out.two
    obtain ⟨y0, y1, -, -, zy⟩ := Ky2.out.two
    obtain ⟨q0, q1, fq0, fq1, zq⟩ := Ko2.out.two
    rcases (show t = 1 ∨ t = 0 by have := HT2.out; omega) with rfl | rfl
    · have e4 := vN_lohi (vN l1 u1 + vN a b)
      have hI := M2.out rfl
      rw [← e4] at hI
      have hl := loN_lt (vN l1 u1 + vN a b)
      have hh := hiN_lt (vN l1 u1 + vN a b)
      have had := fun W : World => HAD.out l1 u1 HL.out.1 HL.out.2 W
      generalize loN (vN l1 u1 + vN a b) = l2 at *
      generalize hiN (vN l1 u1 + vN a b) = u2 at *
      have H3 := hQ had
      have HI2 := hQ hI
      have HL2 := hQ (And.intro hl hh)
      clear e4 hI hl hh had M1 M2 HT2
      go_wp2_with fail
      refine (H3.out _).mono ?_
      rintro e w3 ⟨rfl, bel⟩
      have Kx3 := hQ (Blk.after Kx2.out bel)
      have Ky3 := hQ (Blk.after Ky2.out bel)
      have Kz3 := hQ (Blk.after Kz2.out bel)
      have Ko3 := hQ (Blk.after Ko2.out bel)
      have HB3 := hQ (Below.step HB2.out bel)
      clear bel x0 x1 zx y0 y1 zy q0 q1 fq0 fq1 zq Kx2 Ky2 Kz2 Ko2 HB2 H3
      obtain ⟨q0, q1, fq0, fq1, zq⟩ := Ko3.out.two
      go_wp2
      go_roundw
      case rel =>
       exact ⟨m, (m : Int) - 1, l2, u2, by go_num, hQ ⟨rfl, by have := HK8.out; omega, HL2.out.1, HL2.out.2⟩, HI2, hQ ((HB3.out.setCell (by simp <;> omega) _).setCell (by simp <;> omega) _), hQ ((Kx3.out.far (by simp <;> omega) _).far (by simp <;> omega) _), hQ ((Ky3.out.far (by simp <;> omega) _).far (by simp <;> omega) _), hQ ((Kz3.out.far (by simp <;> omega) _).far (by simp <;> omega) _), hQ ((Ko3.out.set_ 0 _).set_ 1 _)⟩
      case measure => simp [intOf] <;> omega
    · have HI2 := hQ (M1.out rfl)
      clear M1 M2 HT2
      go_wp2
      go_roundw
      case rel =>
       exact ⟨m, (m : Int) - 1, l1, u1, by go_num, hQ ⟨rfl, by have := HK8.out; omega, HL.out.1, HL.out.2⟩, HI2, HB2, Kx2, Ky2, Kz2, Ko2⟩
      case measure => simp [intOf] <;> omega
end Go.Proofs.YtcnndoefgjbmiaaGreat
