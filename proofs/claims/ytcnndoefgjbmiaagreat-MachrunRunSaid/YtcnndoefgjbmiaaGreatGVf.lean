/- Contracts of FromBytes of the program and of the reference. -/
import Derived.Test.YtcnndoefgjbmiaaGreatGSc
set_option linter.unusedVariables false
set_option maxHeartbeats 8000000
namespace Go.Proofs.YtcnndoefgjbmiaaGreat
open Go.RowKit
theorem loV_take16 (l : List Nat) (m : Nat) (h : 16 ≤ m) : loV (l.take m) = loV l := by unfold loV; rw [List.take_take, Nat.min_eq_left (by omega)]
theorem hiV_take16 (l : List Nat) (m : Nat) (h : 16 ≤ m) : hiV (l.take m) = hiV l := by
 unfold hiV; rw [List.drop_take, List.take_take, Nat.min_eq_left (by omega)]
def fromV (lo hi : Nat) : Ending := .returned (.agg #[.int .u64 (lo : Int), .int .u64 (hi : Int)])
theorem fromV_eq {x y : Int} {a b : Nat} (hx : x = (a : Int)) (hy : y = (b : Int)) : Ending.returned (.agg #[.int .u64 x, .int .u64 y]) = fromV a b := by rw [hx, hy]; rfl
theorem fb_lo (w : World) (o : Obj) (a b v : Value) (t : TypeId) (q : Nat) : (((w.alloc o).alloc (.cells #[a, b] t)).drewN q).setCell ⟨w.heap.size + 1, 0, none⟩ v = ((w.alloc o).alloc (.cells #[v, b] t)).drewN q := by
 have h := World.setCell_alloc_at (w := w.alloc o) #[a, b] t (w.heap.size + 1) 0 v (by simp)
 show (((w.alloc o).alloc (.cells #[a, b] t)).setCell ⟨w.heap.size + 1, 0, none⟩ v).drewN q = _
 rw [h]
 rfl
theorem fb_hi (w : World) (o : Obj) (a b v : Value) (t : TypeId) (q : Nat) : (((w.alloc o).alloc (.cells #[a, b] t)).drewN q).setCell ⟨w.heap.size + 1, 1, none⟩ v = ((w.alloc o).alloc (.cells #[a, v] t)).drewN q := by
 have h := World.setCell_alloc_at (w := w.alloc o) #[a, b] t (w.heap.size + 1) 1 v (by simp)
 show (((w.alloc o).alloc (.cells #[a, b] t)).setCell ⟨w.heap.size + 1, 1, none⟩ v).drewN q = _
 rw [h]
 rfl
theorem frombytes_any (A : Option Addr) (n c : Nat) (l : List Nat) (w : World) (B : Nat) (hb : Bs w B A n l) (hB : B ≤ w.heap.size) (hn : n ≤ maxLen) (hcap : n ≤ c) :
 Calls Tryz.prog 46 #[.slice A n c] w fun e w' => e = fromV (loV l) (hiV l) ∧ Below w.heap.size w w' := by
 unfold maxLen at hn
 have HL := hQ hb.len
 have hcase : n ≤ 16 ∨ 16 < n := by omega
 rcases hcase with hc | hc
 · go_enter Tryz.func46, Tryz.ntmps46
   go_wp2_with fail
   go_loopw [12] (fun i wr => ∃ k q : Nat, k ≤ n ∧ i = .int .i64 k ∧ wr = ((w.alloc (.cells #[.int .u64 0, .int .u64 0] 38)).alloc (.cells #[.int .u64 (loV (l.take k) : Nat), .int .u64 (hiV (l.take k) : Nat)] 38)).drewN q) (fun i _ => n - (intOf i).toNat)
   case atStart => exact ⟨0, 0, by omega, rfl, by simp [loV, hiV, le]; rfl⟩
   case round =>
    obtain ⟨k, q, hk, rfl, rfl⟩ := hrel
    by_cases hlt : k < n
    · have hkn : k < n := by omega
      have hk16 : k < 16 := by omega
      obtain ⟨ad, rfl, hbl, hcell⟩ := hb.at_ hkn
      have hx := hb.lt k
      have htk := take_succ_getD l k (by rw [HL.out]; exact hkn)
      have hlk : (l.take k).length = k := by rw [List.length_take, HL.out]; omega
      have hbt : ∀ x ∈ l.take k, x < 256 := fun x hx => hb.2 x (List.mem_of_mem_take hx)
      have HT := hQ htk
      have HLK := hQ hlk
      have HLO := hQ (loV_lt _ hbt)
      have HHI := hQ (hiV_lt _ hbt)
      have hbl2 : (ad.add k).block < w.heap.size := by rw [block_of_add]; omega
      have hki : (k : Int) < (n : Int) := by omega
      have hki0 : (0 : Int) ≤ (k : Int) := by omega
      clear htk hlk
      by_cases h8 : k < 8
      · have hl1 : loV (l.take (k + 1)) = loV (l.take k) + l.getD k 0 * 256 ^ k := by rw [HT.out, loV_snoc _ _ (by rw [HLK.out]; exact h8), HLK.out]
        have hh1 : hiV (l.take (k + 1)) = hiV (l.take k) := by rw [HT.out, hiV_snoc_lo _ _ (by rw [HLK.out]; exact h8)]
        have hlk : loV (l.take k) < 256 ^ k := by
         unfold loV
         rw [List.take_of_length_le (by rw [HLK.out]; omega)]
         have := le_lt _ hbt
         rw [HLK.out] at this
         exact this
        have hmul : l.getD k 0 * 256 ^ k < 18446744073709551616 := by
         have h1 : l.getD k 0 * 256 ^ k ≤ 255 * 256 ^ 7 := Nat.mul_le_mul (by omega) (Nat.pow_le_pow_right (by decide) (by omega))
         exact Nat.lt_of_le_of_lt h1 (by decide)
        have hor := or_shift8 _ k _ hlk hmul HLO.out
        rw [← hl1] at hor
        have HH1 := hQ hh1
        have HOR := hQ hor
        clear hl1 hh1 hlk hmul hor hbt hb
        generalize loV (l.take k) = lo at *
        generalize hiV (l.take k) = hi at *
        generalize l.getD k 0 = x at *
        go_wp2_with fail
        go_region
        rw [fb_lo, HOR.out]
        go_wp2
        go_roundw
        case rel => exact ⟨k + 1, q + 1, by omega, by go_num, by rw [HH1.out]⟩
        case measure => simp [intOf]; omega
      · have hl1 : hiV (l.take (k + 1)) = hiV (l.take k) + l.getD k 0 * 256 ^ (k - 8) := by rw [HT.out, hiV_snoc _ _ (by rw [HLK.out]; omega) (by rw [HLK.out]; omega), HLK.out]
        have hh1 : loV (l.take (k + 1)) = loV (l.take k) := by rw [HT.out, loV_snoc_hi _ _ (by rw [HLK.out]; omega)]
        have hlk : hiV (l.take k) < 256 ^ (k - 8) := by
         unfold hiV
         rw [List.take_of_length_le (by rw [List.length_drop, HLK.out]; omega)]
         have := le_lt ((l.take k).drop 8) (fun x hx => hbt x (List.mem_of_mem_drop hx))
         rw [List.length_drop, HLK.out] at this
         exact this
        have hmul : l.getD k 0 * 256 ^ (k - 8) < 18446744073709551616 := by
         have h1 : l.getD k 0 * 256 ^ (k - 8) ≤ 255 * 256 ^ 7 := Nat.mul_le_mul (by omega) (Nat.pow_le_pow_right (by decide) (by omega))
         exact Nat.lt_of_le_of_lt h1 (by decide)
        have hor := or_shift8 _ (k - 8) _ hlk hmul HHI.out
        rw [← hl1] at hor
        have HH1 := hQ hh1
        have HOR := hQ hor
        clear hl1 hh1 hlk hmul hor hbt hb
        generalize loV (l.take k) = lo at *
        generalize hiV (l.take k) = hi at *
        generalize l.getD k 0 = x at *
        go_wp2_with fail
        go_region
        rw [fb_hi, HOR.out]
        go_wp2
        go_roundw
        case rel => exact ⟨k + 1, q + 1, by omega, by go_num, by rw [HH1.out]⟩
        case measure => simp [intOf]; omega
    · have HK : Hid (loV (l.take k) = loV l ∧ hiV (l.take k) = hiV l) := by
       have := HL.out
       show loV (l.take k) = loV l ∧ hiV (l.take k) = hiV l
       first
        | (rw [List.take_of_length_le (by omega)]; exact ⟨rfl, rfl⟩)
        | exact ⟨loV_take16 l k (by omega), hiV_take16 l k (by omega)⟩
        | (rcases Nat.lt_or_ge k 16 with h | h; rw [List.take_of_length_le (by omega)]; exact ⟨rfl, rfl⟩; exact ⟨loV_take16 l k h, hiV_take16 l k h⟩)
      clear hb
      go_wp2
      all_goals
       go_returns
       refine ⟨fromV_eq (by rw [HK.out.1]) (by rw [HK.out.2]), ?_⟩
       exact ((below_drewN (by go_grown) _).setCell (by simp) _).setCell (by simp) _
 · go_enter Tryz.func46, Tryz.ntmps46
   go_wp2_with fail
   go_loopw [12] (fun i wr => ∃ k q : Nat, k ≤ 16 ∧ i = .int .i64 k ∧ wr = ((w.alloc (.cells #[.int .u64 0, .int .u64 0] 38)).alloc (.cells #[.int .u64 (loV (l.take k) : Nat), .int .u64 (hiV (l.take k) : Nat)] 38)).drewN q) (fun i _ => 16 - (intOf i).toNat)
   case atStart => exact ⟨0, 0, by omega, rfl, by simp [loV, hiV, le]; rfl⟩
   case round =>
    obtain ⟨k, q, hk, rfl, rfl⟩ := hrel
    by_cases hlt : k < 16
    · have hkn : k < n := by omega
      have hk16 : k < 16 := by omega
      obtain ⟨ad, rfl, hbl, hcell⟩ := hb.at_ hkn
      have hx := hb.lt k
      have htk := take_succ_getD l k (by rw [HL.out]; exact hkn)
      have hlk : (l.take k).length = k := by rw [List.length_take, HL.out]; omega
      have hbt : ∀ x ∈ l.take k, x < 256 := fun x hx => hb.2 x (List.mem_of_mem_take hx)
      have HT := hQ htk
      have HLK := hQ hlk
      have HLO := hQ (loV_lt _ hbt)
      have HHI := hQ (hiV_lt _ hbt)
      have hbl2 : (ad.add k).block < w.heap.size := by rw [block_of_add]; omega
      have hki : (k : Int) < (n : Int) := by omega
      have hki0 : (0 : Int) ≤ (k : Int) := by omega
      clear htk hlk
      by_cases h8 : k < 8
      · have hl1 : loV (l.take (k + 1)) = loV (l.take k) + l.getD k 0 * 256 ^ k := by rw [HT.out, loV_snoc _ _ (by rw [HLK.out]; exact h8), HLK.out]
        have hh1 : hiV (l.take (k + 1)) = hiV (l.take k) := by rw [HT.out, hiV_snoc_lo _ _ (by rw [HLK.out]; exact h8)]
        have hlk : loV (l.take k) < 256 ^ k := by
         unfold loV
         rw [List.take_of_length_le (by rw [HLK.out]; omega)]
         have := le_lt _ hbt
         rw [HLK.out] at this
         exact this
        have hmul : l.getD k 0 * 256 ^ k < 18446744073709551616 := by
         have h1 : l.getD k 0 * 256 ^ k ≤ 255 * 256 ^ 7 := Nat.mul_le_mul (by omega) (Nat.pow_le_pow_right (by decide) (by omega))
         exact Nat.lt_of_le_of_lt h1 (by decide)
        have hor := or_shift8 _ k _ hlk hmul HLO.out
        rw [← hl1] at hor
        have HH1 := hQ hh1
        have HOR := hQ hor
        clear hl1 hh1 hlk hmul hor hbt hb
        generalize loV (l.take k) = lo at *
        generalize hiV (l.take k) = hi at *
        generalize l.getD k 0 = x at *
        go_wp2_with fail
        go_region
        rw [fb_lo, HOR.out]
        go_wp2
        go_roundw
        case rel => exact ⟨k + 1, q + 1, by omega, by go_num, by rw [HH1.out]⟩
        case measure => simp [intOf]; omega
      · have hl1 : hiV (l.take (k + 1)) = hiV (l.take k) + l.getD k 0 * 256 ^ (k - 8) := by rw [HT.out, hiV_snoc _ _ (by rw [HLK.out]; omega) (by rw [HLK.out]; omega), HLK.out]
        have hh1 : loV (l.take (k + 1)) = loV (l.take k) := by rw [HT.out, loV_snoc_hi _ _ (by rw [HLK.out]; omega)]
        have hlk : hiV (l.take k) < 256 ^ (k - 8) := by
         unfold hiV
         rw [List.take_of_length_le (by rw [List.length_drop, HLK.out]; omega)]
         have := le_lt ((l.take k).drop 8) (fun x hx => hbt x (List.mem_of_mem_drop hx))
         rw [List.length_drop, HLK.out] at this
         exact this
        have hmul : l.getD k 0 * 256 ^ (k - 8) < 18446744073709551616 := by
         have h1 : l.getD k 0 * 256 ^ (k - 8) ≤ 255 * 256 ^ 7 := Nat.mul_le_mul (by omega) (Nat.pow_le_pow_right (by decide) (by omega))
         exact Nat.lt_of_le_of_lt h1 (by decide)
        have hor := or_shift8 _ (k - 8) _ hlk hmul HHI.out
        rw [← hl1] at hor
        have HH1 := hQ hh1
        have HOR := hQ hor
        clear hl1 hh1 hlk hmul hor hbt hb
        generalize loV (l.take k) = lo at *
        generalize hiV (l.take k) = hi at *
        generalize l.getD k 0 = x at *
        go_wp2_with fail
        go_region
        rw [fb_hi, HOR.out]
        go_wp2
        go_roundw
        case rel => exact ⟨k + 1, q + 1, by omega, by go_num, by rw [HH1.out]⟩
        case measure => simp [intOf]; omega
    · have HK : Hid (loV (l.take k) = loV l ∧ hiV (l.take k) = hiV l) := by
       have := HL.out
       show loV (l.take k) = loV l ∧ hiV (l.take k) = hiV l
       first
        | (rw [List.take_of_length_le (by omega)]; exact ⟨rfl, rfl⟩)
        | exact ⟨loV_take16 l k (by omega), hiV_take16 l k (by omega)⟩
        | (rcases Nat.lt_or_ge k 16 with h | h; rw [List.take_of_length_le (by omega)]; exact ⟨rfl, rfl⟩; exact ⟨loV_take16 l k h, hiV_take16 l k h⟩)
      clear hb
      go_wp2
      all_goals
       go_returns
       refine ⟨fromV_eq (by rw [HK.out.1]) (by rw [HK.out.2]), ?_⟩
       exact ((below_drewN (by go_grown) _).setCell (by simp) _).setCell (by simp) _
theorem reffrombytes_any (A : Option Addr) (n c : Nat) (l : List Nat) (w : World) (B : Nat) (hb : Bs w B A n l) (hB : B ≤ w.heap.size) (hn : n ≤ maxLen) (hcap : n ≤ c) :
 Calls Tryz.prog 113 #[.slice A n c] w fun e w' => e = fromV (loV l) (hiV l) ∧ Below w.heap.size w w' := by
 unfold maxLen at hn
 have HL := hQ hb.len
 go_enter Tryz.func113, Tryz.ntmps113
 go_wp2_with fail
 go_loopw [4] (fun i wr => ∃ k q : Nat, k ≤ n ∧ i = .int .i64 k ∧ wr = ((w.alloc (.cells #[.int .u64 0, .int .u64 0] 38)).alloc (.cells #[.int .u64 (loV (l.take k) : Nat), .int .u64 (hiV (l.take k) : Nat)] 38)).drewN q) (fun i _ => n - (intOf i).toNat)
 case atStart => exact ⟨0, 0, by omega, rfl, by simp [loV, hiV, le]; rfl⟩
 case round =>
  obtain ⟨k, q, hk, rfl, rfl⟩ := hrel
  by_cases hlt : k < n ∧ k < 16
  · have hkn : k < n := by omega
    have hk16 : k < 16 := by omega
    obtain ⟨ad, rfl, hbl, hcell⟩ := hb.at_ hkn
    have hx := hb.lt k
    have htk := take_succ_getD l k (by rw [HL.out]; exact hkn)
    have hlk : (l.take k).length = k := by rw [List.length_take, HL.out]; omega
    have hbt : ∀ x ∈ l.take k, x < 256 := fun x hx => hb.2 x (List.mem_of_mem_take hx)
    have HT := hQ htk
    have HLK := hQ hlk
    have HLO := hQ (loV_lt _ hbt)
    have HHI := hQ (hiV_lt _ hbt)
    have hbl2 : (ad.add k).block < w.heap.size := by rw [block_of_add]; omega
    have hki : (k : Int) < (n : Int) := by omega
    have hki0 : (0 : Int) ≤ (k : Int) := by omega
    clear htk hlk
    by_cases h8 : k < 8
    · have hl1 : loV (l.take (k + 1)) = loV (l.take k) + l.getD k 0 * 256 ^ k := by rw [HT.out, loV_snoc _ _ (by rw [HLK.out]; exact h8), HLK.out]
      have hh1 : hiV (l.take (k + 1)) = hiV (l.take k) := by rw [HT.out, hiV_snoc_lo _ _ (by rw [HLK.out]; exact h8)]
      have hlk : loV (l.take k) < 256 ^ k := by
       unfold loV
       rw [List.take_of_length_le (by rw [HLK.out]; omega)]
       have := le_lt _ hbt
       rw [HLK.out] at this
       exact this
      have hmul : l.getD k 0 * 256 ^ k < 18446744073709551616 := by
       have h1 : l.getD k 0 * 256 ^ k ≤ 255 * 256 ^ 7 := Nat.mul_le_mul (by omega) (Nat.pow_le_pow_right (by decide) (by omega))
       exact Nat.lt_of_le_of_lt h1 (by decide)
      have hor := or_shift8 _ k _ hlk hmul HLO.out
      rw [← hl1] at hor
      have HH1 := hQ hh1
      have HOR := hQ hor
      clear hl1 hh1 hlk hmul hor hbt hb
      generalize loV (l.take k) = lo at *
      generalize hiV (l.take k) = hi at *
      generalize l.getD k 0 = x at *
      go_wp2_with fail
      go_region
      rw [fb_lo, HOR.out]
      go_wp2
      go_roundw
      case rel => exact ⟨k + 1, q + 1, by omega, by go_num, by rw [HH1.out]⟩
      case measure => simp [intOf]; omega
    · have hl1 : hiV (l.take (k + 1)) = hiV (l.take k) + l.getD k 0 * 256 ^ (k - 8) := by rw [HT.out, hiV_snoc _ _ (by rw [HLK.out]; omega) (by rw [HLK.out]; omega), HLK.out]
      have hh1 : loV (l.take (k + 1)) = loV (l.take k) := by rw [HT.out, loV_snoc_hi _ _ (by rw [HLK.out]; omega)]
      have hlk : hiV (l.take k) < 256 ^ (k - 8) := by
       unfold hiV
       rw [List.take_of_length_le (by rw [List.length_drop, HLK.out]; omega)]
       have := le_lt ((l.take k).drop 8) (fun x hx => hbt x (List.mem_of_mem_drop hx))
       rw [List.length_drop, HLK.out] at this
       exact this
      have hmul : l.getD k 0 * 256 ^ (k - 8) < 18446744073709551616 := by
       have h1 : l.getD k 0 * 256 ^ (k - 8) ≤ 255 * 256 ^ 7 := Nat.mul_le_mul (by omega) (Nat.pow_le_pow_right (by decide) (by omega))
       exact Nat.lt_of_le_of_lt h1 (by decide)
      have hor := or_shift8 _ (k - 8) _ hlk hmul HHI.out
      rw [← hl1] at hor
      have HH1 := hQ hh1
      have HOR := hQ hor
      clear hl1 hh1 hlk hmul hor hbt hb
      generalize loV (l.take k) = lo at *
      generalize hiV (l.take k) = hi at *
      generalize l.getD k 0 = x at *
      go_wp2_with fail
      go_region
      rw [fb_hi, HOR.out]
      go_wp2
      go_roundw
      case rel => exact ⟨k + 1, q + 1, by omega, by go_num, by rw [HH1.out]⟩
      case measure => simp [intOf]; omega
  · have HK : Hid (loV (l.take k) = loV l ∧ hiV (l.take k) = hiV l) := by
     have := HL.out
     show loV (l.take k) = loV l ∧ hiV (l.take k) = hiV l
     first
      | (rw [List.take_of_length_le (by omega)]; exact ⟨rfl, rfl⟩)
      | exact ⟨loV_take16 l k (by omega), hiV_take16 l k (by omega)⟩
      | (rcases Nat.lt_or_ge k 16 with h | h; rw [List.take_of_length_le (by omega)]; exact ⟨rfl, rfl⟩; exact ⟨loV_take16 l k h, hiV_take16 l k h⟩)
    clear hb
    go_wp2
    all_goals
     go_returns
     refine ⟨fromV_eq (by rw [HK.out.1]) (by rw [HK.out.2]), ?_⟩
     exact ((below_drewN (by go_grown) _).setCell (by simp) _).setCell (by simp) _
def szOf (x : Int) : Nat := if sizeB x = true then x.toNat else 0
def BytesR (w : World) (a b : Nat) (x : Int) (e : Ending) (w' : World) : Prop :=
 ∃ A c, e = .returned (.slice A (szOf x) c) ∧ Bs w' w'.heap.size A (szOf x) (bytesV a b (szOf x)) ∧ szOf x ≤ c ∧ w'.ownsRow w.heap.size 5 1 (.slice A (szOf x) c) (szOf x) (nb (bytesV a b (szOf x))) ∧ Below w.heap.size w w'
theorem own_cap' {w : World} {base n c : Nat} {e : TypeId} {size : Nat} {A : Option Addr} {xs : List Value} (h : w.ownsRow base e size (.slice A n c) n xs) : n ≤ c := by
 rcases h.2 with ⟨h1, rfl⟩ | ⟨g, cap, cur, h1, _, _, h2, h3, _⟩
 · simp at h1
   omega
 · simp at h1
   omega
theorem bytesR_of {w w' : World} {a b : Nat} {x : Int} {e : Ending} (h : ∃ r, e = .returned r ∧ w'.ownsRow w.heap.size 5 1 r (if sizeB x = true then x.toNat else 0) (nb (bytesV a b (if sizeB x = true then x.toNat else 0))) ∧ Below w.heap.size w w') : BytesR w a b x e w' := by
 obtain ⟨r, rfl, own, bel⟩ := h
 have own : w'.ownsRow w.heap.size 5 1 r (szOf x) (nb (bytesV a b (szOf x))) := own
 obtain ⟨A, c, rfl, _⟩ := own_form own
 exact ⟨A, c, rfl, Bs.of_own own (bytesV_lt _ _ _), own_cap' own, own, bel⟩
theorem bytes_r (a b : Nat) (ha : a < 18446744073709551616) (hb : b < 18446744073709551616) (x : Int) (h0 : -9223372036854775808 ≤ x) (h1 : x ≤ 9223372036854775807) (w : World) :
 Calls Tryz.prog 48 #[.agg #[.int .u64 a, .int .u64 b], .int .i64 x] w (BytesR w a b x) := (bytes_any a b ha hb x h0 h1 w).mono fun _ _ h => bytesR_of h
theorem refbytes_r (a b : Nat) (ha : a < 18446744073709551616) (hb : b < 18446744073709551616) (x : Int) (h0 : -9223372036854775808 ≤ x) (h1 : x ≤ 9223372036854775807) (w : World) :
 Calls Tryz.prog 114 #[.agg #[.int .u64 a, .int .u64 b], .int .i64 x] w (BytesR w a b x) := (refbytes_any a b ha hb x h0 h1 w).mono fun _ _ h => bytesR_of h
theorem pair_any (a b c d : Nat) (w : World) :
 Calls Tryz.prog 71 #[.agg #[.int .u64 (a : Int), .int .u64 (b : Int)], .agg #[.int .u64 (c : Int), .int .u64 (d : Int)]] w fun e w' => e = fromV a c ∧ Below w.heap.size w w' := by
 go_enter Tryz.func71, Tryz.ntmps71
 go_wp2
 go_returns
 exact ⟨rfl, by go_grown⟩
theorem refpair_any (a b c d : Nat) (w : World) :
 Calls Tryz.prog 83 #[.agg #[.int .u64 (a : Int), .int .u64 (b : Int)], .agg #[.int .u64 (c : Int), .int .u64 (d : Int)]] w fun e w' => e = fromV a c ∧ Below w.heap.size w w' := by
 go_enter Tryz.func83, Tryz.ntmps83
 go_wp2
 go_returns
 exact ⟨rfl, by go_grown⟩
theorem high_any (a b : Nat) (w : World) :
 Calls Tryz.prog 72 #[.agg #[.int .u64 (a : Int), .int .u64 (b : Int)]] w fun e w' => e = fromV b 0 ∧ Below w.heap.size w w' := by
 go_enter Tryz.func72, Tryz.ntmps72
 go_wp2
 go_returns
 exact ⟨rfl, by go_grown⟩
theorem refhigh_any (a b : Nat) (w : World) :
 Calls Tryz.prog 84 #[.agg #[.int .u64 (a : Int), .int .u64 (b : Int)]] w fun e w' => e = fromV b 0 ∧ Below w.heap.size w w' := by
 go_enter Tryz.func84, Tryz.ntmps84
 go_wp2
 go_returns
 exact ⟨rfl, by go_grown⟩
end Go.Proofs.YtcnndoefgjbmiaaGreat
