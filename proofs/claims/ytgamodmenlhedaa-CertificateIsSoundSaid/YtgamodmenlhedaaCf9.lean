/- Contract of ref04.Add. -/
import Derived.Test.YtgamodmenlhedaaCf8
namespace Go.Proofs.Ytgamodmenlhedaa.cf
open Go.RowKit
set_option linter.unusedVariables false
set_option maxRecDepth 10000

/-- what is still to come where so many elements are left; done: x has been put -/
def addGo (x : Int) : List Int → Bool → List Int
  | [], d => if d then [] else [x]
  | a :: r, true => a :: addGo x r true
  | a :: r, false => if x ≤ a then (if x < a then x :: a :: addGo x r true else a :: addGo x r true) else a :: addGo x r false
def addL (l : List Int) (x : Int) : List Int := addGo x l (!decide (0 ≤ x ∧ x < 512))
def ni (l : List Int) : List Value := l.map (Value.int .i64)
theorem info_int : (Try.prog.info? 3).map (fun i => (i.zero, i.size, i.bytes)) = some (some (.int .i64 0), 1, 8) := by kernel_rfl
theorem drop_getD {l : List Int} {k : Nat} (h : k < l.length) : l.drop k = l.getD k 0 :: l.drop (k + 1) := by
  rw [List.drop_eq_getElem_cons h, List.getD_eq_getElem?_getD, List.getElem?_eq_getElem h]; rfl

theorem addGo_len (x : Int) : ∀ (l : List Int) (d : Bool), (addGo x l d).length ≤ l.length + 1
  | [], d => by cases d <;> simp [addGo]
  | a :: r, true => by have := addGo_len x r true; simp [addGo]; omega
  | a :: r, false => by
    have h1 := addGo_len_true x r
    have h2 := addGo_len x r false
    unfold addGo
    split
    · split <;> (simp; omega)
    · simp; omega
where addGo_len_true (x : Int) : ∀ (l : List Int), (addGo x l true).length = l.length
  | [] => by simp [addGo]
  | a :: r => by simp [addGo, addGo_len_true x r]

set_option maxHeartbeats 2000000 in
theorem add_any (A : Option Addr) (n c : Nat) (l : List Int) (x : Int) (w : World) (h : Iz w A n l) (hn : n ≤ 100000) :
    Calls Try.prog 59 #[.slice A n c, .int .i64 x] w fun e w' => ∃ r, e = .returned r ∧ w'.ownsRow w.heap.size 3 1 r (addL l x).length ((addL l x).map (Value.int .i64)) ∧ Below w.heap.size w w' := by
  obtain ⟨i0, hi0, hz0, hz1, hz2⟩ := info_parts info_int
  have HL := Lib.hid h.len
  have HI := Lib.hid h
  have hg := fun W : World => good_any x W
  obtain ⟨d0, hd0⟩ : ∃ d0, d0 = decide (0 ≤ x ∧ x < 512) := ⟨_, rfl⟩
  rw [← hd0] at hg
  have HG := Lib.hid hg
  have HA : Hid (addL l x = addGo x l (!d0)) := Lib.hid (by rw [hd0]; rfl)
  have HAL := Lib.hid (show (addL l x).length ≤ n + 1 by rw [← HL.out]; exact addGo_len x l _)
  clear h hg hd0
  go_enter Try.func59, Try.ntmps59
  go_wp2_with (go_at_call 87; refine (HG.out _).mono ?_; rintro e w' ⟨rfl, rfl⟩)
  go_loopw [5, 6, 7] (fun o d i wr => ∃ (k : Nat) (dn : Bool) (pre : List Int), k ≤ n ∧ i = .int .i64 k ∧ d = .bool dn ∧ Hid (pre ++ addGo x (l.drop k) dn = addL l x) ∧ wr.ownsRow w.heap.size 3 1 o pre.length (pre.map (Value.int .i64)) ∧ Hid (Below w.heap.size w wr)) (fun _ _ i _ => n - (intOf i).toNat)
  case atStart => exact ⟨0, !d0, [], by omega, rfl, rfl, Lib.hid (by rw [HA.out]; rfl), World.ownsRow_nil _ _ _ _, Lib.hid (Below.refl _ _)⟩
  case round =>
    obtain ⟨k, dn, pre, hk, rfl, rfl, H, own, bel⟩ := hrel
    have hsz := bel.out.size
    have hpre : pre.length ≤ n + 1 := by have := congrArg List.length H.out; simp only [List.length_append] at this; have := HAL.out; omega
    have hk0 : (0 : Int) ≤ (k : Int) := by omega
    by_cases hlt : k < n
    · have hki : (k : Int) < (n : Int) := by omega
      obtain ⟨ad, rfl, hbl, hc⟩ := (HI.out.below bel.out).at_ hlt
      have H' := H.out
      rw [drop_getD (by rw [HL.out]; exact hlt)] at H'
      obtain ⟨a, ha⟩ : ∃ a, a = l.getD k 0 := ⟨_, rfl⟩
      rw [← ha] at hc H'
      have HAE := Lib.hid ha
      clear ha
      cases dn with
      | true =>
        have HNX : Hid ((pre ++ [a]) ++ addGo x (l.drop (k + 1)) true = addL l x) := Lib.hid (by simpa [addGo] using H')
        clear H'
        go_wp2_with (at_builtin; refine wpList_append_any _ rfl (.tmp 37) (.tmp 42) _ rfl w.heap.size 3 i0 _ 1 8 Try.underlying24 hi0 hz0 hz1 hz2 rfl (by omega) _ (pre).length ((pre).map (Value.int .i64)) rfl (own.alloc _) (wr.heap.size + 1) (some ⟨wr.heap.size, 0, none⟩) 1 1 [Value.int .i64 a] rfl (reads_one wr _ _) (by simp [Value.oneCell']) (by unfold maxLen; omega) (by omega) (by simp; omega) ?_; intro v1 w1 own1 hg1 hat1; have bel1 := Lib.hid (below_append (bel.out.alloc hsz _) (own.alloc _) hg1 (Nat.le_refl _) (by simp; omega)); have hsz1 := bel1.out.size)
        go_roundw
        case rel => exact ⟨k + 1, true, pre ++ [a], by omega, by go_num, rfl, HNX, by simpa using own1, bel1⟩
        case measure => simp [intOf]; omega
      | false =>
        by_cases hxa : x ≤ a
        · by_cases hxl : x < a
          · have HNX : Hid ((pre ++ [x] ++ [a]) ++ addGo x (l.drop (k + 1)) true = addL l x) := Lib.hid (by simpa [addGo, hxa, hxl] using H')
            clear H'
            go_wp2_with (first | (at_builtin; refine wpList_append_any _ rfl (.tmp 33) (.tmp 35) _ rfl w.heap.size 3 i0 _ 1 8 Try.underlying24 hi0 hz0 hz1 hz2 rfl (by omega) _ (pre).length ((pre).map (Value.int .i64)) rfl (own.alloc _) (wr.heap.size + 1) (some ⟨wr.heap.size, 0, none⟩) 1 1 [Value.int .i64 x] rfl (reads_one wr _ _) (by simp [Value.oneCell']) (by unfold maxLen; omega) (by omega) (by simp; omega) ?_; intro v1 w1 own1 hg1 hat1; have bel1 := Lib.hid (below_append (bel.out.alloc hsz _) (own.alloc _) hg1 (Nat.le_refl _) (by simp; omega)); have hsz1 := bel1.out.size; have own1' : w1.ownsRow w.heap.size 3 1 v1 (pre ++ [x]).length ((pre ++ [x]).map (Value.int .i64)) := (by simpa using own1); have hpre1 : (pre ++ [x]).length ≤ n + 2 := (by simp; omega); obtain ⟨ad1, e1, -, hc1⟩ := (HI.out.below bel1.out).at_ hlt; obtain rfl : ad = ad1 := (by injection e1); rw [← HAE.out] at hc1) | (at_builtin; refine wpList_append_any _ rfl (.tmp 37) (.tmp 42) _ rfl w.heap.size 3 i0 _ 1 8 Try.underlying24 hi0 hz0 hz1 hz2 rfl (by omega) _ (pre ++ [x]).length ((pre ++ [x]).map (Value.int .i64)) rfl (own1'.alloc _) (w1.heap.size + 1) (some ⟨w1.heap.size, 0, none⟩) 1 1 [Value.int .i64 a] rfl (reads_one w1 _ _) (by simp [Value.oneCell']) (by unfold maxLen; omega) (by omega) (by simp; omega) ?_; intro v2 w2 own2 hg2 hat2; have bel2 := Lib.hid (below_append (bel1.out.alloc hsz1 _) (own1'.alloc _) hg2 (Nat.le_refl _) (by simp; omega)); have hsz2 := bel2.out.size))
            go_roundw
            case rel => exact ⟨k + 1, true, pre ++ [x] ++ [a], by omega, by go_num, rfl, HNX, by simpa using own2, bel2⟩
            case measure => simp [intOf]; omega
          · have HNX : Hid ((pre ++ [a]) ++ addGo x (l.drop (k + 1)) true = addL l x) := Lib.hid (by simpa [addGo, hxa, hxl] using H')
            clear H'
            go_wp2_with (at_builtin; refine wpList_append_any _ rfl (.tmp 37) (.tmp 42) _ rfl w.heap.size 3 i0 _ 1 8 Try.underlying24 hi0 hz0 hz1 hz2 rfl (by omega) _ (pre).length ((pre).map (Value.int .i64)) rfl (own.alloc _) (wr.heap.size + 1) (some ⟨wr.heap.size, 0, none⟩) 1 1 [Value.int .i64 a] rfl (reads_one wr _ _) (by simp [Value.oneCell']) (by unfold maxLen; omega) (by omega) (by simp; omega) ?_; intro v1 w1 own1 hg1 hat1; have bel1 := Lib.hid (below_append (bel.out.alloc hsz _) (own.alloc _) hg1 (Nat.le_refl _) (by simp; omega)); have hsz1 := bel1.out.size)
            go_roundw
            case rel => exact ⟨k + 1, true, pre ++ [a], by omega, by go_num, rfl, HNX, by simpa using own1, bel1⟩
            case measure => simp [intOf]; omega
        · have HNX : Hid ((pre ++ [a]) ++ addGo x (l.drop (k + 1)) false = addL l x) := Lib.hid (by simpa [addGo, hxa] using H')
          clear H'
          go_wp2_with (at_builtin; refine wpList_append_any _ rfl (.tmp 37) (.tmp 42) _ rfl w.heap.size 3 i0 _ 1 8 Try.underlying24 hi0 hz0 hz1 hz2 rfl (by omega) _ (pre).length ((pre).map (Value.int .i64)) rfl (own.alloc _) (wr.heap.size + 1) (some ⟨wr.heap.size, 0, none⟩) 1 1 [Value.int .i64 a] rfl (reads_one wr _ _) (by simp [Value.oneCell']) (by unfold maxLen; omega) (by omega) (by simp; omega) ?_; intro v1 w1 own1 hg1 hat1; have bel1 := Lib.hid (below_append (bel.out.alloc hsz _) (own.alloc _) hg1 (Nat.le_refl _) (by simp; omega)); have hsz1 := bel1.out.size)
          go_roundw
          case rel => exact ⟨k + 1, false, pre ++ [a], by omega, by go_num, rfl, HNX, by simpa using own1, bel1⟩
          case measure => simp [intOf]; omega
    · have hkn : l.drop k = [] := List.drop_of_length_le (by rw [HL.out]; omega)
      have H' := H.out
      rw [hkn] at H'
      clear hkn
      cases dn with
      | true =>
        have HF : Hid (pre = addL l x) := Lib.hid (by simpa [addGo] using H')
        clear H'
        go_wp2
        go_ret
        exact ⟨_, rfl, by rw [← HF.out]; exact own, bel.out⟩
      | false =>
        have HF : Hid (pre ++ [x] = addL l x) := Lib.hid (by simpa [addGo] using H')
        clear H'
        go_wp2_with (at_builtin; refine wpList_append_any _ rfl (.tmp 46) (.tmp 48) _ rfl w.heap.size 3 i0 _ 1 8 Try.underlying24 hi0 hz0 hz1 hz2 rfl (by omega) _ (pre).length ((pre).map (Value.int .i64)) rfl (own.alloc _) (wr.heap.size + 1) (some ⟨wr.heap.size, 0, none⟩) 1 1 [Value.int .i64 x] rfl (reads_one wr _ _) (by simp [Value.oneCell']) (by unfold maxLen; omega) (by omega) (by simp; omega) ?_; intro v1 w1 own1 hg1 hat1; have bel1 := Lib.hid (below_append (bel.out.alloc hsz _) (own.alloc _) hg1 (Nat.le_refl _) (by simp; omega)); have hsz1 := bel1.out.size)
        go_ret
        exact ⟨_, rfl, by rw [← HF.out]; simpa using own1, bel1.out⟩
end Go.Proofs.Ytgamodmenlhedaa.cf
