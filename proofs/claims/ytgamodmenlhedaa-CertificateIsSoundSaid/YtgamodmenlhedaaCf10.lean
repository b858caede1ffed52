/- Contracts of ref04.Minus, Within, Union. -/
import Derived.Test.YtgamodmenlhedaaCf9
namespace Go.Proofs.Ytgamodmenlhedaa.cf
open Go.RowKit
set_option linter.unusedVariables false
set_option maxRecDepth 10000

def minusL (a b : List Int) : List Int := a.filter fun x => !decide (x ∈ b)
theorem Iz.of_own {w : World} {base n c : Nat} {A : Option Addr} {l : List Int} (h : w.ownsRow base 3 1 (.slice A n c) n (l.map (Value.int .i64))) : Iz w A n l := Sl.of_own h
/-- a row of numbers that a call gave back -/
theorem fresh_ints {w : World} {base : Nat} {r : Value} {L : List Int} (own : w.ownsRow base 3 1 r L.length (L.map (Value.int .i64))) : ∃ A c, r = .slice A L.length c ∧ L.length ≤ maxLen ∧ L.length ≤ c ∧ Iz w A L.length L := by
  rcases own.2 with ⟨h, h2⟩ | ⟨g, cap, cur, hv, _, _, h1, h2, _⟩
  · exact ⟨none, 0, by rw [h, h2], by rw [h2]; unfold maxLen; omega, by omega, by have := own; rw [h, h2] at this; rw [h2]; exact Iz.of_own this⟩
  · exact ⟨_, cap, hv, by omega, h1, by rw [hv] at own; exact Iz.of_own own⟩
theorem ints_one (l : List Int) : ∀ u ∈ l.map (Value.int .i64), u.oneCell' = true := by
  intro u hu
  obtain ⟨x, _, rfl⟩ := List.mem_map.1 hu
  rfl

set_option maxHeartbeats 2000000 in
theorem minus_any (A A' : Option Addr) (n c n' c' : Nat) (l m : List Int) (w : World) (h : Iz w A n l) (h' : Iz w A' n' m) (hn : n ≤ 100000) (hn' : n' ≤ maxLen) :
    Calls Try.prog 100 #[.slice A n c, .slice A' n' c'] w fun e w' => ∃ r, e = .returned r ∧ w'.ownsRow w.heap.size 3 1 r (minusL l m).length ((minusL l m).map (Value.int .i64)) ∧ Below w.heap.size w w' := by
  obtain ⟨i0, hi0, hz0, hz1, hz2⟩ := info_parts info_int
  have HL := Lib.hid h.len
  have HI := Lib.hid h
  have HI' := Lib.hid h'
  have HAL := Lib.hid (show (minusL l m).length ≤ n by rw [← HL.out]; exact List.length_filter_le _ _)
  clear h h'
  go_enter Try.func100, Try.ntmps100
  go_wp2
  go_loopw [5, 6] (fun o i wr => ∃ (k : Nat) (pre : List Int), k ≤ n ∧ i = .int .i64 k ∧ Hid (pre ++ minusL (l.drop k) m = minusL l m) ∧ wr.ownsRow w.heap.size 3 1 o pre.length (pre.map (Value.int .i64)) ∧ Hid (Below w.heap.size w wr)) (fun _ i _ => n - (intOf i).toNat)
  case atStart => exact ⟨0, [], by omega, rfl, Lib.hid rfl, World.ownsRow_nil _ _ _ _, Lib.hid (Below.refl _ _)⟩
  case round =>
    obtain ⟨k, pre, hk, rfl, H, own, bel⟩ := hrel
    have hsz := bel.out.size
    have hpre : pre.length ≤ n := by have := congrArg List.length H.out; simp only [List.length_append] at this; have := HAL.out; omega
    have hk0 : (0 : Int) ≤ (k : Int) := by omega
    by_cases hlt : k < n
    · have hki : (k : Int) < (n : Int) := by omega
      obtain ⟨ad, rfl, hbl, hc⟩ := (HI.out.below bel.out).at_ hlt
      have H' := H.out
      rw [drop_getD (by rw [HL.out]; exact hlt)] at H'
      obtain ⟨a, ha⟩ : ∃ a, a = l.getD k 0 := ⟨_, rfl⟩
      rw [← ha] at hc H'
      have hh := fun W (hW : Iz W A' n' m) => has_any A' n' c' m a W hW hn'
      clear ha
      by_cases hx : a ∈ m
      · rw [decide_eq_true hx] at hh
        have HH := Lib.hid hh
        have HNX : Hid (pre ++ minusL (l.drop (k + 1)) m = minusL l m) := Lib.hid (by simpa [minusL, hx] using H')
        clear H' hh hx
        go_wp2_with (go_at_call 84; refine (HH.out _ (HI'.out.below bel.out)).mono ?_; rintro e w' ⟨rfl, rfl⟩)
        go_roundw
        case rel => exact ⟨k + 1, pre, by omega, by go_num, HNX, own, bel⟩
        case measure => simp [intOf]; omega
      · rw [decide_eq_false hx] at hh
        have HH := Lib.hid hh
        have HNX : Hid ((pre ++ [a]) ++ minusL (l.drop (k + 1)) m = minusL l m) := Lib.hid (by simpa [minusL, hx] using H')
        clear H' hh hx
        go_wp2_with (first | (go_at_call 84; refine (HH.out _ (HI'.out.below bel.out)).mono ?_; rintro e w' ⟨rfl, rfl⟩) | (at_builtin; refine wpList_append_any _ rfl (.tmp 20) (.tmp 25) _ rfl w.heap.size 3 i0 _ 1 8 Try.underlying24 hi0 hz0 hz1 hz2 rfl (by omega) _ (pre).length ((pre).map (Value.int .i64)) rfl (own.alloc _) (wr.heap.size + 1) (some ⟨wr.heap.size, 0, none⟩) 1 1 [Value.int .i64 a] rfl (reads_one wr _ _) (by simp [Value.oneCell']) (by unfold maxLen; omega) (by omega) (by simp; omega) ?_; intro v1 w1 own1 hg1 hat1; have bel1 := Lib.hid (below_append (bel.out.alloc hsz _) (own.alloc _) hg1 (Nat.le_refl _) (by simp; omega)); have hsz1 := bel1.out.size))
        go_roundw
        case rel => exact ⟨k + 1, pre ++ [a], by omega, by go_num, HNX, by simpa using own1, bel1⟩
        case measure => simp [intOf]; omega
    · have hkn : l.drop k = [] := List.drop_of_length_le (by rw [HL.out]; omega)
      have H' := H.out
      rw [hkn] at H'
      clear hkn
      have HF : Hid (pre = minusL l m) := Lib.hid (by simpa [minusL] using H')
      clear H'
      go_wp2
      go_ret
      exact ⟨_, rfl, by rw [← HF.out]; exact own, bel.out⟩
def withinB (l m : List Int) : Bool := decide ((minusL l m).length = 0)
theorem withinB_iff {l m : List Int} : withinB l m = true ↔ ∀ k, k < l.length → l.getD k 0 ∈ m := by
  unfold withinB minusL
  rw [decide_eq_true_iff, List.length_eq_zero_iff, List.filter_eq_nil_iff]
  constructor
  · intro h k hk
    have := h (l.getD k 0) (mem_getD.2 ⟨k, hk, rfl⟩)
    simpa using this
  · intro h x hx
    obtain ⟨k, hk, rfl⟩ := mem_getD.1 hx
    simpa using h k hk
theorem within2_any (A A' : Option Addr) (n c n' c' : Nat) (l m : List Int) (w : World) (h : Iz w A n l) (h' : Iz w A' n' m) (hn : n ≤ 100000) (hn' : n' ≤ maxLen) :
    Calls Try.prog 85 #[.slice A n c, .slice A' n' c'] w fun e w' => e = .returned (.bool (withinB l m)) ∧ Below w.heap.size w w' := by
  have HM := Lib.hid (minus_any A A' n c n' c' l m w h h' hn hn')
  have HW : Hid (withinB l m = decide ((minusL l m).length = 0)) := Lib.hid rfl
  clear h h'
  go_enter Try.func85, Try.ntmps85
  go_wp2_with fail
  refine HM.out.mono ?_
  rintro e w1 ⟨r, rfl, own, hb⟩
  obtain ⟨A1, c1, rfl, hm1, -, -⟩ := fresh_ints own
  clear own
  generalize (minusL l m).length = q at *
  unfold maxLen at hm1
  go_wp2
  go_ret
  exact ⟨ret_bool (by rw [HW.out]; first | rfl | (simp; done) | (exact decide_eq_decide.2 (by omega)) | (rw [Bool.eq_iff_iff]; simp; done) | (rw [Bool.eq_iff_iff]; simp; omega)), hb⟩

def unionL (a b : List Int) : List Int := b.foldl addL a
theorem addL_len (l : List Int) (x : Int) : (addL l x).length ≤ l.length + 1 := addGo_len x l _
theorem foldl_addL_len (b : List Int) : ∀ a : List Int, (b.foldl addL a).length ≤ a.length + b.length := by
  induction b with
  | nil => intro a; simp
  | cons x r ih => intro a; have h1 := ih (addL a x); have h2 := addL_len a x; rw [List.foldl_cons, List.length_cons]; omega
theorem take_snoc_getD {l : List Int} {k : Nat} (h : k < l.length) : l.take (k + 1) = l.take k ++ [l.getD k 0] := by
  rw [List.take_succ_eq_append_getElem h, List.getD_eq_getElem?_getD, List.getElem?_eq_getElem h]; rfl
set_option maxHeartbeats 2000000 in
theorem union_any (A A' : Option Addr) (n c n' c' : Nat) (l m : List Int) (w : World) (h : Iz w A n l) (h' : Iz w A' n' m) (hn : n ≤ 40000) (hn' : n' ≤ 40000) :
    Calls Try.prog 88 #[.slice A n c, .slice A' n' c'] w fun e w' => ∃ r, e = .returned r ∧ w'.ownsRow w.heap.size 3 1 r (unionL l m).length ((unionL l m).map (Value.int .i64)) ∧ Below w.heap.size w w' := by
  obtain ⟨i0, hi0, hz0, hz1, hz2⟩ := info_parts info_int
  have HL := Lib.hid h.len
  have HL' := Lib.hid h'.len
  have HI := Lib.hid h
  have HI' := Lib.hid h'
  clear h h'
  go_enter Try.func88, Try.ntmps88
  go_wp2_with (at_builtin; refine wpList_append_any _ rfl (.const (.slice none 0 0)) (.tmp 7) _ rfl w.heap.size 3 i0 _ 1 8 Try.underlying24 hi0 hz0 hz1 hz2 rfl (by omega) _ 0 [] rfl (World.ownsRow_nil _ _ _ _) w.heap.size A n c (l.map (Value.int .i64)) rfl HI.out (ints_one l) (by unfold maxLen; omega) (by omega) (Nat.le_refl _) ?_; intro v1 w1 own1 hg1 hat1; have bel1 := Lib.hid (below_append (Below.refl w.heap.size w) (World.ownsRow_nil _ _ _ _ : w.ownsRow w.heap.size 3 1 (.slice none 0 0) 0 []) hg1 (Nat.le_refl _) (Nat.le_refl _)))
  go_loopw [5, 6] (fun o i wr => ∃ (k : Nat) (pre : List Int), k ≤ n' ∧ i = .int .i64 k ∧ Hid (pre = unionL l (m.take k)) ∧ wr.ownsRow w.heap.size 3 1 o pre.length (pre.map (Value.int .i64)) ∧ Hid (Below w.heap.size w wr)) (fun _ i _ => n' - (intOf i).toNat)
  case atStart => exact ⟨0, l, by omega, rfl, Lib.hid rfl, by rw [HL.out]; simpa using own1, bel1⟩
  case round =>
    obtain ⟨k, pre, hk, rfl, H, own, bel⟩ := hrel
    clear own1 hg1 hat1 bel1
    have hsz := bel.out.size
    have hpre : pre.length ≤ n + k := by rw [H.out]; have := foldl_addL_len (m.take k) l; rw [List.length_take] at this; have := HL.out; unfold unionL; omega
    have hk0 : (0 : Int) ≤ (k : Int) := by omega
    by_cases hlt : k < n'
    · have hki : (k : Int) < (n' : Int) := by omega
      obtain ⟨ad, rfl, hbl, hc⟩ := (HI'.out.below bel.out).at_ hlt
      have HNX : Hid (addL pre (m.getD k 0) = unionL l (m.take (k + 1))) := Lib.hid (by rw [take_snoc_getD (by rw [HL'.out]; exact hlt), H.out]; unfold unionL; rw [List.foldl_append]; rfl)
      generalize m.getD k 0 = a at *
      obtain ⟨A1, c1, rfl, hm1, -, hiz⟩ := fresh_ints own
      have HA := Lib.hid (add_any A1 pre.length c1 pre a wr hiz (by omega))
      have HOB := Lib.hid hsz
      clear own hiz
      go_wp2_with (go_at_call 59; refine HA.out.mono ?_; rintro e w' ⟨r, rfl, own, hb⟩)
      go_roundw
      case rel => exact ⟨k + 1, addL pre a, by omega, by go_num, HNX, own_base own hsz, Lib.hid (bel.out.trans (hb.mono hsz))⟩
      case measure => simp [intOf]; omega
    · have HF : Hid (pre = unionL l m) := Lib.hid (by rw [H.out, List.take_of_length_le (by rw [HL'.out]; omega)])
      go_wp2
      go_ret
      exact ⟨_, rfl, by rw [← HF.out]; exact own, bel.out⟩
end Go.Proofs.Ytgamodmenlhedaa.cf
