/- The draws Weights and Graph. -/
import Derived.Test.YtgamodmenlhedaaCf12
import Derived.Test.YtgamodmenlhedaaZd
namespace Go.Proofs.Ytgamodmenlhedaa.cf
open Go.RowKit
set_option linter.unusedVariables false
set_option maxRecDepth 10000

set_option maxHeartbeats 2000000 in
theorem weights_d (B cb : Nat) (A : Option Addr) (n c : Nat) (l : List Nat) (p m : Nat) (w : World) (h : CodesAt w B cb A n c l p) (hm : m ≤ 100) :
    Calls Try.prog 47 #[.pointer (some ⟨cb, 0, none⟩), .int .i64 (m : Int)] w fun e w' => ∃ (r : Value) (v : List Int) (p' : Nat), e = .returned r ∧ v.length = m ∧ (∀ i, i < m → Bd (v.getD i 0)) ∧ w'.ownsRow w.heap.size 3 1 r v.length (v.map (Value.int .i64)) ∧ CodesAt w' B cb A n c l p' ∧ w.grownBy w' (some cb) := by
  obtain ⟨i0, hi0, hz0, hz1, hz2⟩ := info_parts info_int
  have hlt := h.1.lt
  have hB := h.2.2.2.1
  have HC := Lib.hid h
  clear h
  go_enter Try.func47, Try.ntmps47
  go_wp2
  go_loopw [1, 5] (fun x o wr => ∃ (k p1 : Nat) (pre : List Int), x = .int .i64 k ∧ Hid (pre.length + k = m) ∧ Hid (∀ i, i < pre.length → Bd (pre.getD i 0)) ∧ wr.ownsRow w.heap.size 3 1 o pre.length (pre.map (Value.int .i64)) ∧ Hid (CodesAt wr B cb A n c l p1) ∧ Hid (w.grownBy wr (some cb))) (fun x _ _ => (intOf x).toNat)
  case atStart => exact ⟨m, p, [], rfl, Lib.hid (by simp), Lib.hid (fun i hi => by simp at hi), World.ownsRow_nil _ _ _ _, HC, Lib.hid (World.grownBy.refl _ _)⟩
  case round =>
    obtain ⟨k, p1, pre, rfl, HL, HP, own, HCW, HG⟩ := hrel
    have hsz := HG.out.size
    have hpl : pre.length ≤ 100 := by have := HL.out; omega
    clear HC
    cases k with
    | zero =>
      have HE : Hid (pre.length = m) := Lib.hid (by have := HL.out; omega)
      go_wp2
      go_ret
      exact ⟨_, pre, p1, rfl, HE.out, fun i hi => HP.out i (by rw [HE.out]; exact hi), own, HCW.out, HG.out⟩
    | succ k =>
      have HL' : Hid (pre.length + 1 + k = m) := Lib.hid (by have := HL.out; omega)
      have hkb : (k : Int) ≤ 100 := by have := HL.out; omega
      have hk0 : (0 : Int) ≤ (k : Int) := by omega
      clear HL
      go_wp2_with fail
      refine (next_d _ _ _ _ _ _ _ 9 _ HCW.out (by omega) (by omega)).mono ?_
      rintro e w1 ⟨v1, p2, hv1, rfl, c1, g1⟩
      have HC1 := Lib.hid c1
      have HG1 := Lib.hid (grownBy_trans HG.out g1)
      have own1 := own_draw own g1 hlt
      have ha0 : (0 : Int) ≤ (v1 : Int) := by omega
      have ha1 : (v1 : Int) < 9 := by omega
      clear c1 g1 hv1 own HCW HG
      go_wp2_with fail
      refine (next_d _ _ _ _ _ _ _ 20 _ HC1.out (by omega) (by omega)).mono ?_
      rintro e w2 ⟨v2, p3, hv2, rfl, c2, g2⟩
      have HC2 := Lib.hid c2
      have HG2 := Lib.hid (grownBy_trans HG1.out g2)
      have own2 := own_draw own1 g2 hlt
      clear c2 g2 own1 HC1 HG1 hv2
      by_cases h19 : v2 = 19
      · subst h19
        go_wp2_with fail
        refine (next_d _ _ _ _ _ _ _ 40 _ HC2.out (by omega) (by omega)).mono ?_
        rintro e w3 ⟨v3, p4, hv3, rfl, c3, g3⟩
        have HC3 := Lib.hid c3
        have HG3 := Lib.hid (grownBy_trans HG2.out g3)
        have own3 := own_draw own2 g3 hlt
        have hb0 : (0 : Int) ≤ (v3 : Int) := by omega
        have hb1 : (v3 : Int) < 40 := by omega
        have bel3 : Hid (w.heap.size ≤ w3.heap.size) := Lib.hid HG3.out.size
        have hsz3 := bel3.out
        obtain ⟨y, hy⟩ : ∃ y : Int, y = 1073741823 - (v3 : Int) := ⟨_, rfl⟩
        have HY : Hid (Bd y) := Lib.hid (by rw [hy]; exact ⟨by omega, by omega⟩)
        have HYE := Lib.hid hy.symm
        clear c3 g3 hv3 own2 HC2 HG2 hy
        go_wp2_with (at_builtin; refine wpList_append_any _ rfl (.tmp 20) (.tmp 22) _ rfl w.heap.size 3 i0 _ 1 8 Try.underlying24 hi0 hz0 hz1 hz2 rfl (by omega) _ (pre).length ((pre).map (Value.int .i64)) rfl (own3.alloc _) (w3.heap.size + 1) (some ⟨w3.heap.size, 0, none⟩) 1 1 [Value.int .i64 (1073741823 - (v3 : Int))] rfl (reads_one w3 _ _) (by simp [Value.oneCell']) (by unfold maxLen; omega) (by omega) (by simp; omega) ?_; intro v4 w4 own4 hg4 hat4)
        have HN4 := Lib.hid (own_ne_codes (own3.alloc (.cells #[Value.int .i64 (1073741823 - (v3 : Int))] 3)) hlt)
        have HLT4 := Lib.hid (fun j (e : _ = some j) => ((own3.alloc (.cells #[Value.int .i64 (1073741823 - (v3 : Int))] 3)).lt j e).1)
        go_roundw
        case rel =>
          refine ⟨k, p4, pre ++ [y], (by first | rfl | go_num | (congr 1; omega)), Lib.hid (by have := HL'.out; simp; omega), Lib.hid (fun i hi => ?_), by rw [← HYE.out]; simpa using own4, Lib.hid ((HC3.out.alloc _).grown' hg4 HN4.out (fun j e => by have := HLT4.out j e; omega)), Lib.hid (grownBy_step (grownBy_al HG3.out _) hg4 (fun j e => .inl (HLT4.out j e)))⟩
          simp at hi
          rcases Nat.lt_or_ge i pre.length with a1 | a1
          · rw [getD_app_lt a1]; exact HP.out i a1
          · obtain rfl : i = pre.length := by omega
            rw [getD_app_end]; exact HY.out
        case measure => simp [intOf]; try omega
      · have h19' : ¬ ((v2 : Int) = 19) := by omega
        have bel2 : Hid (w.heap.size ≤ w2.heap.size) := Lib.hid HG2.out.size
        have hsz2 := bel2.out
        obtain ⟨y, hy⟩ : ∃ y : Int, y = 16 * (v1 : Int) := ⟨_, rfl⟩
        have HY : Hid (Bd y) := Lib.hid (by rw [hy]; exact ⟨by omega, by omega⟩)
        have HYE := Lib.hid hy.symm
        clear hy h19
        go_wp2_with (at_builtin; refine wpList_append_any _ rfl (.tmp 20) (.tmp 22) _ rfl w.heap.size 3 i0 _ 1 8 Try.underlying24 hi0 hz0 hz1 hz2 rfl (by omega) _ (pre).length ((pre).map (Value.int .i64)) rfl (own2.alloc _) (w2.heap.size + 1) (some ⟨w2.heap.size, 0, none⟩) 1 1 [Value.int .i64 (16 * (v1 : Int))] rfl (reads_one w2 _ _) (by simp [Value.oneCell']) (by unfold maxLen; omega) (by omega) (by simp; omega) ?_; intro v4 w4 own4 hg4 hat4)
        have HN4 := Lib.hid (own_ne_codes (own2.alloc (.cells #[Value.int .i64 (16 * (v1 : Int))] 3)) hlt)
        have HLT4 := Lib.hid (fun j (e : _ = some j) => ((own2.alloc (.cells #[Value.int .i64 (16 * (v1 : Int))] 3)).lt j e).1)
        go_roundw
        case rel =>
          refine ⟨k, p3, pre ++ [y], (by first | rfl | go_num | (congr 1; omega)), Lib.hid (by have := HL'.out; simp; omega), Lib.hid (fun i hi => ?_), by rw [← HYE.out]; simpa using own4, Lib.hid ((HC2.out.alloc _).grown' hg4 HN4.out (fun j e => by have := HLT4.out j e; omega)), Lib.hid (grownBy_step (grownBy_al HG2.out _) hg4 (fun j e => .inl (HLT4.out j e)))⟩
          simp at hi
          rcases Nat.lt_or_ge i pre.length with a1 | a1
          · rw [getD_app_lt a1]; exact HP.out i a1
          · obtain rfl : i = pre.length := by omega
            rw [getD_app_end]; exact HY.out
        case measure => simp [intOf]; try omega
end Go.Proofs.Ytgamodmenlhedaa.cf
