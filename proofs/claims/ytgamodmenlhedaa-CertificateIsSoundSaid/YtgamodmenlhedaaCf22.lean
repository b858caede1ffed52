/- Contract of ref28.Find. -/
import Derived.Test.YtgamodmenlhedaaCf21
namespace Go.Proofs.Ytgamodmenlhedaa.cf
open Go.RowKit
set_option linter.unusedVariables false
set_option maxRecDepth 10000

/-- what Find answers -/
def FindR (g : List (List Int)) (w : World) (e : Ending) (w' : World) : Prop :=
  Below w.heap.size w w' ∧ ((∃ (A : Option Addr) (c len : Nat), e = .returned (.tuple #[.slice A len c, .bool true]) ∧ 0 < len ∧ len ≤ 1000 ∧ ∃ f n, f < g.length ∧ 1 ≤ n ∧ n ≤ g.length ∧ Walk g n f f) ∨
  (e = .returned (.tuple #[.slice none 0 0, .bool false]) ∧ ∀ f, f < g.length → ∀ n, 1 ≤ n → n ≤ g.length → ¬ Walk g n f f))
theorem back_at (A : Option Addr) (m c : Nat) (g : List (List Int)) (i f n : Nat) (b : Bool) (hb : walkB g n i f = b) (w : World) (h : Gz w A m g) (hg : GrOk g) (hi : i < m) (hf : f ≤ 1000) (hn : n ≤ 1000) :
    Calls Try.prog 60 #[.slice A m c, .int .i64 (i : Int), .int .i64 (f : Int), .int .i64 (n : Int)] w fun e w' => e = .returned (.bool b) ∧ Below w.heap.size w w' := by
  rw [← hb]; exact back_any A m c g i f n w h hg hi hf hn

theorem own_at2 {w : World} {base nb m cn : Nat} {L : List Int} (h : w.ownsRow base 3 1 (.slice (some ⟨nb, 0, none⟩) m cn) m (L.map (Value.int .i64))) {i : Nat} (hi : i < m) : w.cell? ⟨nb, i, none⟩ = some (.int .i64 (L.getD i 0)) ∧ w.frozen? ⟨nb, i, none⟩ = false := by
  refine ⟨(h.cellAt i (by omega)).trans ?_, h.frozenAt i⟩
  have hl : L.length = m := by have := h.1; simpa using this
  rw [List.getElem?_map, List.getD_eq_getElem?_getD, List.getElem?_eq_getElem (by omega)]
  rfl
set_option maxHeartbeats 4000000 in
theorem find_any (A : Option Addr) (m c : Nat) (g : List (List Int)) (w : World) (h : Gz w A m g) (hg : GrOk g) :
    Calls Try.prog 27 #[.slice A m c] w (FindR g w) := by
  obtain ⟨i0, hi0, hz0, hz1, hz2⟩ := info_parts info_int
  have HL := Lib.hid h.len
  have HI := Lib.hid h
  have HG := Lib.hid hg
  have hm80 : m ≤ 80 := by have := hg.2.1; rw [h.len] at this; exact this
  clear h hg
  have hmi : (m : Int) ≤ 80 := by omega
  go_enter Try.func27, Try.ntmps27
  go_wp2
  go_loopw [4] (fun x wr => ∃ a : Nat, a ≤ m ∧ x = .int .i64 a ∧ Hid (∀ f, f < a → ∀ n, 1 ≤ n → n ≤ m → ¬ Walk g n f f) ∧ Hid (Below w.heap.size w wr)) (fun x _ => m - (intOf x).toNat)
  case atStart => exact ⟨0, by omega, rfl, Lib.hid (fun f hf => by omega), Lib.hid (Below.refl _ _)⟩
  case round =>
    obtain ⟨a, ha, rfl, HNO, bel⟩ := hrel
    generalize wr = w1 at *
    have ha0 : (0 : Int) ≤ (a : Int) := by omega
    by_cases hlt : a < m
    · have hai : (a : Int) < (m : Int) := by omega
      go_wp2
      go_loopw [5] (fun x wr => ∃ q : Nat, q ≤ m + 1 ∧ x = .int .i64 q ∧ Hid (1 ≤ q) ∧ Hid (∀ n, 1 ≤ n → n < q → ¬ Walk g n a a) ∧ Hid (Below w.heap.size w wr)) (fun x _ => m + 1 - (intOf x).toNat)
      case atStart => exact ⟨1, by omega, rfl, Lib.hid (by omega), Lib.hid (fun n h1 h2 => by omega), bel⟩
      case round =>
        obtain ⟨q, hq, rfl, HQ1, HNQ, bel1⟩ := hrel
        generalize wr = w2 at *
        have hq0 : (1 : Int) ≤ (q : Int) := by have := HQ1.out; omega
        have hq00 : (0 : Int) ≤ (q : Int) := by omega
        by_cases hqm : q ≤ m
        · have hqi : (q : Int) ≤ (m : Int) := by omega
          rcases hwb : walkB g q a a with _ | _
          · have HB := Lib.hid (back_at A m c g a a q false hwb w2 (HI.out.below bel1.out) HG.out hlt (by omega) (by omega))
            have HN2 : Hid (∀ n, 1 ≤ n → n < q + 1 → ¬ Walk g n a a) := Lib.hid (fun n h1 h2 h => by
              rcases Nat.lt_or_ge n q with h3 | h3
              · exact HNQ.out n h1 h3 h
              · obtain rfl : n = q := (by omega)
                rw [walkB_iff.2 h] at hwb
                cases hwb)
            clear hwb
            go_wp2_with (go_at_call 60; refine HB.out.mono ?_; rintro e w3 ⟨rfl, hb3⟩)
            go_roundw
            case rel => exact ⟨q + 1, by omega, by go_num, Lib.hid (by omega), HN2, Lib.hid (bel1.out.trans (hb3.mono bel1.out.size))⟩
            case measure => simp [intOf]; omega
          · have HB := Lib.hid (back_at A m c g a a q true hwb w2 (HI.out.below bel1.out) HG.out hlt (by omega) (by omega))
            have HW : Hid (∃ f n, f < g.length ∧ 1 ≤ n ∧ n ≤ g.length ∧ Walk g n f f) := Lib.hid ⟨a, q, by rw [HL.out]; exact hlt, HQ1.out, by rw [HL.out]; exact hqm, walkB_iff.1 hwb⟩
            clear hwb
            go_wp2_with fail
            refine HB.out.mono ?_
            rintro e w3 ⟨rfl, hb3⟩
            have HB3 := Lib.hid (bel1.out.trans (hb3.mono bel1.out.size))
            have hs3 : w.heap.size ≤ w3.heap.size := HB3.out.size
            have HO3 : Hid ((w3.alloc (.cells #[.int .i64 (a : Int)] 3)).ownsRow w.heap.size 3 1 (.slice (some ⟨w3.heap.size, 0, none⟩) 1 1) 1 ([(a : Int)].map (Value.int .i64))) := Lib.hid (World.ownsRow_lit (base := w.heap.size) (e := 3) (size := 1) w3 #[.int .i64 (a : Int)] 1 hs3 (by unfold maxLen; omega) rfl)
            have HB4 : Hid (Below w.heap.size w (w3.alloc (.cells #[.int .i64 (a : Int)] 3))) := Lib.hid (HB3.out.alloc hs3 _)
            clear hb3 HB
            go_wp2
            go_loopw [6, 7] (fun o x wr => ∃ (left : Nat) (L : List Int), left ≤ 80 ∧ x = .int .i64 left ∧ Hid (1 ≤ L.length) ∧ Hid (L.length + left ≤ 100) ∧ Hid (∀ p, p < L.length → 0 ≤ L.getD p 0 ∧ L.getD p 0 < m) ∧ wr.ownsRow w.heap.size 3 1 o L.length (L.map (Value.int .i64)) ∧ Hid (Below w.heap.size w wr)) (fun _ x _ => (intOf x).toNat)
            case atStart => exact ⟨q - 1, [(a : Int)], by omega, by congr 1; omega, Lib.hid (by simp), Lib.hid (by simp; omega), Lib.hid (fun p hp => by simp at hp; subst hp; exact ⟨by simp, by simpa using hlt⟩), HO3.out, HB4⟩
            case round =>
              obtain ⟨left, L, hl80, rfl, HL1, HLL, HLR, own, bel5⟩ := hrel
              clear HO3 HB4
              generalize wr = w5 at *
              have hsz5 := bel5.out.size
              have hl0 : (0 : Int) ≤ (left : Int) := by omega
              have hli80 : (left : Int) ≤ 80 := by omega
              have hln : L.length ≤ 100 := by have := HLL.out; omega
              have hlp : 1 ≤ L.length := HL1.out
              rcases Nat.eq_zero_or_pos left with rfl | hpos
              · obtain ⟨Ao, co, rfl, -⟩ := own_form own
                go_wp2
                go_ret2
                exact ⟨bel5.out, .inl ⟨_, _, L.length, rfl, by omega, by omega, HW.out⟩⟩
              · have hpi : (0 : Int) < (left : Int) := by omega
                obtain ⟨ob, co, hform, -, -⟩ := own.form (by omega)
                subst hform
                obtain ⟨j, hj⟩ : ∃ j : Nat, L.getD (L.length - 1) 0 = (j : Int) := ⟨(L.getD (L.length - 1) 0).toNat, by have := HLR.out (L.length - 1) (by omega); omega⟩
                have hjm : j < m := by have := HLR.out (L.length - 1) (by omega); omega
                have hji : (j : Int) < (m : Int) := by omega
                have hj0 : (0 : Int) ≤ (j : Int) := by omega
                obtain ⟨q5, f5⟩ := own_at2 own (i := L.length - 1) (by omega)
                rw [hj] at q5
                obtain ⟨ll, hll⟩ : ∃ ll, L.length = ll + 1 := ⟨L.length - 1, by omega⟩
                rw [hll] at own q5 ⊢
                simp only [Nat.add_sub_cancel] at q5
                have HLE := Lib.hid hll
                have hll9 : ll ≤ 99 := by omega
                obtain ⟨ag, A', n', c', rfl, -, cag, hr, hm', -⟩ := (HI.out.below bel5.out).at_ hjm
                have hn' : n' ≤ 512 := by
                  have := set_len (HG.out.2.2 j (by rw [HL.out]; exact hjm)).1
                  rw [hr.len] at this; exact this
                have HR := Lib.hid (show Iz w5 A' n' (nx g j) from hr)
                have HVAL : Hid (∀ k, k < n' → ∃ s : Nat, (nx g j).getD k 0 = (s : Int) ∧ s < m) := Lib.hid (fun k hk => by
                  have := grOk_lt HG.out j (by rw [HL.out]; exact hjm) k (by show k < (g.getD j []).length; rw [hr.len]; exact hk)
                  rw [HL.out] at this
                  exact ⟨((nx g j).getD k 0).toNat, by omega, by omega⟩)
                clear hj hr hll f5
                go_wp2
                go_loopw [6, 9] (fun o x wr => ∃ k : Nat, k ≤ n' ∧ o = .slice (some ⟨ob, 0, none⟩) (ll + 1) co ∧ x = .int .i64 k ∧ Hid (Below w5.heap.size w5 wr)) (fun _ x _ => n' - (intOf x).toNat)
                case atStart => exact ⟨0, by omega, rfl, rfl, Lib.hid (Below.refl _ _)⟩
                case round =>
                  obtain ⟨k, hk, rfl, rfl, bel6⟩ := hrel
                  generalize wr = w6 at *
                  have hsz6 := bel6.out.size
                  have hk0 : (0 : Int) ≤ (k : Int) := by omega
                  have own6 := own_keep own bel6.out (Nat.le_refl _)
                  have bel7 := Lib.hid (bel5.out.trans (bel6.out.mono hsz5))
                  by_cases hkn : k < n'
                  · have hki : (k : Int) < (n' : Int) := by omega
                    obtain ⟨ar, rfl, -, car⟩ := (HR.out.below bel6.out).at_ hkn
                    obtain ⟨s, hs, hsm⟩ := HVAL.out k hkn
                    rw [hs] at car
                    have hs0 : (0 : Int) ≤ (s : Int) := by omega
                    have hsi : (s : Int) < (m : Int) := by omega
                    clear hs
                    rcases hwb : walkB g left s a with _ | _
                    · have HB := Lib.hid (back_at (some ag) m c g s a left false hwb w6 (HI.out.below bel7.out) HG.out hsm (by omega) (by omega))
                      clear hwb
                      go_wp2_with (go_at_call 60; refine HB.out.mono ?_; rintro e w7 ⟨rfl, hb7⟩)
                      go_roundw
                      case rel => exact ⟨k + 1, by omega, rfl, by go_num, Lib.hid (bel6.out.trans (hb7.mono hsz6))⟩
                      case measure => simp [intOf]; omega
                    · have HB := Lib.hid (back_at (some ag) m c g s a left true hwb w6 (HI.out.below bel7.out) HG.out hsm (by omega) (by omega))
                      clear hwb
                      have HLN : Hid (L.length = ll + 1) := HLE
                      have hcr : (ar.add k).block < w6.heap.size := cell_lt car
                      go_wp2_with (first
                        | (go_at_call 60; refine HB.out.mono ?_; rintro e w7 ⟨rfl, hb7⟩; have car7 := (hb7.cell hcr).trans car; have own7 := own_keep own6 hb7 (Nat.le_refl _); have bel8 := Lib.hid (bel7.out.trans (hb7.mono (bel7.out.size))); have hsz7 := bel8.out.size; clear hb7)
                        | (at_builtin; refine wpList_append_any _ rfl (.tmp 59) (.tmp 64) _ rfl w.heap.size 3 i0 _ 1 8 Try.underlying24 hi0 hz0 hz1 hz2 rfl (by omega) _ (ll + 1) (L.map (Value.int .i64)) rfl (own7.alloc _) (w7.heap.size + 1) (some ⟨w7.heap.size, 0, none⟩) 1 1 [Value.int .i64 (s : Int)] rfl (reads_one w7 _ _) (by simp [Value.oneCell']) (by unfold maxLen; omega) (by omega) (by simp; omega) ?_; intro v8 w8 own8 hg8 hat8; have bel9 := Lib.hid (below_append (bel8.out.alloc hsz7 _) (own7.alloc _) hg8 (Nat.le_refl _) (by simp; omega)); have OW8 : Hid (w8.ownsRow w.heap.size 3 1 v8 (L ++ [(s : Int)]).length ((L ++ [(s : Int)]).map (Value.int .i64))) := Lib.hid (by rw [List.length_append, HLN.out]; simpa using own8); clear own8 hg8 hat8))
                      go_roundw
                      case rel => exact ⟨left - 1, L ++ [(s : Int)], by omega, by congr 1; omega, Lib.hid (by simp), Lib.hid (by have := HLL.out; simp; omega), Lib.hid (fun p hp => by
                        simp at hp
                        rcases Nat.lt_or_ge p L.length with h1 | h1
                        · rw [cf.getD_app_lt h1]; exact HLR.out p h1
                        · obtain rfl : p = L.length := (by omega)
                          rw [getD_app_end]; exact ⟨hs0, hsi⟩), OW8.out, bel9⟩
                      case measure => simp [intOf]; omega
                  · have OW6 : Hid (w6.ownsRow w.heap.size 3 1 (.slice (some ⟨ob, 0, none⟩) (ll + 1) co) L.length (L.map (Value.int .i64))) := Lib.hid (by rw [HLE.out]; exact own6)
                    go_wp2
                    go_roundw
                    case rel => exact ⟨left - 1, L, by omega, by congr 1; omega, HL1, Lib.hid (by have := HLL.out; omega), HLR, OW6.out, bel7⟩
                    case measure => simp [intOf]; omega
        · have HN2 : Hid (∀ f, f < a + 1 → ∀ n, 1 ≤ n → n ≤ m → ¬ Walk g n f f) := Lib.hid (fun f hf n h1 h2 => by
            rcases Nat.lt_or_ge f a with h3 | h3
            · exact HNO.out f h3 n h1 h2
            · obtain rfl : f = a := (by omega)
              exact HNQ.out n h1 (by omega))
          go_wp2
          go_roundw
          case rel => exact ⟨a + 1, by omega, by go_num, HN2, bel1⟩
          case measure => simp [intOf]; omega
    · have HF : Hid (∀ f, f < g.length → ∀ n, 1 ≤ n → n ≤ g.length → ¬ Walk g n f f) := Lib.hid (fun f hf n h1 h2 => HNO.out f (by rw [HL.out] at hf; omega) n h1 (by rw [HL.out] at h2; exact h2))
      go_wp2
      go_ret2
      exact ⟨bel.out, .inr ⟨rfl, HF.out⟩⟩
end Go.Proofs.Ytgamodmenlhedaa.cf
