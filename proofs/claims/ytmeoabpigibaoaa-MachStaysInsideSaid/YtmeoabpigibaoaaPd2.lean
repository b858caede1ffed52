/- The draws Slots and like. -/
import Derived.Test.YtmeoabpigibaoaaPd1
namespace Go.Proofs.Ytmeoabpigibaoaa.pm
open Go.RowKit
set_option linter.unusedVariables false
set_option maxRecDepth 10000

theorem info_slot : (Try.prog.info? 88).map (fun i => (i.zero, i.size, i.bytes)) = some (some (.agg #[.int .i64 0, .int .i64 0]), 2, 16) := by kernel_rfl
theorem info_ins : (Try.prog.info? 42).map (fun i => (i.zero, i.size, i.bytes)) = some (some (.agg #[.int .i64 0, .int .i64 0, .int .i64 0, .int .i64 0, .int .u64 0]), 5, 40) := by kernel_rfl
theorem info_fn : (Try.prog.info? 70).map (fun i => (i.zero, i.size, i.bytes)) = some (some (.agg #[.int .i64 0, .slice none 0 0, .slice none 0 0]), 3, 56) := by kernel_rfl
theorem reads_new {w : World} {size n : Nat} {t : TypeId} {cs : List Value} (hs : cs.length = n * size) : Reads (w.alloc (.cells cs.toArray t)) (w.heap.size + 1) size (some ⟨w.heap.size, 0, none⟩) n cs :=
  ⟨hs, fun _ => ⟨_, rfl, by simp, fun j u hu => by
    have h := Blk.cell (Blk.new w t cs.toArray) j
    rw [show (⟨w.heap.size, 0, none⟩ : Addr).add j = ⟨w.heap.size, j, none⟩ by unfold Addr.add; by_cases hj : j = 0 <;> simp [hj], h]
    simpa using hu⟩⟩
/-- what Slots draws -/
def SlotsD (B cb : Nat) (A : Option Addr) (n c : Nat) (l : List Nat) (most : Nat) (w : World) (e : Ending) (w' : World) : Prop :=
  ∃ (r : Value) (sl : List (Int × Int)) (p' : Nat), e = .returned r ∧ sl.length ≤ most ∧ (∀ s ∈ sl, SlotOk s) ∧ w'.ownsRow w.heap.size 88 2 r sl.length (slV sl) ∧ CodesAt w' B cb A n c l p' ∧ w.grownBy w' (some cb)
set_option maxHeartbeats 2000000 in
theorem slots_d (B cb : Nat) (A : Option Addr) (n c : Nat) (l : List Nat) (p most : Nat) (w : World) (h : CodesAt w B cb A n c l p) (hm : most ≤ 100) :
    Calls Try.prog 41 #[.pointer (some ⟨cb, 0, none⟩), .int .i64 (most : Int)] w (SlotsD B cb A n c l most w) := by
  obtain ⟨i0, hi0, hz0, hz1, hz2⟩ := info_parts info_slot
  have hlt := h.1.lt
  have hB := h.2.2.2.1
  have HC := Lib.hid h
  have hmi : (most : Int) ≤ 100 := by omega
  clear h
  go_enter Try.func41, Try.ntmps41
  go_wp2_with fail
  refine (next_d _ _ _ _ _ _ _ ((most : Int) + 1) _ HC.out (by omega) (by omega)).mono ?_
  rintro e w1 ⟨t, p1, ht, rfl, c1, g1⟩
  have htm : t ≤ most := by omega
  have HC1 := Lib.hid c1
  have HG1 := Lib.hid g1
  clear ht c1 g1 HC
  go_wp2
  go_loopw [5, 6] (fun o x wr => ∃ (k p1 : Nat) (pre : List (Int × Int)), x = .int .i64 k ∧ k ≤ 100 ∧ Hid (pre.length + k ≤ most) ∧ Hid (∀ s ∈ pre, SlotOk s) ∧ wr.ownsRow w.heap.size 88 2 o pre.length (slV pre) ∧ Hid (CodesAt wr B cb A n c l p1) ∧ Hid (w.grownBy wr (some cb))) (fun _ x _ => (intOf x).toNat)
  case atStart => exact ⟨t, p1, [], rfl, by omega, Lib.hid (by simpa using htm), Lib.hid (fun s hs => by simp at hs), World.ownsRow_nil _ _ _ _, HC1, HG1⟩
  case round =>
    obtain ⟨k, p2, pre, rfl, hk, HL, HP, own, HCW, HG⟩ := hrel
    have hpl : pre.length ≤ 100 := by have := HL.out; omega
    have hk0 : (0 : Int) ≤ (k : Int) := by omega
    have hk1 : (k : Int) ≤ 100 := by omega
    clear HC1 HG1
    rcases Nat.eq_zero_or_pos k with rfl | hpos
    · have HE : Hid (pre.length ≤ most) := Lib.hid (by have := HL.out; omega)
      go_wp2
      go_ret
      exact ⟨_, pre, p2, rfl, HE.out, HP.out, own, HCW.out, HG.out⟩
    · have hpi : (0 : Int) < (k : Int) := by omega
      go_wp2_with fail
      refine (slot_d _ _ _ _ _ _ _ _ HCW.out).mono ?_
      rintro e w3 ⟨s, z, p3, hso, rfl, c3, g3⟩
      have HSO := Lib.hid hso
      have HC3 := Lib.hid c3
      have HG3 := Lib.hid (grownBy_trans HG.out g3)
      have own3 := own_draw own g3 hlt
      have hsz3 : w.heap.size ≤ w3.heap.size := HG3.out.size
      clear hso c3 g3 own HCW HG
      go_wp2_with (at_builtin; refine wpList_append_any _ rfl (.tmp 15) (.tmp 18) _ rfl w.heap.size 88 i0 _ 2 16 Try.underlying68 hi0 hz0 hz1 hz2 rfl (by omega) _ (pre).length (slV pre) rfl (own3.alloc _) (w3.heap.size + 1) (some ⟨w3.heap.size, 0, none⟩) 1 1 [Value.int .i64 s, Value.int .i64 z] rfl (reads_new rfl) (by simp [Value.oneCell']) (by unfold maxLen; omega) (by omega) (by simp; omega) ?_; intro v4 w4 own4 hg4 hat4)
      have HN4 := Lib.hid (own_ne_codes (own3.alloc (.cells #[Value.int .i64 s, Value.int .i64 z] 88)) hlt)
      have HLT4 := Lib.hid (fun j (e : _ = some j) => ((own3.alloc (.cells #[Value.int .i64 s, Value.int .i64 z] 88)).lt j e).1)
      go_roundw
      case rel =>
        refine ⟨k - 1, p3, pre ++ [(s, z)], (by congr 1; omega), by omega, Lib.hid (by have := HL.out; simp; omega), Lib.hid (fun q hq => ?_), ?_, Lib.hid ((HC3.out.alloc _).grown' hg4 HN4.out (fun j e => by have := HLT4.out j e; omega)), Lib.hid (grownBy_step (grownBy_al HG3.out _) hg4 (fun j e => .inl (HLT4.out j e)))⟩
        · rcases List.mem_append.1 hq with h1 | h1
          · exact HP.out q h1
          · simp at h1; subst h1; exact HSO.out
        · rw [slV_app, List.length_append]; exact own4
      case measure => simp [intOf]; omega

/-- what like draws -/
def LikeD (B cb : Nat) (A : Option Addr) (n c : Nat) (l : List Nat) (ns : Nat) (sl : List (Int × Int)) (s : Nat) (w : World) (e : Ending) (w' : World) : Prop :=
  ∃ j p' : Nat, j < ns ∧ (sl.getD j (0, 0)).1 = (sl.getD s (0, 0)).1 ∧ e = .returned (.int .i64 j) ∧ CodesAt w' B cb A n c l p' ∧ w.grownBy w' (some cb)
set_option maxHeartbeats 4000000 in
theorem like_d (B cb : Nat) (A : Option Addr) (n c : Nat) (l : List Nat) (p : Nat) (prm : Int) (As : Option Addr) (ns cs : Nat) (Ai : Option Addr) (ni ci : Nat) (sl : List (Int × Int)) (s : Nat) (w : World) (h : CodesAt w B cb A n c l p) (hs : Sz w As ns sl) (hns : ns ≤ 100) (hsn : s < ns) :
    Calls Try.prog 63 #[.pointer (some ⟨cb, 0, none⟩), .agg #[.int .i64 prm, .slice As ns cs, .slice Ai ni ci], .int .i64 (s : Int)] w (LikeD B cb A n c l ns sl s w) := by
  obtain ⟨i0, hi0, hz0, hz1, hz2⟩ := info_parts info_int
  have hlt := h.1.lt
  have hB := h.2.2.2.1
  have HC := Lib.hid h
  have hsl := hs.len
  obtain ⟨W0, hW0⟩ : ∃ W0, W0 = w.alloc (.cells #[.int .i64 prm, .slice As ns cs, .slice Ai ni ci] 70) := ⟨_, rfl⟩
  have HB0 : Hid (Below w.heap.size w W0) := Lib.hid (by rw [hW0]; exact (Below.refl _ _).alloc (Nat.le_refl _) _)
  have HK0 : Hid (Blk W0 w.heap.size 70 #[.int .i64 prm, .slice As ns cs, .slice Ai ni ci]) := Lib.hid (by rw [hW0]; exact Blk.new w _ _)
  have HZ0 : Hid (W0.heap.size = w.heap.size + 1) := Lib.hid (by rw [hW0]; simp)
  have HW0 := Lib.hid hW0
  have HS0 := Lib.hid (hs.below HB0.out)
  have hsi : (s : Int) < (ns : Int) := by omega
  have hs0 : (0 : Int) ≤ (s : Int) := by omega
  clear h hs hW0 hsl
  go_enter Try.func63, Try.ntmps63
  go_wp2_with fail
  rw [← HW0.out]
  go_loopw [7, 8] (fun o x wr => ∃ (k : Nat) (pre : List Int), k ≤ ns ∧ x = .int .i64 k ∧ Hid (∀ x ∈ pre, ∃ j : Nat, x = (j : Int) ∧ j < ns ∧ (sl.getD j (0, 0)).1 = (sl.getD s (0, 0)).1) ∧ Hid (s < k → pre ≠ []) ∧ pre.length ≤ k ∧ wr.ownsRow W0.heap.size 3 1 o pre.length (pre.map (Value.int .i64)) ∧ Hid (Below W0.heap.size W0 wr)) (fun _ x _ => ns - (intOf x).toNat)
  case atStart => exact ⟨0, [], by omega, rfl, Lib.hid (fun x hx => by simp at hx), Lib.hid (fun h => by omega), by simp, World.ownsRow_nil _ _ _ _, Lib.hid (Below.refl _ _)⟩
  case round =>
    obtain ⟨k, pre, hk, rfl, HP, HNE, hpl, own, bel⟩ := hrel
    have hk0 : (0 : Int) ≤ (k : Int) := by omega
    have hsz := bel.out.size
    obtain ⟨b0, b1, b2, -, -, -, bz⟩ := (HK0.out.after bel.out).c3
    by_cases hlt2 : k < ns
    · have hki : (k : Int) < (ns : Int) := by omega
      obtain ⟨ad, rfl, hbl, cs1, cs2⟩ := (HS0.out.below bel.out).at_ hlt2
      obtain ⟨ad', e', -, ct1, ct2⟩ := (HS0.out.below bel.out).at_ hsn
      obtain rfl : ad = ad' := by injection e'
      have HYES : Hid ((sl.getD k (0, 0)).1 = (sl.getD s (0, 0)).1 → ∀ x ∈ pre ++ [(k : Int)], ∃ j : Nat, x = (j : Int) ∧ j < ns ∧ (sl.getD j (0, 0)).1 = (sl.getD s (0, 0)).1) := Lib.hid (fun hh x hx => by
        rcases List.mem_append.1 hx with h1 | h1
        · exact HP.out x h1
        · simp at h1; exact ⟨k, h1, hlt2, hh⟩)
      have HNO : Hid (¬ (sl.getD k (0, 0)).1 = (sl.getD s (0, 0)).1 → s < k + 1 → pre ≠ []) := Lib.hid (fun hh h1 => by
        rcases Nat.lt_or_ge s k with h2 | h2
        · exact HNE.out h2
        · obtain rfl : s = k := (by omega)
          exact absurd rfl hh)
      clear e' cs2 ct2
      generalize (sl.getD k (0, 0)).1 = x at *
      generalize hy : (sl.getD s (0, 0)).1 = y at *
      clear hy
      by_cases hxy : x = y
      · have HNX := Lib.hid (HYES.out hxy)
        subst hxy
        go_wp2_with fail
        go_quiet (fail)
        have ownq := own
        have HBQ := Lib.hid (below_drewN bel.out nq)
        have hszq : W0.heap.size ≤ (wr.drewN nq).heap.size := HBQ.out.size
        replace own : (wr.drewN nq).ownsRow W0.heap.size 3 1 _ pre.length (pre.map (Value.int .i64)) := ownq
        generalize wr.drewN nq = w2 at *
        go_wp2_with (at_builtin; refine wpList_append_any _ rfl (.tmp 29) (.tmp 31) _ rfl W0.heap.size 3 i0 _ 1 8 Try.underlying67 hi0 hz0 hz1 hz2 rfl (by omega) _ (pre).length ((pre).map (Value.int .i64)) rfl (own.alloc _) (w2.heap.size + 1) (some ⟨w2.heap.size, 0, none⟩) 1 1 [Value.int .i64 (k : Int)] rfl (reads_one w2 _ _) (by simp [Value.oneCell']) (by unfold maxLen; omega) (by omega) (by simp; omega) ?_; intro v3 w3 own3 hg3 hat3; have bel3 := Lib.hid (below_append (HBQ.out.alloc hszq _) (own.alloc _) hg3 (Nat.le_refl _) (by simp; omega)))
        go_roundw
        case rel => exact ⟨k + 1, pre ++ [(k : Int)], by omega, by go_num, HNX, Lib.hid (fun _ => by simp), by simp; omega, by simpa using own3, bel3⟩
        case measure => simp [intOf]; omega
      · have HNX := Lib.hid (HNO.out hxy)
        have hbf : (x == y) = false := by simpa using hxy
        go_wp2_with fail
        go_quiet (fail)
        go_wp2
        go_roundw
        case rel => exact ⟨k + 1, pre, by omega, by go_num, HP, HNX, by omega, own, Lib.hid (below_drewN bel.out nq)⟩
        case measure => simp [intOf]; omega
    · have hne : pre ≠ [] := HNE.out (by omega)
      have hl1 : 1 ≤ pre.length := by
        rcases Nat.eq_zero_or_pos pre.length with h0 | h0
        · exact absurd (List.eq_nil_of_length_eq_zero h0) hne
        · exact h0
      obtain ⟨ob, co, hform, -, -⟩ := own.form (by omega)
      subst hform
      have hpi : (pre.length : Int) ≤ 100 := by omega
      have HCW : Hid (CodesAt wr B cb A n c l p) := Lib.hid ((HC.out.after HB0.out).after bel.out)
      have HGW : Hid (w.grownBy wr (some cb)) := Lib.hid (grownBy_trans (grownBy_of_below HB0.out _) (grownBy_of_below bel.out _))
      have hcl : cb < W0.heap.size := by have := HZ0.out; omega
      clear hne HNE
      go_wp2_with fail
      refine (next_d _ _ _ _ _ _ _ (pre.length : Int) _ HCW.out (by omega) (by omega)).mono ?_
      rintro e w4 ⟨v, p4, hv, rfl, c4, g4⟩
      have hvl : v < pre.length := by omega
      have own4 := own_draw own g4 hcl
      obtain ⟨j, hj, hjn, hje⟩ := HP.out _ (List.getElem_mem hvl)
      have q4 : w4.cell? ⟨ob, v, none⟩ = some (.int .i64 (j : Int)) := by
        rw [own4.cellAt v (by omega), List.getElem?_map, List.getElem?_eq_getElem hvl, ← hj]
        rfl
      have HC4 := Lib.hid c4
      have HG4 := Lib.hid (grownBy_trans HGW.out g4)
      have HJE := Lib.hid hje
      have hv0 : (0 : Int) ≤ (v : Int) := by omega
      have hvi : (v : Int) < (pre.length : Int) := by omega
      clear hv c4 g4 own own4 hje hj
      go_wp2
      go_ret
      exact ⟨j, p4, hjn, HJE.out, rfl, HC4.out, HG4.out⟩
end Go.Proofs.Ytmeoabpigibaoaa.pm
