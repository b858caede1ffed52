/- Contracts of Push. -/
import Derived.Test.YtgamodmenlhedaaPo
import Derived.Test.YtgamodmenlhedaaCloneb
namespace Go.Proofs.Ytgamodmenlhedaa
open Go.RowKit
set_option linter.unusedVariables false
set_option maxRecDepth 10000

/-- what a change of a stack gives: the error, the bytes, the used bytes, the stack pointer; the stack's memory readable in the world behind -/
def StkR (w : World) (n : Nat) (r : Int × List Nat × List Bool × Nat) (e : Ending) (w' : World) : Prop :=
  ∃ A c U d, e = .returned (.tuple #[.agg #[.slice A n c, .slice U n d, .int .i64 (r.2.2.2 : Nat)], .int .i64 r.1]) ∧ Bs w' w'.heap.size A n r.2.1 ∧ Sl Value.bool w' w'.heap.size U n r.2.2.1 ∧ n ≤ c ∧ n ≤ d ∧ Below w.heap.size w w'
def pushV (lb : List Nat) (lu : List Bool) (sp : Nat) (k : Int) : Int × List Nat × List Bool × Nat :=
  if k < 0 then (4, lb, lu, sp) else if (sp : Int) < k then (9, lb, lu, sp) else (0, lb, splice lu (sp - k.toNat) (List.replicate k.toNat false), sp - k.toNat)
theorem splice_map {α β : Type} (f : α → β) (L : List α) (o : Nat) (cs : List α) : splice (L.map f) o (cs.map f) = (splice L o cs).map f := by
  simp [splice, List.map_take, List.map_drop]
theorem run_clear_none {P : Program} {w : World} {t e : TypeId} (ht : P.underlying t = some (.slice e)) (X : Option Addr) (c : Nat) (ty : TypeId) :
    (Builtin.clear_ #[t] ty #[.slice X 0 c]).run P w = .ok (.tuple #[]) w := by
  cases X <;> simp [Builtin.clear_, run_underlying ht]
theorem own_cap {w : World} {base n c : Nat} {e : TypeId} {size : Nat} {A : Option Addr} {xs : List Value} (h : w.ownsRow base e size (.slice A n c) n xs) : n ≤ c := by
  rcases h.2 with ⟨h1, h2⟩ | ⟨g, cap, cur, h1, _, _, h2, _⟩
  · cases h1; omega
  · cases h1; omega
theorem own_setCell {w : World} {base n c : Nat} {e : TypeId} {size : Nat} {A : Option Addr} {xs : List Value} (h : w.ownsRow base e size (.slice A n c) n xs) (p : Addr) (hp : p.block < base) (u : Value) : (w.setCell p u).ownsRow base e size (.slice A n c) n xs := by
  refine ⟨h.1, ?_⟩
  rcases h.2 with h1 | ⟨g, cap, cur, h1, h2, h3, r⟩
  · exact .inl h1
  · refine .inr ⟨g, cap, cur, h1, h2, ?_, r⟩
    exact (Below.heap_setCell w p u g (by omega)).trans h3

set_option maxHeartbeats 2000000 in
theorem push_any (A U : Option Addr) (n c d sp : Nat) (lb : List Nat) (lu : List Bool) (k : Int) (h0 : -9223372036854775808 ≤ k) (h1 : k ≤ 9223372036854775807)
    (w : World) (hb : Bs w w.heap.size A n lb) (hu : Sl Value.bool w w.heap.size U n lu) (hn : n ≤ 1048576) (hsp : sp ≤ n) (hcap : n ≤ c) (hd : n ≤ d) :
    Calls Try.prog 33 #[.agg #[.slice A n c, .slice U n d, .int .i64 sp], .int .i64 k] w (StkR w n (pushV lb lu sp k)) := by
  have hcase : k < 0 ∨ (0 ≤ k ∧ (sp : Int) < k) ∨ (0 ≤ k ∧ k ≤ sp) := by omega
  rcases hcase with h | ⟨h, h'⟩ | ⟨h, h'⟩
  · have hr : pushV lb lu sp k = (4, lb, lu, sp) := by unfold pushV; rw [if_pos h]
    rw [hr]
    have HB := Lib.hid hb
    have HU := Lib.hid hu
    clear hr hb hu
    go_enter Try.func33, Try.ntmps33
    go_wp2
    go_returns
    have bel : Below w.heap.size w _ := (((Below.refl w.heap.size w).alloc (Nat.le_refl _) (.cells #[.slice A n c, .slice U n d, .int .i64 sp] 55)).alloc (by simp) (.cells #[.slice A n c, .slice U n d, .int .i64 sp] 55))
    exact ⟨_, _, _, _, rfl, (HB.out.below bel).more bel.size, (HU.out.below bel).more bel.size, hcap, hd, bel⟩
  · have hr : pushV lb lu sp k = (9, lb, lu, sp) := by unfold pushV; rw [if_neg (by omega), if_pos h']
    rw [hr]
    have HB := Lib.hid hb
    have HU := Lib.hid hu
    clear hr hb hu
    go_enter Try.func33, Try.ntmps33
    go_wp2
    go_returns
    have bel : Below w.heap.size w _ := (((Below.refl w.heap.size w).alloc (Nat.le_refl _) (.cells #[.slice A n c, .slice U n d, .int .i64 sp] 55)).alloc (by simp) (.cells #[.slice A n c, .slice U n d, .int .i64 sp] 55))
    exact ⟨_, _, _, _, rfl, (HB.out.below bel).more bel.size, (HU.out.below bel).more bel.size, hcap, hd, bel⟩
  · obtain ⟨m, rfl⟩ := Int.eq_ofNat_of_zero_le h
    obtain ⟨j, rfl⟩ : ∃ j, sp = j + m := ⟨sp - m, by omega⟩
    have hr : pushV lb lu (j + m) m = (0, lb, splice lu j (List.replicate m false), j) := by
      unfold pushV; rw [if_neg (by omega), if_neg (by omega)]; simp
    rw [hr]
    have HB := Lib.hid hb
    have HC := Lib.hid (fun (W : World) (h : Below w.heap.size w W) => cloneb_any U n d lu W w.heap.size (hu.below h) h.size (by omega))
    clear hr hb hu
    go_enter Try.func33, Try.ntmps33
    go_wp2_with fail
    refine (HC.out _ (by go_grown)).mono ?_
    rintro e w1 ⟨v, rfl, own, bel⟩
    obtain ⟨V, c', rfl, hm⟩ := own_form own
    have hc' := own_cap own
    obtain ⟨hc1, hf1⟩ := bcell bel
    have hz1 := bel.size
    simp at hz1
    have z1 : w.heap.size < w1.heap.size := by omega
    have z1' : w.heap.size + 1 < w1.heap.size := by omega
    have s0 : w1.cell? ⟨w.heap.size, 0, none⟩ = some (.slice A n c) := by rw [hc1 _ _ (by simp <;> omega)]; go_simp
    have s1 : w1.cell? ⟨w.heap.size, 1, none⟩ = some (.slice U n d) := by rw [hc1 _ _ (by simp <;> omega)]; go_simp
    have s2 : w1.cell? ⟨w.heap.size, 2, none⟩ = some (.int .i64 (j + m : Nat)) := by rw [hc1 _ _ (by simp <;> omega)]; go_simp
    have q0 : w1.cell? ⟨w.heap.size + 1, 0, none⟩ = some (.slice none 0 0) := by rw [hc1 _ _ (by simp <;> omega)]; go_simp
    have q1 : w1.cell? ⟨w.heap.size + 1, 1, none⟩ = some (.slice none 0 0) := by rw [hc1 _ _ (by simp <;> omega)]; go_simp
    have q2 : w1.cell? ⟨w.heap.size + 1, 2, none⟩ = some (.int .i64 0) := by rw [hc1 _ _ (by simp <;> omega)]; go_simp
    have r1 : w1.frozen? ⟨w.heap.size, 1, none⟩ = false := by rw [hf1 _ _ (by simp <;> omega)]; go_simp
    have r2 : w1.frozen? ⟨w.heap.size, 2, none⟩ = false := by rw [hf1 _ _ (by simp <;> omega)]; go_simp
    have f0 : w1.frozen? ⟨w.heap.size + 1, 0, none⟩ = false := by rw [hf1 _ _ (by simp <;> omega)]; go_simp
    have f1 : w1.frozen? ⟨w.heap.size + 1, 1, none⟩ = false := by rw [hf1 _ _ (by simp <;> omega)]; go_simp
    have f2 : w1.frozen? ⟨w.heap.size + 1, 2, none⟩ = false := by rw [hf1 _ _ (by simp <;> omega)]; go_simp
    have HBel := Lib.hid ((((Below.refl w.heap.size w).alloc (Nat.le_refl _) _).alloc (by simp) _).trans (bel.mono (by simp; omega)))
    have hown := own_setCell own ⟨w.heap.size, 1, none⟩ (by simp <;> omega) (.slice V n c')
    clear hc1 hf1 bel own
    have HOWN := Lib.hid (show (w1.setCell ⟨w.heap.size, 1, none⟩ (.slice V n c')).ownsRow (w.heap.size + 2) 4 1 (.slice V n c') n (lu.map Value.bool) from by simpa using hown)
    clear hown
    obtain ⟨W3, hcl, b3, t3, HBel3⟩ : ∃ W3, (∀ ty, (Builtin.clear_ #[53] ty #[.slice (if c' = j then V else V.map (·.add j)) m (c' - j)]).run Try.prog (w1.setCell ⟨w.heap.size, 1, none⟩ (.slice V n c')) = .ok (.tuple #[]) W3) ∧
        (∀ g, g < w.heap.size + 2 → W3.heap[g]? = (w1.setCell ⟨w.heap.size, 1, none⟩ (.slice V n c')).heap[g]?) ∧ W3.ownsRow (w.heap.size + 2) 4 1 (.slice V n c') n ((splice lu j (List.replicate m false)).map Value.bool) ∧
        Below (w.heap.size + 2) (w1.setCell ⟨w.heap.size, 1, none⟩ (.slice V n c')) W3 := by
      rcases Nat.eq_zero_or_pos m with h0 | h0
      · subst h0
        exact ⟨_, fun ty => run_clear_none Try.underlying53 _ _ ty, fun g hg => rfl, by rw [List.replicate_zero, splice_nil]; exact HOWN.out, Below.refl _ _⟩
      · obtain ⟨g, cap, hv, -, -⟩ := HOWN.out.form (by omega)
        injection hv with hv _ hv2
        subst hv hv2
        have hcj : c' ≠ j := by omega
        rw [if_neg hcj]
        obtain ⟨i0, hi0, hz0, hz1, hz2⟩ := info_parts info_bool
        obtain ⟨o1, o2⟩ := own_setCells (List.replicate m (Value.bool false)) j _ _ HOWN.out (by simp; omega)
        have hB := below_own (B := w.heap.size + 2) HOWN.out o2 (Nat.le_refl _) (by simp; omega)
        refine ⟨_, fun ty => ?_, fun g hg => hB.block g hg, ?_, hB⟩
        · have hr := run_clear_own (P := Try.prog) (ty := ty) (c := c' - j) Try.underlying53 (z := .bool false) (fun w => by simp [zeroValue, typeInfo, hi0, hz0]) rfl rfl HOWN.out j m h0 (by omega)
          have e3 : Option.map (fun x : Addr => x.add j) (some ⟨g, 0, none⟩) = some ⟨g, j, none⟩ := by
            by_cases hj : j = 0
            · subst hj; rfl
            · simp [Addr.add, hj]
          rw [e3]
          exact hr
        · have e2 : splice (lu.map Value.bool) j (List.replicate m (Value.bool false)) = (splice lu j (List.replicate m false)).map Value.bool := by rw [← splice_map]; simp
          rw [e2] at o1
          exact o1
    have u0 : W3.cell? ⟨w.heap.size, 0, none⟩ = some (.slice A n c) := by rw [World.cell?_of_block (b3 w.heap.size (by omega))]; go_simp
    have u1 : W3.cell? ⟨w.heap.size, 1, none⟩ = some (.slice V n c') := by rw [World.cell?_of_block (b3 w.heap.size (by omega))]; go_simp
    have u2 : W3.cell? ⟨w.heap.size, 2, none⟩ = some (.int .i64 (j + m : Nat)) := by rw [World.cell?_of_block (b3 w.heap.size (by omega))]; go_simp
    have v0 : W3.cell? ⟨w.heap.size + 1, 0, none⟩ = some (.slice none 0 0) := by rw [World.cell?_of_block (b3 (w.heap.size + 1) (by omega))]; go_simp
    have v1 : W3.cell? ⟨w.heap.size + 1, 1, none⟩ = some (.slice none 0 0) := by rw [World.cell?_of_block (b3 (w.heap.size + 1) (by omega))]; go_simp
    have v2 : W3.cell? ⟨w.heap.size + 1, 2, none⟩ = some (.int .i64 0) := by rw [World.cell?_of_block (b3 (w.heap.size + 1) (by omega))]; go_simp
    have x2 : W3.frozen? ⟨w.heap.size, 2, none⟩ = false := by rw [HBel3.frozen (show w.heap.size < w.heap.size + 2 by omega)]; go_simp
    have y0 : W3.frozen? ⟨w.heap.size + 1, 0, none⟩ = false := by rw [HBel3.frozen (show w.heap.size + 1 < w.heap.size + 2 by omega)]; go_simp
    have y1 : W3.frozen? ⟨w.heap.size + 1, 1, none⟩ = false := by rw [HBel3.frozen (show w.heap.size + 1 < w.heap.size + 2 by omega)]; go_simp
    have y2 : W3.frozen? ⟨w.heap.size + 1, 2, none⟩ = false := by rw [HBel3.frozen (show w.heap.size + 1 < w.heap.size + 2 by omega)]; go_simp
    have hz3 := HBel3.size
    simp at hz3
    have z3' : w.heap.size + 1 < W3.heap.size := by omega
    have z3 : w.heap.size < W3.heap.size := by omega
    have HB3 := Lib.hid ((HBel.out.setCell (Nat.le_refl _) _).trans (HBel3.mono (by omega)))
    have T3 := Lib.hid t3
    have hz3 := Lib.hid hz3
    clear b3 HBel3 t3 HOWN HC
    have hfin : ∀ W, W = ((((W3.setCell ⟨w.heap.size, 2, none⟩ (.int .i64 j)).setCell ⟨w.heap.size + 1, 0, none⟩ (.slice A n c)).setCell ⟨w.heap.size + 1, 1, none⟩ (.slice V n c')).setCell ⟨w.heap.size + 1, 2, none⟩ (.int .i64 j)) →
        StkR w n (0, lb, splice lu j (List.replicate m false), j) (.returned (.tuple #[.agg #[.slice A n c, .slice V n c', .int .i64 j], .int .i64 0])) W := by
      rintro W rfl
      have bel := (((HB3.out.setCell (Nat.le_refl _) (p := ⟨w.heap.size, 2, none⟩) (.int .i64 j)).setCell (p := ⟨w.heap.size + 1, 0, none⟩) (by simp) (.slice A n c)).setCell (p := ⟨w.heap.size + 1, 1, none⟩) (by simp) (.slice V n c')).setCell (p := ⟨w.heap.size + 1, 2, none⟩) (by simp) (.int .i64 j)
      refine ⟨A, c, V, c', rfl, (HB.out.below bel).more bel.size, Sl.of_own (own_setCell (own_setCell (own_setCell (own_setCell T3.out _ ?_ _) _ ?_ _) _ ?_ _) _ ?_ _), hcap, hc', bel⟩
      · show w.heap.size < w.heap.size + 2; omega
      · show w.heap.size + 1 < w.heap.size + 2; omega
      · show w.heap.size + 1 < w.heap.size + 2; omega
      · show w.heap.size + 1 < w.heap.size + 2; omega
    have HFIN := Lib.hid hfin
    clear hfin
    by_cases hcj : c' = j
    · subst hcj
      simp only [if_true, Nat.sub_self] at hcl
      go_wp2
      refine bodyPost_ret (v := .tuple #[.agg #[.slice A n c, .slice V n c', .int .i64 c'], .int .i64 0]) (by simp [results, Try.results33, go_sem, *]) rfl ?_
      exact HFIN.out _ rfl
    · simp only [if_neg hcj] at hcl
      go_wp2
      refine bodyPost_ret (v := .tuple #[.agg #[.slice A n c, .slice V n c', .int .i64 j], .int .i64 0]) (by simp [results, Try.results33, go_sem, *]) rfl ?_
      exact HFIN.out _ rfl
end Go.Proofs.Ytgamodmenlhedaa
