/- Contracts of write and Store. -/
import Derived.Test.YtgamodmenlhedaaPu
import Derived.Test.YtgamodmenlhedaaClone
import Derived.Test.YtgamodmenlhedaaVb0
import Derived.Deep.RegionLaw
namespace Go.Proofs.Ytgamodmenlhedaa
open Go.RowKit
set_option linter.unusedVariables false
set_option maxRecDepth 10000

theorem own_keep {w w' : World} {base B n : Nat} {e : TypeId} {size : Nat} {v : Value} {xs : List Value} (h : w.ownsRow base e size v n xs) (hb : Below B w w') (hB : w.heap.size ≤ B) : w'.ownsRow base e size v n xs := by
  refine ⟨h.1, ?_⟩
  rcases h.2 with h1 | ⟨g, cap, cur, h1, h2, h3, r⟩
  · exact .inl h1
  · have hg : g < w.heap.size := by
      rcases Nat.lt_or_ge g w.heap.size with hlt | hge
      · exact hlt
      · rw [Array.getElem?_eq_none hge] at h3; cases h3
    exact .inr ⟨g, cap, cur, h1, h2, (hb.block g (by omega)).trans h3, r⟩

theorem splice_lt {L cs : List Nat} {o : Nat} (h1 : ∀ x ∈ L, x < 256) (h2 : ∀ x ∈ cs, x < 256) : ∀ x ∈ splice L o cs, x < 256 := by
  intro x hx
  unfold splice at hx
  rcases List.mem_append.1 hx with h | h
  · exact h1 x (List.mem_of_mem_take h)
  · rcases List.mem_append.1 h with h | h
    · exact h2 x h
    · exact h1 x (List.mem_of_mem_drop h)
theorem own_two {w : World} {b b' n m k1 k2 g s s' : Nat} {e1 e2 : TypeId} {V1 : Option Addr} {xs ys : List Value} (h1 : w.ownsRow b e1 s (.slice V1 n k1) n xs) (h2 : w.ownsRow b' e2 s' (.slice (some ⟨g, 0, none⟩) m k2) m ys) (hne : e1 ≠ e2) :
    (Value.slice V1 n k1).ownBlock = none ∨ (Value.slice V1 n k1).ownBlock ≠ some g := by
  rcases h2.2 with ⟨h, _⟩ | ⟨g', cap, cur, hv, _, hh, _⟩
  · cases h
  · cases hv
    exact .inr (own_blk_ne h1 hh hne)
/-- copy of bytes into a row of the call's own, beside another row of bools -/
theorem copy_into {W : World} {base B n k m k1 k2 cx : Nat} {V1 V2 X : Option Addr} {lb bl : List Nat} {ys : List Value} (o1 : W.ownsRow base 5 1 (.slice V1 n k1) n (nb lb)) (o2 : W.ownsRow base 4 1 (.slice V2 n k2) n ys)
    (hx : Bs W B X m bl) (hk : k + m ≤ n) (hb : base ≤ W.heap.size) :
    ∃ W', (∀ ty, (Builtin.copy_ #[22, 22] ty #[.slice (if k1 = k then V1 else V1.map (·.add k)) (n - k) (k1 - k), .slice X m cx]).run Try.prog W = .ok (goInt m) W') ∧
      W'.ownsRow base 5 1 (.slice V1 n k1) n (nb (splice lb k bl)) ∧ W'.ownsRow base 4 1 (.slice V2 n k2) n ys ∧ Below base W W' := by
  have hi : (Try.prog.info? 5).map (·.size) = some 1 := by
    obtain ⟨i0, hi0, hz0, hz1, hz2⟩ := info_parts info_u8
    rw [hi0]; simp [hz1]
  rcases Nat.eq_zero_or_pos m with h0 | h0
  · subst h0
    have hl := List.eq_nil_of_length_eq_zero hx.len
    subst hl
    exact ⟨W, fun ty => run_copy_none W _ _ ty _ _ _ _ _ _ _ Try.underlying22 hi (by simp), by rw [splice_nil]; exact o1, o2, Below.refl _ _⟩
  · have hc1 := own_cap o1
    obtain ⟨g, cap, hv, -, -⟩ := o1.form (by omega)
    injection hv with hv _ hv2
    subst hv hv2
    obtain ⟨ad, rfl, -, hsrc⟩ := hx.1.2 h0
    have hlen := hx.len
    obtain ⟨p1, p2⟩ := own_setCells (nb bl) k _ _ o1 (by rw [nb_length]; omega)
    have hB := below_own (B := base) o1 p2 (Nat.le_refl _) hb
    have e3 : Option.map (fun x : Addr => x.add k) (some ⟨g, 0, none⟩) = some ⟨g, k, none⟩ := by
      by_cases hj : k = 0
      · subst hj; rfl
      · simp [Addr.add, hj]
    rw [if_neg (show k1 ≠ k by omega), e3]
    refine ⟨_, fun ty => ?_, by unfold nb at p1 ⊢; rw [splice_map] at p1; exact p1, o2.kept p2 (own_two o2 o1 (by decide)), hB⟩
    have hr := run_copy_cells (P := Try.prog) W 22 22 ty 5 g k (n - k) (k1 - k) ad m cx (nb bl) Try.underlying22 hi (by rw [nb_length, hlen]; exact (Nat.min_eq_left (by omega)).symm) hsrc
      (fun j hj => by rw [nb_length] at hj; rw [o1.cellAt (k + j) (by omega), List.getElem?_eq_getElem (by have := o1.1; omega)]; rfl) (fun j _ => o1.frozenAt _) (nb_one bl)
    rw [nb_length, hlen] at hr
    exact hr
theorem splice_get {α : Type} (L cs : List α) (o i : Nat) (h : o + cs.length ≤ L.length) : (splice L o cs)[i]? = if i < o then L[i]? else if i < o + cs.length then cs[i - o]? else L[i]? := by
  have hl : (L.take o).length = o := by simp; omega
  unfold splice
  by_cases h1 : i < o
  · rw [if_pos h1, List.getElem?_append_left (by omega), List.getElem?_take, if_pos h1]
  · rw [if_neg h1, List.getElem?_append_right (by omega), hl]
    by_cases h2 : i < o + cs.length
    · rw [if_pos h2, List.getElem?_append_left (by omega)]
    · rw [if_neg h2, List.getElem?_append_right (by omega), List.getElem?_drop]
      congr 1
      omega
theorem splice_rep {α : Type} (L : List α) (k j : Nat) (x : α) (h : k + j < L.length) : (splice L k (List.replicate j x)).set (k + j) x = splice L k (List.replicate (j + 1) x) := by
  have hl : (splice L k (List.replicate j x)).length = L.length := length_splice _ _ _ (by simp; omega)
  apply List.ext_getElem?
  intro i
  rw [List.getElem?_set, hl, splice_get _ _ _ _ (by simp; omega), splice_get _ _ _ _ (by simp; omega)]
  simp only [List.length_replicate, List.getElem?_replicate]
  by_cases h1 : k + j = i
  · subst h1
    rw [if_pos rfl, if_pos h, if_neg (by omega), if_pos (by omega), if_pos (by omega)]
  · rw [if_neg h1]
    by_cases h2 : i < k
    · rw [if_pos h2, if_pos h2]
    · rw [if_neg h2, if_neg h2]
      by_cases h3 : i < k + j
      · rw [if_pos h3, if_pos (by omega), if_pos (by omega), if_pos (by omega)]
      · rw [if_neg h3, if_neg (by omega)]

set_option maxHeartbeats 4000000 in
theorem write_any (A U X : Option Addr) (n c d m cx sp k : Nat) (lb bl : List Nat) (lu : List Bool)
    (w : World) (hb : Bs w w.heap.size A n lb) (hu : Sl Value.bool w w.heap.size U n lu) (hx : Bs w w.heap.size X m bl) (hn : n ≤ 1048576) (hcap : n ≤ c) (hd : n ≤ d) (hk : k + m ≤ n) :
    Calls Try.prog 63 #[.agg #[.slice A n c, .slice U n d, .int .i64 sp], .int .i64 k, .slice X m cx] w fun e w' =>
      ∃ A' c' U' d', e = .returned (.agg #[.slice A' n c', .slice U' n d', .int .i64 sp]) ∧ w'.ownsRow w.heap.size 5 1 (.slice A' n c') n (nb (splice lb k bl)) ∧ w'.ownsRow w.heap.size 4 1 (.slice U' n d') n ((splice lu k (List.replicate m true)).map Value.bool) ∧ n ≤ c' ∧ n ≤ d' ∧ Below w.heap.size w w' := by
  have HX := Lib.hid hx
  have CA := Lib.hid (fun (W : World) (h : Below w.heap.size w W) => clone_any A n c lb W w.heap.size (hb.below h) h.size (by omega))
  have CU := Lib.hid (fun (W : World) (h : Below w.heap.size w W) => cloneb_any U n d lu W w.heap.size (hu.below h) h.size (by omega))
  have HL := Lib.hid hb.len
  have HLU := Lib.hid hu.len
  clear hb hu hx
  have S0 : Below w.heap.size w (((w.alloc (.cells #[.slice A n c, .slice U n d, .int .i64 sp] 55)).alloc (.cells #[.slice none 0 0, .slice none 0 0, .int .i64 0] 55))).drew := by go_grown
  have HS0 := Lib.hid S0
  clear S0
  go_enter Try.func63, Try.ntmps63
  go_wp2_with fail
  go_region_with (first
    | (go_at_call 71; refine Calls.mono (CA.out _ (by first | exact HS2.out | exact HS0.out)) ?_; rintro e w1 ⟨v1, rfl, own1, bel1⟩; obtain ⟨V1, k1, rfl, hm1⟩ := own_form own1; have hk1 := own_cap own1; obtain ⟨hc1, hf1⟩ := bcell bel1; (have hz1 := bel1.size; try simp at hz1); have z1 : w.heap.size < w1.heap.size := (by omega); have z1' : w.heap.size + 1 < w1.heap.size := (by omega); have HS1 := Lib.hid (show Below w.heap.size w w1 from by first | exact HS2.out.trans (bel1.mono (by omega)) | exact HS0.out.trans (bel1.mono (by simp; omega))); have OWN1 := Lib.hid own1; have BEL1 := Lib.hid bel1; have s10 : w1.cell? ⟨w.heap.size, 0, none⟩ = some (.slice A n c) := (by first | (rw [hc1 _ _ z2]; exact s20) | (rw [hc1 _ _ (by simp <;> omega)]; go_simp)); have r10 : w1.frozen? ⟨w.heap.size, 0, none⟩ = false := (by first | (rw [hf1 _ _ z2]; exact r20) | (rw [hf1 _ _ (by simp <;> omega)]; go_simp)); have s11 : w1.cell? ⟨w.heap.size, 1, none⟩ = some (.slice U n d) := (by first | (rw [hc1 _ _ z2]; exact s21) | (rw [hc1 _ _ (by simp <;> omega)]; go_simp)); have r11 : w1.frozen? ⟨w.heap.size, 1, none⟩ = false := (by first | (rw [hf1 _ _ z2]; exact r21) | (rw [hf1 _ _ (by simp <;> omega)]; go_simp)); have s12 : w1.cell? ⟨w.heap.size, 2, none⟩ = some (.int .i64 sp) := (by first | (rw [hc1 _ _ z2]; exact s22) | (rw [hc1 _ _ (by simp <;> omega)]; go_simp)); have r12 : w1.frozen? ⟨w.heap.size, 2, none⟩ = false := (by first | (rw [hf1 _ _ z2]; exact r22) | (rw [hf1 _ _ (by simp <;> omega)]; go_simp)); have q10 : w1.cell? ⟨w.heap.size + 1, 0, none⟩ = some (.slice none 0 0) := (by first | (rw [hc1 _ _ z2']; exact q20) | (rw [hc1 _ _ (by simp <;> omega)]; go_simp)); have f10 : w1.frozen? ⟨w.heap.size + 1, 0, none⟩ = false := (by first | (rw [hf1 _ _ z2']; exact f20) | (rw [hf1 _ _ (by simp <;> omega)]; go_simp)); have q11 : w1.cell? ⟨w.heap.size + 1, 1, none⟩ = some (.slice none 0 0) := (by first | (rw [hc1 _ _ z2']; exact q21) | (rw [hc1 _ _ (by simp <;> omega)]; go_simp)); have f11 : w1.frozen? ⟨w.heap.size + 1, 1, none⟩ = false := (by first | (rw [hf1 _ _ z2']; exact f21) | (rw [hf1 _ _ (by simp <;> omega)]; go_simp)); have q12 : w1.cell? ⟨w.heap.size + 1, 2, none⟩ = some (.int .i64 0) := (by first | (rw [hc1 _ _ z2']; exact q22) | (rw [hc1 _ _ (by simp <;> omega)]; go_simp)); have f12 : w1.frozen? ⟨w.heap.size + 1, 2, none⟩ = false := (by first | (rw [hf1 _ _ z2']; exact f22) | (rw [hf1 _ _ (by simp <;> omega)]; go_simp)); clear own1 bel1 hz1 hc1 hf1)
    | (go_at_call 66; refine Calls.mono (CU.out _ (by first | exact HS1.out | exact HS0.out)) ?_; rintro e w2 ⟨v2, rfl, own2, bel2⟩; obtain ⟨V2, k2, rfl, hm2⟩ := own_form own2; have hk2 := own_cap own2; obtain ⟨hc2, hf2⟩ := bcell bel2; (have hz2 := bel2.size; try simp at hz2); have z2 : w.heap.size < w2.heap.size := (by omega); have z2' : w.heap.size + 1 < w2.heap.size := (by omega); have HS2 := Lib.hid (show Below w.heap.size w w2 from by first | exact HS1.out.trans (bel2.mono (by omega)) | exact HS0.out.trans (bel2.mono (by simp; omega))); have OWN2 := Lib.hid own2; have BEL2 := Lib.hid bel2; have s20 : w2.cell? ⟨w.heap.size, 0, none⟩ = some (.slice A n c) := (by first | (rw [hc2 _ _ z1]; exact s10) | (rw [hc2 _ _ (by simp <;> omega)]; go_simp)); have r20 : w2.frozen? ⟨w.heap.size, 0, none⟩ = false := (by first | (rw [hf2 _ _ z1]; exact r10) | (rw [hf2 _ _ (by simp <;> omega)]; go_simp)); have s21 : w2.cell? ⟨w.heap.size, 1, none⟩ = some (.slice U n d) := (by first | (rw [hc2 _ _ z1]; exact s11) | (rw [hc2 _ _ (by simp <;> omega)]; go_simp)); have r21 : w2.frozen? ⟨w.heap.size, 1, none⟩ = false := (by first | (rw [hf2 _ _ z1]; exact r11) | (rw [hf2 _ _ (by simp <;> omega)]; go_simp)); have s22 : w2.cell? ⟨w.heap.size, 2, none⟩ = some (.int .i64 sp) := (by first | (rw [hc2 _ _ z1]; exact s12) | (rw [hc2 _ _ (by simp <;> omega)]; go_simp)); have r22 : w2.frozen? ⟨w.heap.size, 2, none⟩ = false := (by first | (rw [hf2 _ _ z1]; exact r12) | (rw [hf2 _ _ (by simp <;> omega)]; go_simp)); have q20 : w2.cell? ⟨w.heap.size + 1, 0, none⟩ = some (.slice none 0 0) := (by first | (rw [hc2 _ _ z1']; exact q10) | (rw [hc2 _ _ (by simp <;> omega)]; go_simp)); have f20 : w2.frozen? ⟨w.heap.size + 1, 0, none⟩ = false := (by first | (rw [hf2 _ _ z1']; exact f10) | (rw [hf2 _ _ (by simp <;> omega)]; go_simp)); have q21 : w2.cell? ⟨w.heap.size + 1, 1, none⟩ = some (.slice none 0 0) := (by first | (rw [hc2 _ _ z1']; exact q11) | (rw [hc2 _ _ (by simp <;> omega)]; go_simp)); have f21 : w2.frozen? ⟨w.heap.size + 1, 1, none⟩ = false := (by first | (rw [hf2 _ _ z1']; exact f11) | (rw [hf2 _ _ (by simp <;> omega)]; go_simp)); have q22 : w2.cell? ⟨w.heap.size + 1, 2, none⟩ = some (.int .i64 0) := (by first | (rw [hc2 _ _ z1']; exact q12) | (rw [hc2 _ _ (by simp <;> omega)]; go_simp)); have f22 : w2.frozen? ⟨w.heap.size + 1, 2, none⟩ = false := (by first | (rw [hf2 _ _ z1']; exact f12) | (rw [hf2 _ _ (by simp <;> omega)]; go_simp)); clear own2 bel2 hz2 hc2 hf2))
  all_goals
    have o1 := own_setCell (own_setCell (own_keep OWN1.out BEL2.out (Nat.le_refl _)) ⟨w.heap.size, 0, none⟩ (by simp <;> omega) (.slice V1 n k1)) ⟨w.heap.size, 1, none⟩ (by simp <;> omega) (.slice V2 n k2)
    have o2 := own_setCell (own_setCell (own_base (base' := w.heap.size + 2) OWN2.out (by omega)) ⟨w.heap.size, 0, none⟩ (by simp <;> omega) (.slice V1 n k1)) ⟨w.heap.size, 1, none⟩ (by simp <;> omega) (.slice V2 n k2)
    have o1 := own_base (base' := w.heap.size + 2) o1 (by simp)
    have hb4 := (HS2.out.setCell (p := ⟨w.heap.size, 0, none⟩) (Nat.le_refl _) (.slice V1 n k1)).setCell (p := ⟨w.heap.size, 1, none⟩) (Nat.le_refl _) (.slice V2 n k2)
    obtain ⟨W5, hcp, p1, p2, hb5⟩ := copy_into (cx := cx) o1 o2 (HX.out.below hb4) hk (by simp; omega)
    have t0 : W5.cell? ⟨w.heap.size, 0, none⟩ = some (.slice V1 n k1) := by rw [hb5.cell (show w.heap.size < w.heap.size + 2 by omega)]; clear hcp; go_simp
    have t1 : W5.cell? ⟨w.heap.size, 1, none⟩ = some (.slice V2 n k2) := by rw [hb5.cell (show w.heap.size < w.heap.size + 2 by omega)]; clear hcp; go_simp
    have t2 : W5.cell? ⟨w.heap.size, 2, none⟩ = some (.int .i64 sp) := by rw [hb5.cell (show w.heap.size < w.heap.size + 2 by omega)]; clear hcp; go_simp
    have u0 : W5.cell? ⟨w.heap.size + 1, 0, none⟩ = some (.slice none 0 0) := by rw [hb5.cell (show w.heap.size + 1 < w.heap.size + 2 by omega)]; clear hcp; go_simp
    have u1 : W5.cell? ⟨w.heap.size + 1, 1, none⟩ = some (.slice none 0 0) := by rw [hb5.cell (show w.heap.size + 1 < w.heap.size + 2 by omega)]; clear hcp; go_simp
    have u2 : W5.cell? ⟨w.heap.size + 1, 2, none⟩ = some (.int .i64 0) := by rw [hb5.cell (show w.heap.size + 1 < w.heap.size + 2 by omega)]; clear hcp; go_simp
    have x0 : W5.frozen? ⟨w.heap.size + 1, 0, none⟩ = false := by rw [hb5.frozen (show w.heap.size + 1 < w.heap.size + 2 by omega)]; clear hcp; go_simp
    have x1 : W5.frozen? ⟨w.heap.size + 1, 1, none⟩ = false := by rw [hb5.frozen (show w.heap.size + 1 < w.heap.size + 2 by omega)]; clear hcp; go_simp
    have x2 : W5.frozen? ⟨w.heap.size + 1, 2, none⟩ = false := by rw [hb5.frozen (show w.heap.size + 1 < w.heap.size + 2 by omega)]; clear hcp; go_simp
    have HB5 := Lib.hid (hb4.trans (hb5.mono (by omega)))
    have P1 := Lib.hid p1
    have P2 := Lib.hid p2
    have hs5 := hb5.size
    simp at hs5
    have y5 : w.heap.size + 1 < W5.heap.size := by omega
    have y5' : w.heap.size < W5.heap.size := by omega
    clear o1 o2 hb4 p1 p2 hb5 OWN1 OWN2 BEL1 BEL2 HS0 HS1 HS2 CA CU HX hs5
    by_cases hkk : k1 = k
    · obtain rfl : m = 0 := by omega
      obtain rfl : n = k := by omega
      subst hkk
      simp only [if_true, Nat.sub_self] at hcp
      go_wp2_with fail
      go_loopw [24] (fun i wr => i = .int .i64 0 ∧ wr = W5) (fun i _ => 0)
      case atStart => exact ⟨rfl, rfl⟩
      case round =>
        obtain ⟨rfl, rfl⟩ := hrel
        clear hcp
        have P3 : Hid (wr.ownsRow (w.heap.size + 2) 4 1 (.slice V2 k1 k2) k1 ((splice lu k1 (List.replicate 0 true)).map Value.bool)) := Lib.hid (by rw [List.replicate_zero, splice_nil]; exact P2.out)
        go_wp2
        refine bodyPost_ret (v := .agg #[.slice V1 k1 k1, .slice V2 k1 k2, .int .i64 sp]) (by simp [results, Try.results63, go_sem, *]) rfl ?_
        refine ⟨_, _, _, _, rfl, own_base (own_setCell (own_setCell (own_setCell P1.out _ ?_ _) _ ?_ _) _ ?_ _) (by omega), own_base (own_setCell (own_setCell (own_setCell P3.out _ ?_ _) _ ?_ _) _ ?_ _) (by omega), hk1, hk2, ((HB5.out.setCell (by simp) _).setCell (by simp) _).setCell (by simp) _⟩
        all_goals (show w.heap.size + 1 < w.heap.size + 2; omega)
    · simp only [if_neg hkk] at hcp
      go_wp2_with fail
      go_loopw [24] (fun i wr => ∃ j : Nat, j ≤ m ∧ i = .int .i64 j ∧ Hid (Below w.heap.size w wr) ∧ Hid (wr.ownsRow (w.heap.size + 2) 5 1 (.slice V1 n k1) n (nb (splice lb k bl))) ∧ Hid (wr.ownsRow (w.heap.size + 2) 4 1 (.slice V2 n k2) n ((splice lu k (List.replicate j true)).map Value.bool)) ∧
          w.heap.size + 1 < wr.heap.size ∧ (∀ g, g < w.heap.size + 2 → wr.heap[g]? = W5.heap[g]?)) (fun i _ => m - (intOf i).toNat)
      case atStart => exact ⟨0, by omega, rfl, HB5, P1, Lib.hid (by rw [List.replicate_zero, splice_nil]; exact P2.out), y5, fun g hg => rfl⟩
      case round =>
        obtain ⟨j, hj, rfl, HBr, R1, R2, zr, hbl⟩ := hrel
        have s0 : wr.cell? ⟨w.heap.size, 0, none⟩ = some (.slice V1 n k1) := by rw [World.cell?_of_block (hbl w.heap.size (by omega))]; exact t0
        have s1 : wr.cell? ⟨w.heap.size, 1, none⟩ = some (.slice V2 n k2) := by rw [World.cell?_of_block (hbl w.heap.size (by omega))]; exact t1
        have s2 : wr.cell? ⟨w.heap.size, 2, none⟩ = some (.int .i64 sp) := by rw [World.cell?_of_block (hbl w.heap.size (by omega))]; exact t2
        have HBL := Lib.hid hbl
        by_cases hlt : j < m
        · obtain ⟨g, cap, hv, hg0, hg1⟩ := R2.out.form (by omega)
          injection hv with hv _ hv2
          subst hv hv2
          have hl2 : ((splice lu k (List.replicate j true)).map Value.bool).length = n := by have := R2.out.1; omega
          have hcell : (wr.cell? ⟨g, k + j, none⟩).isSome = true := by rw [R2.out.cellAt (k + j) (by omega), List.getElem?_eq_getElem (by omega)]; rfl
          have hfr : wr.frozen? ⟨g, k + j, none⟩ = false := R2.out.frozenAt _
          obtain ⟨c5, hcell⟩ := Option.isSome_iff_exists.1 hcell
          obtain ⟨q2, q3⟩ := R2.out.stored (k + j) (.bool true)
          have q1 := R1.out.kept q3 (own_two R1.out R2.out (by decide))
          have hb6 := below_own (B := w.heap.size + 2) R2.out q3 (Nat.le_refl _) (by omega)
          have hki : (j : Int) < (m : Int) := by omega
          have hk0 : (0 : Int) ≤ (k : Int) + j := by omega
          have hk9 : (k : Int) + j < n := by omega
          have Q1 := Lib.hid q1
          have Q2 := Lib.hid q2
          have HB6 := Lib.hid hb6
          have e5 : (⟨g, 0, none⟩ : Addr).add (k + j) = ⟨g, k + j, none⟩ := by unfold Addr.add; split <;> simp_all
          clear hbl q1 q2 q3 hb6 hl2
          go_wp2
          go_roundw
          case rel =>
            refine ⟨j + 1, by omega, by go_num, Lib.hid (HBr.out.trans (HB6.out.mono (by omega))), Q1, Lib.hid ?_, by simpa using zr, fun g' hg' => (HB6.out.block g' hg').trans (HBL.out g' hg')⟩
            have := Q2.out
            rw [show Value.bool true = (fun b => Value.bool b) true from rfl, ← List.map_set, splice_rep _ _ _ _ (by rw [HLU.out]; omega)] at this
            exact this
          case measure => simp [intOf]; omega
        · have hjm : j = m := by omega
          subst hjm
          have v0 : wr.cell? ⟨w.heap.size + 1, 0, none⟩ = some (.slice none 0 0) := by rw [World.cell?_of_block (hbl (w.heap.size + 1) (by omega))]; exact u0
          have v1 : wr.cell? ⟨w.heap.size + 1, 1, none⟩ = some (.slice none 0 0) := by rw [World.cell?_of_block (hbl (w.heap.size + 1) (by omega))]; exact u1
          have v2 : wr.cell? ⟨w.heap.size + 1, 2, none⟩ = some (.int .i64 0) := by rw [World.cell?_of_block (hbl (w.heap.size + 1) (by omega))]; exact u2
          have f0 : wr.frozen? ⟨w.heap.size + 1, 0, none⟩ = false := by rw [World.frozen?_of_block (hbl (w.heap.size + 1) (by omega))]; exact x0
          have f1 : wr.frozen? ⟨w.heap.size + 1, 1, none⟩ = false := by rw [World.frozen?_of_block (hbl (w.heap.size + 1) (by omega))]; exact x1
          have f2 : wr.frozen? ⟨w.heap.size + 1, 2, none⟩ = false := by rw [World.frozen?_of_block (hbl (w.heap.size + 1) (by omega))]; exact x2
          clear hbl HBL hcp
          go_wp2
          refine bodyPost_ret (v := .agg #[.slice V1 n k1, .slice V2 n k2, .int .i64 sp]) (by simp [results, Try.results63, go_sem, *]) rfl ?_
          refine ⟨_, _, _, _, rfl, own_base (own_setCell (own_setCell (own_setCell R1.out _ ?_ _) _ ?_ _) _ ?_ _) (by omega), own_base (own_setCell (own_setCell (own_setCell R2.out _ ?_ _) _ ?_ _) _ ?_ _) (by omega), hk1, hk2, ((HBr.out.setCell (by simp) _).setCell (by simp) _).setCell (by simp) _⟩
          all_goals (show w.heap.size + 1 < w.heap.size + 2; omega)
end Go.Proofs.Ytgamodmenlhedaa
