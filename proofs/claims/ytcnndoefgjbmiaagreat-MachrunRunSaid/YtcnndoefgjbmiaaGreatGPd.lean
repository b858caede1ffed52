/- The draws Slots and like. -/
import Derived.Test.YtcnndoefgjbmiaaGreatPd1
set_option linter.unusedVariables false
set_option maxRecDepth 10000
set_option maxHeartbeats 8000000
namespace Go.Proofs.YtcnndoefgjbmiaaGreat.pm
open Go.RowKit
theorem info_slot : (Tryz.prog.info? 134).map (fun i => (i.zero, i.size, i.bytes)) = some (some (.agg #[.int .i64 0, .int .i64 0]), 2, 16) := by kernel_rfl
theorem info_ins : (Tryz.prog.info? 50).map (fun i => (i.zero, i.size, i.bytes)) = some (some (.agg #[.int .i64 0, .int .i64 0, .int .i64 0, .int .i64 0, .int .u64 0]), 5, 40) := by kernel_rfl
theorem info_fn : (Tryz.prog.info? 97).map (fun i => (i.zero, i.size, i.bytes)) = some (some (.agg #[.int .i64 0, .slice none 0 0, .slice none 0 0]), 3, 56) := by kernel_rfl
theorem reads_new {w : World} {size n : Nat} {t : TypeId} {cs : List Value} (hs : cs.length = n * size) : Reads (w.alloc (.cells cs.toArray t)) (w.heap.size + 1) size (some ⟨w.heap.size, 0, none⟩) n cs :=
 ⟨hs, fun _ => ⟨_, rfl, by simp, fun j u hu => by
  have h := Blk.cell (Blk.new w t cs.toArray) j
  rw [show (⟨w.heap.size, 0, none⟩ : Addr).add j = ⟨w.heap.size, j, none⟩ by unfold Addr.add; by_cases hj : j = 0 <;> simp [hj], h]
  simpa using hu⟩⟩
def SlotsD (B cb : Nat) (A : Option Addr) (n c : Nat) (l : List Nat) (most : Nat) (w : World) (e : Ending) (w' : World) : Prop :=
 ∃ (r : Value) (sl : List (Int × Int)) (p' : Nat), e = .returned r ∧ sl.length ≤ most ∧ (∀ s ∈ sl, SlotOk s) ∧ w'.ownsRow w.heap.size 134 2 r sl.length (slV sl) ∧ CodesAt w' B cb A n c l p' ∧ w.grownBy w' (some cb)
theorem slots_d (B cb : Nat) (A : Option Addr) (n c : Nat) (l : List Nat) (p most : Nat) (w : World) (h : CodesAt w B cb A n c l p) (hm : most ≤ 100) :
 Calls Tryz.prog 57 #[.pointer (some ⟨cb, 0, none⟩), .int .i64 (most : Int)] w (SlotsD B cb A n c l most w) := by
 obtain ⟨i0, hi0, hz0, hz1, hz2⟩ := info_parts info_slot
 have hlt := h.1.lt
 have hB := h.2.2.2.1
 have HC := hQ h
 have hmi : (most : Int) ≤ 100 := by omega
 clear h
 go_enter Tryz.func57, Tryz.ntmps57
 go_wp2_with fail
 refine (next_d _ _ _ _ _ _ _ ((most : Int) + 1) _ HC.out (by omega) (by omega)).mono ?_
 rintro e w1 ⟨t, p1, ht, rfl, c1, g1⟩
 have htm : t ≤ most := by omega
 have HC1 := hQ c1
 have HG1 := hQ g1
 clear ht c1 g1 HC
 go_wp2
 go_loopw [5, 6] (fun o x wr => ∃ (k p1 : Nat) (pre : List (Int × Int)), x = .int .i64 k ∧ k ≤ 100 ∧ Hid (pre.length + k ≤ most) ∧ Hid (∀ s ∈ pre, SlotOk s) ∧ wr.ownsRow w.heap.size 134 2 o pre.length (slV pre) ∧ Hid (CodesAt wr B cb A n c l p1) ∧ Hid (w.grownBy wr (some cb))) (fun _ x _ => (intOf x).toNat)
 case atStart => exact ⟨t, p1, [], rfl, by omega, hQ (by simpa using htm), hQ (fun s hs => by simp at hs), World.ownsRow_nil _ _ _ _, HC1, HG1⟩
 case round =>
  obtain ⟨k, p2, pre, rfl, hk, HL, HP, own, HCW, HG⟩ := hrel
  have hpl : pre.length ≤ 100 := by have := HL.out; omega
  have hk0 : (0 : Int) ≤ (k : Int) := by omega
  have hk1 : (k : Int) ≤ 100 := by omega
  clear HC1 HG1
  rcases Nat.eq_zero_or_pos k with rfl | hpos
  · have HE : Hid (pre.length ≤ most) := hQ (by have := HL.out; omega)
    go_wp2
    go_ret
    exact ⟨_, pre, p2, rfl, HE.out, HP.out, own, HCW.out, HG.out⟩
  · have hpi : (0 : Int) < (k : Int) := by omega
    go_wp2_with fail
    refine (slot_d _ _ _ _ _ _ _ _ HCW.out).mono ?_
    rintro e w3 ⟨s, z, p3, hso, rfl, c3, g3⟩
    have HSO := hQ hso
    have HC3 := hQ c3
    have HG3 := hQ (grownBy_trans HG.out g3)
    have own3 := own_draw own g3 hlt
    have hsz3 : w.heap.size ≤ w3.heap.size := HG3.out.size
    clear hso c3 g3 own HCW HG
    go_wp2_with (at_builtin; refine wpList_append_any _ rfl (.tmp 15) (.tmp 18) _ rfl w.heap.size 134 i0 _ 2 16 Tryz.underlying95 hi0 hz0 hz1 hz2 rfl (by omega) _ (pre).length (slV pre) rfl (own3.alloc _) (w3.heap.size + 1) (some ⟨w3.heap.size, 0, none⟩) 1 1 [Value.int .i64 s, Value.int .i64 z] rfl (reads_new rfl) (by simp [Value.oneCell']) (by unfold maxLen; omega) (by omega) (by simp; omega) ?_; intro v4 w4 own4 hg4 hat4)
    have HN4 := hQ (own_ne_codes (own3.alloc (.cells #[Value.int .i64 s, Value.int .i64 z] 134)) hlt)
    have HLT4 := hQ (fun j (e : _ = some j) => ((own3.alloc (.cells #[Value.int .i64 s, Value.int .i64 z] 134)).lt j e).1)
    go_roundw
    case rel =>
     refine ⟨k - 1, p3, pre ++ [(s, z)], (by congr 1; omega), by omega, hQ (by have := HL.out; simp; omega), hQ (fun q hq => ?_), ?_, hQ ((HC3.out.alloc _).grown' hg4 HN4.out (fun j e => by have := HLT4.out j e; omega)), hQ (grownBy_step (grownBy_al HG3.out _) hg4 (fun j e => .inl (HLT4.out j e)))⟩
     · rcases List.mem_append.1 hq with h1 | h1
       · exact HP.out q h1
       · simp at h1; subst h1; exact HSO.out
     · rw [slV_app, List.length_append]; exact own4
    case measure => simp [intOf]; omega
def LikeD (B cb : Nat) (A : Option Addr) (n c : Nat) (l : List Nat) (ns : Nat) (sl : List (Int × Int)) (s : Nat) (w : World) (e : Ending) (w' : World) : Prop :=
 ∃ j p' : Nat, j < ns ∧ (sl.getD j (0, 0)).1 = (sl.getD s (0, 0)).1 ∧ e = .returned (.int .i64 j) ∧ CodesAt w' B cb A n c l p' ∧ w.grownBy w' (some cb)
theorem like_d (B cb : Nat) (A : Option Addr) (n c : Nat) (l : List Nat) (p : Nat) (prm : Int) (As : Option Addr) (ns cs : Nat) (Ai : Option Addr) (ni ci : Nat) (sl : List (Int × Int)) (s : Nat) (w : World) (h : CodesAt w B cb A n c l p) (hs : Sz w As ns sl) (hns : ns ≤ 100) (hsn : s < ns) :
 Calls Tryz.prog 87 #[.pointer (some ⟨cb, 0, none⟩), .agg #[.int .i64 prm, .slice As ns cs, .slice Ai ni ci], .int .i64 (s : Int)] w (LikeD B cb A n c l ns sl s w) := by
 obtain ⟨i0, hi0, hz0, hz1, hz2⟩ := info_parts info_int
 have hlt := h.1.lt
 have hB := h.2.2.2.1
 have HC := hQ h
 have hsl := hs.len
 obtain ⟨W0, hW0⟩ : ∃ W0, W0 = w.alloc (.cells #[.int .i64 prm, .slice As ns cs, .slice Ai ni ci] 97) := ⟨_, rfl⟩
 have HB0 : Hid (Below w.heap.size w W0) := hQ (by rw [hW0]; exact bR.alloc nL _)
 have HK0 : Hid (Blk W0 w.heap.size 97 #[.int .i64 prm, .slice As ns cs, .slice Ai ni ci]) := hQ (by rw [hW0]; exact Blk.new w _ _)
 have HZ0 : Hid (W0.heap.size = w.heap.size + 1) := hQ (by rw [hW0]; simp)
 have HW0 := hQ hW0
 have HS0 := hQ (hs.below HB0.out)
 have hsi : (s : Int) < (ns : Int) := by omega
 have hs0 : (0 : Int) ≤ (s : Int) := by omega
 clear h hs hW0 hsl
 go_enter Tryz.func87, Tryz.ntmps87
 go_wp2_with fail
 rw [← HW0.out]
 go_loopw [7, 8] (fun o x wr => ∃ (k : Nat) (pre : List Int), k ≤ ns ∧ x = .int .i64 k ∧ Hid (∀ x ∈ pre, ∃ j : Nat, x = (j : Int) ∧ j < ns ∧ (sl.getD j (0, 0)).1 = (sl.getD s (0, 0)).1) ∧ Hid (s < k → pre ≠ []) ∧ pre.length ≤ k ∧ wr.ownsRow W0.heap.size 3 1 o pre.length (pre.map (Value.int .i64)) ∧ Hid (Below W0.heap.size W0 wr)) (fun _ x _ => ns - (intOf x).toNat)
 case atStart => exact ⟨0, [], by omega, rfl, hQ (fun x hx => by simp at hx), hQ (fun h => by omega), by simp, World.ownsRow_nil _ _ _ _, hQ bR⟩
 case round =>
  obtain ⟨k, pre, hk, rfl, HP, HNE, hpl, own, bel⟩ := hrel
  have hk0 : (0 : Int) ≤ (k : Int) := by omega
  have hsz := bel.out.size
  obtain ⟨b0, b1, b2, -, -, -, bz⟩ := (HK0.out.after bel.out).c3
  by_cases hlt2 : k < ns
  · have hki : (k : Int) < (ns : Int) := by omega
    obtain ⟨ad, rfl, hbl, cs1, cs2⟩ := (HS0.out.below bel.out).at_ hlt2
    obtain ⟨ad', e', -, ct1, ct2⟩ := (HS0.out.below bel.out).at_ hsn
    obtain rfl : ad = ad' := by injection e'
    have HYES : Hid ((sl.getD k (0, 0)).1 = (sl.getD s (0, 0)).1 → ∀ x ∈ pre ++ [(k : Int)], ∃ j : Nat, x = (j : Int) ∧ j < ns ∧ (sl.getD j (0, 0)).1 = (sl.getD s (0, 0)).1) := hQ (fun hh x hx => by
     rcases List.mem_append.1 hx with h1 | h1
     · exact HP.out x h1
     · simp at h1; exact ⟨k, h1, hlt2, hh⟩)
    have HNO : Hid (¬ (sl.getD k (0, 0)).1 = (sl.getD s (0, 0)).1 → s < k + 1 → pre ≠ []) := hQ (fun hh h1 => by
     rcases Nat.lt_or_ge s k with h2 | h2
     · exact HNE.out h2
     · obtain rfl : s = k := (by omega)
       exact absurd rfl hh)
    clear e' cs2 ct2
    generalize (sl.getD k (0, 0)).1 = x at *
    generalize hy : (sl.getD s (0, 0)).1 = y at *
    clear hy
    by_cases hxy : x = y
    · have HNX := hQ (HYES.out hxy)
      subst hxy
      go_wp2_with fail
      go_quiet (fail)
      have ownq := own
      have HBQ := hQ (below_drewN bel.out nq)
      have hszq : W0.heap.size ≤ (wr.drewN nq).heap.size := HBQ.out.size
      replace own : (wr.drewN nq).ownsRow W0.heap.size 3 1 _ pre.length (pre.map (Value.int .i64)) := ownq
      generalize wr.drewN nq = w2 at *
      go_wp2_with (at_builtin; refine wpList_append_any _ rfl (.tmp 29) (.tmp 31) _ rfl W0.heap.size 3 i0 _ 1 8 Tryz.underlying86 hi0 hz0 hz1 hz2 rfl (by omega) _ (pre).length ((pre).map (Value.int .i64)) rfl (own.alloc _) (w2.heap.size + 1) (some ⟨w2.heap.size, 0, none⟩) 1 1 [Value.int .i64 (k : Int)] rfl (reads_one w2 _ _) (by simp [Value.oneCell']) (by unfold maxLen; omega) (by omega) (by simp; omega) ?_; intro v3 w3 own3 hg3 hat3; have bel3 := hQ (below_append (HBQ.out.alloc hszq _) (own.alloc _) hg3 nL (by simp; omega)))
      go_roundw
      case rel => exact ⟨k + 1, pre ++ [(k : Int)], by omega, by go_num, HNX, hQ (fun _ => by simp), by simp; omega, by simpa using own3, bel3⟩
      case measure => simp [intOf]; omega
    · have HNX := hQ (HNO.out hxy)
      have hbf : (x == y) = false := by simpa using hxy
      go_wp2_with fail
      go_quiet (fail)
      go_wp2
      go_roundw
      case rel => exact ⟨k + 1, pre, by omega, by go_num, HP, HNX, by omega, own, hQ (below_drewN bel.out nq)⟩
      case measure => simp [intOf]; omega
  · have hne : pre ≠ [] := HNE.out (by omega)
    have hl1 : 1 ≤ pre.length := by
     rcases Nat.eq_zero_or_pos pre.length with h0 | h0
     · exact absurd (List.eq_nil_of_length_eq_zero h0) hne
     · exact h0
    obtain ⟨ob, co, hform, -, -⟩ := own.form (by omega)
    subst hform
    have hpi : (pre.length : Int) ≤ 100 := by omega
    have HCW : Hid (CodesAt wr B cb A n c l p) := hQ ((HC.out.after HB0.out).after bel.out)
    have HGW : Hid (w.grownBy wr (some cb)) := hQ (grownBy_trans (grownBy_of_below HB0.out _) (grownBy_of_below bel.out _))
    have hcl : cb < W0.heap.size := by have := HZ0.out; omega
    clear hne HNE
    go_wp2_with fail
    refine (next_d _ _ _ _ _ _ _ (pre.length : Int) _ HCW.out (by omega) (by omega)).mono ?_
    rintro e w4 ⟨v, p4, hv, rfl, c4, g4⟩
    have hvl : v < pre.length := by omega
    have own4 := own_draw own g4 hcl
    obtain ⟨j, hj, hjn, hje⟩ := HP.out _ (List.getElem_mem hvl)
    have q4 : w4.cell? ⟨ob, v, none⟩ = some (.int .i64 (j : Int)) := by
     rw [own4.cellAt v (by omega), List.getElem?_map, List.getElem?_eq_getElem hvl, ← hj]
     rfl
    have HC4 := hQ c4
    have HG4 := hQ (grownBy_trans HGW.out g4)
    have HJE := hQ hje
    have hv0 : (0 : Int) ≤ (v : Int) := by omega
    have hvi : (v : Int) < (pre.length : Int) := by omega
    clear hv c4 g4 own own4 hje hj
    go_wp2
    go_ret
    exact ⟨j, p4, hjn, HJE.out, rfl, HC4.out, HG4.out⟩
def BodyD (B cb : Nat) (A : Option Addr) (n c : Nat) (l : List Nat) (nf : Nat) (prm : Int) (sl : List (Int × Int)) (w : World) (e : Ending) (w' : World) : Prop :=
 ∃ (r : Value) (xs : List Ins) (p' : Nat), e = .returned r ∧ xs.length ≤ 5 ∧ (∀ x ∈ xs, Vi0 nf prm sl x) ∧ w'.ownsRow w.heap.size 50 5 r xs.length (inV xs) ∧ CodesAt w' B cb A n c l p' ∧ w.grownBy w' (some cb)
theorem body_one {B cb : Nat} {A : Option Addr} {n c : Nat} {l : List Nat} {nf : Nat} {prm : Int} {sl : List (Int × Int)} {w W : World} {p' : Nat} {op a b d im : Int} (hx : Vi0 nf prm sl ⟨op, a, b, d, im⟩) (hc : CodesAt W B cb A n c l p') (hg : w.grownBy W (some cb)) :
 BodyD B cb A n c l nf prm sl w (.returned (.slice (some ⟨W.heap.size, 0, none⟩) 1 1)) (W.alloc (.cells #[.int .i64 op, .int .i64 a, .int .i64 b, .int .i64 d, .int .u64 im] 50)) :=
 ⟨_, [⟨op, a, b, d, im⟩], p', rfl, by simp, fun x h => by simp at h; subst h; exact hx, World.ownsRow_lit (base := w.heap.size) (e := 50) (size := 5) W #[.int .i64 op, .int .i64 a, .int .i64 b, .int .i64 d, .int .u64 im] 1 hg.size (by unfold maxLen; omega) rfl, hc.alloc _, grownBy_al hg _⟩
theorem own_draw2 {w w' : World} {b0 g n : Nat} {e : TypeId} {size : Nat} {v : Value} {xs : List Value} (h : w.ownsRow b0 e size v n xs) (hg : w.grownBy w' (some g)) (hlt : g < b0) : w'.ownsRow b0 e size v n xs :=
 h.kept hg (by
  rcases hq : v.ownBlock with _ | k
  · exact .inl rfl
  · exact .inr (fun e => by injection e with e; have := (h.lt k hq).1; omega))
theorem own_int_at {w : World} {base nb m cn : Nat} {L : List Int} (h : w.ownsRow base 3 1 (.slice (some ⟨nb, 0, none⟩) m cn) m (L.map (Value.int .i64))) {i : Nat} (hi : i < m) : w.cell? ⟨nb, i, none⟩ = some (.int .i64 (L.getD i 0)) := by
 refine (h.cellAt i (by omega)).trans ?_
 have hl : L.length = m := by have := h.1; simpa using this
 rw [List.getElem?_map, List.getD_eq_getElem?_getD, List.getElem?_eq_getElem (by omega)]
 rfl
theorem three_ex (k : Nat) (hk : k < 3) : ∃ s : Int, (#[Value.int .i64 13, Value.int .i64 12, Value.int .i64 1] : Array Value)[k]? = some (.int .i64 s) ∧ (s = 13 ∨ s = 12 ∨ s = 1) := by
 have h : k = 0 ∨ k = 1 ∨ k = 2 := by omega
 rcases h with rfl | rfl | rfl <;> exact ⟨_, rfl, by omega⟩
theorem body_d (B cb : Nat) (A : Option Addr) (n c : Nat) (l : List Nat) (p : Nat) (prm : Int) (As : Option Addr) (ns cs : Nat) (Ai : Option Addr) (ni ci : Nat) (sl : List (Int × Int)) (i : Nat) (Ap : Option Addr) (np cp : Nat) (ps : List Int) (w : World) (b0 : Nat) (hb0 : cb < b0) (h : CodesAt w B cb A n c l p) (hs : w.ownsRow b0 134 2 (.slice As ns cs) ns (slV sl)) (hns : ns ≤ 100) (hp : w.ownsRow b0 3 1 (.slice Ap np cp) np (ps.map (Value.int .i64))) (hnp : np ≤ 100) (hin : i < np) (hps : ∀ k, k < np → 0 ≤ ps.getD k 0 ∧ ps.getD k 0 ≤ 3) (hprm : 0 ≤ prm ∧ prm ≤ 3) :
 Calls Tryz.prog 58 #[.pointer (some ⟨cb, 0, none⟩), .agg #[.int .i64 prm, .slice As ns cs, .slice Ai ni ci], .int .i64 (i : Int), .slice Ap np cp] w (BodyD B cb A n c l np prm sl w) := by
 obtain ⟨i0, hi0, hz0, hz1, hz2⟩ := info_parts info_ins
 have hlt := h.1.lt
 have hB := h.2.2.2.1
 have hsl : sl.length = ns := by have := hs.1; rw [slV_len] at this; omega
 have HSL := hQ hsl
 obtain ⟨W0, hW0⟩ : ∃ W0, W0 = w.alloc (.cells #[.int .i64 prm, .slice As ns cs, .slice Ai ni ci] 97) := ⟨_, rfl⟩
 have HB0 : Hid (Below w.heap.size w W0) := hQ (by rw [hW0]; exact bR.alloc nL _)
 have HK0 : Hid (Blk W0 w.heap.size 97 #[.int .i64 prm, .slice As ns cs, .slice Ai ni ci]) := hQ (by rw [hW0]; exact Blk.new w _ _)
 have HC0 : Hid (CodesAt W0 B cb A n c l p) := hQ (by rw [hW0]; exact h.alloc _)
 have HG0 : Hid (w.grownBy W0 (some cb)) := hQ (grownBy_of_below HB0.out _)
 have HSO : Hid (∀ W, w.grownBy W (some cb) → W.ownsRow b0 134 2 (.slice As ns cs) ns (slV sl)) := hQ (fun W hg => own_draw2 hs hg hb0)
 have HPO : Hid (∀ W, w.grownBy W (some cb) → W.ownsRow b0 3 1 (.slice Ap np cp) np (ps.map (Value.int .i64))) := hQ (fun W hg => own_draw2 hp hg hb0)
 have HW0 := hQ hW0
 have HPS := hQ hps
 obtain ⟨pb, cpp, hpf, -, hpb⟩ := hp.form (by omega)
 obtain ⟨rfl, rfl⟩ : Ap = some ⟨pb, 0, none⟩ ∧ cp = cpp := by injection hpf; exact ⟨by assumption, by assumption⟩
 obtain ⟨r0, r1⟩ := hprm
 have hnsi : (ns : Int) ≤ 100 := by omega
 have hnpi : (np : Int) ≤ 100 := by omega
 have hii : (i : Int) < (np : Int) := by omega
 have hi00 : (0 : Int) ≤ (i : Int) := by omega
 have nbc : w.heap.size ≠ cb := by omega
 clear h hs hW0 hsl hps hp hpf
 go_enter Tryz.func58, Tryz.ntmps58
 go_wp2_with fail
 rw [← HW0.out]
 refine (next_d _ _ _ _ _ _ _ 4 _ HC0.out (by omega) (by omega)).mono ?_
 rintro e w1 ⟨v1, p1, hv1, rfl, c1, g1⟩
 have HC1 := hQ c1
 have HG1 := hQ (grownBy_trans HG0.out g1)
 have HK1 : Hid (Blk w1 w.heap.size 97 #[.int .i64 prm, .slice As ns cs, .slice Ai ni ci]) := hQ (HK0.out.grown g1 (by intro e; injection e; omega))
 have hr0 : (0 : Int) ≤ (v1 : Int) := by omega
 have hr1 : (v1 : Int) < 4 := by omega
 clear c1 g1 hv1 HC0 HG0 HK0 HB0
 obtain ⟨d0, d1, d2, -, -, -, bz⟩ := HK1.out.c3
 go_wp2_with fail
 refine (next_d _ _ _ _ _ _ _ 20 _ HC1.out (by omega) (by omega)).mono ?_
 rintro e w2 ⟨k, p2, hk, rfl, c2, g2⟩
 have HC2 := hQ c2
 have HG2 := hQ (grownBy_trans HG1.out g2)
 have HK2 : Hid (Blk w2 w.heap.size 97 #[.int .i64 prm, .slice As ns cs, .slice Ai ni ci]) := hQ (HK1.out.grown g2 (by intro e; injection e; omega))
 have hk0 : (0 : Int) ≤ (k : Int) := by omega
 have hk20 : (k : Int) < 20 := by omega
 clear c2 g2 hk HC1 HG1 HK1 d0 d1 d2 bz
 obtain ⟨d0, d1, d2, -, -, -, bz⟩ := HK2.out.c3
 have hcase : ((0 : Int) < (ns : Int) ∧ (k : Int) < 3) ∨ ((0 : Int) < (ns : Int) ∧ (3 : Int) ≤ (k : Int) ∧ (k : Int) < 6) ∨ ((0 : Int) < (ns : Int) ∧ (6 : Int) ≤ (k : Int) ∧ (k : Int) < 9) ∨ ((9 : Int) ≤ (k : Int) ∧ (k : Int) < 11) ∨ (ns = 0 ∧ (k : Int) < 9) ∨ ((11 : Int) ≤ (k : Int) ∧ (k : Int) < 13) ∨ ((13 : Int) ≤ (k : Int) ∧ (k : Int) < 15) ∨ k = 15 ∨ (k = 16 ∧ (0 : Int) < prm) ∨ (k = 16 ∧ prm = 0) ∨ ((17 : Int) ≤ (k : Int) ∧ (i : Int) + 1 < (np : Int)) ∨ ((17 : Int) ≤ (k : Int) ∧ ¬ (i : Int) + 1 < (np : Int)) := by omega
 rcases hcase with ⟨q1, q2⟩ | ⟨q1, q2, q3⟩ | ⟨q1, q2, q3⟩ | ⟨q1, q2⟩ | ⟨q1, q2⟩ | ⟨q1, q2⟩ | ⟨q1, q2⟩ | rfl | ⟨rfl, q1⟩ | ⟨rfl, q1⟩ | ⟨q1, q2⟩ | ⟨q1, q2⟩
 ·
   go_wp2_with fail
   refine (next_d _ _ _ _ _ _ _ (ns : Int) _ HC2.out (by omega) (by omega)).mono ?_
   rintro e w3 ⟨a, p3, ha, rfl, c3, g3⟩
   go_wp2
   go_ret
   exact body_one (Vi0.store _ _ (by omega) (by have := HSL.out; omega) (by omega) (by omega)) c3 (grownBy_trans HG2.out g3)
 ·
   go_wp2_with fail
   refine (next_d _ _ _ _ _ _ _ (ns : Int) _ HC2.out (by omega) (by omega)).mono ?_
   rintro e w3 ⟨a, p3, ha, rfl, c3, g3⟩
   go_wp2
   go_ret
   exact body_one (Vi0.load _ _ (by omega) (by omega) (by omega) (by have := HSL.out; omega)) c3 (grownBy_trans HG2.out g3)
 ·
   go_wp2_with fail
   refine (next_d _ _ _ _ _ _ _ (ns : Int) _ HC2.out (by omega) (by omega)).mono ?_
   rintro e w3 ⟨a, p3, ha, rfl, c3, g3⟩
   have HC3 := hQ c3
   have HG3 := hQ (grownBy_trans HG2.out g3)
   have HK3 : Hid (Blk w3 w.heap.size 97 #[.int .i64 prm, .slice As ns cs, .slice Ai ni ci]) := hQ (HK2.out.grown g3 (by intro e; injection e; omega))
   have han : a < ns := by omega
   clear c3 g3 ha HC2 HG2 HK2 d0 d1 d2 bz
   obtain ⟨d0, d1, d2, -, -, -, bz⟩ := HK3.out.c3
   have HS3 : Hid (Sz w3 As ns sl) := hQ (Reads.of_own (HSO.out w3 HG3.out))
   go_wp2_with fail
   refine (like_d _ _ _ _ _ _ _ prm As ns cs Ai ni ci sl a _ HC3.out HS3.out hns han).mono ?_
   rintro e w4 ⟨j, p4, hj, hje, rfl, c4, g4⟩
   go_wp2
   go_ret
   exact body_one (Vi0.move _ _ (by omega) (by have := HSL.out; omega) (by omega) (by have := HSL.out; omega) (by simpa using hje)) c4 (grownBy_trans HG3.out g4)
 ·
   go_wp2_with fail
   refine (word_d _ _ _ _ _ _ _ _ HC2.out).mono ?_
   rintro e w3 ⟨im, p3, him, rfl, c3, g3⟩
   go_wp2
   go_ret
   exact body_one (Vi0.const _ _ (by omega) (by omega) (by omega) (by omega)) c3 (grownBy_trans HG2.out g3)
 ·
   subst q1
   have q3 : (k : Int) < 11 := by omega
   by_cases k3 : (k : Int) < 3
   all_goals
    by_cases k6 : (k : Int) < 6
   all_goals
    first
    | omega
    | (go_wp2_with fail
       refine (word_d _ _ _ _ _ _ _ _ HC2.out).mono ?_
       rintro e w3 ⟨im, p3, him, rfl, c3, g3⟩
       go_wp2
       go_ret
       exact body_one (Vi0.const _ _ (by omega) (by omega) (by omega) (by omega)) c3 (grownBy_trans HG2.out g3))
 ·
   go_wp2_with fail
   refine (next_d _ _ _ _ _ _ _ 10 _ HC2.out (by omega) (by omega)).mono ?_
   rintro e w3 ⟨a, p3, ha, rfl, c3, g3⟩
   have a0 : (0 : Int) ≤ (a : Int) := by omega
   have a1 : (a : Int) < 10 := by omega
   have HC3 := hQ c3
   have HG3 := hQ (grownBy_trans HG2.out g3)
   clear c3 g3 ha
   go_wp2_with fail
   refine (next_d _ _ _ _ _ _ _ 4 _ HC3.out (by omega) (by omega)).mono ?_
   rintro e w4 ⟨b, p4, hb, rfl, c4, g4⟩
   have b0' : (0 : Int) ≤ (b : Int) := by omega
   have b1' : (b : Int) < 4 := by omega
   have HC4 := hQ c4
   have HG4 := hQ (grownBy_trans HG3.out g4)
   clear c4 g4 hb
   go_wp2_with fail
   refine (next_d _ _ _ _ _ _ _ 8 _ HC4.out (by omega) (by omega)).mono ?_
   rintro e w5 ⟨d, p5, hd, rfl, c5, g5⟩
   go_wp2
   go_ret
   exact body_one (Vi0.arith _ _ _ _ (by omega) (by omega) (by omega) (by omega) (by omega) (by omega) (by omega) (by omega)) c5 (grownBy_trans HG4.out g5)
 ·
   go_wp2
   go_ret
   exact body_one (Vi0.out _ (by omega) (by omega)) HC2.out HG2.out
 ·
   go_wp2_with fail
   refine (next_d _ _ _ _ _ _ _ 3 _ (HC2.out.alloc _) (by omega) (by omega)).mono ?_
   rintro e w3 ⟨a, p3, ha, rfl, c3, g3⟩
   obtain ⟨s, he, hs3⟩ := three_ex a (by omega)
   have hq := (Blk.cell ((Blk.new w2 3 #[Value.int .i64 13, Value.int .i64 12, Value.int .i64 1]).grown g3 (by intro e; injection e; omega)) a).trans he
   have HS3 := hQ hs3
   have HC3 := hQ c3
   have HG3 := hQ (grownBy_trans (grownBy_al HG2.out _) g3)
   have a0 : (0 : Int) ≤ (a : Int) := by omega
   have a1 : (a : Int) < 3 := by omega
   clear he hs3 c3 g3 ha
   go_wp2
   go_ret
   rcases HS3.out with rfl | rfl | rfl
   · exact body_one (Vi0.inp _ (by omega) (by omega)) HC3.out HG3.out
   · exact body_one (Vi0.high _ _ (by omega) (by omega) (by omega) (by omega)) HC3.out HG3.out
   · exact body_one (Vi0.copy _ _ (by omega) (by omega) (by omega) (by omega)) HC3.out HG3.out
 ·
   go_wp2_with fail
   refine (next_d _ _ _ _ _ _ _ prm _ HC2.out (by omega) (by omega)).mono ?_
   rintro e w3 ⟨a, p3, ha, rfl, c3, g3⟩
   go_wp2
   go_ret
   exact body_one (Vi0.param _ _ (by omega) (by omega) (by omega) (by omega)) c3 (grownBy_trans HG2.out g3)
 ·
   subst q1
   go_wp2
   go_ret
   exact body_one (Vi0.out _ (by omega) (by omega)) HC2.out HG2.out
 ·
   have q15 : ¬ (k : Int) < 15 := by omega
   go_wp2_with fail
   refine (next_d _ _ _ _ _ _ _ ((np : Int) - (i : Int) - 1) _ HC2.out (by omega) (by omega)).mono ?_
   rintro e w3 ⟨a, p3, ha, rfl, c3, g3⟩
   have hj0 : (0 : Int) ≤ (i : Int) + 1 + (a : Int) := by omega
   have hji : (i : Int) + 1 + (a : Int) < (np : Int) := by omega
   have hjn : i + 1 + a < np := by omega
   have htn : ((i : Int) + 1 + (a : Int)).toNat = i + 1 + a := by omega
   have HC3 := hQ c3
   have HG3 := hQ (grownBy_trans HG2.out g3)
   have hpsj := HPS.out (i + 1 + a) hjn
   have HTN := hQ htn
   obtain ⟨pj, hpj⟩ : ∃ pj, pj = ps.getD (i + 1 + a) 0 := ⟨_, rfl⟩
   rw [← hpj] at hpsj
   have HPJ := hQ hpj
   obtain ⟨pj0, pj3⟩ := hpsj
   clear c3 g3 ha htn hpj HC2 HG2 HK2 d0 d1 d2 bz
   go_wp2
   go_loopw [14, 15] (fun o x wr => ∃ (t p4 : Nat) (pre : List Ins), x = .int .i64 t ∧ (t : Int) ≤ pj ∧ pre.length ≤ t ∧ Hid (∀ x ∈ pre, Vi0 np prm sl x) ∧ wr.ownsRow w.heap.size 50 5 o pre.length (inV pre) ∧ Hid (CodesAt wr B cb A n c l p4) ∧ Hid (w.grownBy wr (some cb))) (fun _ x _ => (pj - intOf x).toNat)
   case atStart => exact ⟨0, p3, [], rfl, by omega, by simp, hQ (fun x hx => by simp at hx), World.ownsRow_nil _ _ _ _, HC3, HG3⟩
   case round =>
    obtain ⟨t, p4, pre, rfl, htp, hpl, HP, own, HCW, HG⟩ := hrel
    have ht0 : (0 : Int) ≤ (t : Int) := by omega
    have hcell := own_int_at (HPO.out wr HG.out) hjn
    rw [← HPJ.out] at hcell
    have hsz : w.heap.size ≤ wr.heap.size := HG.out.size
    clear HC3 HG3
    by_cases hlt2 : (t : Int) < pj
    · go_wp2_with fail
      refine (next_d _ _ _ _ _ _ _ 8 _ HCW.out (by omega) (by omega)).mono ?_
      rintro e w5 ⟨v, p5, hv, rfl, c5, g5⟩
      have HC5 := hQ c5
      have HG5 := hQ (grownBy_trans HG.out g5)
      have own5 := own_draw own g5 hlt
      clear c5 g5 hv own HCW HG hcell
      by_cases hv7 : (v : Int) < 7
      · go_wp2_with fail
        refine (next_d _ _ _ _ _ _ _ 4 _ HC5.out (by omega) (by omega)).mono ?_
        rintro e w6 ⟨u, p6, hu, rfl, c6, g6⟩
        have HC6 := hQ c6
        have HG6 := hQ (grownBy_trans HG5.out g6)
        have own6 := own_draw own5 g6 hlt
        have hsz6 : w.heap.size ≤ w6.heap.size := HG6.out.size
        have HVI : Hid (Vi0 np prm sl ⟨18, (t : Int), (u : Int), 0, 0⟩) := hQ (Vi0.arg _ _ (by omega) (by omega) (by omega) (by omega))
        have hu0 : (0 : Int) ≤ (u : Int) := by omega
        have hu1 : (u : Int) < 4 := by omega
        clear c6 g6 hu own5 HC5 HG5
        go_wp2_with (at_builtin; refine wpList_append_any _ rfl (.tmp 150) (.tmp 155) _ rfl w.heap.size 50 i0 _ 5 40 Tryz.underlying51 hi0 hz0 hz1 hz2 rfl (by omega) _ (pre).length (inV pre) rfl (own6.alloc _) (w6.heap.size + 1) (some ⟨w6.heap.size, 0, none⟩) 1 1 [Value.int .i64 18, Value.int .i64 (t : Int), Value.int .i64 (u : Int), Value.int .i64 0, Value.int .u64 0] rfl (reads_new rfl) (by simp [Value.oneCell']) (by unfold maxLen; omega) (by omega) (by simp; omega) ?_; intro v7 w7 own7 hg7 hat7)
        have HN7 := hQ (own_ne_codes (own6.alloc (.cells #[Value.int .i64 18, Value.int .i64 (t : Int), Value.int .i64 (u : Int), Value.int .i64 0, Value.int .u64 0] 50)) hlt)
        have HLT7 := hQ (fun j (e : _ = some j) => ((own6.alloc (.cells #[Value.int .i64 18, Value.int .i64 (t : Int), Value.int .i64 (u : Int), Value.int .i64 0, Value.int .u64 0] 50)).lt j e).1)
        go_roundw
        case rel =>
         refine ⟨t + 1, p6, pre ++ [⟨18, (t : Int), (u : Int), 0, 0⟩], by go_num, by omega, by simp; omega, hQ (fun x hx => ?_), ?_, hQ ((HC6.out.alloc _).grown' hg7 HN7.out (fun j e => by have := HLT7.out j e; omega)), hQ (grownBy_step (grownBy_al HG6.out _) hg7 (fun j e => .inl (HLT7.out j e)))⟩
         · rcases List.mem_append.1 hx with h1 | h1
           · exact HP.out x h1
           · simp at h1; subst h1; exact HVI.out
         · rw [inV_app, List.length_append]; exact own7
        case measure => simp [intOf]; omega
      · go_wp2
        go_roundw
        case rel => exact ⟨t + 1, p5, pre, by go_num, by omega, by omega, HP, own5, HC5, HG5⟩
        case measure => simp [intOf]; omega
    · have HVI : Hid (Vi0 np prm sl ⟨22, (i : Int) + 1 + (a : Int), 0, 0, 0⟩) := hQ (Vi0.call _ (by omega) (by omega))
      have hpl3 : pre.length ≤ 3 := by omega
      go_wp2_with (at_builtin; refine wpList_append_any _ rfl (.tmp 157) (.tmp 160) _ rfl w.heap.size 50 i0 _ 5 40 Tryz.underlying51 hi0 hz0 hz1 hz2 rfl (by omega) _ (pre).length (inV pre) rfl (own.alloc _) (wr.heap.size + 1) (some ⟨wr.heap.size, 0, none⟩) 1 1 [Value.int .i64 22, Value.int .i64 ((i : Int) + 1 + (a : Int)), Value.int .i64 0, Value.int .i64 0, Value.int .u64 0] rfl (reads_new rfl) (by simp [Value.oneCell']) (by unfold maxLen; omega) (by omega) (by simp; omega) ?_; intro v7 w7 own7 hg7 hat7)
      have HN7 := hQ (own_ne_codes (own.alloc (.cells #[Value.int .i64 22, Value.int .i64 ((i : Int) + 1 + (a : Int)), Value.int .i64 0, Value.int .i64 0, Value.int .u64 0] 50)) hlt)
      have HLT7 := hQ (fun j (e : _ = some j) => ((own.alloc (.cells #[Value.int .i64 22, Value.int .i64 ((i : Int) + 1 + (a : Int)), Value.int .i64 0, Value.int .i64 0, Value.int .u64 0] 50)).lt j e).1)
      go_ret
      refine ⟨v7, pre ++ [⟨22, (i : Int) + 1 + (a : Int), 0, 0, 0⟩], p4, rfl, by simp; omega, fun x hx => ?_, ?_, (HCW.out.alloc _).grown' hg7 HN7.out (fun j e => by have := HLT7.out j e; omega), grownBy_step (grownBy_al HG.out _) hg7 (fun j e => .inl (HLT7.out j e))⟩
      · rcases List.mem_append.1 hx with h1 | h1
        · exact HP.out x h1
        · simp at h1; subst h1; exact HVI.out
      · rw [inV_app, List.length_append]; exact own7
 ·
   have q3 : ((i : Int) + 1 < (np : Int)) = False := by simpa using q2
   go_wp2
   go_ret
   exact body_one (Vi0.out _ (by omega) (by omega)) HC2.out HG2.out
end Go.Proofs.YtcnndoefgjbmiaaGreat.pm
