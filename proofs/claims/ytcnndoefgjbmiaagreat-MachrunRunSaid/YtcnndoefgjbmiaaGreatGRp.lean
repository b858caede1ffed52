/- The contract of Push of the reference. -/
import Derived.Test.YtcnndoefgjbmiaaGreatGPl
set_option linter.unusedVariables false
set_option maxRecDepth 10000
set_option maxHeartbeats 8000000
namespace Go.Proofs.YtcnndoefgjbmiaaGreat
open Go.RowKit
theorem refpush_any (A U : Option Addr) (n c d sp : Nat) (lb : List Nat) (lu : List Bool) (k : Int) (h0 : -9223372036854775808 ≤ k) (h1 : k ≤ 9223372036854775807)
 (w : World) (hb : Bs w w.heap.size A n lb) (hu : Sl Value.bool w w.heap.size U n lu) (hn : n ≤ 1048576) (hsp : sp ≤ n) (hcap : n ≤ c) (hd : n ≤ d) :
 Calls Tryz.prog 53 #[.agg #[.slice A n c, .slice U n d, .int .i64 sp], .int .i64 k] w (StkR A U w n (pushV lb lu sp k)) := by
 have hcase : k < 0 ∨ (0 ≤ k ∧ (sp : Int) < k) ∨ (0 ≤ k ∧ k ≤ sp) := by omega
 rcases hcase with h | ⟨h, h'⟩ | ⟨h, h'⟩
 · have hr : pushV lb lu sp k = (4, lb, lu, sp) := by unfold pushV; rw [if_pos h]
   rw [hr]
   have HB := hQ hb
   have HU := hQ hu
   clear hr hb hu
   go_enter Tryz.func53, Tryz.ntmps53
   go_wp2
   go_returns
   have bel : Below w.heap.size w _ := (((Below.refl w.heap.size w).alloc nL (.cells #[.slice A n c, .slice U n d, .int .i64 sp] 69)).alloc (by simp) (.cells #[.slice A n c, .slice U n d, .int .i64 sp] 69))
   exact ⟨_, _, _, _, rfl, (HB.out.below bel).more bel.size, (HU.out.below bel).more bel.size, hcap, hd, bel, .inl rfl, .inl rfl⟩
 · have hr : pushV lb lu sp k = (9, lb, lu, sp) := by unfold pushV; rw [if_neg (by omega), if_pos h']
   rw [hr]
   have HB := hQ hb
   have HU := hQ hu
   clear hr hb hu
   go_enter Tryz.func53, Tryz.ntmps53
   go_wp2
   go_returns
   have bel : Below w.heap.size w _ := (((Below.refl w.heap.size w).alloc nL (.cells #[.slice A n c, .slice U n d, .int .i64 sp] 69)).alloc (by simp) (.cells #[.slice A n c, .slice U n d, .int .i64 sp] 69))
   exact ⟨_, _, _, _, rfl, (HB.out.below bel).more bel.size, (HU.out.below bel).more bel.size, hcap, hd, bel, .inl rfl, .inl rfl⟩
 · obtain ⟨m, rfl⟩ := Int.eq_ofNat_of_zero_le h
   obtain ⟨j, rfl⟩ : ∃ j, sp = j + m := ⟨sp - m, by omega⟩
   have hr : pushV lb lu (j + m) m = (0, lb, splice lu j (List.replicate m false), j) := by
    unfold pushV; rw [if_neg (by omega), if_neg (by omega)]; simp
   rw [hr]
   have HLU := hQ hu.len
   have HBL := hQ hb.2
   have HC := hQ (fun (W : World) (h : Below w.heap.size w W) => copy_any A U n c d (j + m) lb lu W ((hb.below h).more h.size) ((hu.below h).more h.size) hn hcap hd)
   clear hr hb hu
   go_enter Tryz.func53, Tryz.ntmps53
   go_wp2_with fail
   refine Calls.mono (HC.out _ (by go_grown)) ?_
   rintro e w1 ⟨V1, k1, V2, k2, rfl, o1, o2, hk1, hk2, bel⟩
   obtain ⟨hc1, hf1⟩ := bcell bel
   have hz1 := bel.size
   simp at hz1
   have z1 : w.heap.size < w1.heap.size := by omega
   have z1' : w.heap.size + 1 < w1.heap.size := by omega
   have s0 : w1.cell? ⟨w.heap.size, 0, none⟩ = some (.slice A n c) := by rw [hc1 _ _ (by simp <;> omega)]; go_simp
   have s1 : w1.cell? ⟨w.heap.size, 1, none⟩ = some (.slice U n d) := by rw [hc1 _ _ (by simp <;> omega)]; go_simp
   have s2 : w1.cell? ⟨w.heap.size, 2, none⟩ = some (.int .i64 (j + m : Nat)) := by rw [hc1 _ _ (by simp <;> omega)]; go_simp
   have q0 : w1.cell? ⟨w.heap.size + 1, 0, none⟩ = some (.slice none 0 0) := by rw [hc1 _ _ (by simp <;> omega)]; go_simp
   have q1 : w1.cell? ⟨w.heap.size + 1, 1, none⟩ = some (.slice none 0 0) := by rw [hc1 _ _ (by simp <;> omega)]; go_simp
   have q2 : w1.cell? ⟨w.heap.size + 1, 2, none⟩ = some (.int .i64 0) := by rw [hc1 _ _ (by simp <;> omega)]; go_simp
   have f0 : w1.frozen? ⟨w.heap.size + 1, 0, none⟩ = false := by rw [hf1 _ _ (by simp <;> omega)]; go_simp
   have f1 : w1.frozen? ⟨w.heap.size + 1, 1, none⟩ = false := by rw [hf1 _ _ (by simp <;> omega)]; go_simp
   have f2 : w1.frozen? ⟨w.heap.size + 1, 2, none⟩ = false := by rw [hf1 _ _ (by simp <;> omega)]; go_simp
   have HBel := hQ ((((Below.refl w.heap.size w).alloc nL _).alloc (by simp) _).trans (bel.mono (by simp; omega)))
   have O1 := hQ (own_base (base' := w.heap.size + 2) o1 (by simp))
   have O2 := hQ (own_base (base' := w.heap.size + 2) o2 (by simp))
   clear hc1 hf1 bel o1 o2 HC hz1
   go_wp2_with fail
   go_loopw [7] (fun i wr => ∃ t : Nat, t ≤ m ∧ i = .int .i64 ((j : Int) + t) ∧ Hid (Below w.heap.size w wr) ∧ Hid (wr.ownsRow (w.heap.size + 2) 5 1 (.slice V1 n k1) n (nb lb)) ∧ Hid (wr.ownsRow (w.heap.size + 2) 4 1 (.slice V2 n k2) n ((splice lu j (List.replicate t false)).map Value.bool)) ∧
    w.heap.size + 1 < wr.heap.size ∧ Hid (Blk wr w1.heap.size 69 #[.slice V1 n k1, .slice V2 n k2, .int .i64 j]) ∧ (∀ g, g < w.heap.size + 2 → wr.heap[g]? = w1.heap[g]?)) (fun i _ => j + m - (intOf i).toNat)
   case atStart => exact ⟨0, by omega, by simp, hQ (HBel.out.alloc (by omega) _), hQ (O1.out.alloc _), hQ (by rw [List.replicate_zero, splice_nil]; exact O2.out.alloc _), by simp; omega, hQ (Blk.new _ _ _), fun g hg => Below.heap_alloc _ _ _ (by omega)⟩
   case round =>
    obtain ⟨t, ht, rfl, HBr, R1, R2, zr, BL, hbl⟩ := hrel
    have u0 : wr.cell? ⟨w.heap.size, 0, none⟩ = some (.slice A n c) := by rw [World.cell?_of_block (hbl w.heap.size (by omega))]; exact s0
    have u1 : wr.cell? ⟨w.heap.size, 1, none⟩ = some (.slice U n d) := by rw [World.cell?_of_block (hbl w.heap.size (by omega))]; exact s1
    have u2 : wr.cell? ⟨w.heap.size, 2, none⟩ = some (.int .i64 ((j : Int) + m)) := by rw [World.cell?_of_block (hbl w.heap.size (by omega))]; exact s2
    have x0 : wr.cell? ⟨w1.heap.size, 0, none⟩ = some (.slice V1 n k1) := by rw [BL.out.cell]; rfl
    have x1 : wr.cell? ⟨w1.heap.size, 1, none⟩ = some (.slice V2 n k2) := by rw [BL.out.cell]; rfl
    have x2 : wr.cell? ⟨w1.heap.size, 2, none⟩ = some (.int .i64 j) := by rw [BL.out.cell]; rfl
    have zx := BL.out.lt
    have HBLK := hQ hbl
    by_cases hlt : t < m
    · obtain ⟨g, cap, hv, hg0, hg1⟩ := R2.out.form (by omega)
      injection hv with hv _ hv2
      subst hv hv2
      have hl2 : ((splice lu j (List.replicate t false)).map Value.bool).length = n := by have := R2.out.1; omega
      have hcell : (wr.cell? ⟨g, j + t, none⟩).isSome = true := by rw [R2.out.cellAt (j + t) (by omega), List.getElem?_eq_getElem (by omega)]; rfl
      have hfr : wr.frozen? ⟨g, j + t, none⟩ = false := R2.out.frozenAt _
      obtain ⟨c5, hcell⟩ := Option.isSome_iff_exists.1 hcell
      obtain ⟨p2, p3⟩ := R2.out.stored (j + t) (.bool false)
      have p1 := R1.out.kept p3 (own_two R1.out R2.out (by decide))
      have hb6 := below_own (B := w.heap.size + 2) R2.out p3 nL (by omega)
      have hne := own_blk_ne R2.out BL.out (by decide)
      have pb := BL.out.grown p3 (fun e => hne e.symm)
      have hki : (j : Int) + t < (j : Int) + m := by omega
      have hk0 : (0 : Int) ≤ (j : Int) + t := by omega
      have hk9 : (j : Int) + t < n := by omega
      have Q1 := hQ p1
      have Q2 := hQ p2
      have QB := hQ pb
      have HB6 := hQ hb6
      have e5 : (⟨g, 0, none⟩ : Addr).add (j + t) = ⟨g, j + t, none⟩ := by unfold Addr.add; split <;> simp_all
      clear hbl p1 p2 p3 hb6 hl2 pb hne
      go_wp2
      go_roundw
      case rel =>
       refine ⟨t + 1, by omega, by go_num, hQ (HBr.out.trans (HB6.out.mono (by omega))), Q1, hQ ?_, by simpa using zr, QB, fun g' hg' => (HB6.out.block g' hg').trans (HBLK.out g' hg')⟩
       have := Q2.out
       rw [show Value.bool false = (fun b => Value.bool b) false from rfl, ← List.map_set, splice_rep _ _ _ _ (by rw [HLU.out]; omega)] at this
       exact this
      case measure => simp [intOf]; omega
    · have hjm : t = m := by omega
      subst hjm
      have v0 : wr.cell? ⟨w.heap.size + 1, 0, none⟩ = some (.slice none 0 0) := by rw [World.cell?_of_block (hbl (w.heap.size + 1) (by omega))]; exact q0
      have v1 : wr.cell? ⟨w.heap.size + 1, 1, none⟩ = some (.slice none 0 0) := by rw [World.cell?_of_block (hbl (w.heap.size + 1) (by omega))]; exact q1
      have v2 : wr.cell? ⟨w.heap.size + 1, 2, none⟩ = some (.int .i64 0) := by rw [World.cell?_of_block (hbl (w.heap.size + 1) (by omega))]; exact q2
      have y0 : wr.frozen? ⟨w.heap.size + 1, 0, none⟩ = false := by rw [World.frozen?_of_block (hbl (w.heap.size + 1) (by omega))]; exact f0
      have y1 : wr.frozen? ⟨w.heap.size + 1, 1, none⟩ = false := by rw [World.frozen?_of_block (hbl (w.heap.size + 1) (by omega))]; exact f1
      have y2 : wr.frozen? ⟨w.heap.size + 1, 2, none⟩ = false := by rw [World.frozen?_of_block (hbl (w.heap.size + 1) (by omega))]; exact f2
      clear hbl HBLK
      go_wp2
      refine bodyPost_ret (v := .tuple #[.agg #[.slice V1 n k1, .slice V2 n k2, .int .i64 j], .int .i64 0]) (by simp [results, Tryz.results53, go_sem, *]) rfl ?_
      refine ⟨_, _, _, _, rfl, Bs.of_own (own_setCell (own_setCell (own_setCell R1.out _ ?_ _) _ ?_ _) _ ?_ _) HBL.out, Sl.of_own (own_setCell (own_setCell (own_setCell R2.out _ ?_ _) _ ?_ _) _ ?_ _), hk1, hk2, ((HBr.out.setCell (by simp) _).setCell (by simp) _).setCell (by simp) _, Frs.own R1.out (by omega), Frs.own R2.out (by omega)⟩
      all_goals (show w.heap.size + 1 < w.heap.size + 2; omega)
def loadV (n sp : Nat) (lb : List Nat) (lu : List Bool) (off size : Int) : (Nat × Nat) × Bool × Int :=
 if okV n sp off size = true then
  if usedV lu (sp + off.toNat) size.toNat = true then ((loV ((lb.drop (sp + off.toNat)).take size.toNat), hiV ((lb.drop (sp + off.toNat)).take size.toNat)), true, 0)
  else ((0, 0), false, 0)
 else ((0, 0), false, 4)
def LoadR (w : World) (r : (Nat × Nat) × Bool × Int) (e : Ending) (w' : World) : Prop :=
 e = .returned (.tuple #[.agg #[.int .u64 r.1.1, .int .u64 r.1.2], .bool r.2.1, .int .i64 r.2.2]) ∧ Below w.heap.size w w'
theorem refload_any (A U : Option Addr) (n c d sp : Nat) (lb : List Nat) (lu : List Bool) (off size : Int) (h0 : -9223372036854775808 ≤ off) (h1 : off ≤ 9223372036854775807) (g0 : -9223372036854775808 ≤ size) (g1 : size ≤ 9223372036854775807)
 (w : World) (hb : Bs w w.heap.size A n lb) (hu : Sl Value.bool w w.heap.size U n lu) (hn : n ≤ 1048576) (hsp : sp ≤ n) (hcap : n ≤ c) (hd : n ≤ d) :
 Calls Tryz.prog 80 #[.agg #[.slice A n c, .slice U n d, .int .i64 sp], .int .i64 off, .int .i64 size] w (LoadR w (loadV n sp lb lu off size)) := by
 have hp := fun W : World => right_any A U n c n d sp off size h0 h1 g0 g1 hn hsp W
 have HI := hQ (okV_iff n sp off size)
 rcases hok : okV n sp off size with _ | _
 · have hr : loadV n sp lb lu off size = ((0, 0), false, 4) := by unfold loadV; rw [hok]; rfl
   rw [hok] at hp
   rw [hr]
   have HP := hQ hp
   clear hp HI hr hok hb hu
   go_enter Tryz.func80, Tryz.ntmps80
   go_wp2_with fail
   refine (HP.out _).mono ?_
   rintro e w1 ⟨rfl, bel1⟩
   obtain ⟨hc1, hf1⟩ := bcell bel1
   have hz1 := bel1.size
   simp at hz1
   have z1 : w.heap.size < w1.heap.size := by omega
   have z1' : w.heap.size + 1 < w1.heap.size := by omega
   have s0 : w1.cell? ⟨w.heap.size, 0, none⟩ = some (.slice A n c) := by rw [hc1 _ _ (by simp <;> omega)]; go_simp
   have s1 : w1.cell? ⟨w.heap.size, 1, none⟩ = some (.slice U n d) := by rw [hc1 _ _ (by simp <;> omega)]; go_simp
   have s2 : w1.cell? ⟨w.heap.size, 2, none⟩ = some (.int .i64 sp) := by rw [hc1 _ _ (by simp <;> omega)]; go_simp
   have q0 : w1.cell? ⟨w.heap.size + 1, 0, none⟩ = some (.int .u64 0) := by rw [hc1 _ _ (by simp <;> omega)]; go_simp
   have q1 : w1.cell? ⟨w.heap.size + 1, 1, none⟩ = some (.int .u64 0) := by rw [hc1 _ _ (by simp <;> omega)]; go_simp
   have f0 : w1.frozen? ⟨w.heap.size + 1, 0, none⟩ = false := by rw [hf1 _ _ (by simp <;> omega)]; go_simp
   have f1 : w1.frozen? ⟨w.heap.size + 1, 1, none⟩ = false := by rw [hf1 _ _ (by simp <;> omega)]; go_simp
   clear hc1 hf1
   have HB1 := hQ (((Below.refl w.heap.size w).alloc nL _).alloc (by simp) _ |>.trans (bel1.mono (by simp; omega)))
   clear hz1 bel1 HP
   go_wp2
   exact bodyPost_ret (v := .tuple #[.agg #[.int .u64 (0 : Nat), .int .u64 (0 : Nat)], .bool false, .int .i64 4]) (by simp [results, Tryz.results80, go_sem, q0, q1]) rfl ⟨rfl, HB1.out.setCell (by simp) _ |>.setCell (by simp) _⟩
 · obtain ⟨hs, ho0, ho1⟩ := HI.out.1 hok
   have hr16 := sizeB_range hs
   obtain ⟨k, rfl⟩ := Int.eq_ofNat_of_zero_le ho0
   obtain ⟨m, rfl⟩ := Int.eq_ofNat_of_zero_le (show 0 ≤ size by omega)
   have hm : 0 < m := by omega
   have hkm : sp + k + m ≤ n := by omega
   rw [hok] at hp
   have HP := hQ hp
   have HU := hQ (fun (W : World) (h : Below w.heap.size w W) => refused_any A U n c d sp k m lu W w.heap.size (hu.below h) h.size hn (by omega))
   have HF := hQ (fun (W : World) (h : Below w.heap.size w W) => reffrombytes_any (A.map (·.add (sp + k))) m (c - (sp + k)) ((lb.drop (sp + k)).take m) W w.heap.size ((hb.part hkm hm).below h) h.size (by unfold maxLen; omega) (by omega))
   have hrV : loadV n sp lb lu k m = if usedV lu (sp + k) m = true then ((loV ((lb.drop (sp + k)).take m), hiV ((lb.drop (sp + k)).take m)), true, 0) else ((0, 0), false, 0) := by
    unfold loadV; rw [if_pos hok]; rfl
   have HR := hQ hrV
   have hA : ∃ a, A = some a := by
    cases A with
    | none => have := hb.none_n; omega
    | some a => exact ⟨a, rfl⟩
   obtain ⟨a, rfl⟩ := hA
   have hkc : sp + k ≠ c := by omega
   clear hp HI hok hs hb hu hrV ho1
   generalize loV ((lb.drop (sp + k)).take m) = lo at *
   generalize hiV ((lb.drop (sp + k)).take m) = hi at *
   go_enter Tryz.func80, Tryz.ntmps80
   go_wp2_with fail
   refine (HP.out _).mono ?_
   rintro e w1 ⟨rfl, bel1⟩
   obtain ⟨hc1, hf1⟩ := bcell bel1
   have hz1 := bel1.size
   simp at hz1
   have z1 : w.heap.size < w1.heap.size := by omega
   have z1' : w.heap.size + 1 < w1.heap.size := by omega
   have s0 : w1.cell? ⟨w.heap.size, 0, none⟩ = some (.slice (some a) n c) := by rw [hc1 _ _ (by simp <;> omega)]; go_simp
   have s1 : w1.cell? ⟨w.heap.size, 1, none⟩ = some (.slice U n d) := by rw [hc1 _ _ (by simp <;> omega)]; go_simp
   have s2 : w1.cell? ⟨w.heap.size, 2, none⟩ = some (.int .i64 sp) := by rw [hc1 _ _ (by simp <;> omega)]; go_simp
   have q0 : w1.cell? ⟨w.heap.size + 1, 0, none⟩ = some (.int .u64 0) := by rw [hc1 _ _ (by simp <;> omega)]; go_simp
   have q1 : w1.cell? ⟨w.heap.size + 1, 1, none⟩ = some (.int .u64 0) := by rw [hc1 _ _ (by simp <;> omega)]; go_simp
   have f0 : w1.frozen? ⟨w.heap.size + 1, 0, none⟩ = false := by rw [hf1 _ _ (by simp <;> omega)]; go_simp
   have f1 : w1.frozen? ⟨w.heap.size + 1, 1, none⟩ = false := by rw [hf1 _ _ (by simp <;> omega)]; go_simp
   clear hc1 hf1
   have HB1 := hQ (((Below.refl w.heap.size w).alloc nL _).alloc (by simp) _ |>.trans (bel1.mono (by simp; omega)))
   clear hz1 bel1 HP
   go_wp2_with fail
   refine (HU.out _ HB1.out).mono ?_
   rintro e w2 ⟨rfl, bel2⟩
   obtain ⟨hc2, hf2⟩ := bcell bel2
   have hz2 := bel2.size
   have z2 : w.heap.size < w2.heap.size := by omega
   have z2' : w.heap.size + 1 < w2.heap.size := by omega
   have HB2 := hQ (HB1.out.trans (bel2.mono (by omega)))
   have s0 : w2.cell? ⟨w.heap.size, 0, none⟩ = some (.slice (some a) n c) := by rw [hc2 _ _ z1]; exact s0
   have s1 : w2.cell? ⟨w.heap.size, 1, none⟩ = some (.slice U n d) := by rw [hc2 _ _ z1]; exact s1
   have s2 : w2.cell? ⟨w.heap.size, 2, none⟩ = some (.int .i64 sp) := by rw [hc2 _ _ z1]; exact s2
   have q0 : w2.cell? ⟨w.heap.size + 1, 0, none⟩ = some (.int .u64 0) := by rw [hc2 _ _ z1']; exact q0
   have q1 : w2.cell? ⟨w.heap.size + 1, 1, none⟩ = some (.int .u64 0) := by rw [hc2 _ _ z1']; exact q1
   have f0 : w2.frozen? ⟨w.heap.size + 1, 0, none⟩ = false := by rw [hf2 _ _ z1']; exact f0
   have f1 : w2.frozen? ⟨w.heap.size + 1, 1, none⟩ = false := by rw [hf2 _ _ z1']; exact f1
   clear hz2 bel2 HU HB1 hc2 hf2
   generalize usedV lu (sp + k) m = b at *
   cases b with
   | false =>
    go_wp2
    refine bodyPost_ret (v := .tuple #[.agg #[.int .u64 (0 : Nat), .int .u64 (0 : Nat)], .bool false, .int .i64 0]) (by simp [results, Tryz.results80, go_sem, q0, q1]) rfl ?_
    rw [HR.out]
    exact ⟨rfl, HB2.out.setCell (by simp) _ |>.setCell (by simp) _⟩
   | true =>
    go_wp2_with fail
    refine (HF.out _ HB2.out).mono ?_
    rintro e w3 ⟨rfl, bel3⟩
    unfold fromV
    obtain ⟨hc3, hf3⟩ := bcell bel3
    have hz3 := bel3.size
    have z3 : w.heap.size < w3.heap.size := by omega
    have z3' : w.heap.size + 1 < w3.heap.size := by omega
    have HB3 := hQ (HB2.out.trans (bel3.mono (by omega)))
    have s0 : w3.cell? ⟨w.heap.size, 0, none⟩ = some (.slice (some a) n c) := by rw [hc3 _ _ z2]; exact s0
    have s1 : w3.cell? ⟨w.heap.size, 1, none⟩ = some (.slice U n d) := by rw [hc3 _ _ z2]; exact s1
    have s2 : w3.cell? ⟨w.heap.size, 2, none⟩ = some (.int .i64 sp) := by rw [hc3 _ _ z2]; exact s2
    have q0 : w3.cell? ⟨w.heap.size + 1, 0, none⟩ = some (.int .u64 0) := by rw [hc3 _ _ z2']; exact q0
    have q1 : w3.cell? ⟨w.heap.size + 1, 1, none⟩ = some (.int .u64 0) := by rw [hc3 _ _ z2']; exact q1
    have f0 : w3.frozen? ⟨w.heap.size + 1, 0, none⟩ = false := by rw [hf3 _ _ z2']; exact f0
    have f1 : w3.frozen? ⟨w.heap.size + 1, 1, none⟩ = false := by rw [hf3 _ _ z2']; exact f1
    clear hz3 bel3 HF HB2 hc3 hf3
    go_wp2
    refine bodyPost_ret (v := .tuple #[.agg #[.int .u64 lo, .int .u64 hi], .bool true, .int .i64 0]) (by simp [results, Tryz.results80, go_sem, q0, q1]) rfl ?_
    rw [HR.out]
    exact ⟨rfl, HB3.out.setCell (by simp) _ |>.setCell (by simp) _⟩
end Go.Proofs.YtcnndoefgjbmiaaGreat
