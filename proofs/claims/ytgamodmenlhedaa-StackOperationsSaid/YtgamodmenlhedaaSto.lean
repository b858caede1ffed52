/- Contracts of Store. -/
import Derived.Test.YtgamodmenlhedaaWr
namespace Go.Proofs.Ytgamodmenlhedaa
open Go.RowKit
set_option linter.unusedVariables false
set_option maxRecDepth 10000

theorem undrew {B : Nat} {w w2 : World} (h : Below B w.drew w2) : Below B w w2 := ⟨h.os, h.tape, h.output, h.size, h.block⟩
def storeV (n sp : Nat) (lb : List Nat) (lu : List Bool) (a b : Nat) (off size : Int) : Int × List Nat × List Bool × Nat :=
  if okV n sp off size = true then (0, splice lb (sp + off.toNat) (bytesV a b size.toNat), splice lu (sp + off.toNat) (List.replicate size.toNat true), sp) else (4, lb, lu, sp)

set_option maxHeartbeats 4000000 in
theorem store_any (A U : Option Addr) (n c d sp : Nat) (lb : List Nat) (lu : List Bool) (off size : Int) (h0 : -9223372036854775808 ≤ off) (h1 : off ≤ 9223372036854775807) (g0 : -9223372036854775808 ≤ size) (g1 : size ≤ 9223372036854775807) (a b : Nat) (ha : a < 18446744073709551616) (hb' : b < 18446744073709551616)
    (w : World) (hb : Bs w w.heap.size A n lb) (hu : Sl Value.bool w w.heap.size U n lu) (hn : n ≤ 1048576) (hsp : sp ≤ n) (hcap : n ≤ c) (hd : n ≤ d) :
    Calls Try.prog 31 #[.agg #[.slice A n c, .slice U n d, .int .i64 sp], .int .i64 off, .int .i64 size, .agg #[.int .u64 a, .int .u64 b]] w (StkR w n (storeV n sp lb lu a b off size)) := by
  have hp := fun W : World => place_any A U n c n d sp off size h0 h1 g0 g1 hn hsp W
  have HI := Lib.hid (okV_iff n sp off size)
  have HA := Lib.hid ha
  have HA' := Lib.hid hb'
  have HBs := Lib.hid hb
  have HSl := Lib.hid hu
  clear ha hb' hb hu
  rcases hok : okV n sp off size with _ | _
  · have hr : storeV n sp lb lu a b off size = (4, lb, lu, sp) := by unfold storeV; rw [hok]; rfl
    rw [hok] at hp
    rw [hr]
    have HP := Lib.hid hp
    clear hp HI hr hok
    go_enter Try.func31, Try.ntmps31
    go_wp2_with fail
    refine (HP.out _).mono ?_
    rintro e w1 ⟨x, rfl, -, bel1⟩
    obtain ⟨hc1, hf1⟩ := bcell bel1
    have hz1 := bel1.size
    simp at hz1
    have z1_0 : w.heap.size < w1.heap.size := (by omega)
    have z1_1 : w.heap.size + 1 < w1.heap.size := (by omega)
    have z1_2 : w.heap.size + 2 < w1.heap.size := (by omega)
    have s0 : w1.cell? ⟨w.heap.size, 0, none⟩ = some (.slice A n c) := (by rw [hc1 _ _ (by simp <;> omega)]; go_simp)
    have s1 : w1.cell? ⟨w.heap.size, 1, none⟩ = some (.slice U n d) := (by rw [hc1 _ _ (by simp <;> omega)]; go_simp)
    have s2 : w1.cell? ⟨w.heap.size, 2, none⟩ = some (.int .i64 sp) := (by rw [hc1 _ _ (by simp <;> omega)]; go_simp)
    have e0 : w1.cell? ⟨w.heap.size + 1, 0, none⟩ = some (.int .u64 a) := (by rw [hc1 _ _ (by simp <;> omega)]; go_simp)
    have e1 : w1.cell? ⟨w.heap.size + 1, 1, none⟩ = some (.int .u64 b) := (by rw [hc1 _ _ (by simp <;> omega)]; go_simp)
    have q0 : w1.cell? ⟨w.heap.size + 2, 0, none⟩ = some (.slice none 0 0) := (by rw [hc1 _ _ (by simp <;> omega)]; go_simp)
    have fq0 : w1.frozen? ⟨w.heap.size + 2, 0, none⟩ = false := (by rw [hf1 _ _ (by simp <;> omega)]; go_simp)
    have q1 : w1.cell? ⟨w.heap.size + 2, 1, none⟩ = some (.slice none 0 0) := (by rw [hc1 _ _ (by simp <;> omega)]; go_simp)
    have fq1 : w1.frozen? ⟨w.heap.size + 2, 1, none⟩ = false := (by rw [hf1 _ _ (by simp <;> omega)]; go_simp)
    have q2 : w1.cell? ⟨w.heap.size + 2, 2, none⟩ = some (.int .i64 0) := (by rw [hc1 _ _ (by simp <;> omega)]; go_simp)
    have fq2 : w1.frozen? ⟨w.heap.size + 2, 2, none⟩ = false := (by rw [hf1 _ _ (by simp <;> omega)]; go_simp)
    have HB1 := Lib.hid ((((Below.refl w.heap.size w).alloc (Nat.le_refl _) _).alloc (by simp) _).alloc (by simp; omega) _ |>.trans (bel1.mono (by simp; omega)))
    clear hc1 hf1 hz1 bel1
    clear HP
    go_wp2
    refine bodyPost_ret (v := .tuple #[.agg #[.slice A n c, .slice U n d, .int .i64 sp], .int .i64 4]) (by simp [results, Try.results31, go_sem, q0, q1, q2]) rfl ?_
    have bel := ((HB1.out.setCell (p := ⟨w.heap.size + 2, 0, none⟩) (by simp) (.slice A n c)).setCell (p := ⟨w.heap.size + 2, 1, none⟩) (by simp) (.slice U n d)).setCell (p := ⟨w.heap.size + 2, 2, none⟩) (by simp) (.int .i64 sp)
    exact ⟨_, _, _, _, rfl, (HBs.out.below bel).more bel.size, (HSl.out.below bel).more bel.size, hcap, hd, bel⟩
  · obtain ⟨hs, ho0, ho1⟩ := HI.out.1 hok
    have hr16 := sizeB_range hs
    obtain ⟨k, rfl⟩ := Int.eq_ofNat_of_zero_le ho0
    obtain ⟨m, rfl⟩ := Int.eq_ofNat_of_zero_le (show 0 ≤ size by omega)
    have hm : 0 < m := by omega
    have hkm : sp + k + m ≤ n := by omega
    have hr : storeV n sp lb lu a b k m = (0, splice lb (sp + k) (bytesV a b m), splice lu (sp + k) (List.replicate m true), sp) := by unfold storeV; rw [if_pos hok]; rfl
    have hsz : szOf (m : Int) = m := by unfold szOf; rw [if_pos hs]; rfl
    rw [hok] at hp
    rw [hr]
    have HP := Lib.hid hp
    have C2 := Lib.hid (fun W : World => bytes_r a b HA.out HA'.out m g0 g1 W)
    unfold BytesR at C2
    rw [hsz] at C2
    have C3 := Lib.hid (fun (W : World) (hW : Below w.heap.size w W) (X : Option Addr) (cx : Nat) (hx : Bs W W.heap.size X m (bytesV a b m)) => write_any A U X n c d m cx sp (sp + k) lb (bytesV a b m) lu W ((HBs.out.below hW).more hW.size) ((HSl.out.below hW).more hW.size) hx hn hcap hd hkm)
    clear hp HI hr hok hs hsz ho1
    go_enter Try.func31, Try.ntmps31
    go_wp2_with fail
    refine (HP.out _).mono ?_
    rintro e w1 ⟨x, rfl, hx, bel1⟩
    obtain rfl := hx trivial
    obtain ⟨hc1, hf1⟩ := bcell bel1
    have hz1 := bel1.size
    simp at hz1
    have z1_0 : w.heap.size < w1.heap.size := (by omega)
    have z1_1 : w.heap.size + 1 < w1.heap.size := (by omega)
    have z1_2 : w.heap.size + 2 < w1.heap.size := (by omega)
    have s0 : w1.cell? ⟨w.heap.size, 0, none⟩ = some (.slice A n c) := (by rw [hc1 _ _ (by simp <;> omega)]; go_simp)
    have s1 : w1.cell? ⟨w.heap.size, 1, none⟩ = some (.slice U n d) := (by rw [hc1 _ _ (by simp <;> omega)]; go_simp)
    have s2 : w1.cell? ⟨w.heap.size, 2, none⟩ = some (.int .i64 sp) := (by rw [hc1 _ _ (by simp <;> omega)]; go_simp)
    have e0 : w1.cell? ⟨w.heap.size + 1, 0, none⟩ = some (.int .u64 a) := (by rw [hc1 _ _ (by simp <;> omega)]; go_simp)
    have e1 : w1.cell? ⟨w.heap.size + 1, 1, none⟩ = some (.int .u64 b) := (by rw [hc1 _ _ (by simp <;> omega)]; go_simp)
    have q0 : w1.cell? ⟨w.heap.size + 2, 0, none⟩ = some (.slice none 0 0) := (by rw [hc1 _ _ (by simp <;> omega)]; go_simp)
    have fq0 : w1.frozen? ⟨w.heap.size + 2, 0, none⟩ = false := (by rw [hf1 _ _ (by simp <;> omega)]; go_simp)
    have q1 : w1.cell? ⟨w.heap.size + 2, 1, none⟩ = some (.slice none 0 0) := (by rw [hc1 _ _ (by simp <;> omega)]; go_simp)
    have fq1 : w1.frozen? ⟨w.heap.size + 2, 1, none⟩ = false := (by rw [hf1 _ _ (by simp <;> omega)]; go_simp)
    have q2 : w1.cell? ⟨w.heap.size + 2, 2, none⟩ = some (.int .i64 0) := (by rw [hc1 _ _ (by simp <;> omega)]; go_simp)
    have fq2 : w1.frozen? ⟨w.heap.size + 2, 2, none⟩ = false := (by rw [hf1 _ _ (by simp <;> omega)]; go_simp)
    have HB1 := Lib.hid ((((Below.refl w.heap.size w).alloc (Nat.le_refl _) _).alloc (by simp) _).alloc (by simp; omega) _ |>.trans (bel1.mono (by simp; omega)))
    clear hc1 hf1 hz1 bel1
    clear HP
    go_wp2_with fail
    have HS1 := Lib.hid (Below.refl w1.heap.size w1).drew
    go_region_with (first
      | (go_at_call 64; refine (C2.out _).mono ?_; rintro e w2 ⟨X, cx, rfl, b2, -, -, bel2⟩; have bel2 : Below w1.heap.size w1 w2 := undrew bel2; obtain ⟨hc2, hf2⟩ := bcell bel2; have hz2 := bel2.size; have z2_0 : w.heap.size < w2.heap.size := (by omega); have z2_1 : w.heap.size + 1 < w2.heap.size := (by omega); have z2_2 : w.heap.size + 2 < w2.heap.size := (by omega); have s0 : w2.cell? ⟨w.heap.size, 0, none⟩ = some (.slice A n c) := (by rw [hc2 _ _ z1_0]; exact s0); have s1 : w2.cell? ⟨w.heap.size, 1, none⟩ = some (.slice U n d) := (by rw [hc2 _ _ z1_0]; exact s1); have s2 : w2.cell? ⟨w.heap.size, 2, none⟩ = some (.int .i64 sp) := (by rw [hc2 _ _ z1_0]; exact s2); have e0 : w2.cell? ⟨w.heap.size + 1, 0, none⟩ = some (.int .u64 a) := (by rw [hc2 _ _ z1_1]; exact e0); have e1 : w2.cell? ⟨w.heap.size + 1, 1, none⟩ = some (.int .u64 b) := (by rw [hc2 _ _ z1_1]; exact e1); have q0 : w2.cell? ⟨w.heap.size + 2, 0, none⟩ = some (.slice none 0 0) := (by rw [hc2 _ _ z1_2]; exact q0); have fq0 : w2.frozen? ⟨w.heap.size + 2, 0, none⟩ = false := (by rw [hf2 _ _ z1_2]; exact fq0); have q1 : w2.cell? ⟨w.heap.size + 2, 1, none⟩ = some (.slice none 0 0) := (by rw [hc2 _ _ z1_2]; exact q1); have fq1 : w2.frozen? ⟨w.heap.size + 2, 1, none⟩ = false := (by rw [hf2 _ _ z1_2]; exact fq1); have q2 : w2.cell? ⟨w.heap.size + 2, 2, none⟩ = some (.int .i64 0) := (by rw [hc2 _ _ z1_2]; exact q2); have fq2 : w2.frozen? ⟨w.heap.size + 2, 2, none⟩ = false := (by rw [hf2 _ _ z1_2]; exact fq2); have HB2 := Lib.hid (HB1.out.trans (bel2.mono (by omega))); clear hc2 hf2 hz2 bel2; have BS2 := Lib.hid b2; clear b2)
      | (go_at_call 63; refine Calls.mono (C3.out _ HB2.out X cx BS2.out) ?_; rintro e w3 ⟨A3, c3, U3, d3, rfl, b3, t3, j1, j2, bel3⟩; have b3 := own_base (base' := w.heap.size + 3) b3 (by omega); have t3 := own_base (base' := w.heap.size + 3) t3 (by omega); obtain ⟨hc3, hf3⟩ := bcell bel3; have hz3 := bel3.size; have z3_0 : w.heap.size < w3.heap.size := (by omega); have z3_1 : w.heap.size + 1 < w3.heap.size := (by omega); have z3_2 : w.heap.size + 2 < w3.heap.size := (by omega); have s0 : w3.cell? ⟨w.heap.size, 0, none⟩ = some (.slice A n c) := (by rw [hc3 _ _ z2_0]; exact s0); have s1 : w3.cell? ⟨w.heap.size, 1, none⟩ = some (.slice U n d) := (by rw [hc3 _ _ z2_0]; exact s1); have s2 : w3.cell? ⟨w.heap.size, 2, none⟩ = some (.int .i64 sp) := (by rw [hc3 _ _ z2_0]; exact s2); have e0 : w3.cell? ⟨w.heap.size + 1, 0, none⟩ = some (.int .u64 a) := (by rw [hc3 _ _ z2_1]; exact e0); have e1 : w3.cell? ⟨w.heap.size + 1, 1, none⟩ = some (.int .u64 b) := (by rw [hc3 _ _ z2_1]; exact e1); have q0 : w3.cell? ⟨w.heap.size + 2, 0, none⟩ = some (.slice none 0 0) := (by rw [hc3 _ _ z2_2]; exact q0); have fq0 : w3.frozen? ⟨w.heap.size + 2, 0, none⟩ = false := (by rw [hf3 _ _ z2_2]; exact fq0); have q1 : w3.cell? ⟨w.heap.size + 2, 1, none⟩ = some (.slice none 0 0) := (by rw [hc3 _ _ z2_2]; exact q1); have fq1 : w3.frozen? ⟨w.heap.size + 2, 1, none⟩ = false := (by rw [hf3 _ _ z2_2]; exact fq1); have q2 : w3.cell? ⟨w.heap.size + 2, 2, none⟩ = some (.int .i64 0) := (by rw [hc3 _ _ z2_2]; exact q2); have fq2 : w3.frozen? ⟨w.heap.size + 2, 2, none⟩ = false := (by rw [hf3 _ _ z2_2]; exact fq2); have HB3 := Lib.hid (HB2.out.trans (bel3.mono (by omega))); clear hc3 hf3 hz3 bel3; have BS3 := Lib.hid b3; have SL3 := Lib.hid t3; clear b3 t3))
    all_goals
      go_wp2
      refine bodyPost_ret (v := .tuple #[.agg #[.slice A3 n c3, .slice U3 n d3, .int .i64 sp], .int .i64 0]) (by simp [results, Try.results31, go_sem, q0, q1, q2]) rfl ?_
      have bel := ((HB3.out.setCell (p := ⟨w.heap.size + 2, 0, none⟩) (by simp) (.slice A3 n c3)).setCell (p := ⟨w.heap.size + 2, 1, none⟩) (by simp) (.slice U3 n d3)).setCell (p := ⟨w.heap.size + 2, 2, none⟩) (by simp) (.int .i64 sp)
      refine ⟨_, _, _, _, rfl, Bs.of_own (own_setCell (own_setCell (own_setCell BS3.out _ ?_ _) _ ?_ _) _ ?_ _) (splice_lt HBs.out.2 (bytesV_lt _ _ _)), Sl.of_own (own_setCell (own_setCell (own_setCell SL3.out _ ?_ _) _ ?_ _) _ ?_ _), j1, j2, bel⟩
      all_goals (show w.heap.size + 2 < w.heap.size + 3; omega)
end Go.Proofs.Ytgamodmenlhedaa
