/- Contracts of Load. -/
import Derived.Test.YtgamodmenlhedaaPo
namespace Go.Proofs.Ytgamodmenlhedaa
open Go.RowKit
set_option linter.unusedVariables false
set_option maxRecDepth 10000

/-- what Load gives: the value, whether the bytes are used, the error -/
def loadV (n sp : Nat) (lb : List Nat) (lu : List Bool) (off size : Int) : (Nat × Nat) × Bool × Int :=
  if okV n sp off size = true then
    if usedV lu (sp + off.toNat) size.toNat = true then ((loV ((lb.drop (sp + off.toNat)).take size.toNat), hiV ((lb.drop (sp + off.toNat)).take size.toNat)), true, 0)
    else ((0, 0), false, 0)
  else ((0, 0), false, 4)
def LoadR (w : World) (r : (Nat × Nat) × Bool × Int) (e : Ending) (w' : World) : Prop :=
  e = .returned (.tuple #[.agg #[.int .u64 r.1.1, .int .u64 r.1.2], .bool r.2.1, .int .i64 r.2.2]) ∧ Below w.heap.size w w'

set_option maxHeartbeats 1000000 in
theorem load_any (A U : Option Addr) (n c d sp : Nat) (lb : List Nat) (lu : List Bool) (off size : Int) (h0 : -9223372036854775808 ≤ off) (h1 : off ≤ 9223372036854775807) (g0 : -9223372036854775808 ≤ size) (g1 : size ≤ 9223372036854775807)
    (w : World) (hb : Bs w w.heap.size A n lb) (hu : Sl Value.bool w w.heap.size U n lu) (hn : n ≤ 1048576) (hsp : sp ≤ n) (hcap : n ≤ c) (hd : n ≤ d) :
    Calls Try.prog 35 #[.agg #[.slice A n c, .slice U n d, .int .i64 sp], .int .i64 off, .int .i64 size] w (LoadR w (loadV n sp lb lu off size)) := by
  have hp := fun W : World => place_any A U n c n d sp off size h0 h1 g0 g1 hn hsp W
  have HI := Lib.hid (okV_iff n sp off size)
  rcases hok : okV n sp off size with _ | _
  · have hr : loadV n sp lb lu off size = ((0, 0), false, 4) := by unfold loadV; rw [hok]; rfl
    rw [hok] at hp
    rw [hr]
    have HP := Lib.hid hp
    clear hp HI hr hok hb hu
    go_enter Try.func35, Try.ntmps35
    go_wp2_with fail
    refine (HP.out _).mono ?_
    rintro e w1 ⟨a, rfl, -, bel1⟩
    obtain ⟨hc1, hf1⟩ := bcell bel1
    have hz1 := bel1.size
    simp at hz1
    have z1 : w.heap.size < w1.heap.size := by omega
    have z1' : w.heap.size + 1 < w1.heap.size := by omega
    have s0 : w1.cell? ⟨w.heap.size, 0, none⟩ = some (.slice A n c) := by rw [hc1 _ _ (by simp <;> omega)]; go_simp
    have s1 : w1.cell? ⟨w.heap.size, 1, none⟩ = some (.slice U n d) := by rw [hc1 _ _ (by simp <;> omega)]; go_simp
    have s2 : w1.cell? ⟨w.heap.size, 2, none⟩ = some (.int .i64 sp) := by rw [hc1 _ _ (by simp <;> omega)]; go_simp
    have q0 : w1.cell? ⟨w.heap.size + 1, 0, none⟩ = some (.int .u64 0) := by rw [hc1 _ _ (by simp <;> omega)]; go_simp
    have q1 : w1.cell? ⟨w.heap.size + 1, 1, none⟩ = some (.int .u64 0) := by rw [hc1 _ _ (by simp <;> omega)]; go_simp
    have f0 : w1.frozen? ⟨w.heap.size + 1, 0, none⟩ = false := by rw [hf1 _ _ (by simp <;> omega)]; go_simp
    have f1 : w1.frozen? ⟨w.heap.size + 1, 1, none⟩ = false := by rw [hf1 _ _ (by simp <;> omega)]; go_simp
    clear hc1 hf1
    have HB1 := Lib.hid (((Below.refl w.heap.size w).alloc (Nat.le_refl _) _).alloc (by simp) _ |>.trans (bel1.mono (by simp; omega)))
    clear hz1 bel1 HP
    go_wp2
    exact bodyPost_ret (v := .tuple #[.agg #[.int .u64 (0 : Nat), .int .u64 (0 : Nat)], .bool false, .int .i64 4]) (by simp [results, Try.results35, go_sem, q0, q1]) rfl ⟨rfl, HB1.out.setCell (by simp) _ |>.setCell (by simp) _⟩
  · obtain ⟨hs, ho0, ho1⟩ := HI.out.1 hok
    have hr16 := sizeB_range hs
    obtain ⟨k, rfl⟩ := Int.eq_ofNat_of_zero_le ho0
    obtain ⟨m, rfl⟩ := Int.eq_ofNat_of_zero_le (show 0 ≤ size by omega)
    have hm : 0 < m := by omega
    have hkm : sp + k + m ≤ n := by omega
    rw [hok] at hp
    have HP := Lib.hid hp
    have HU := Lib.hid (fun (W : World) (h : Below w.heap.size w W) => used_any A U n c d sp (sp + k) m lu W w.heap.size (hu.below h) h.size hn hd (by omega) hm)
    have HF := Lib.hid (fun (W : World) (h : Below w.heap.size w W) => frombytes_any (A.map (·.add (sp + k))) m (c - (sp + k)) ((lb.drop (sp + k)).take m) W w.heap.size ((hb.part hkm hm).below h) h.size (by unfold maxLen; omega) (by omega))
    have hrV : loadV n sp lb lu k m = if usedV lu (sp + k) m = true then ((loV ((lb.drop (sp + k)).take m), hiV ((lb.drop (sp + k)).take m)), true, 0) else ((0, 0), false, 0) := by
      unfold loadV; rw [if_pos hok]; rfl
    have HR := Lib.hid hrV
    have hA : ∃ a, A = some a := by
      cases A with
      | none => have := hb.none_n; omega
      | some a => exact ⟨a, rfl⟩
    obtain ⟨a, rfl⟩ := hA
    have hkc : sp + k ≠ c := by omega
    clear hp HI hok hs hb hu hrV ho1
    generalize loV ((lb.drop (sp + k)).take m) = lo at *
    generalize hiV ((lb.drop (sp + k)).take m) = hi at *
    go_enter Try.func35, Try.ntmps35
    go_wp2_with fail
    refine (HP.out _).mono ?_
    rintro e w1 ⟨a, rfl, ha, bel1⟩
    obtain rfl := ha trivial
    obtain ⟨hc1, hf1⟩ := bcell bel1
    have hz1 := bel1.size
    simp at hz1
    have z1 : w.heap.size < w1.heap.size := by omega
    have z1' : w.heap.size + 1 < w1.heap.size := by omega
    have s0 : w1.cell? ⟨w.heap.size, 0, none⟩ = some (.slice (some a) n c) := by rw [hc1 _ _ (by simp <;> omega)]; go_simp
    have s1 : w1.cell? ⟨w.heap.size, 1, none⟩ = some (.slice U n d) := by rw [hc1 _ _ (by simp <;> omega)]; go_simp
    have s2 : w1.cell? ⟨w.heap.size, 2, none⟩ = some (.int .i64 sp) := by rw [hc1 _ _ (by simp <;> omega)]; go_simp
    have q0 : w1.cell? ⟨w.heap.size + 1, 0, none⟩ = some (.int .u64 0) := by rw [hc1 _ _ (by simp <;> omega)]; go_simp
    have q1 : w1.cell? ⟨w.heap.size + 1, 1, none⟩ = some (.int .u64 0) := by rw [hc1 _ _ (by simp <;> omega)]; go_simp
    have f0 : w1.frozen? ⟨w.heap.size + 1, 0, none⟩ = false := by rw [hf1 _ _ (by simp <;> omega)]; go_simp
    have f1 : w1.frozen? ⟨w.heap.size + 1, 1, none⟩ = false := by rw [hf1 _ _ (by simp <;> omega)]; go_simp
    clear hc1 hf1
    have HB1 := Lib.hid (((Below.refl w.heap.size w).alloc (Nat.le_refl _) _).alloc (by simp) _ |>.trans (bel1.mono (by simp; omega)))
    clear hz1 bel1 HP
    go_wp2_with fail
    refine (HU.out _ HB1.out).mono ?_
    rintro e w2 ⟨rfl, bel2⟩
    obtain ⟨hc2, hf2⟩ := bcell bel2
    have hz2 := bel2.size
    have z2 : w.heap.size < w2.heap.size := by omega
    have z2' : w.heap.size + 1 < w2.heap.size := by omega
    have HB2 := Lib.hid (HB1.out.trans (bel2.mono (by omega)))
    have s0 : w2.cell? ⟨w.heap.size, 0, none⟩ = some (.slice (some a) n c) := by rw [hc2 _ _ z1]; exact s0
    have s1 : w2.cell? ⟨w.heap.size, 1, none⟩ = some (.slice U n d) := by rw [hc2 _ _ z1]; exact s1
    have s2 : w2.cell? ⟨w.heap.size, 2, none⟩ = some (.int .i64 sp) := by rw [hc2 _ _ z1]; exact s2
    have q0 : w2.cell? ⟨w.heap.size + 1, 0, none⟩ = some (.int .u64 0) := by rw [hc2 _ _ z1']; exact q0
    have q1 : w2.cell? ⟨w.heap.size + 1, 1, none⟩ = some (.int .u64 0) := by rw [hc2 _ _ z1']; exact q1
    have f0 : w2.frozen? ⟨w.heap.size + 1, 0, none⟩ = false := by rw [hf2 _ _ z1']; exact f0
    have f1 : w2.frozen? ⟨w.heap.size + 1, 1, none⟩ = false := by rw [hf2 _ _ z1']; exact f1
    clear hz2 bel2 HU HB1 hc2 hf2
    generalize usedV lu (sp + k) m = b at *
    cases b with
    | false =>
      go_wp2
      refine bodyPost_ret (v := .tuple #[.agg #[.int .u64 (0 : Nat), .int .u64 (0 : Nat)], .bool false, .int .i64 0]) (by simp [results, Try.results35, go_sem, q0, q1]) rfl ?_
      rw [HR.out]
      exact ⟨rfl, HB2.out.setCell (by simp) _ |>.setCell (by simp) _⟩
    | true =>
      go_wp2_with fail
      refine (HF.out _ HB2.out).mono ?_
      rintro e w3 ⟨rfl, bel3⟩
      unfold fromV
      obtain ⟨hc3, hf3⟩ := bcell bel3
      have hz3 := bel3.size
      have z3 : w.heap.size < w3.heap.size := by omega
      have z3' : w.heap.size + 1 < w3.heap.size := by omega
      have HB3 := Lib.hid (HB2.out.trans (bel3.mono (by omega)))
      have s0 : w3.cell? ⟨w.heap.size, 0, none⟩ = some (.slice (some a) n c) := by rw [hc3 _ _ z2]; exact s0
      have s1 : w3.cell? ⟨w.heap.size, 1, none⟩ = some (.slice U n d) := by rw [hc3 _ _ z2]; exact s1
      have s2 : w3.cell? ⟨w.heap.size, 2, none⟩ = some (.int .i64 sp) := by rw [hc3 _ _ z2]; exact s2
      have q0 : w3.cell? ⟨w.heap.size + 1, 0, none⟩ = some (.int .u64 0) := by rw [hc3 _ _ z2']; exact q0
      have q1 : w3.cell? ⟨w.heap.size + 1, 1, none⟩ = some (.int .u64 0) := by rw [hc3 _ _ z2']; exact q1
      have f0 : w3.frozen? ⟨w.heap.size + 1, 0, none⟩ = false := by rw [hf3 _ _ z2']; exact f0
      have f1 : w3.frozen? ⟨w.heap.size + 1, 1, none⟩ = false := by rw [hf3 _ _ z2']; exact f1
      clear hz3 bel3 HF HB2 hc3 hf3
      go_wp2
      refine bodyPost_ret (v := .tuple #[.agg #[.int .u64 lo, .int .u64 hi], .bool true, .int .i64 0]) (by simp [results, Try.results35, go_sem, q0, q1]) rfl ?_
      rw [HR.out]
      exact ⟨rfl, HB3.out.setCell (by simp) _ |>.setCell (by simp) _⟩

set_option maxHeartbeats 1000000 in
theorem refload_any (A U : Option Addr) (n c d sp : Nat) (lb : List Nat) (lu : List Bool) (off size : Int) (h0 : -9223372036854775808 ≤ off) (h1 : off ≤ 9223372036854775807) (g0 : -9223372036854775808 ≤ size) (g1 : size ≤ 9223372036854775807)
    (w : World) (hb : Bs w w.heap.size A n lb) (hu : Sl Value.bool w w.heap.size U n lu) (hn : n ≤ 1048576) (hsp : sp ≤ n) (hcap : n ≤ c) (hd : n ≤ d) :
    Calls Try.prog 76 #[.agg #[.slice A n c, .slice U n d, .int .i64 sp], .int .i64 off, .int .i64 size] w (LoadR w (loadV n sp lb lu off size)) := by
  have hp := fun W : World => right_any A U n c n d sp off size h0 h1 g0 g1 hn hsp W
  have HI := Lib.hid (okV_iff n sp off size)
  rcases hok : okV n sp off size with _ | _
  · have hr : loadV n sp lb lu off size = ((0, 0), false, 4) := by unfold loadV; rw [hok]; rfl
    rw [hok] at hp
    rw [hr]
    have HP := Lib.hid hp
    clear hp HI hr hok hb hu
    go_enter Try.func76, Try.ntmps76
    go_wp2_with fail
    refine (HP.out _).mono ?_
    rintro e w1 ⟨rfl, bel1⟩
    obtain ⟨hc1, hf1⟩ := bcell bel1
    have hz1 := bel1.size
    simp at hz1
    have z1 : w.heap.size < w1.heap.size := by omega
    have z1' : w.heap.size + 1 < w1.heap.size := by omega
    have s0 : w1.cell? ⟨w.heap.size, 0, none⟩ = some (.slice A n c) := by rw [hc1 _ _ (by simp <;> omega)]; go_simp
    have s1 : w1.cell? ⟨w.heap.size, 1, none⟩ = some (.slice U n d) := by rw [hc1 _ _ (by simp <;> omega)]; go_simp
    have s2 : w1.cell? ⟨w.heap.size, 2, none⟩ = some (.int .i64 sp) := by rw [hc1 _ _ (by simp <;> omega)]; go_simp
    have q0 : w1.cell? ⟨w.heap.size + 1, 0, none⟩ = some (.int .u64 0) := by rw [hc1 _ _ (by simp <;> omega)]; go_simp
    have q1 : w1.cell? ⟨w.heap.size + 1, 1, none⟩ = some (.int .u64 0) := by rw [hc1 _ _ (by simp <;> omega)]; go_simp
    have f0 : w1.frozen? ⟨w.heap.size + 1, 0, none⟩ = false := by rw [hf1 _ _ (by simp <;> omega)]; go_simp
    have f1 : w1.frozen? ⟨w.heap.size + 1, 1, none⟩ = false := by rw [hf1 _ _ (by simp <;> omega)]; go_simp
    clear hc1 hf1
    have HB1 := Lib.hid (((Below.refl w.heap.size w).alloc (Nat.le_refl _) _).alloc (by simp) _ |>.trans (bel1.mono (by simp; omega)))
    clear hz1 bel1 HP
    go_wp2
    exact bodyPost_ret (v := .tuple #[.agg #[.int .u64 (0 : Nat), .int .u64 (0 : Nat)], .bool false, .int .i64 4]) (by simp [results, Try.results76, go_sem, q0, q1]) rfl ⟨rfl, HB1.out.setCell (by simp) _ |>.setCell (by simp) _⟩
  · obtain ⟨hs, ho0, ho1⟩ := HI.out.1 hok
    have hr16 := sizeB_range hs
    obtain ⟨k, rfl⟩ := Int.eq_ofNat_of_zero_le ho0
    obtain ⟨m, rfl⟩ := Int.eq_ofNat_of_zero_le (show 0 ≤ size by omega)
    have hm : 0 < m := by omega
    have hkm : sp + k + m ≤ n := by omega
    rw [hok] at hp
    have HP := Lib.hid hp
    have HU := Lib.hid (fun (W : World) (h : Below w.heap.size w W) => refused_any A U n c d sp k m lu W w.heap.size (hu.below h) h.size hn (by omega))
    have HF := Lib.hid (fun (W : World) (h : Below w.heap.size w W) => reffrombytes_any (A.map (·.add (sp + k))) m (c - (sp + k)) ((lb.drop (sp + k)).take m) W w.heap.size ((hb.part hkm hm).below h) h.size (by unfold maxLen; omega) (by omega))
    have hrV : loadV n sp lb lu k m = if usedV lu (sp + k) m = true then ((loV ((lb.drop (sp + k)).take m), hiV ((lb.drop (sp + k)).take m)), true, 0) else ((0, 0), false, 0) := by
      unfold loadV; rw [if_pos hok]; rfl
    have HR := Lib.hid hrV
    have hA : ∃ a, A = some a := by
      cases A with
      | none => have := hb.none_n; omega
      | some a => exact ⟨a, rfl⟩
    obtain ⟨a, rfl⟩ := hA
    have hkc : sp + k ≠ c := by omega
    clear hp HI hok hs hb hu hrV ho1
    generalize loV ((lb.drop (sp + k)).take m) = lo at *
    generalize hiV ((lb.drop (sp + k)).take m) = hi at *
    go_enter Try.func76, Try.ntmps76
    go_wp2_with fail
    refine (HP.out _).mono ?_
    rintro e w1 ⟨rfl, bel1⟩
    obtain ⟨hc1, hf1⟩ := bcell bel1
    have hz1 := bel1.size
    simp at hz1
    have z1 : w.heap.size < w1.heap.size := by omega
    have z1' : w.heap.size + 1 < w1.heap.size := by omega
    have s0 : w1.cell? ⟨w.heap.size, 0, none⟩ = some (.slice (some a) n c) := by rw [hc1 _ _ (by simp <;> omega)]; go_simp
    have s1 : w1.cell? ⟨w.heap.size, 1, none⟩ = some (.slice U n d) := by rw [hc1 _ _ (by simp <;> omega)]; go_simp
    have s2 : w1.cell? ⟨w.heap.size, 2, none⟩ = some (.int .i64 sp) := by rw [hc1 _ _ (by simp <;> omega)]; go_simp
    have q0 : w1.cell? ⟨w.heap.size + 1, 0, none⟩ = some (.int .u64 0) := by rw [hc1 _ _ (by simp <;> omega)]; go_simp
    have q1 : w1.cell? ⟨w.heap.size + 1, 1, none⟩ = some (.int .u64 0) := by rw [hc1 _ _ (by simp <;> omega)]; go_simp
    have f0 : w1.frozen? ⟨w.heap.size + 1, 0, none⟩ = false := by rw [hf1 _ _ (by simp <;> omega)]; go_simp
    have f1 : w1.frozen? ⟨w.heap.size + 1, 1, none⟩ = false := by rw [hf1 _ _ (by simp <;> omega)]; go_simp
    clear hc1 hf1
    have HB1 := Lib.hid (((Below.refl w.heap.size w).alloc (Nat.le_refl _) _).alloc (by simp) _ |>.trans (bel1.mono (by simp; omega)))
    clear hz1 bel1 HP
    go_wp2_with fail
    refine (HU.out _ HB1.out).mono ?_
    rintro e w2 ⟨rfl, bel2⟩
    obtain ⟨hc2, hf2⟩ := bcell bel2
    have hz2 := bel2.size
    have z2 : w.heap.size < w2.heap.size := by omega
    have z2' : w.heap.size + 1 < w2.heap.size := by omega
    have HB2 := Lib.hid (HB1.out.trans (bel2.mono (by omega)))
    have s0 : w2.cell? ⟨w.heap.size, 0, none⟩ = some (.slice (some a) n c) := by rw [hc2 _ _ z1]; exact s0
    have s1 : w2.cell? ⟨w.heap.size, 1, none⟩ = some (.slice U n d) := by rw [hc2 _ _ z1]; exact s1
    have s2 : w2.cell? ⟨w.heap.size, 2, none⟩ = some (.int .i64 sp) := by rw [hc2 _ _ z1]; exact s2
    have q0 : w2.cell? ⟨w.heap.size + 1, 0, none⟩ = some (.int .u64 0) := by rw [hc2 _ _ z1']; exact q0
    have q1 : w2.cell? ⟨w.heap.size + 1, 1, none⟩ = some (.int .u64 0) := by rw [hc2 _ _ z1']; exact q1
    have f0 : w2.frozen? ⟨w.heap.size + 1, 0, none⟩ = false := by rw [hf2 _ _ z1']; exact f0
    have f1 : w2.frozen? ⟨w.heap.size + 1, 1, none⟩ = false := by rw [hf2 _ _ z1']; exact f1
    clear hz2 bel2 HU HB1 hc2 hf2
    generalize usedV lu (sp + k) m = b at *
    cases b with
    | false =>
      go_wp2
      refine bodyPost_ret (v := .tuple #[.agg #[.int .u64 (0 : Nat), .int .u64 (0 : Nat)], .bool false, .int .i64 0]) (by simp [results, Try.results76, go_sem, q0, q1]) rfl ?_
      rw [HR.out]
      exact ⟨rfl, HB2.out.setCell (by simp) _ |>.setCell (by simp) _⟩
    | true =>
      go_wp2_with fail
      refine (HF.out _ HB2.out).mono ?_
      rintro e w3 ⟨rfl, bel3⟩
      unfold fromV
      obtain ⟨hc3, hf3⟩ := bcell bel3
      have hz3 := bel3.size
      have z3 : w.heap.size < w3.heap.size := by omega
      have z3' : w.heap.size + 1 < w3.heap.size := by omega
      have HB3 := Lib.hid (HB2.out.trans (bel3.mono (by omega)))
      have s0 : w3.cell? ⟨w.heap.size, 0, none⟩ = some (.slice (some a) n c) := by rw [hc3 _ _ z2]; exact s0
      have s1 : w3.cell? ⟨w.heap.size, 1, none⟩ = some (.slice U n d) := by rw [hc3 _ _ z2]; exact s1
      have s2 : w3.cell? ⟨w.heap.size, 2, none⟩ = some (.int .i64 sp) := by rw [hc3 _ _ z2]; exact s2
      have q0 : w3.cell? ⟨w.heap.size + 1, 0, none⟩ = some (.int .u64 0) := by rw [hc3 _ _ z2']; exact q0
      have q1 : w3.cell? ⟨w.heap.size + 1, 1, none⟩ = some (.int .u64 0) := by rw [hc3 _ _ z2']; exact q1
      have f0 : w3.frozen? ⟨w.heap.size + 1, 0, none⟩ = false := by rw [hf3 _ _ z2']; exact f0
      have f1 : w3.frozen? ⟨w.heap.size + 1, 1, none⟩ = false := by rw [hf3 _ _ z2']; exact f1
      clear hz3 bel3 HF HB2 hc3 hf3
      go_wp2
      refine bodyPost_ret (v := .tuple #[.agg #[.int .u64 lo, .int .u64 hi], .bool true, .int .i64 0]) (by simp [results, Try.results76, go_sem, q0, q1]) rfl ?_
      rw [HR.out]
      exact ⟨rfl, HB3.out.setCell (by simp) _ |>.setCell (by simp) _⟩
end Go.Proofs.Ytgamodmenlhedaa
