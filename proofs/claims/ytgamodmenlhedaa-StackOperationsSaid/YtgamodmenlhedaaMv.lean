/- Contracts of Move. -/
import Derived.Test.YtgamodmenlhedaaRst
import Derived.Test.YtgamodmenlhedaaLo
import Derived.IntWalk
namespace Go.Proofs.Ytgamodmenlhedaa
open Go.RowKit
set_option linter.unusedVariables false
set_option maxRecDepth 10000

def moveV (n sp : Nat) (lb : List Nat) (lu : List Bool) (dst fr size : Int) : Int × Bool × List Nat × List Bool × Nat :=
  if (okV n sp dst size && okV n sp fr size) = true then
    if usedV lu (sp + fr.toNat) size.toNat = true then (0, true, splice lb (sp + dst.toNat) ((lb.drop (sp + fr.toNat)).take size.toNat), splice lu (sp + dst.toNat) (List.replicate size.toNat true), sp)
    else (0, false, lb, lu, sp)
  else (4, false, lb, lu, sp)
def MoveR (w : World) (n : Nat) (r : Int × Bool × List Nat × List Bool × Nat) (e : Ending) (w' : World) : Prop :=
  ∃ A c U d, e = .returned (.tuple #[.agg #[.slice A n c, .slice U n d, .int .i64 (r.2.2.2.2 : Nat)], .bool r.2.1, .int .i64 r.1]) ∧ Bs w' w'.heap.size A n r.2.2.1 ∧ Sl Value.bool w' w'.heap.size U n r.2.2.2.1 ∧ n ≤ c ∧ n ≤ d ∧ Below w.heap.size w w'

set_option maxHeartbeats 4000000 in
theorem move_any (A U : Option Addr) (n c d sp : Nat) (lb : List Nat) (lu : List Bool) (dst fr size : Int) (t0 : -9223372036854775808 ≤ dst) (t1 : dst ≤ 9223372036854775807) (h0 : -9223372036854775808 ≤ fr) (h1 : fr ≤ 9223372036854775807) (g0 : -9223372036854775808 ≤ size) (g1 : size ≤ 9223372036854775807)
    (w : World) (hb : Bs w w.heap.size A n lb) (hu : Sl Value.bool w w.heap.size U n lu) (hn : n ≤ 1048576) (hsp : sp ≤ n) (hcap : n ≤ c) (hd : n ≤ d) :
    Calls Try.prog 40 #[.agg #[.slice A n c, .slice U n d, .int .i64 sp], .int .i64 dst, .int .i64 fr, .int .i64 size] w (MoveR w n (moveV n sp lb lu dst fr size)) := by
  have hp := fun W : World => place_any A U n c n d sp dst size t0 t1 g0 g1 hn hsp W
  have hq := fun W : World => place_any A U n c n d sp fr size h0 h1 g0 g1 hn hsp W
  have HI := Lib.hid (okV_iff n sp dst size)
  have HJ := Lib.hid (okV_iff n sp fr size)
  have HBs := Lib.hid hb
  have HSl := Lib.hid hu
  clear hb hu
  rcases hok : (okV n sp dst size && okV n sp fr size) with _ | _
  · have hr : moveV n sp lb lu dst fr size = (4, false, lb, lu, sp) := by unfold moveV; rw [hok]; rfl
    rw [hr]
    have hcase : okV n sp dst size = false ∨ (okV n sp dst size = true ∧ okV n sp fr size = false) := by
      revert hok; cases okV n sp dst size <;> cases okV n sp fr size <;> simp
    clear hr hok HI HJ
    rcases hcase with h | ⟨h, h'⟩
    · rw [h] at hp
      generalize okV n sp fr size = bb at hq
      have HP := Lib.hid hp
      have HQ := Lib.hid hq
      clear hp hq h
      go_enter Try.func40, Try.ntmps40
      go_wp2_with fail
      refine (HP.out _).mono ?_
      rintro e w1 ⟨x1, rfl, hx1, bel1⟩
      obtain ⟨hc1, hf1⟩ := bcell bel1
      have hz1 := bel1.size
      simp at hz1
      have z1_0 : w.heap.size < w1.heap.size := (by omega)
      have z1_1 : w.heap.size + 1 < w1.heap.size := (by omega)
      have s0 : w1.cell? ⟨w.heap.size, 0, none⟩ = some (.slice A n c) := (by rw [hc1 _ _ (by simp <;> omega)]; go_simp)
      have s1 : w1.cell? ⟨w.heap.size, 1, none⟩ = some (.slice U n d) := (by rw [hc1 _ _ (by simp <;> omega)]; go_simp)
      have s2 : w1.cell? ⟨w.heap.size, 2, none⟩ = some (.int .i64 sp) := (by rw [hc1 _ _ (by simp <;> omega)]; go_simp)
      have q0 : w1.cell? ⟨w.heap.size + 1, 0, none⟩ = some (.slice none 0 0) := (by rw [hc1 _ _ (by simp <;> omega)]; go_simp)
      have fq0 : w1.frozen? ⟨w.heap.size + 1, 0, none⟩ = false := (by rw [hf1 _ _ (by simp <;> omega)]; go_simp)
      have q1 : w1.cell? ⟨w.heap.size + 1, 1, none⟩ = some (.slice none 0 0) := (by rw [hc1 _ _ (by simp <;> omega)]; go_simp)
      have fq1 : w1.frozen? ⟨w.heap.size + 1, 1, none⟩ = false := (by rw [hf1 _ _ (by simp <;> omega)]; go_simp)
      have q2 : w1.cell? ⟨w.heap.size + 1, 2, none⟩ = some (.int .i64 0) := (by rw [hc1 _ _ (by simp <;> omega)]; go_simp)
      have fq2 : w1.frozen? ⟨w.heap.size + 1, 2, none⟩ = false := (by rw [hf1 _ _ (by simp <;> omega)]; go_simp)
      have HB1 := Lib.hid (((Below.refl w.heap.size w).alloc (Nat.le_refl _) _).alloc (by simp) _ |>.trans (bel1.mono (by simp; omega)))
      clear hc1 hf1 hz1 bel1
      go_wp2_with fail
      refine (HQ.out _).mono ?_
      rintro e w2 ⟨x2, rfl, hx2, bel2⟩
      obtain ⟨hc2, hf2⟩ := bcell bel2
      have hz2 := bel2.size
      have z2_0 : w.heap.size < w2.heap.size := (by omega)
      have z2_1 : w.heap.size + 1 < w2.heap.size := (by omega)
      have s0 : w2.cell? ⟨w.heap.size, 0, none⟩ = some (.slice A n c) := (by rw [hc2 _ _ z1_0]; exact s0)
      have s1 : w2.cell? ⟨w.heap.size, 1, none⟩ = some (.slice U n d) := (by rw [hc2 _ _ z1_0]; exact s1)
      have s2 : w2.cell? ⟨w.heap.size, 2, none⟩ = some (.int .i64 sp) := (by rw [hc2 _ _ z1_0]; exact s2)
      have q0 : w2.cell? ⟨w.heap.size + 1, 0, none⟩ = some (.slice none 0 0) := (by rw [hc2 _ _ z1_1]; exact q0)
      have fq0 : w2.frozen? ⟨w.heap.size + 1, 0, none⟩ = false := (by rw [hf2 _ _ z1_1]; exact fq0)
      have q1 : w2.cell? ⟨w.heap.size + 1, 1, none⟩ = some (.slice none 0 0) := (by rw [hc2 _ _ z1_1]; exact q1)
      have fq1 : w2.frozen? ⟨w.heap.size + 1, 1, none⟩ = false := (by rw [hf2 _ _ z1_1]; exact fq1)
      have q2 : w2.cell? ⟨w.heap.size + 1, 2, none⟩ = some (.int .i64 0) := (by rw [hc2 _ _ z1_1]; exact q2)
      have fq2 : w2.frozen? ⟨w.heap.size + 1, 2, none⟩ = false := (by rw [hf2 _ _ z1_1]; exact fq2)
      have HB2 := Lib.hid (HB1.out.trans (bel2.mono (by omega)))
      clear hc2 hf2 hz2 bel2
      clear HP HQ
      go_wp2
      refine bodyPost_ret (v := .tuple #[.agg #[.slice A n c, .slice U n d, .int .i64 sp], .bool false, .int .i64 4]) (by simp [results, Try.results40, go_sem, q0, q1, q2]) rfl ?_
      have bel := ((HB2.out.setCell (p := ⟨w.heap.size + 1, 0, none⟩) (by simp) (.slice A n c)).setCell (p := ⟨w.heap.size + 1, 1, none⟩) (by simp) (.slice U n d)).setCell (p := ⟨w.heap.size + 1, 2, none⟩) (by simp) (.int .i64 sp)
      exact ⟨_, _, _, _, rfl, (HBs.out.below bel).more bel.size, (HSl.out.below bel).more bel.size, hcap, hd, bel⟩

    · rw [h] at hp
      rw [h'] at hq
      have HP := Lib.hid hp
      have HQ := Lib.hid hq
      clear hp hq h h'
      go_enter Try.func40, Try.ntmps40
      go_wp2_with fail
      refine (HP.out _).mono ?_
      rintro e w1 ⟨x1, rfl, hx1, bel1⟩
      obtain ⟨hc1, hf1⟩ := bcell bel1
      have hz1 := bel1.size
      simp at hz1
      have z1_0 : w.heap.size < w1.heap.size := (by omega)
      have z1_1 : w.heap.size + 1 < w1.heap.size := (by omega)
      have s0 : w1.cell? ⟨w.heap.size, 0, none⟩ = some (.slice A n c) := (by rw [hc1 _ _ (by simp <;> omega)]; go_simp)
      have s1 : w1.cell? ⟨w.heap.size, 1, none⟩ = some (.slice U n d) := (by rw [hc1 _ _ (by simp <;> omega)]; go_simp)
      have s2 : w1.cell? ⟨w.heap.size, 2, none⟩ = some (.int .i64 sp) := (by rw [hc1 _ _ (by simp <;> omega)]; go_simp)
      have q0 : w1.cell? ⟨w.heap.size + 1, 0, none⟩ = some (.slice none 0 0) := (by rw [hc1 _ _ (by simp <;> omega)]; go_simp)
      have fq0 : w1.frozen? ⟨w.heap.size + 1, 0, none⟩ = false := (by rw [hf1 _ _ (by simp <;> omega)]; go_simp)
      have q1 : w1.cell? ⟨w.heap.size + 1, 1, none⟩ = some (.slice none 0 0) := (by rw [hc1 _ _ (by simp <;> omega)]; go_simp)
      have fq1 : w1.frozen? ⟨w.heap.size + 1, 1, none⟩ = false := (by rw [hf1 _ _ (by simp <;> omega)]; go_simp)
      have q2 : w1.cell? ⟨w.heap.size + 1, 2, none⟩ = some (.int .i64 0) := (by rw [hc1 _ _ (by simp <;> omega)]; go_simp)
      have fq2 : w1.frozen? ⟨w.heap.size + 1, 2, none⟩ = false := (by rw [hf1 _ _ (by simp <;> omega)]; go_simp)
      have HB1 := Lib.hid (((Below.refl w.heap.size w).alloc (Nat.le_refl _) _).alloc (by simp) _ |>.trans (bel1.mono (by simp; omega)))
      clear hc1 hf1 hz1 bel1
      go_wp2_with fail
      refine (HQ.out _).mono ?_
      rintro e w2 ⟨x2, rfl, hx2, bel2⟩
      obtain ⟨hc2, hf2⟩ := bcell bel2
      have hz2 := bel2.size
      have z2_0 : w.heap.size < w2.heap.size := (by omega)
      have z2_1 : w.heap.size + 1 < w2.heap.size := (by omega)
      have s0 : w2.cell? ⟨w.heap.size, 0, none⟩ = some (.slice A n c) := (by rw [hc2 _ _ z1_0]; exact s0)
      have s1 : w2.cell? ⟨w.heap.size, 1, none⟩ = some (.slice U n d) := (by rw [hc2 _ _ z1_0]; exact s1)
      have s2 : w2.cell? ⟨w.heap.size, 2, none⟩ = some (.int .i64 sp) := (by rw [hc2 _ _ z1_0]; exact s2)
      have q0 : w2.cell? ⟨w.heap.size + 1, 0, none⟩ = some (.slice none 0 0) := (by rw [hc2 _ _ z1_1]; exact q0)
      have fq0 : w2.frozen? ⟨w.heap.size + 1, 0, none⟩ = false := (by rw [hf2 _ _ z1_1]; exact fq0)
      have q1 : w2.cell? ⟨w.heap.size + 1, 1, none⟩ = some (.slice none 0 0) := (by rw [hc2 _ _ z1_1]; exact q1)
      have fq1 : w2.frozen? ⟨w.heap.size + 1, 1, none⟩ = false := (by rw [hf2 _ _ z1_1]; exact fq1)
      have q2 : w2.cell? ⟨w.heap.size + 1, 2, none⟩ = some (.int .i64 0) := (by rw [hc2 _ _ z1_1]; exact q2)
      have fq2 : w2.frozen? ⟨w.heap.size + 1, 2, none⟩ = false := (by rw [hf2 _ _ z1_1]; exact fq2)
      have HB2 := Lib.hid (HB1.out.trans (bel2.mono (by omega)))
      clear hc2 hf2 hz2 bel2
      clear HP HQ
      go_wp2
      refine bodyPost_ret (v := .tuple #[.agg #[.slice A n c, .slice U n d, .int .i64 sp], .bool false, .int .i64 4]) (by simp [results, Try.results40, go_sem, q0, q1, q2]) rfl ?_
      have bel := ((HB2.out.setCell (p := ⟨w.heap.size + 1, 0, none⟩) (by simp) (.slice A n c)).setCell (p := ⟨w.heap.size + 1, 1, none⟩) (by simp) (.slice U n d)).setCell (p := ⟨w.heap.size + 1, 2, none⟩) (by simp) (.int .i64 sp)
      exact ⟨_, _, _, _, rfl, (HBs.out.below bel).more bel.size, (HSl.out.below bel).more bel.size, hcap, hd, bel⟩

  · obtain ⟨ho, ho'⟩ : okV n sp dst size = true ∧ okV n sp fr size = true := by revert hok; cases okV n sp dst size <;> cases okV n sp fr size <;> simp
    obtain ⟨hs, hto0, hto1⟩ := HI.out.1 ho
    obtain ⟨-, hfr0, hfr1⟩ := HJ.out.1 ho'
    have hr16 := sizeB_range hs
    obtain ⟨k, rfl⟩ := Int.eq_ofNat_of_zero_le hto0
    obtain ⟨j, rfl⟩ := Int.eq_ofNat_of_zero_le hfr0
    obtain ⟨m, rfl⟩ := Int.eq_ofNat_of_zero_le (show 0 ≤ size by omega)
    have hm : 0 < m := by omega
    have hkm : sp + k + m ≤ n := by omega
    have hjm : sp + j + m ≤ n := by omega
    have HR := Lib.hid (show moveV n sp lb lu k j m = if usedV lu (sp + j) m = true then (0, true, splice lb (sp + k) ((lb.drop (sp + j)).take m), splice lu (sp + k) (List.replicate m true), sp) else (0, false, lb, lu, sp) by unfold moveV; rw [if_pos hok]; rfl)
    rw [ho] at hp
    rw [ho'] at hq
    have HP := Lib.hid hp
    have HQ := Lib.hid hq
    have HU := Lib.hid (fun (W : World) (h : Below w.heap.size w W) => used_any A U n c d sp (sp + j) m lu W w.heap.size (HSl.out.below h) h.size hn hd (by omega) hm)
    have HVB : Hid (∀ x ∈ (lb.drop (sp + j)).take m, x < 256) := Lib.hid (fun x hx => HBs.out.2 x (List.mem_of_mem_drop (List.mem_of_mem_take hx)))
    have C2 := Lib.hid (fun (W : World) (h : Below w.heap.size w W) => clone_any (A.map (·.add (sp + j))) m (c - (sp + j)) ((lb.drop (sp + j)).take m) W w.heap.size ((HBs.out.part hjm hm).below h) h.size (by omega))
    have hA : ∃ a, A = some a := by
      cases A with
      | none => have := HBs.out.none_n; omega
      | some a => exact ⟨a, rfl⟩
    obtain ⟨a, rfl⟩ := hA
    have hjc : sp + j ≠ c := by omega
    have HBB := Lib.hid HBs.out.2
    generalize (lb.drop (sp + j)).take m = vs at *
    have C3 := Lib.hid (fun (W : World) (hW : Below w.heap.size w W) (X : Option Addr) (cx : Nat) (hx : Bs W W.heap.size X m vs) => write_any (some a) U X n c d m cx sp (sp + k) lb vs lu W ((HBs.out.below hW).more hW.size) ((HSl.out.below hW).more hW.size) hx hn hcap hd hkm)
    clear hp hq HI HJ hok hs hto1 hfr1 ho ho'
    go_enter Try.func40, Try.ntmps40
    go_wp2_with fail
    refine (HP.out _).mono ?_
    rintro e w1 ⟨x1, rfl, hx1, bel1⟩
    obtain ⟨hc1, hf1⟩ := bcell bel1
    have hz1 := bel1.size
    simp at hz1
    have z1_0 : w.heap.size < w1.heap.size := (by omega)
    have z1_1 : w.heap.size + 1 < w1.heap.size := (by omega)
    have s0 : w1.cell? ⟨w.heap.size, 0, none⟩ = some (.slice (some a) n c) := (by rw [hc1 _ _ (by simp <;> omega)]; go_simp)
    have s1 : w1.cell? ⟨w.heap.size, 1, none⟩ = some (.slice U n d) := (by rw [hc1 _ _ (by simp <;> omega)]; go_simp)
    have s2 : w1.cell? ⟨w.heap.size, 2, none⟩ = some (.int .i64 sp) := (by rw [hc1 _ _ (by simp <;> omega)]; go_simp)
    have q0 : w1.cell? ⟨w.heap.size + 1, 0, none⟩ = some (.slice none 0 0) := (by rw [hc1 _ _ (by simp <;> omega)]; go_simp)
    have fq0 : w1.frozen? ⟨w.heap.size + 1, 0, none⟩ = false := (by rw [hf1 _ _ (by simp <;> omega)]; go_simp)
    have q1 : w1.cell? ⟨w.heap.size + 1, 1, none⟩ = some (.slice none 0 0) := (by rw [hc1 _ _ (by simp <;> omega)]; go_simp)
    have fq1 : w1.frozen? ⟨w.heap.size + 1, 1, none⟩ = false := (by rw [hf1 _ _ (by simp <;> omega)]; go_simp)
    have q2 : w1.cell? ⟨w.heap.size + 1, 2, none⟩ = some (.int .i64 0) := (by rw [hc1 _ _ (by simp <;> omega)]; go_simp)
    have fq2 : w1.frozen? ⟨w.heap.size + 1, 2, none⟩ = false := (by rw [hf1 _ _ (by simp <;> omega)]; go_simp)
    have HB1 := Lib.hid (((Below.refl w.heap.size w).alloc (Nat.le_refl _) _).alloc (by simp) _ |>.trans (bel1.mono (by simp; omega)))
    clear hc1 hf1 hz1 bel1
    go_wp2_with fail
    refine (HQ.out _).mono ?_
    rintro e w2 ⟨x2, rfl, hx2, bel2⟩
    obtain ⟨hc2, hf2⟩ := bcell bel2
    have hz2 := bel2.size
    have z2_0 : w.heap.size < w2.heap.size := (by omega)
    have z2_1 : w.heap.size + 1 < w2.heap.size := (by omega)
    have s0 : w2.cell? ⟨w.heap.size, 0, none⟩ = some (.slice (some a) n c) := (by rw [hc2 _ _ z1_0]; exact s0)
    have s1 : w2.cell? ⟨w.heap.size, 1, none⟩ = some (.slice U n d) := (by rw [hc2 _ _ z1_0]; exact s1)
    have s2 : w2.cell? ⟨w.heap.size, 2, none⟩ = some (.int .i64 sp) := (by rw [hc2 _ _ z1_0]; exact s2)
    have q0 : w2.cell? ⟨w.heap.size + 1, 0, none⟩ = some (.slice none 0 0) := (by rw [hc2 _ _ z1_1]; exact q0)
    have fq0 : w2.frozen? ⟨w.heap.size + 1, 0, none⟩ = false := (by rw [hf2 _ _ z1_1]; exact fq0)
    have q1 : w2.cell? ⟨w.heap.size + 1, 1, none⟩ = some (.slice none 0 0) := (by rw [hc2 _ _ z1_1]; exact q1)
    have fq1 : w2.frozen? ⟨w.heap.size + 1, 1, none⟩ = false := (by rw [hf2 _ _ z1_1]; exact fq1)
    have q2 : w2.cell? ⟨w.heap.size + 1, 2, none⟩ = some (.int .i64 0) := (by rw [hc2 _ _ z1_1]; exact q2)
    have fq2 : w2.frozen? ⟨w.heap.size + 1, 2, none⟩ = false := (by rw [hf2 _ _ z1_1]; exact fq2)
    have HB2 := Lib.hid (HB1.out.trans (bel2.mono (by omega)))
    clear hc2 hf2 hz2 bel2
    clear HP HQ
    obtain rfl := hx1 trivial
    obtain rfl := hx2 trivial
    go_wp2_with fail
    refine Calls.mono (HU.out _ HB2.out) ?_
    rintro e w3 ⟨rfl, bel3⟩
    obtain ⟨hc3, hf3⟩ := bcell bel3
    have hz3 := bel3.size
    have z3_0 : w.heap.size < w3.heap.size := (by omega)
    have z3_1 : w.heap.size + 1 < w3.heap.size := (by omega)
    have s0 : w3.cell? ⟨w.heap.size, 0, none⟩ = some (.slice (some a) n c) := (by rw [hc3 _ _ z2_0]; exact s0)
    have s1 : w3.cell? ⟨w.heap.size, 1, none⟩ = some (.slice U n d) := (by rw [hc3 _ _ z2_0]; exact s1)
    have s2 : w3.cell? ⟨w.heap.size, 2, none⟩ = some (.int .i64 sp) := (by rw [hc3 _ _ z2_0]; exact s2)
    have q0 : w3.cell? ⟨w.heap.size + 1, 0, none⟩ = some (.slice none 0 0) := (by rw [hc3 _ _ z2_1]; exact q0)
    have fq0 : w3.frozen? ⟨w.heap.size + 1, 0, none⟩ = false := (by rw [hf3 _ _ z2_1]; exact fq0)
    have q1 : w3.cell? ⟨w.heap.size + 1, 1, none⟩ = some (.slice none 0 0) := (by rw [hc3 _ _ z2_1]; exact q1)
    have fq1 : w3.frozen? ⟨w.heap.size + 1, 1, none⟩ = false := (by rw [hf3 _ _ z2_1]; exact fq1)
    have q2 : w3.cell? ⟨w.heap.size + 1, 2, none⟩ = some (.int .i64 0) := (by rw [hc3 _ _ z2_1]; exact q2)
    have fq2 : w3.frozen? ⟨w.heap.size + 1, 2, none⟩ = false := (by rw [hf3 _ _ z2_1]; exact fq2)
    have HB3 := Lib.hid (HB2.out.trans (bel3.mono (by omega)))
    clear hc3 hf3 hz3 bel3
    clear HU
    generalize usedV lu (sp + j) m = b at *
    cases b with
    | false =>
      go_wp2
      refine bodyPost_ret (v := .tuple #[.agg #[.slice (some a) n c, .slice U n d, .int .i64 sp], .bool false, .int .i64 0]) (by simp [results, Try.results40, go_sem, q0, q1, q2]) rfl ?_
      have bel := ((HB3.out.setCell (p := ⟨w.heap.size + 1, 0, none⟩) (by simp) (.slice (some a) n c)).setCell (p := ⟨w.heap.size + 1, 1, none⟩) (by simp) (.slice U n d)).setCell (p := ⟨w.heap.size + 1, 2, none⟩) (by simp) (.int .i64 sp)
      rw [HR.out]
      exact ⟨_, _, _, _, rfl, (HBs.out.below bel).more bel.size, (HSl.out.below bel).more bel.size, hcap, hd, bel⟩
    | true =>
      go_wp2_with fail
      have i1 : IntKind.i64.wrap ((sp : Int) + j + m) = sp + j + m := IntWalk.i64_in _ (by omega)
      have i2 : (0 : Int) ≤ (sp : Int) + j := by omega
      have i3 : (0 : Int) ≤ (sp : Int) + j + m := by omega
      have i4 : (sp : Int) + j ≤ (sp : Int) + j + m := by omega
      have i5 : (sp : Int) + j + m ≤ c := by omega
      have i6 : ((sp : Int) + j).toNat = sp + j := by omega
      have i7 : ((sp : Int) + j + m).toNat = sp + j + m := by omega
      have i8 : sp + j + m - (sp + j) = m := by omega
      have i9 : ¬ c = sp + j := fun e => hjc e.symm
      have i10 : ¬ sp + j = c := hjc
      go_region_with (first
        | (go_at_call 71; refine Calls.mono (C2.out _ (HB3.out.trans ((Below.refl w3.heap.size w3).drew.mono (by omega)))) ?_; rintro e w4 ⟨X, rfl, b4, bel4⟩; obtain ⟨X, cx, rfl, -⟩ := own_form b4; have bel4 : Below w3.heap.size w3 w4 := undrew bel4; obtain ⟨hc4, hf4⟩ := bcell bel4; have hz4 := bel4.size; have z4_0 : w.heap.size < w4.heap.size := (by omega); have z4_1 : w.heap.size + 1 < w4.heap.size := (by omega); have s0 : w4.cell? ⟨w.heap.size, 0, none⟩ = some (.slice (some a) n c) := (by rw [hc4 _ _ z3_0]; exact s0); have s1 : w4.cell? ⟨w.heap.size, 1, none⟩ = some (.slice U n d) := (by rw [hc4 _ _ z3_0]; exact s1); have s2 : w4.cell? ⟨w.heap.size, 2, none⟩ = some (.int .i64 sp) := (by rw [hc4 _ _ z3_0]; exact s2); have q0 : w4.cell? ⟨w.heap.size + 1, 0, none⟩ = some (.slice none 0 0) := (by rw [hc4 _ _ z3_1]; exact q0); have fq0 : w4.frozen? ⟨w.heap.size + 1, 0, none⟩ = false := (by rw [hf4 _ _ z3_1]; exact fq0); have q1 : w4.cell? ⟨w.heap.size + 1, 1, none⟩ = some (.slice none 0 0) := (by rw [hc4 _ _ z3_1]; exact q1); have fq1 : w4.frozen? ⟨w.heap.size + 1, 1, none⟩ = false := (by rw [hf4 _ _ z3_1]; exact fq1); have q2 : w4.cell? ⟨w.heap.size + 1, 2, none⟩ = some (.int .i64 0) := (by rw [hc4 _ _ z3_1]; exact q2); have fq2 : w4.frozen? ⟨w.heap.size + 1, 2, none⟩ = false := (by rw [hf4 _ _ z3_1]; exact fq2); have HB4 := Lib.hid (HB3.out.trans (bel4.mono (by omega))); clear hc4 hf4 hz4 bel4; have BS4 := Lib.hid (Bs.of_own b4 HVB.out); clear b4)
        | (go_at_call 63; refine Calls.mono (C3.out _ HB4.out X cx BS4.out) ?_; rintro e w5 ⟨A5, c5, U5, d5, rfl, b5, t5, j1, j2, bel5⟩; have b5 := own_base (base' := w.heap.size + 2) b5 (by omega); have t5 := own_base (base' := w.heap.size + 2) t5 (by omega); obtain ⟨hc5, hf5⟩ := bcell bel5; have hz5 := bel5.size; have z5_0 : w.heap.size < w5.heap.size := (by omega); have z5_1 : w.heap.size + 1 < w5.heap.size := (by omega); have s0 : w5.cell? ⟨w.heap.size, 0, none⟩ = some (.slice (some a) n c) := (by rw [hc5 _ _ z4_0]; exact s0); have s1 : w5.cell? ⟨w.heap.size, 1, none⟩ = some (.slice U n d) := (by rw [hc5 _ _ z4_0]; exact s1); have s2 : w5.cell? ⟨w.heap.size, 2, none⟩ = some (.int .i64 sp) := (by rw [hc5 _ _ z4_0]; exact s2); have q0 : w5.cell? ⟨w.heap.size + 1, 0, none⟩ = some (.slice none 0 0) := (by rw [hc5 _ _ z4_1]; exact q0); have fq0 : w5.frozen? ⟨w.heap.size + 1, 0, none⟩ = false := (by rw [hf5 _ _ z4_1]; exact fq0); have q1 : w5.cell? ⟨w.heap.size + 1, 1, none⟩ = some (.slice none 0 0) := (by rw [hc5 _ _ z4_1]; exact q1); have fq1 : w5.frozen? ⟨w.heap.size + 1, 1, none⟩ = false := (by rw [hf5 _ _ z4_1]; exact fq1); have q2 : w5.cell? ⟨w.heap.size + 1, 2, none⟩ = some (.int .i64 0) := (by rw [hc5 _ _ z4_1]; exact q2); have fq2 : w5.frozen? ⟨w.heap.size + 1, 2, none⟩ = false := (by rw [hf5 _ _ z4_1]; exact fq2); have HB5 := Lib.hid (HB4.out.trans (bel5.mono (by omega))); clear hc5 hf5 hz5 bel5; have BS5 := Lib.hid b5; have SL5 := Lib.hid t5; clear b5 t5))
      all_goals
        go_wp2
        refine bodyPost_ret (v := .tuple #[.agg #[.slice A5 n c5, .slice U5 n d5, .int .i64 sp], .bool true, .int .i64 0]) (by simp [results, Try.results40, go_sem, q0, q1, q2]) rfl ?_
        have bel := ((HB5.out.setCell (p := ⟨w.heap.size + 1, 0, none⟩) (by simp) (.slice A5 n c5)).setCell (p := ⟨w.heap.size + 1, 1, none⟩) (by simp) (.slice U5 n d5)).setCell (p := ⟨w.heap.size + 1, 2, none⟩) (by simp) (.int .i64 sp)
        rw [HR.out]
        refine ⟨_, _, _, _, rfl, Bs.of_own (own_setCell (own_setCell (own_setCell BS5.out _ ?_ _) _ ?_ _) _ ?_ _) (splice_lt HBB.out HVB.out), Sl.of_own (own_setCell (own_setCell (own_setCell SL5.out _ ?_ _) _ ?_ _) _ ?_ _), j1, j2, bel⟩
        all_goals (show w.heap.size + 1 < w.heap.size + 2; omega)
end Go.Proofs.Ytgamodmenlhedaa
