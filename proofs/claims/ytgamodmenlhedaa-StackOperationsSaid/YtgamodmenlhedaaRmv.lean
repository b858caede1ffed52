/- The contract of Move of the reference. -/
import Derived.Test.YtgamodmenlhedaaZ
namespace Go.Proofs.Ytgamodmenlhedaa
open Go.RowKit
set_option linter.unusedVariables false
set_option maxRecDepth 10000

theorem le_digs_self (l : List Nat) (h : ∀ x ∈ l, x < 256) : digs (le l) l.length = l := by
  induction l with
  | nil => rfl
  | cons x l ih =>
    have hx := h x (by simp)
    have ih := ih (fun y hy => h y (by simp [hy]))
    unfold digs at *
    rw [List.length_cons, List.range_succ_eq_map, List.map_cons, List.map_map]
    congr 1
    · simp [le]; omega
    · refine Eq.trans ?_ ih
      apply List.map_congr_left
      intro k _
      simp only [Function.comp, le, Nat.pow_succ]
      rw [show 256 ^ k * 256 = 256 * 256 ^ k by rw [Nat.mul_comm], ← Nat.div_div_eq_div_mul, show (x + 256 * le l) / 256 = le l by omega]
theorem bytesV_eq (a b n : Nat) (hn : n ≤ 16) : bytesV a b n = digs a (min n 8) ++ digs b (n - 8) := by
  have h1 := bytesV_take a b n
  have h2 := bytesV_drop a b n hn
  have h3 : ((bytesV a b n).drop 8).take 8 = (bytesV a b n).drop 8 := List.take_of_length_le (by simp [bytesV_len]; omega)
  rw [← h1, ← h2, h3, List.take_append_drop]
theorem bytesV_self (l : List Nat) (h : ∀ x ∈ l, x < 256) (hl : l.length ≤ 16) : bytesV (loV l) (hiV l) l.length = l := by
  rw [bytesV_eq _ _ _ hl]
  have h1 := le_digs_self (l.take 8) (fun x hx => h x (List.mem_of_mem_take hx))
  have h2 := le_digs_self (l.drop 8) (fun x hx => h x (List.mem_of_mem_drop hx))
  have h3 : (l.drop 8).take 8 = l.drop 8 := List.take_of_length_le (by simp; omega)
  unfold loV hiV
  rw [h3]
  rw [show (l.take 8).length = min l.length 8 by simp; omega] at h1
  rw [show (l.drop 8).length = l.length - 8 by simp] at h2
  rw [h1, h2, List.take_append_drop]

set_option maxHeartbeats 4000000 in
theorem refmove_any (A U : Option Addr) (n c d sp : Nat) (lb : List Nat) (lu : List Bool) (dst fr size : Int) (t0 : -9223372036854775808 ≤ dst) (t1 : dst ≤ 9223372036854775807) (h0 : -9223372036854775808 ≤ fr) (h1 : fr ≤ 9223372036854775807) (g0 : -9223372036854775808 ≤ size) (g1 : size ≤ 9223372036854775807)
    (w : World) (hb : Bs w w.heap.size A n lb) (hu : Sl Value.bool w w.heap.size U n lu) (hn : n ≤ 1048576) (hsp : sp ≤ n) (hcap : n ≤ c) (hd : n ≤ d) :
    Calls Try.prog 75 #[.agg #[.slice A n c, .slice U n d, .int .i64 sp], .int .i64 dst, .int .i64 fr, .int .i64 size] w (MoveR w n (moveV n sp lb lu dst fr size)) := by
  have hp := fun W : World => right_any A U n c n d sp dst size t0 t1 g0 g1 hn hsp W
  have hq := fun W : World => right_any A U n c n d sp fr size h0 h1 g0 g1 hn hsp W
  have HI := Lib.hid (okV_iff n sp dst size)
  have HJ := Lib.hid (okV_iff n sp fr size)
  have HBs := Lib.hid hb
  have HSl := Lib.hid hu
  clear hb hu
  rcases hok : (okV n sp dst size && okV n sp fr size) with _ | _
  · have hr : moveV n sp lb lu dst fr size = (4, false, lb, lu, sp) := by unfold moveV; rw [hok]; rfl
    rw [hr]
    have hcase : okV n sp dst size = false ∨ (okV n sp dst size = true ∧ okV n sp fr size = false) := by
      revert hok; cases okV n sp dst size <;> cases okV n sp fr size <;> simp
    clear hr hok HI HJ
    rcases hcase with h | ⟨h, h'⟩
    · rw [h] at hp
      have HP := Lib.hid hp
      clear hp hq h
      go_enter Try.func75, Try.ntmps75
      go_wp2_with fail
      refine (HP.out _).mono ?_
      rintro e w1 ⟨rfl, bel1⟩
      obtain ⟨hc1, hf1⟩ := bcell bel1
      have hz1 := bel1.size
      simp at hz1
      have z1_0 : w.heap.size < w1.heap.size := (by omega)
      have z1_1 : w.heap.size + 1 < w1.heap.size := (by omega)
      have s0 : w1.cell? ⟨w.heap.size, 0, none⟩ = some (.slice A n c) := (by rw [hc1 _ _ (by simp <;> omega)]; go_simp)
      have s1 : w1.cell? ⟨w.heap.size, 1, none⟩ = some (.slice U n d) := (by rw [hc1 _ _ (by simp <;> omega)]; go_simp)
      have s2 : w1.cell? ⟨w.heap.size, 2, none⟩ = some (.int .i64 sp) := (by rw [hc1 _ _ (by simp <;> omega)]; go_simp)
      have q0 : w1.cell? ⟨w.heap.size + 1, 0, none⟩ = some (.slice none 0 0) := (by rw [hc1 _ _ (by simp <;> omega)]; go_simp)
      have fq0 : w1.frozen? ⟨w.heap.size + 1, 0, none⟩ = false := (by rw [hf1 _ _ (by simp <;> omega)]; go_simp)
      have q1 : w1.cell? ⟨w.heap.size + 1, 1, none⟩ = some (.slice none 0 0) := (by rw [hc1 _ _ (by simp <;> omega)]; go_simp)
      have fq1 : w1.frozen? ⟨w.heap.size + 1, 1, none⟩ = false := (by rw [hf1 _ _ (by simp <;> omega)]; go_simp)
      have q2 : w1.cell? ⟨w.heap.size + 1, 2, none⟩ = some (.int .i64 0) := (by rw [hc1 _ _ (by simp <;> omega)]; go_simp)
      have fq2 : w1.frozen? ⟨w.heap.size + 1, 2, none⟩ = false := (by rw [hf1 _ _ (by simp <;> omega)]; go_simp)
      have HB1 := Lib.hid (((Below.refl w.heap.size w).alloc (Nat.le_refl _) _).alloc (by simp) _ |>.trans (bel1.mono (by simp; omega)))
      have KR1 := Lib.hid (Blk.below (show Blk _ (w.heap.size + 1) 55 #[.slice none 0 0, .slice none 0 0, .int .i64 0] from Blk.newAt (by simp)) bel1 (by simp))
      clear hc1 hf1 hz1 bel1
      clear HP
      go_wp2
      refine bodyPost_ret (v := .tuple #[.agg #[.slice A n c, .slice U n d, .int .i64 sp], .bool false, .int .i64 4]) (by simp [results, Try.results75, go_sem, q0, q1, q2]) rfl ?_
      have bel := ((HB1.out.setCell (p := ⟨w.heap.size + 1, 0, none⟩) (by simp) (.slice A n c)).setCell (p := ⟨w.heap.size + 1, 1, none⟩) (by simp) (.slice U n d)).setCell (p := ⟨w.heap.size + 1, 2, none⟩) (by simp) (.int .i64 sp)
      exact ⟨_, _, _, _, rfl, (HBs.out.below bel).more bel.size, (HSl.out.below bel).more bel.size, hcap, hd, bel⟩

    · rw [h] at hp
      rw [h'] at hq
      have HP := Lib.hid hp
      have HQ := Lib.hid hq
      clear hp hq h h'
      go_enter Try.func75, Try.ntmps75
      go_wp2_with fail
      refine (HP.out _).mono ?_
      rintro e w1 ⟨rfl, bel1⟩
      obtain ⟨hc1, hf1⟩ := bcell bel1
      have hz1 := bel1.size
      simp at hz1
      have z1_0 : w.heap.size < w1.heap.size := (by omega)
      have z1_1 : w.heap.size + 1 < w1.heap.size := (by omega)
      have s0 : w1.cell? ⟨w.heap.size, 0, none⟩ = some (.slice A n c) := (by rw [hc1 _ _ (by simp <;> omega)]; go_simp)
      have s1 : w1.cell? ⟨w.heap.size, 1, none⟩ = some (.slice U n d) := (by rw [hc1 _ _ (by simp <;> omega)]; go_simp)
      have s2 : w1.cell? ⟨w.heap.size, 2, none⟩ = some (.int .i64 sp) := (by rw [hc1 _ _ (by simp <;> omega)]; go_simp)
      have q0 : w1.cell? ⟨w.heap.size + 1, 0, none⟩ = some (.slice none 0 0) := (by rw [hc1 _ _ (by simp <;> omega)]; go_simp)
      have fq0 : w1.frozen? ⟨w.heap.size + 1, 0, none⟩ = false := (by rw [hf1 _ _ (by simp <;> omega)]; go_simp)
      have q1 : w1.cell? ⟨w.heap.size + 1, 1, none⟩ = some (.slice none 0 0) := (by rw [hc1 _ _ (by simp <;> omega)]; go_simp)
      have fq1 : w1.frozen? ⟨w.heap.size + 1, 1, none⟩ = false := (by rw [hf1 _ _ (by simp <;> omega)]; go_simp)
      have q2 : w1.cell? ⟨w.heap.size + 1, 2, none⟩ = some (.int .i64 0) := (by rw [hc1 _ _ (by simp <;> omega)]; go_simp)
      have fq2 : w1.frozen? ⟨w.heap.size + 1, 2, none⟩ = false := (by rw [hf1 _ _ (by simp <;> omega)]; go_simp)
      have HB1 := Lib.hid (((Below.refl w.heap.size w).alloc (Nat.le_refl _) _).alloc (by simp) _ |>.trans (bel1.mono (by simp; omega)))
      have KR1 := Lib.hid (Blk.below (show Blk _ (w.heap.size + 1) 55 #[.slice none 0 0, .slice none 0 0, .int .i64 0] from Blk.newAt (by simp)) bel1 (by simp))
      clear hc1 hf1 hz1 bel1
      go_wp2_with fail
      refine (HQ.out _).mono ?_
      rintro e w2 ⟨rfl, bel2⟩
      obtain ⟨hc2, hf2⟩ := bcell bel2
      have hz2 := bel2.size
      have z2_0 : w.heap.size < w2.heap.size := (by omega)
      have z2_1 : w.heap.size + 1 < w2.heap.size := (by omega)
      have s0 : w2.cell? ⟨w.heap.size, 0, none⟩ = some (.slice A n c) := (by rw [hc2 _ _ z1_0]; exact s0)
      have s1 : w2.cell? ⟨w.heap.size, 1, none⟩ = some (.slice U n d) := (by rw [hc2 _ _ z1_0]; exact s1)
      have s2 : w2.cell? ⟨w.heap.size, 2, none⟩ = some (.int .i64 sp) := (by rw [hc2 _ _ z1_0]; exact s2)
      have q0 : w2.cell? ⟨w.heap.size + 1, 0, none⟩ = some (.slice none 0 0) := (by rw [hc2 _ _ z1_1]; exact q0)
      have fq0 : w2.frozen? ⟨w.heap.size + 1, 0, none⟩ = false := (by rw [hf2 _ _ z1_1]; exact fq0)
      have q1 : w2.cell? ⟨w.heap.size + 1, 1, none⟩ = some (.slice none 0 0) := (by rw [hc2 _ _ z1_1]; exact q1)
      have fq1 : w2.frozen? ⟨w.heap.size + 1, 1, none⟩ = false := (by rw [hf2 _ _ z1_1]; exact fq1)
      have q2 : w2.cell? ⟨w.heap.size + 1, 2, none⟩ = some (.int .i64 0) := (by rw [hc2 _ _ z1_1]; exact q2)
      have fq2 : w2.frozen? ⟨w.heap.size + 1, 2, none⟩ = false := (by rw [hf2 _ _ z1_1]; exact fq2)
      have HB2 := Lib.hid (HB1.out.trans (bel2.mono (by omega)))
      have KR2 := Lib.hid (KR1.out.below bel2 (by omega))
      clear hc2 hf2 hz2 bel2
      clear HP HQ
      go_wp2
      refine bodyPost_ret (v := .tuple #[.agg #[.slice A n c, .slice U n d, .int .i64 sp], .bool false, .int .i64 4]) (by simp [results, Try.results75, go_sem, q0, q1, q2]) rfl ?_
      have bel := ((HB2.out.setCell (p := ⟨w.heap.size + 1, 0, none⟩) (by simp) (.slice A n c)).setCell (p := ⟨w.heap.size + 1, 1, none⟩) (by simp) (.slice U n d)).setCell (p := ⟨w.heap.size + 1, 2, none⟩) (by simp) (.int .i64 sp)
      exact ⟨_, _, _, _, rfl, (HBs.out.below bel).more bel.size, (HSl.out.below bel).more bel.size, hcap, hd, bel⟩

  · obtain ⟨ho, ho'⟩ : okV n sp dst size = true ∧ okV n sp fr size = true := by revert hok; cases okV n sp dst size <;> cases okV n sp fr size <;> simp
    obtain ⟨hs, hto0, hto1⟩ := HI.out.1 ho
    obtain ⟨-, hfr0, hfr1⟩ := HJ.out.1 ho'
    have hr16 := sizeB_range hs
    obtain ⟨k, rfl⟩ := Int.eq_ofNat_of_zero_le hto0
    obtain ⟨j, rfl⟩ := Int.eq_ofNat_of_zero_le hfr0
    obtain ⟨m, rfl⟩ := Int.eq_ofNat_of_zero_le (show 0 ≤ size by omega)
    have hm : 0 < m := by omega
    have hkm : sp + k + m ≤ n := by omega
    have hjm : sp + j + m ≤ n := by omega
    have hlen : ((lb.drop (sp + j)).take m).length = m := by have := HBs.out.len; simp; omega
    have HVB : ∀ x ∈ (lb.drop (sp + j)).take m, x < 256 := fun x hx => HBs.out.2 x (List.mem_of_mem_drop (List.mem_of_mem_take hx))
    have hlv := loadV n sp lb lu j m
    have HL := Lib.hid (show loadV n sp lb lu j m = if usedV lu (sp + j) m = true then ((loV ((lb.drop (sp + j)).take m), hiV ((lb.drop (sp + j)).take m)), true, 0) else ((0, 0), false, 0) by unfold loadV; rw [if_pos ho']; rfl)
    have HS := Lib.hid (show storeV n sp lb lu (loV ((lb.drop (sp + j)).take m)) (hiV ((lb.drop (sp + j)).take m)) k m = (0, splice lb (sp + k) ((lb.drop (sp + j)).take m), splice lu (sp + k) (List.replicate m true), sp) by
      unfold storeV; rw [if_pos ho]
      have := bytesV_self _ HVB (by omega)
      rw [hlen] at this
      rw [show (m : Int).toNat = m from rfl, this]; rfl)
    have HR := Lib.hid (show moveV n sp lb lu k j m = if usedV lu (sp + j) m = true then (0, true, splice lb (sp + k) ((lb.drop (sp + j)).take m), splice lu (sp + k) (List.replicate m true), sp) else (0, false, lb, lu, sp) by unfold moveV; rw [if_pos hok]; rfl)
    have C2 := Lib.hid (fun (W : World) (h : Below w.heap.size w W) => refload_any A U n c d sp lb lu j m h0 h1 g0 g1 W ((HBs.out.below h).more h.size) ((HSl.out.below h).more h.size) hn hsp hcap hd)
    have C3 := Lib.hid (fun (W : World) (h : Below w.heap.size w W) => refstore_any A U n c d sp lb lu k m t0 t1 g0 g1 _ _ (loV_lt _ HVB) (hiV_lt _ HVB) W ((HBs.out.below h).more h.size) ((HSl.out.below h).more h.size) hn hsp hcap hd)
    unfold LoadR at C2
    unfold StkR at C3
    rw [HL.out] at C2
    rw [HS.out] at C3
    clear HL HS
    rw [ho] at hp
    rw [ho'] at hq
    have HP := Lib.hid hp
    have HQ := Lib.hid hq
    rw [HR.out]
    generalize (lb.drop (sp + j)).take m = vs at *
    generalize loV vs = lo at *
    generalize hiV vs = hi at *
    generalize splice lb (sp + k) vs = lb' at *
    generalize splice lu (sp + k) (List.replicate m true) = lu' at *
    generalize usedV lu (sp + j) m = b at *
    clear hp hq HI HJ hok hs hto1 hfr1 ho ho' HR HVB hlen hlv
    cases b with
    | false =>
      simp only [Bool.false_eq_true, if_false] at C2 ⊢
      go_enter Try.func75, Try.ntmps75
      go_wp2_with fail
      refine (HP.out _).mono ?_
      rintro e w1 ⟨rfl, bel1⟩
      obtain ⟨hc1, hf1⟩ := bcell bel1
      have hz1 := bel1.size
      simp at hz1
      have z1_0 : w.heap.size < w1.heap.size := (by omega)
      have z1_1 : w.heap.size + 1 < w1.heap.size := (by omega)
      have s0 : w1.cell? ⟨w.heap.size, 0, none⟩ = some (.slice A n c) := (by rw [hc1 _ _ (by simp <;> omega)]; go_simp)
      have s1 : w1.cell? ⟨w.heap.size, 1, none⟩ = some (.slice U n d) := (by rw [hc1 _ _ (by simp <;> omega)]; go_simp)
      have s2 : w1.cell? ⟨w.heap.size, 2, none⟩ = some (.int .i64 sp) := (by rw [hc1 _ _ (by simp <;> omega)]; go_simp)
      have q0 : w1.cell? ⟨w.heap.size + 1, 0, none⟩ = some (.slice none 0 0) := (by rw [hc1 _ _ (by simp <;> omega)]; go_simp)
      have fq0 : w1.frozen? ⟨w.heap.size + 1, 0, none⟩ = false := (by rw [hf1 _ _ (by simp <;> omega)]; go_simp)
      have q1 : w1.cell? ⟨w.heap.size + 1, 1, none⟩ = some (.slice none 0 0) := (by rw [hc1 _ _ (by simp <;> omega)]; go_simp)
      have fq1 : w1.frozen? ⟨w.heap.size + 1, 1, none⟩ = false := (by rw [hf1 _ _ (by simp <;> omega)]; go_simp)
      have q2 : w1.cell? ⟨w.heap.size + 1, 2, none⟩ = some (.int .i64 0) := (by rw [hc1 _ _ (by simp <;> omega)]; go_simp)
      have fq2 : w1.frozen? ⟨w.heap.size + 1, 2, none⟩ = false := (by rw [hf1 _ _ (by simp <;> omega)]; go_simp)
      have HB1 := Lib.hid (((Below.refl w.heap.size w).alloc (Nat.le_refl _) _).alloc (by simp) _ |>.trans (bel1.mono (by simp; omega)))
      have KR1 := Lib.hid (Blk.below (show Blk _ (w.heap.size + 1) 55 #[.slice none 0 0, .slice none 0 0, .int .i64 0] from Blk.newAt (by simp)) bel1 (by simp))
      clear hc1 hf1 hz1 bel1
      go_wp2_with fail
      refine (HQ.out _).mono ?_
      rintro e w2 ⟨rfl, bel2⟩
      obtain ⟨hc2, hf2⟩ := bcell bel2
      have hz2 := bel2.size
      have z2_0 : w.heap.size < w2.heap.size := (by omega)
      have z2_1 : w.heap.size + 1 < w2.heap.size := (by omega)
      have s0 : w2.cell? ⟨w.heap.size, 0, none⟩ = some (.slice A n c) := (by rw [hc2 _ _ z1_0]; exact s0)
      have s1 : w2.cell? ⟨w.heap.size, 1, none⟩ = some (.slice U n d) := (by rw [hc2 _ _ z1_0]; exact s1)
      have s2 : w2.cell? ⟨w.heap.size, 2, none⟩ = some (.int .i64 sp) := (by rw [hc2 _ _ z1_0]; exact s2)
      have q0 : w2.cell? ⟨w.heap.size + 1, 0, none⟩ = some (.slice none 0 0) := (by rw [hc2 _ _ z1_1]; exact q0)
      have fq0 : w2.frozen? ⟨w.heap.size + 1, 0, none⟩ = false := (by rw [hf2 _ _ z1_1]; exact fq0)
      have q1 : w2.cell? ⟨w.heap.size + 1, 1, none⟩ = some (.slice none 0 0) := (by rw [hc2 _ _ z1_1]; exact q1)
      have fq1 : w2.frozen? ⟨w.heap.size + 1, 1, none⟩ = false := (by rw [hf2 _ _ z1_1]; exact fq1)
      have q2 : w2.cell? ⟨w.heap.size + 1, 2, none⟩ = some (.int .i64 0) := (by rw [hc2 _ _ z1_1]; exact q2)
      have fq2 : w2.frozen? ⟨w.heap.size + 1, 2, none⟩ = false := (by rw [hf2 _ _ z1_1]; exact fq2)
      have HB2 := Lib.hid (HB1.out.trans (bel2.mono (by omega)))
      have KR2 := Lib.hid (KR1.out.below bel2 (by omega))
      clear hc2 hf2 hz2 bel2
      clear HP HQ
      go_wp2_with fail
      refine Calls.mono (C2.out _ HB2.out) ?_
      rintro e w3 ⟨rfl, bel3⟩
      obtain ⟨hc3, hf3⟩ := bcell bel3
      have hz3 := bel3.size
      have z3_0 : w.heap.size < w3.heap.size := (by omega)
      have z3_1 : w.heap.size + 1 < w3.heap.size := (by omega)
      have s0 : w3.cell? ⟨w.heap.size, 0, none⟩ = some (.slice A n c) := (by rw [hc3 _ _ z2_0]; exact s0)
      have s1 : w3.cell? ⟨w.heap.size, 1, none⟩ = some (.slice U n d) := (by rw [hc3 _ _ z2_0]; exact s1)
      have s2 : w3.cell? ⟨w.heap.size, 2, none⟩ = some (.int .i64 sp) := (by rw [hc3 _ _ z2_0]; exact s2)
      have q0 : w3.cell? ⟨w.heap.size + 1, 0, none⟩ = some (.slice none 0 0) := (by rw [hc3 _ _ z2_1]; exact q0)
      have fq0 : w3.frozen? ⟨w.heap.size + 1, 0, none⟩ = false := (by rw [hf3 _ _ z2_1]; exact fq0)
      have q1 : w3.cell? ⟨w.heap.size + 1, 1, none⟩ = some (.slice none 0 0) := (by rw [hc3 _ _ z2_1]; exact q1)
      have fq1 : w3.frozen? ⟨w.heap.size + 1, 1, none⟩ = false := (by rw [hf3 _ _ z2_1]; exact fq1)
      have q2 : w3.cell? ⟨w.heap.size + 1, 2, none⟩ = some (.int .i64 0) := (by rw [hc3 _ _ z2_1]; exact q2)
      have fq2 : w3.frozen? ⟨w.heap.size + 1, 2, none⟩ = false := (by rw [hf3 _ _ z2_1]; exact fq2)
      have HB3 := Lib.hid (HB2.out.trans (bel3.mono (by omega)))
      have KR3 := Lib.hid (KR2.out.below bel3 (by omega))
      clear hc3 hf3 hz3 bel3
      clear C2 C3
      go_wp2
      refine bodyPost_ret (v := .tuple #[.agg #[.slice A n c, .slice U n d, .int .i64 sp], .bool false, .int .i64 0]) (by simp [results, Try.results75, go_sem, q0, q1, q2, z3_1]) rfl ?_
      have bel := Below.alloc (((HB3.out.setCell (p := ⟨w.heap.size + 1, 0, none⟩) (by simp) (.slice A n c)).setCell (p := ⟨w.heap.size + 1, 1, none⟩) (by simp) (.slice U n d)).setCell (p := ⟨w.heap.size + 1, 2, none⟩) (by simp) (.int .i64 sp)) (by simp; omega) (.cells #[.int .u64 0, .int .u64 0] 52)
      exact ⟨_, _, _, _, rfl, (HBs.out.below bel).more bel.size, (HSl.out.below bel).more bel.size, hcap, hd, bel⟩
    | true =>
      simp only [if_true] at C2 ⊢
      go_enter Try.func75, Try.ntmps75
      go_wp2_with fail
      refine (HP.out _).mono ?_
      rintro e w1 ⟨rfl, bel1⟩
      obtain ⟨hc1, hf1⟩ := bcell bel1
      have hz1 := bel1.size
      simp at hz1
      have z1_0 : w.heap.size < w1.heap.size := (by omega)
      have z1_1 : w.heap.size + 1 < w1.heap.size := (by omega)
      have s0 : w1.cell? ⟨w.heap.size, 0, none⟩ = some (.slice A n c) := (by rw [hc1 _ _ (by simp <;> omega)]; go_simp)
      have s1 : w1.cell? ⟨w.heap.size, 1, none⟩ = some (.slice U n d) := (by rw [hc1 _ _ (by simp <;> omega)]; go_simp)
      have s2 : w1.cell? ⟨w.heap.size, 2, none⟩ = some (.int .i64 sp) := (by rw [hc1 _ _ (by simp <;> omega)]; go_simp)
      have q0 : w1.cell? ⟨w.heap.size + 1, 0, none⟩ = some (.slice none 0 0) := (by rw [hc1 _ _ (by simp <;> omega)]; go_simp)
      have fq0 : w1.frozen? ⟨w.heap.size + 1, 0, none⟩ = false := (by rw [hf1 _ _ (by simp <;> omega)]; go_simp)
      have q1 : w1.cell? ⟨w.heap.size + 1, 1, none⟩ = some (.slice none 0 0) := (by rw [hc1 _ _ (by simp <;> omega)]; go_simp)
      have fq1 : w1.frozen? ⟨w.heap.size + 1, 1, none⟩ = false := (by rw [hf1 _ _ (by simp <;> omega)]; go_simp)
      have q2 : w1.cell? ⟨w.heap.size + 1, 2, none⟩ = some (.int .i64 0) := (by rw [hc1 _ _ (by simp <;> omega)]; go_simp)
      have fq2 : w1.frozen? ⟨w.heap.size + 1, 2, none⟩ = false := (by rw [hf1 _ _ (by simp <;> omega)]; go_simp)
      have HB1 := Lib.hid (((Below.refl w.heap.size w).alloc (Nat.le_refl _) _).alloc (by simp) _ |>.trans (bel1.mono (by simp; omega)))
      have KR1 := Lib.hid (Blk.below (show Blk _ (w.heap.size + 1) 55 #[.slice none 0 0, .slice none 0 0, .int .i64 0] from Blk.newAt (by simp)) bel1 (by simp))
      clear hc1 hf1 hz1 bel1
      go_wp2_with fail
      refine (HQ.out _).mono ?_
      rintro e w2 ⟨rfl, bel2⟩
      obtain ⟨hc2, hf2⟩ := bcell bel2
      have hz2 := bel2.size
      have z2_0 : w.heap.size < w2.heap.size := (by omega)
      have z2_1 : w.heap.size + 1 < w2.heap.size := (by omega)
      have s0 : w2.cell? ⟨w.heap.size, 0, none⟩ = some (.slice A n c) := (by rw [hc2 _ _ z1_0]; exact s0)
      have s1 : w2.cell? ⟨w.heap.size, 1, none⟩ = some (.slice U n d) := (by rw [hc2 _ _ z1_0]; exact s1)
      have s2 : w2.cell? ⟨w.heap.size, 2, none⟩ = some (.int .i64 sp) := (by rw [hc2 _ _ z1_0]; exact s2)
      have q0 : w2.cell? ⟨w.heap.size + 1, 0, none⟩ = some (.slice none 0 0) := (by rw [hc2 _ _ z1_1]; exact q0)
      have fq0 : w2.frozen? ⟨w.heap.size + 1, 0, none⟩ = false := (by rw [hf2 _ _ z1_1]; exact fq0)
      have q1 : w2.cell? ⟨w.heap.size + 1, 1, none⟩ = some (.slice none 0 0) := (by rw [hc2 _ _ z1_1]; exact q1)
      have fq1 : w2.frozen? ⟨w.heap.size + 1, 1, none⟩ = false := (by rw [hf2 _ _ z1_1]; exact fq1)
      have q2 : w2.cell? ⟨w.heap.size + 1, 2, none⟩ = some (.int .i64 0) := (by rw [hc2 _ _ z1_1]; exact q2)
      have fq2 : w2.frozen? ⟨w.heap.size + 1, 2, none⟩ = false := (by rw [hf2 _ _ z1_1]; exact fq2)
      have HB2 := Lib.hid (HB1.out.trans (bel2.mono (by omega)))
      have KR2 := Lib.hid (KR1.out.below bel2 (by omega))
      clear hc2 hf2 hz2 bel2
      clear HP HQ
      go_wp2_with fail
      refine Calls.mono (C2.out _ HB2.out) ?_
      rintro e w3 ⟨rfl, bel3⟩
      obtain ⟨hc3, hf3⟩ := bcell bel3
      have hz3 := bel3.size
      have z3_0 : w.heap.size < w3.heap.size := (by omega)
      have z3_1 : w.heap.size + 1 < w3.heap.size := (by omega)
      have s0 : w3.cell? ⟨w.heap.size, 0, none⟩ = some (.slice A n c) := (by rw [hc3 _ _ z2_0]; exact s0)
      have s1 : w3.cell? ⟨w.heap.size, 1, none⟩ = some (.slice U n d) := (by rw [hc3 _ _ z2_0]; exact s1)
      have s2 : w3.cell? ⟨w.heap.size, 2, none⟩ = some (.int .i64 sp) := (by rw [hc3 _ _ z2_0]; exact s2)
      have q0 : w3.cell? ⟨w.heap.size + 1, 0, none⟩ = some (.slice none 0 0) := (by rw [hc3 _ _ z2_1]; exact q0)
      have fq0 : w3.frozen? ⟨w.heap.size + 1, 0, none⟩ = false := (by rw [hf3 _ _ z2_1]; exact fq0)
      have q1 : w3.cell? ⟨w.heap.size + 1, 1, none⟩ = some (.slice none 0 0) := (by rw [hc3 _ _ z2_1]; exact q1)
      have fq1 : w3.frozen? ⟨w.heap.size + 1, 1, none⟩ = false := (by rw [hf3 _ _ z2_1]; exact fq1)
      have q2 : w3.cell? ⟨w.heap.size + 1, 2, none⟩ = some (.int .i64 0) := (by rw [hc3 _ _ z2_1]; exact q2)
      have fq2 : w3.frozen? ⟨w.heap.size + 1, 2, none⟩ = false := (by rw [hf3 _ _ z2_1]; exact fq2)
      have HB3 := Lib.hid (HB2.out.trans (bel3.mono (by omega)))
      have KR3 := Lib.hid (KR2.out.below bel3 (by omega))
      clear hc3 hf3 hz3 bel3
      go_wp2_with fail
      refine Calls.mono (C3.out _ (HB3.out.alloc (by omega) _)) ?_
      rintro e w4 ⟨A4, c4, U4, d4, rfl, b4, t4, j1, j2, bel4⟩
      have BS4 := Lib.hid (show BsZ _ _ _ _ from b4)
      have SL4 := Lib.hid (show SlZ _ _ _ _ from t4)
      clear b4 t4
      obtain ⟨hc4, hf4⟩ := bcell bel4
      have hz4 := bel4.size
      simp at hz4
      have z4_0 : w.heap.size < w4.heap.size := (by omega)
      have z4_1 : w.heap.size + 1 < w4.heap.size := (by omega)
      have s0 : w4.cell? ⟨w.heap.size, 0, none⟩ = some (.slice A n c) := (by rw [hc4 _ _ (by simp <;> omega)]; go_simp)
      have s1 : w4.cell? ⟨w.heap.size, 1, none⟩ = some (.slice U n d) := (by rw [hc4 _ _ (by simp <;> omega)]; go_simp)
      have s2 : w4.cell? ⟨w.heap.size, 2, none⟩ = some (.int .i64 sp) := (by rw [hc4 _ _ (by simp <;> omega)]; go_simp)
      have q0 : w4.cell? ⟨w.heap.size + 1, 0, none⟩ = some (.slice none 0 0) := (by rw [hc4 _ _ (by simp <;> omega)]; go_simp)
      have fq0 : w4.frozen? ⟨w.heap.size + 1, 0, none⟩ = false := (by rw [hf4 _ _ (by simp <;> omega)]; go_simp)
      have q1 : w4.cell? ⟨w.heap.size + 1, 1, none⟩ = some (.slice none 0 0) := (by rw [hc4 _ _ (by simp <;> omega)]; go_simp)
      have fq1 : w4.frozen? ⟨w.heap.size + 1, 1, none⟩ = false := (by rw [hf4 _ _ (by simp <;> omega)]; go_simp)
      have q2 : w4.cell? ⟨w.heap.size + 1, 2, none⟩ = some (.int .i64 0) := (by rw [hc4 _ _ (by simp <;> omega)]; go_simp)
      have fq2 : w4.frozen? ⟨w.heap.size + 1, 2, none⟩ = false := (by rw [hf4 _ _ (by simp <;> omega)]; go_simp)
      have HB4 := Lib.hid ((HB3.out.alloc (by omega) _).trans (bel4.mono (by simp; omega)))
      have KR4 := Lib.hid ((KR3.out.alloc _).below bel4 (by simp; omega))
      clear hc4 hf4 hz4 bel4

      go_wp2
      refine bodyPost_ret (v := .tuple #[.agg #[.slice A4 n c4, .slice U4 n d4, .int .i64 sp], .bool true, .int .i64 0]) (by simp [results, Try.results75, go_sem, q0, q1, q2, z4_1]) rfl ?_
      have bel := Below.alloc (Below.put (A' := A4) (n' := n) (c' := c4) (U' := U4) (m' := n) (d' := d4) (sp' := sp) HB4.out (show w.heap.size ≤ w.heap.size + 1 by omega)) (by rw [putStk_size]; omega) (.cells #[.slice A4 n c4, .slice U4 n d4, .int .i64 sp] 55)
      exact ⟨_, _, _, _, rfl, (BsZ.put BS4.out KR4.out).alloc _, (SlZ.put SL4.out KR4.out).alloc _, j1, j2, bel⟩
end Go.Proofs.Ytgamodmenlhedaa
