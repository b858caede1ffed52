/- The contract of Store of the reference. -/
import Derived.Test.YtgamodmenlhedaaCp
import Derived.Test.YtgamodmenlhedaaSto
namespace Go.Proofs.Ytgamodmenlhedaa
open Go.RowKit
set_option linter.unusedVariables false
set_option maxRecDepth 10000

theorem splice_snoc {α : Type} (L cs : List α) (o : Nat) (x : α) (h : o + cs.length < L.length) : (splice L o cs).set (o + cs.length) x = splice L o (cs ++ [x]) := by
  have hl : (splice L o cs).length = L.length := length_splice _ _ _ (by omega)
  apply List.ext_getElem?
  intro i
  rw [List.getElem?_set, hl, splice_get _ _ _ _ (by omega), splice_get _ _ _ _ (by simp; omega)]
  simp only [List.length_append, List.length_singleton]
  by_cases h1 : o + cs.length = i
  · subst h1
    rw [if_pos rfl, if_pos h, if_neg (by omega), if_pos (by omega), show o + cs.length - o = cs.length by omega, List.getElem?_append_right (Nat.le_refl _)]
    simp
  · rw [if_neg h1]
    by_cases h2 : i < o
    · rw [if_pos h2, if_pos h2]
    · rw [if_neg h2, if_neg h2]
      by_cases h3 : i < o + cs.length
      · rw [if_pos h3, if_pos (by omega), List.getElem?_append_left (by omega)]
      · rw [if_neg h3, if_neg (by omega)]

set_option maxHeartbeats 4000000 in
theorem refstore_any (A U : Option Addr) (n c d sp : Nat) (lb : List Nat) (lu : List Bool) (off size : Int) (h0 : -9223372036854775808 ≤ off) (h1 : off ≤ 9223372036854775807) (g0 : -9223372036854775808 ≤ size) (g1 : size ≤ 9223372036854775807) (a b : Nat) (ha : a < 18446744073709551616) (hb' : b < 18446744073709551616)
    (w : World) (hb : Bs w w.heap.size A n lb) (hu : Sl Value.bool w w.heap.size U n lu) (hn : n ≤ 1048576) (hsp : sp ≤ n) (hcap : n ≤ c) (hd : n ≤ d) :
    Calls Try.prog 77 #[.agg #[.slice A n c, .slice U n d, .int .i64 sp], .int .i64 off, .int .i64 size, .agg #[.int .u64 a, .int .u64 b]] w (StkR w n (storeV n sp lb lu a b off size)) := by
  have hp := fun W : World => right_any A U n c n d sp off size h0 h1 g0 g1 hn hsp W
  have HI := Lib.hid (okV_iff n sp off size)
  have HA := Lib.hid ha
  have HA' := Lib.hid hb'
  have HBs := Lib.hid hb
  have HSl := Lib.hid hu
  clear ha hb' hb hu
  rcases hok : okV n sp off size with _ | _
  · have hr : storeV n sp lb lu a b off size = (4, lb, lu, sp) := by unfold storeV; rw [hok]; rfl
    rw [hok] at hp
    rw [hr]
    have HP := Lib.hid hp
    clear hp HI hr hok
    go_enter Try.func77, Try.ntmps77
    go_wp2_with fail
    refine (HP.out _).mono ?_
    rintro e w1 ⟨rfl, bel1⟩
    obtain ⟨hc1, hf1⟩ := bcell bel1
    have hz1 := bel1.size
    simp at hz1
    have z1_0 : w.heap.size < w1.heap.size := (by omega)
    have z1_1 : w.heap.size + 1 < w1.heap.size := (by omega)
    have z1_2 : w.heap.size + 2 < w1.heap.size := (by omega)
    have s0 : w1.cell? ⟨w.heap.size, 0, none⟩ = some (.slice A n c) := (by rw [hc1 _ _ (by simp <;> omega)]; go_simp)
    have s1 : w1.cell? ⟨w.heap.size, 1, none⟩ = some (.slice U n d) := (by rw [hc1 _ _ (by simp <;> omega)]; go_simp)
    have s2 : w1.cell? ⟨w.heap.size, 2, none⟩ = some (.int .i64 sp) := (by rw [hc1 _ _ (by simp <;> omega)]; go_simp)
    have e0 : w1.cell? ⟨w.heap.size + 1, 0, none⟩ = some (.int .u64 a) := (by rw [hc1 _ _ (by simp <;> omega)]; go_simp)
    have e1 : w1.cell? ⟨w.heap.size + 1, 1, none⟩ = some (.int .u64 b) := (by rw [hc1 _ _ (by simp <;> omega)]; go_simp)
    have q0 : w1.cell? ⟨w.heap.size + 2, 0, none⟩ = some (.slice none 0 0) := (by rw [hc1 _ _ (by simp <;> omega)]; go_simp)
    have fq0 : w1.frozen? ⟨w.heap.size + 2, 0, none⟩ = false := (by rw [hf1 _ _ (by simp <;> omega)]; go_simp)
    have q1 : w1.cell? ⟨w.heap.size + 2, 1, none⟩ = some (.slice none 0 0) := (by rw [hc1 _ _ (by simp <;> omega)]; go_simp)
    have fq1 : w1.frozen? ⟨w.heap.size + 2, 1, none⟩ = false := (by rw [hf1 _ _ (by simp <;> omega)]; go_simp)
    have q2 : w1.cell? ⟨w.heap.size + 2, 2, none⟩ = some (.int .i64 0) := (by rw [hc1 _ _ (by simp <;> omega)]; go_simp)
    have fq2 : w1.frozen? ⟨w.heap.size + 2, 2, none⟩ = false := (by rw [hf1 _ _ (by simp <;> omega)]; go_simp)
    have HB1 := Lib.hid ((((Below.refl w.heap.size w).alloc (Nat.le_refl _) _).alloc (by simp) _).alloc (by simp; omega) _ |>.trans (bel1.mono (by simp; omega)))
    clear hc1 hf1 hz1 bel1
    clear HP
    go_wp2
    refine bodyPost_ret (v := .tuple #[.agg #[.slice A n c, .slice U n d, .int .i64 sp], .int .i64 4]) (by simp [results, Try.results77, go_sem, q0, q1, q2]) rfl ?_
    have bel := ((HB1.out.setCell (p := ⟨w.heap.size + 2, 0, none⟩) (by simp) (.slice A n c)).setCell (p := ⟨w.heap.size + 2, 1, none⟩) (by simp) (.slice U n d)).setCell (p := ⟨w.heap.size + 2, 2, none⟩) (by simp) (.int .i64 sp)
    exact ⟨_, _, _, _, rfl, (HBs.out.below bel).more bel.size, (HSl.out.below bel).more bel.size, hcap, hd, bel⟩
  · obtain ⟨hs, ho0, ho1⟩ := HI.out.1 hok
    have hr16 := sizeB_range hs
    obtain ⟨k, rfl⟩ := Int.eq_ofNat_of_zero_le ho0
    obtain ⟨m, rfl⟩ := Int.eq_ofNat_of_zero_le (show 0 ≤ size by omega)
    have hm : 0 < m := by omega
    have hkm : sp + k + m ≤ n := by omega
    have hr : storeV n sp lb lu a b k m = (0, splice lb (sp + k) (bytesV a b m), splice lu (sp + k) (List.replicate m true), sp) := by unfold storeV; rw [if_pos hok]; rfl
    have hsz : szOf (m : Int) = m := by unfold szOf; rw [if_pos hs]; rfl
    rw [hok] at hp
    rw [hr]
    have HP := Lib.hid hp
    have C2 := Lib.hid (fun (W : World) (h : Below w.heap.size w W) => copy_any A U n c d sp lb lu W ((HBs.out.below h).more h.size) ((HSl.out.below h).more h.size) hn hcap hd)
    have C3 := Lib.hid (fun W : World => refbytes_r a b HA.out HA'.out m g0 g1 W)
    unfold BytesR at C3
    rw [hsz] at C3
    have HLB := Lib.hid HBs.out.len
    have HLU := Lib.hid HSl.out.len
    have HVL := Lib.hid (bytesV_len a b m)
    have HVB := Lib.hid (bytesV_lt a b m)
    generalize bytesV a b m = vs at *
    clear hp HI hr hok hs hsz ho1
    go_enter Try.func77, Try.ntmps77
    go_wp2_with fail
    refine (HP.out _).mono ?_
    rintro e w1 ⟨rfl, bel1⟩
    obtain ⟨hc1, hf1⟩ := bcell bel1
    have hz1 := bel1.size
    simp at hz1
    have z1_0 : w.heap.size < w1.heap.size := (by omega)
    have z1_1 : w.heap.size + 1 < w1.heap.size := (by omega)
    have z1_2 : w.heap.size + 2 < w1.heap.size := (by omega)
    have s0 : w1.cell? ⟨w.heap.size, 0, none⟩ = some (.slice A n c) := (by rw [hc1 _ _ (by simp <;> omega)]; go_simp)
    have s1 : w1.cell? ⟨w.heap.size, 1, none⟩ = some (.slice U n d) := (by rw [hc1 _ _ (by simp <;> omega)]; go_simp)
    have s2 : w1.cell? ⟨w.heap.size, 2, none⟩ = some (.int .i64 sp) := (by rw [hc1 _ _ (by simp <;> omega)]; go_simp)
    have e0 : w1.cell? ⟨w.heap.size + 1, 0, none⟩ = some (.int .u64 a) := (by rw [hc1 _ _ (by simp <;> omega)]; go_simp)
    have e1 : w1.cell? ⟨w.heap.size + 1, 1, none⟩ = some (.int .u64 b) := (by rw [hc1 _ _ (by simp <;> omega)]; go_simp)
    have q0 : w1.cell? ⟨w.heap.size + 2, 0, none⟩ = some (.slice none 0 0) := (by rw [hc1 _ _ (by simp <;> omega)]; go_simp)
    have fq0 : w1.frozen? ⟨w.heap.size + 2, 0, none⟩ = false := (by rw [hf1 _ _ (by simp <;> omega)]; go_simp)
    have q1 : w1.cell? ⟨w.heap.size + 2, 1, none⟩ = some (.slice none 0 0) := (by rw [hc1 _ _ (by simp <;> omega)]; go_simp)
    have fq1 : w1.frozen? ⟨w.heap.size + 2, 1, none⟩ = false := (by rw [hf1 _ _ (by simp <;> omega)]; go_simp)
    have q2 : w1.cell? ⟨w.heap.size + 2, 2, none⟩ = some (.int .i64 0) := (by rw [hc1 _ _ (by simp <;> omega)]; go_simp)
    have fq2 : w1.frozen? ⟨w.heap.size + 2, 2, none⟩ = false := (by rw [hf1 _ _ (by simp <;> omega)]; go_simp)
    have HB1 := Lib.hid ((((Below.refl w.heap.size w).alloc (Nat.le_refl _) _).alloc (by simp) _).alloc (by simp; omega) _ |>.trans (bel1.mono (by simp; omega)))
    clear hc1 hf1 hz1 bel1
    clear HP
    go_wp2_with fail
    refine Calls.mono (C2.out _ HB1.out) ?_
    rintro e w2 ⟨V1, k1, V2, k2, rfl, o1, o2, hk1, hk2, bel2⟩
    obtain ⟨hc2, hf2⟩ := bcell bel2
    have hz2 := bel2.size
    have z2_0 : w.heap.size < w2.heap.size := (by omega)
    have z2_1 : w.heap.size + 1 < w2.heap.size := (by omega)
    have z2_2 : w.heap.size + 2 < w2.heap.size := (by omega)
    have s0 : w2.cell? ⟨w.heap.size, 0, none⟩ = some (.slice A n c) := (by rw [hc2 _ _ z1_0]; exact s0)
    have s1 : w2.cell? ⟨w.heap.size, 1, none⟩ = some (.slice U n d) := (by rw [hc2 _ _ z1_0]; exact s1)
    have s2 : w2.cell? ⟨w.heap.size, 2, none⟩ = some (.int .i64 sp) := (by rw [hc2 _ _ z1_0]; exact s2)
    have e0 : w2.cell? ⟨w.heap.size + 1, 0, none⟩ = some (.int .u64 a) := (by rw [hc2 _ _ z1_1]; exact e0)
    have e1 : w2.cell? ⟨w.heap.size + 1, 1, none⟩ = some (.int .u64 b) := (by rw [hc2 _ _ z1_1]; exact e1)
    have q0 : w2.cell? ⟨w.heap.size + 2, 0, none⟩ = some (.slice none 0 0) := (by rw [hc2 _ _ z1_2]; exact q0)
    have fq0 : w2.frozen? ⟨w.heap.size + 2, 0, none⟩ = false := (by rw [hf2 _ _ z1_2]; exact fq0)
    have q1 : w2.cell? ⟨w.heap.size + 2, 1, none⟩ = some (.slice none 0 0) := (by rw [hc2 _ _ z1_2]; exact q1)
    have fq1 : w2.frozen? ⟨w.heap.size + 2, 1, none⟩ = false := (by rw [hf2 _ _ z1_2]; exact fq1)
    have q2 : w2.cell? ⟨w.heap.size + 2, 2, none⟩ = some (.int .i64 0) := (by rw [hc2 _ _ z1_2]; exact q2)
    have fq2 : w2.frozen? ⟨w.heap.size + 2, 2, none⟩ = false := (by rw [hf2 _ _ z1_2]; exact fq2)
    have HB2 := Lib.hid (HB1.out.trans (bel2.mono (by omega)))
    clear hc2 hf2 hz2 bel2
    have O1 := Lib.hid (own_base (base' := w.heap.size + 3) o1 (by omega))
    have O2 := Lib.hid (own_base (base' := w.heap.size + 3) o2 (by omega))
    clear o1 o2 C2
    go_wp2_with fail
    refine (C3.out _).mono ?_
    rintro e w3 ⟨X, cx, rfl, -, jc, o3, bel3⟩
    have hz3 := bel3.size
    simp at hz3
    have BL3 := Lib.hid ((Blk.new w2 55 #[.slice V1 n k1, .slice V2 n k2, .int .i64 sp]).below bel3 (by simp))
    have hb23 : Below w2.heap.size w2 w3 := ((Below.refl w2.heap.size w2).alloc (Nat.le_refl _) _).trans (bel3.mono (by simp))
    have P1 := Lib.hid (own_keep O1.out hb23 (Nat.le_refl _))
    have P2 := Lib.hid (own_keep O2.out hb23 (Nat.le_refl _))
    have P3 := Lib.hid (own_base (base' := w2.heap.size + 1) o3 (by simp))
    have HB3 := Lib.hid (HB2.out.trans (hb23.mono (by omega)))
    obtain ⟨gA, x1, hv, -, hg1⟩ := O1.out.form (by omega)
    injection hv with hv _ hv2
    subst hv hv2
    obtain ⟨gB, x2, hv, -, hg2⟩ := O2.out.form (by omega)
    injection hv with hv _ hv2
    subst hv hv2
    have hne : gA ≠ gB := by
      rcases own_two O1.out O2.out (by decide) with h | h
      · cases h
      · exact fun e => h (by subst e; rfl)
    have hbl3 : ∀ g, g < w.heap.size + 3 → w3.heap[g]? = w2.heap[g]? := fun g hg => hb23.block g (by omega)
    have z3 : w.heap.size + 3 ≤ w3.heap.size := by omega
    have HG1 := Lib.hid hg1
    have HG2 := Lib.hid hg2
    clear o3 bel3 hb23 O1 O2 C3 HA HA' HSl HB1 hg1 hg2
    go_wp2_with fail
    go_loopw [12] (fun i wr => ∃ t : Nat, t ≤ m ∧ i = .int .i64 t ∧ Hid (Below w.heap.size w wr) ∧ Hid (wr.ownsRow (w.heap.size + 3) 5 1 (.slice (some ⟨gA, 0, none⟩) n k1) n (nb (splice lb (sp + k) (vs.take t)))) ∧ Hid (wr.ownsRow (w.heap.size + 3) 4 1 (.slice (some ⟨gB, 0, none⟩) n k2) n ((splice lu (sp + k) (List.replicate t true)).map Value.bool)) ∧
        Hid (wr.ownsRow (w2.heap.size + 1) 5 1 (.slice X m cx) m (nb vs)) ∧ w.heap.size + 3 ≤ wr.heap.size ∧ Hid (Blk wr w2.heap.size 55 #[.slice (some ⟨gA, 0, none⟩) n k1, .slice (some ⟨gB, 0, none⟩) n k2, .int .i64 sp]) ∧ (∀ g, g < w.heap.size + 3 → wr.heap[g]? = w2.heap[g]?)) (fun i _ => m - (intOf i).toNat)
    case atStart => exact ⟨0, by omega, rfl, HB3, Lib.hid (by rw [List.take_zero, splice_nil]; exact P1.out), Lib.hid (by rw [List.replicate_zero, splice_nil]; exact P2.out), P3, z3, BL3, hbl3⟩
    case round =>
      clear hbl3 BL3 P1 P2 P3
      obtain ⟨t, ht, rfl, HBr, R1, R2, R3, zr, BL, hbl⟩ := hrel
      have u0 : wr.cell? ⟨w.heap.size, 0, none⟩ = some (.slice A n c) := by rw [World.cell?_of_block (hbl w.heap.size (by omega))]; exact s0
      have u1 : wr.cell? ⟨w.heap.size, 1, none⟩ = some (.slice U n d) := by rw [World.cell?_of_block (hbl w.heap.size (by omega))]; exact s1
      have u2 : wr.cell? ⟨w.heap.size, 2, none⟩ = some (.int .i64 sp) := by rw [World.cell?_of_block (hbl w.heap.size (by omega))]; exact s2
      have x0 : wr.cell? ⟨w2.heap.size, 0, none⟩ = some (.slice (some ⟨gA, 0, none⟩) n k1) := by rw [BL.out.cell]; rfl
      have x1 : wr.cell? ⟨w2.heap.size, 1, none⟩ = some (.slice (some ⟨gB, 0, none⟩) n k2) := by rw [BL.out.cell]; rfl
      have x2 : wr.cell? ⟨w2.heap.size, 2, none⟩ = some (.int .i64 sp) := by rw [BL.out.cell]; rfl
      have zx := BL.out.lt
      have zr0 : w.heap.size < wr.heap.size := by omega
      have HBLK := Lib.hid hbl
      by_cases hlt : t < m
      · obtain ⟨ad, rfl, hbx, hcx⟩ := (Bs.of_own R3.out HVB.out).at_ hlt
        have hl1 : (nb (splice lb (sp + k) (vs.take t))).length = n := by have := R1.out.1; omega
        have hl2 : ((splice lu (sp + k) (List.replicate t true)).map Value.bool).length = n := by have := R2.out.1; omega
        have hcell1 : (wr.cell? ⟨gA, sp + k + t, none⟩).isSome = true := by rw [R1.out.cellAt (sp + k + t) (by omega), List.getElem?_eq_getElem (by omega)]; rfl
        have hfr1 : wr.frozen? ⟨gA, sp + k + t, none⟩ = false := R1.out.frozenAt _
        have hcell2 : (wr.cell? ⟨gB, sp + k + t, none⟩).isSome = true := by rw [R2.out.cellAt (sp + k + t) (by omega), List.getElem?_eq_getElem (by omega)]; rfl
        have hfr2 : wr.frozen? ⟨gB, sp + k + t, none⟩ = false := R2.out.frozenAt _
        obtain ⟨c5, hcell1⟩ := Option.isSome_iff_exists.1 hcell1
        obtain ⟨c6, hcell2⟩ := Option.isSome_iff_exists.1 hcell2
        have e5 : (⟨gA, 0, none⟩ : Addr).add (sp + k + t) = ⟨gA, sp + k + t, none⟩ := by unfold Addr.add; split <;> simp_all
        have e6 : (⟨gB, 0, none⟩ : Addr).add (sp + k + t) = ⟨gB, sp + k + t, none⟩ := by unfold Addr.add; split <;> simp_all
        have hvt := (Bs.of_own R3.out HVB.out).lt t
        have HTK := Lib.hid (take_succ_getD vs t (by rw [HVL.out]; exact hlt))
        generalize vs.getD t 0 = x at *
        have hki : (t : Int) < (m : Int) := by omega
        have hk0 : (0 : Int) ≤ (sp : Int) + k + t := by omega
        have hk9 : (sp : Int) + k + t < n := by omega
        have d1 : gA ≠ w2.heap.size := by have := HG1.out; omega
        have d2 : gB ≠ w2.heap.size := by have := HG2.out; omega
        have d3 := d1.symm
        have d4 := d2.symm
        have d5 : w.heap.size ≠ gA := by have := R1.out.lt gA rfl; omega
        have d6 : w.heap.size ≠ gB := by have := R2.out.lt gB rfl; omega
        have d7 : ad.add t ≠ ⟨gA, sp + k + t, none⟩ := by
          intro e
          have e' := congrArg Addr.block e
          rw [block_of_add] at e'
          have := (R3.out.lt ad.block (by obtain ⟨g, _, hv, _⟩ := R3.out.form (by omega); cases hv; rfl)).1
          have := HG1.out
          simp only at e'
          omega
        have d8 : ad.add t ≠ ⟨gB, sp + k + t, none⟩ := by
          intro e
          have e' := congrArg Addr.block e
          rw [block_of_add] at e'
          have := (R3.out.lt ad.block (by obtain ⟨g, _, hv, _⟩ := R3.out.form (by omega); cases hv; rfl)).1
          have := HG2.out
          simp only at e'
          omega
        have d9 := d7.symm
        have d10 := d8.symm
        have d11 := hne.symm
        clear hbl hl1 hl2
        go_wp2_with fail
        go_region
        obtain ⟨p1, p1g⟩ := R1.out.stored (sp + k + t) (.int .u8 x)
        have p2 := R2.out.kept p1g (.inr (by simpa [Value.ownBlock] using d11))
        obtain ⟨p2', p2g⟩ := p2.stored (sp + k + t) (.bool true)
        have p1' := p1.kept p2g (.inr (by simpa [Value.ownBlock] using hne))
        have hX : ∀ g, (Value.slice (some ad) m cx).ownBlock = some g → w2.heap.size + 1 ≤ g := fun g hg => (R3.out.lt g hg).1
        have p3 := (R3.out.kept p1g (by
          right; intro e; have := hX _ e; have := HG1.out; omega)).kept p2g (by
          right; intro e; have := hX _ e; have := HG2.out; omega)
        have pb := ((BL.out.grown p1g (by simpa using d3)).grown p2g (by simpa using d4))
        have hb6 := (below_own (B := w.heap.size + 3) R1.out p1g (Nat.le_refl _) zr).trans (below_own (B := w.heap.size + 3) p2 p2g (Nat.le_refl _) (by simpa using zr))
        have Q1 := Lib.hid p1'
        have Q2 := Lib.hid p2'
        have Q3 := Lib.hid p3
        have QB := Lib.hid pb
        have HB6 := Lib.hid hb6
        clear p1 p1g p2 p2' p2g p1' hX p3 pb hb6
        go_wp2
        go_roundw
        case rel =>
          refine ⟨t + 1, by omega, by go_num, Lib.hid (below_drewN (HBr.out.trans (HB6.out.mono (by omega))) 1), Lib.hid ?_, Lib.hid ?_, Q3, by simpa using zr, QB, fun g' hg' => (HB6.out.block g' hg').trans (HBLK.out g' hg')⟩
          · have h1 := Q1.out
            have h2 : (nb (splice lb (sp + k) (vs.take t))).set (sp + k + t) (Value.int .u8 x) = nb (splice lb (sp + k) (vs.take (t + 1))) := by
              rw [HTK.out, ← splice_snoc _ _ _ _ (by rw [List.length_take, HVL.out, HLB.out]; omega)]
              unfold nb
              rw [List.map_set, List.length_take, HVL.out, Nat.min_eq_left (by omega)]
            rw [h2] at h1
            exact h1
          · have h1 := Q2.out
            rw [show Value.bool true = (fun b => Value.bool b) true from rfl, ← List.map_set, splice_rep _ _ _ _ (by rw [HLU.out]; omega)] at h1
            exact h1
        case measure => simp [intOf]; omega
      · have hjm : t = m := by omega
        subst hjm
        have v0 : wr.cell? ⟨w.heap.size + 2, 0, none⟩ = some (.slice none 0 0) := by rw [World.cell?_of_block (hbl (w.heap.size + 2) (by omega))]; exact q0
        have v1 : wr.cell? ⟨w.heap.size + 2, 1, none⟩ = some (.slice none 0 0) := by rw [World.cell?_of_block (hbl (w.heap.size + 2) (by omega))]; exact q1
        have v2 : wr.cell? ⟨w.heap.size + 2, 2, none⟩ = some (.int .i64 0) := by rw [World.cell?_of_block (hbl (w.heap.size + 2) (by omega))]; exact q2
        have y0 : wr.frozen? ⟨w.heap.size + 2, 0, none⟩ = false := by rw [World.frozen?_of_block (hbl (w.heap.size + 2) (by omega))]; exact fq0
        have y1 : wr.frozen? ⟨w.heap.size + 2, 1, none⟩ = false := by rw [World.frozen?_of_block (hbl (w.heap.size + 2) (by omega))]; exact fq1
        have y2 : wr.frozen? ⟨w.heap.size + 2, 2, none⟩ = false := by rw [World.frozen?_of_block (hbl (w.heap.size + 2) (by omega))]; exact fq2
        have r1 := R1.out
        rw [List.take_of_length_le (by rw [HVL.out]; exact Nat.le_refl _)] at r1
        have R1' := Lib.hid r1
        clear hbl HBLK r1 R1
        go_wp2
        refine bodyPost_ret (v := .tuple #[.agg #[.slice (some ⟨gA, 0, none⟩) n k1, .slice (some ⟨gB, 0, none⟩) n k2, .int .i64 sp], .int .i64 0]) (by simp [results, Try.results77, go_sem, *]) rfl ?_
        refine ⟨_, _, _, _, rfl, Bs.of_own (own_setCell (own_setCell (own_setCell R1'.out _ ?_ _) _ ?_ _) _ ?_ _) (splice_lt HBs.out.2 HVB.out), Sl.of_own (own_setCell (own_setCell (own_setCell R2.out _ ?_ _) _ ?_ _) _ ?_ _), hk1, hk2, ((HBr.out.setCell (by simp; omega) _).setCell (by simp; omega) _).setCell (by simp; omega) _⟩
        all_goals (show w.heap.size + 2 < w.heap.size + 3; omega)
end Go.Proofs.Ytgamodmenlhedaa
