/- The contract of Store of the reference. -/
import Derived.Test.YtcnndoefgjbmiaaGreatGRp
import Derived.IntWalk
set_option linter.unusedVariables false
set_option maxRecDepth 10000
set_option maxHeartbeats 8000000
namespace Go.Proofs.YtcnndoefgjbmiaaGreat
open Go.RowKit
theorem splice_snoc {α : Type} (L cs : List α) (o : Nat) (x : α) (h : o + cs.length < L.length) : (splice L o cs).set (o + cs.length) x = splice L o (cs ++ [x]) := by
 have hl : (splice L o cs).length = L.length := length_splice _ _ _ (by omega)
 apply List.ext_getElem?
 intro i
 rw [List.getElem?_set, hl, splice_get _ _ _ _ (by omega), splice_get _ _ _ _ (by simp; omega)]
 simp only [List.length_append, List.length_singleton]
 by_cases h1 : o + cs.length = i
 · subst h1
   rw [if_pos rfl, if_pos h, if_neg (by omega), if_pos (by omega), show o + cs.length - o = cs.length by omega, List.getElem?_append_right nL]
   simp
 · rw [if_neg h1]
   by_cases h2 : i < o
   · rw [if_pos h2, if_pos h2]
   · rw [if_neg h2, if_neg h2]
     by_cases h3 : i < o + cs.length
     · rw [if_pos h3, if_pos (by omega), List.getElem?_append_left (by omega)]
     · rw [if_neg h3, if_neg (by omega)]
theorem refstore_any (A U : Option Addr) (n c d sp : Nat) (lb : List Nat) (lu : List Bool) (off size : Int) (h0 : -9223372036854775808 ≤ off) (h1 : off ≤ 9223372036854775807) (g0 : -9223372036854775808 ≤ size) (g1 : size ≤ 9223372036854775807) (a b : Nat) (ha : a < 18446744073709551616) (hb' : b < 18446744073709551616)
 (w : World) (hb : Bs w w.heap.size A n lb) (hu : Sl Value.bool w w.heap.size U n lu) (hn : n ≤ 1048576) (hsp : sp ≤ n) (hcap : n ≤ c) (hd : n ≤ d) :
 Calls Tryz.prog 81 #[.agg #[.slice A n c, .slice U n d, .int .i64 sp], .int .i64 off, .int .i64 size, .agg #[.int .u64 a, .int .u64 b]] w (StkR A U w n (storeV n sp lb lu a b off size)) := by
 have hp := fun W : World => right_any A U n c n d sp off size h0 h1 g0 g1 hn hsp W
 have HI := hQ (okV_iff n sp off size)
 have HA := hQ ha
 have HA' := hQ hb'
 have HBs := hQ hb
 have HSl := hQ hu
 clear ha hb' hb hu
 rcases hok : okV n sp off size with _ | _
 · have hr : storeV n sp lb lu a b off size = (4, lb, lu, sp) := by unfold storeV; rw [hok]; rfl
   rw [hok] at hp
   rw [hr]
   have HP := hQ hp
   clear hp HI hr hok
   go_enter Tryz.func81, Tryz.ntmps81
   go_wp2_with fail
   refine (HP.out _).mono ?_
   rintro e w1 ⟨rfl, bel1⟩
   obtain ⟨hc1, hf1⟩ := bcell bel1
   have hz1 := bel1.size
   simp at hz1
   have z1_0 : w.heap.size < w1.heap.size := (by omega)
   have z1_1 : w.heap.size + 1 < w1.heap.size := (by omega)
   have z1_2 : w.heap.size + 2 < w1.heap.size := (by omega)
   have s0 : w1.cell? ⟨w.heap.size, 0, none⟩ = some (.slice A n c) := (by rw [hc1 _ _ (by simp <;> omega)]; go_simp)
   have s1 : w1.cell? ⟨w.heap.size, 1, none⟩ = some (.slice U n d) := (by rw [hc1 _ _ (by simp <;> omega)]; go_simp)
   have s2 : w1.cell? ⟨w.heap.size, 2, none⟩ = some (.int .i64 sp) := (by rw [hc1 _ _ (by simp <;> omega)]; go_simp)
   have e0 : w1.cell? ⟨w.heap.size + 1, 0, none⟩ = some (.int .u64 a) := (by rw [hc1 _ _ (by simp <;> omega)]; go_simp)
   have e1 : w1.cell? ⟨w.heap.size + 1, 1, none⟩ = some (.int .u64 b) := (by rw [hc1 _ _ (by simp <;> omega)]; go_simp)
   have q0 : w1.cell? ⟨w.heap.size + 2, 0, none⟩ = some (.slice none 0 0) := (by rw [hc1 _ _ (by simp <;> omega)]; go_simp)
   have fq0 : w1.frozen? ⟨w.heap.size + 2, 0, none⟩ = false := (by rw [hf1 _ _ (by simp <;> omega)]; go_simp)
   have q1 : w1.cell? ⟨w.heap.size + 2, 1, none⟩ = some (.slice none 0 0) := (by rw [hc1 _ _ (by simp <;> omega)]; go_simp)
   have fq1 : w1.frozen? ⟨w.heap.size + 2, 1, none⟩ = false := (by rw [hf1 _ _ (by simp <;> omega)]; go_simp)
   have q2 : w1.cell? ⟨w.heap.size + 2, 2, none⟩ = some (.int .i64 0) := (by rw [hc1 _ _ (by simp <;> omega)]; go_simp)
   have fq2 : w1.frozen? ⟨w.heap.size + 2, 2, none⟩ = false := (by rw [hf1 _ _ (by simp <;> omega)]; go_simp)
   have HB1 := hQ ((((Below.refl w.heap.size w).alloc nL _).alloc (by simp) _).alloc (by simp; omega) _ |>.trans (bel1.mono (by simp; omega)))
   clear hc1 hf1 hz1 bel1
   clear HP
   go_wp2
   refine bodyPost_ret (v := .tuple #[.agg #[.slice A n c, .slice U n d, .int .i64 sp], .int .i64 4]) (by simp [results, Tryz.results81, go_sem, q0, q1, q2]) rfl ?_
   have bel := ((HB1.out.setCell (p := ⟨w.heap.size + 2, 0, none⟩) (by simp) (.slice A n c)).setCell (p := ⟨w.heap.size + 2, 1, none⟩) (by simp) (.slice U n d)).setCell (p := ⟨w.heap.size + 2, 2, none⟩) (by simp) (.int .i64 sp)
   exact ⟨_, _, _, _, rfl, (HBs.out.below bel).more bel.size, (HSl.out.below bel).more bel.size, hcap, hd, bel, .inl rfl, .inl rfl⟩
 · obtain ⟨hs, ho0, ho1⟩ := HI.out.1 hok
   have hr16 := sizeB_range hs
   obtain ⟨k, rfl⟩ := Int.eq_ofNat_of_zero_le ho0
   obtain ⟨m, rfl⟩ := Int.eq_ofNat_of_zero_le (show 0 ≤ size by omega)
   have hm : 0 < m := by omega
   have hkm : sp + k + m ≤ n := by omega
   have hr : storeV n sp lb lu a b k m = (0, splice lb (sp + k) (bytesV a b m), splice lu (sp + k) (List.replicate m true), sp) := by unfold storeV; rw [if_pos hok]; rfl
   have hsz : szOf (m : Int) = m := by unfold szOf; rw [if_pos hs]; rfl
   rw [hok] at hp
   rw [hr]
   have HP := hQ hp
   have C2 := hQ (fun (W : World) (h : Below w.heap.size w W) => copy_any A U n c d sp lb lu W ((HBs.out.below h).more h.size) ((HSl.out.below h).more h.size) hn hcap hd)
   have C3 := hQ (fun W : World => refbytes_r a b HA.out HA'.out m g0 g1 W)
   unfold BytesR at C3
   rw [hsz] at C3
   have HLB := hQ HBs.out.len
   have HLU := hQ HSl.out.len
   have HVL := hQ (bytesV_len a b m)
   have HVB := hQ (bytesV_lt a b m)
   generalize bytesV a b m = vs at *
   clear hp HI hr hok hs hsz ho1
   go_enter Tryz.func81, Tryz.ntmps81
   go_wp2_with fail
   refine (HP.out _).mono ?_
   rintro e w1 ⟨rfl, bel1⟩
   obtain ⟨hc1, hf1⟩ := bcell bel1
   have hz1 := bel1.size
   simp at hz1
   have z1_0 : w.heap.size < w1.heap.size := (by omega)
   have z1_1 : w.heap.size + 1 < w1.heap.size := (by omega)
   have z1_2 : w.heap.size + 2 < w1.heap.size := (by omega)
   have s0 : w1.cell? ⟨w.heap.size, 0, none⟩ = some (.slice A n c) := (by rw [hc1 _ _ (by simp <;> omega)]; go_simp)
   have s1 : w1.cell? ⟨w.heap.size, 1, none⟩ = some (.slice U n d) := (by rw [hc1 _ _ (by simp <;> omega)]; go_simp)
   have s2 : w1.cell? ⟨w.heap.size, 2, none⟩ = some (.int .i64 sp) := (by rw [hc1 _ _ (by simp <;> omega)]; go_simp)
   have e0 : w1.cell? ⟨w.heap.size + 1, 0, none⟩ = some (.int .u64 a) := (by rw [hc1 _ _ (by simp <;> omega)]; go_simp)
   have e1 : w1.cell? ⟨w.heap.size + 1, 1, none⟩ = some (.int .u64 b) := (by rw [hc1 _ _ (by simp <;> omega)]; go_simp)
   have q0 : w1.cell? ⟨w.heap.size + 2, 0, none⟩ = some (.slice none 0 0) := (by rw [hc1 _ _ (by simp <;> omega)]; go_simp)
   have fq0 : w1.frozen? ⟨w.heap.size + 2, 0, none⟩ = false := (by rw [hf1 _ _ (by simp <;> omega)]; go_simp)
   have q1 : w1.cell? ⟨w.heap.size + 2, 1, none⟩ = some (.slice none 0 0) := (by rw [hc1 _ _ (by simp <;> omega)]; go_simp)
   have fq1 : w1.frozen? ⟨w.heap.size + 2, 1, none⟩ = false := (by rw [hf1 _ _ (by simp <;> omega)]; go_simp)
   have q2 : w1.cell? ⟨w.heap.size + 2, 2, none⟩ = some (.int .i64 0) := (by rw [hc1 _ _ (by simp <;> omega)]; go_simp)
   have fq2 : w1.frozen? ⟨w.heap.size + 2, 2, none⟩ = false := (by rw [hf1 _ _ (by simp <;> omega)]; go_simp)
   have HB1 := hQ ((((Below.refl w.heap.size w).alloc nL _).alloc (by simp) _).alloc (by simp; omega) _ |>.trans (bel1.mono (by simp; omega)))
   clear hc1 hf1 hz1 bel1
   clear HP
   go_wp2_with fail
   refine Calls.mono (C2.out _ HB1.out) ?_
   rintro e w2 ⟨V1, k1, V2, k2, rfl, o1, o2, hk1, hk2, bel2⟩
   obtain ⟨hc2, hf2⟩ := bcell bel2
   have hz2 := bel2.size
   have z2_0 : w.heap.size < w2.heap.size := (by omega)
   have z2_1 : w.heap.size + 1 < w2.heap.size := (by omega)
   have z2_2 : w.heap.size + 2 < w2.heap.size := (by omega)
   have s0 : w2.cell? ⟨w.heap.size, 0, none⟩ = some (.slice A n c) := (by rw [hc2 _ _ z1_0]; exact s0)
   have s1 : w2.cell? ⟨w.heap.size, 1, none⟩ = some (.slice U n d) := (by rw [hc2 _ _ z1_0]; exact s1)
   have s2 : w2.cell? ⟨w.heap.size, 2, none⟩ = some (.int .i64 sp) := (by rw [hc2 _ _ z1_0]; exact s2)
   have e0 : w2.cell? ⟨w.heap.size + 1, 0, none⟩ = some (.int .u64 a) := (by rw [hc2 _ _ z1_1]; exact e0)
   have e1 : w2.cell? ⟨w.heap.size + 1, 1, none⟩ = some (.int .u64 b) := (by rw [hc2 _ _ z1_1]; exact e1)
   have q0 : w2.cell? ⟨w.heap.size + 2, 0, none⟩ = some (.slice none 0 0) := (by rw [hc2 _ _ z1_2]; exact q0)
   have fq0 : w2.frozen? ⟨w.heap.size + 2, 0, none⟩ = false := (by rw [hf2 _ _ z1_2]; exact fq0)
   have q1 : w2.cell? ⟨w.heap.size + 2, 1, none⟩ = some (.slice none 0 0) := (by rw [hc2 _ _ z1_2]; exact q1)
   have fq1 : w2.frozen? ⟨w.heap.size + 2, 1, none⟩ = false := (by rw [hf2 _ _ z1_2]; exact fq1)
   have q2 : w2.cell? ⟨w.heap.size + 2, 2, none⟩ = some (.int .i64 0) := (by rw [hc2 _ _ z1_2]; exact q2)
   have fq2 : w2.frozen? ⟨w.heap.size + 2, 2, none⟩ = false := (by rw [hf2 _ _ z1_2]; exact fq2)
   have HB2 := hQ (HB1.out.trans (bel2.mono (by omega)))
   clear hc2 hf2 hz2 bel2
   have O1 := hQ (own_base (base' := w.heap.size + 3) o1 (by omega))
   have O2 := hQ (own_base (base' := w.heap.size + 3) o2 (by omega))
   clear o1 o2 C2
   go_wp2_with fail
   refine (C3.out _).mono ?_
   rintro e w3 ⟨X, cx, rfl, -, jc, o3, bel3⟩
   have hz3 := bel3.size
   simp at hz3
   have BL3 := hQ ((Blk.new w2 69 #[.slice V1 n k1, .slice V2 n k2, .int .i64 sp]).below bel3 (by simp))
   have hb23 : Below w2.heap.size w2 w3 := ((Below.refl w2.heap.size w2).alloc nL _).trans (bel3.mono (by simp))
   have P1 := hQ (own_keep O1.out hb23 nL)
   have P2 := hQ (own_keep O2.out hb23 nL)
   have P3 := hQ (own_base (base' := w2.heap.size + 1) o3 (by simp))
   have HB3 := hQ (HB2.out.trans (hb23.mono (by omega)))
   obtain ⟨gA, x1, hv, -, hg1⟩ := O1.out.form (by omega)
   injection hv with hv _ hv2
   subst hv hv2
   obtain ⟨gB, x2, hv, -, hg2⟩ := O2.out.form (by omega)
   injection hv with hv _ hv2
   subst hv hv2
   have hne : gA ≠ gB := by
    rcases own_two O1.out O2.out (by decide) with h | h
    · cases h
    · exact fun e => h (by subst e; rfl)
   have hbl3 : ∀ g, g < w.heap.size + 3 → w3.heap[g]? = w2.heap[g]? := fun g hg => hb23.block g (by omega)
   have z3 : w.heap.size + 3 ≤ w3.heap.size := by omega
   have HG1 := hQ hg1
   have HG2 := hQ hg2
   clear o3 bel3 hb23 O1 O2 C3 HA HA' HSl HB1 hg1 hg2
   go_wp2_with fail
   go_loopw [12] (fun i wr => ∃ t : Nat, t ≤ m ∧ i = .int .i64 t ∧ Hid (Below w.heap.size w wr) ∧ Hid (wr.ownsRow (w.heap.size + 3) 5 1 (.slice (some ⟨gA, 0, none⟩) n k1) n (nb (splice lb (sp + k) (vs.take t)))) ∧ Hid (wr.ownsRow (w.heap.size + 3) 4 1 (.slice (some ⟨gB, 0, none⟩) n k2) n ((splice lu (sp + k) (List.replicate t true)).map Value.bool)) ∧
    Hid (wr.ownsRow (w2.heap.size + 1) 5 1 (.slice X m cx) m (nb vs)) ∧ w.heap.size + 3 ≤ wr.heap.size ∧ Hid (Blk wr w2.heap.size 69 #[.slice (some ⟨gA, 0, none⟩) n k1, .slice (some ⟨gB, 0, none⟩) n k2, .int .i64 sp]) ∧ (∀ g, g < w.heap.size + 3 → wr.heap[g]? = w2.heap[g]?)) (fun i _ => m - (intOf i).toNat)
   case atStart => exact ⟨0, by omega, rfl, HB3, hQ (by rw [List.take_zero, splice_nil]; exact P1.out), hQ (by rw [List.replicate_zero, splice_nil]; exact P2.out), P3, z3, BL3, hbl3⟩
   case round =>
    clear hbl3 BL3 P1 P2 P3
    obtain ⟨t, ht, rfl, HBr, R1, R2, R3, zr, BL, hbl⟩ := hrel
    have u0 : wr.cell? ⟨w.heap.size, 0, none⟩ = some (.slice A n c) := by rw [World.cell?_of_block (hbl w.heap.size (by omega))]; exact s0
    have u1 : wr.cell? ⟨w.heap.size, 1, none⟩ = some (.slice U n d) := by rw [World.cell?_of_block (hbl w.heap.size (by omega))]; exact s1
    have u2 : wr.cell? ⟨w.heap.size, 2, none⟩ = some (.int .i64 sp) := by rw [World.cell?_of_block (hbl w.heap.size (by omega))]; exact s2
    have x0 : wr.cell? ⟨w2.heap.size, 0, none⟩ = some (.slice (some ⟨gA, 0, none⟩) n k1) := by rw [BL.out.cell]; rfl
    have x1 : wr.cell? ⟨w2.heap.size, 1, none⟩ = some (.slice (some ⟨gB, 0, none⟩) n k2) := by rw [BL.out.cell]; rfl
    have x2 : wr.cell? ⟨w2.heap.size, 2, none⟩ = some (.int .i64 sp) := by rw [BL.out.cell]; rfl
    have zx := BL.out.lt
    have zr0 : w.heap.size < wr.heap.size := by omega
    have HBLK := hQ hbl
    by_cases hlt : t < m
    · obtain ⟨ad, rfl, hbx, hcx⟩ := (Bs.of_own R3.out HVB.out).at_ hlt
      have hl1 : (nb (splice lb (sp + k) (vs.take t))).length = n := by have := R1.out.1; omega
      have hl2 : ((splice lu (sp + k) (List.replicate t true)).map Value.bool).length = n := by have := R2.out.1; omega
      have hcell1 : (wr.cell? ⟨gA, sp + k + t, none⟩).isSome = true := by rw [R1.out.cellAt (sp + k + t) (by omega), List.getElem?_eq_getElem (by omega)]; rfl
      have hfr1 : wr.frozen? ⟨gA, sp + k + t, none⟩ = false := R1.out.frozenAt _
      have hcell2 : (wr.cell? ⟨gB, sp + k + t, none⟩).isSome = true := by rw [R2.out.cellAt (sp + k + t) (by omega), List.getElem?_eq_getElem (by omega)]; rfl
      have hfr2 : wr.frozen? ⟨gB, sp + k + t, none⟩ = false := R2.out.frozenAt _
      obtain ⟨c5, hcell1⟩ := Option.isSome_iff_exists.1 hcell1
      obtain ⟨c6, hcell2⟩ := Option.isSome_iff_exists.1 hcell2
      have e5 : (⟨gA, 0, none⟩ : Addr).add (sp + k + t) = ⟨gA, sp + k + t, none⟩ := by unfold Addr.add; split <;> simp_all
      have e6 : (⟨gB, 0, none⟩ : Addr).add (sp + k + t) = ⟨gB, sp + k + t, none⟩ := by unfold Addr.add; split <;> simp_all
      have hvt := (Bs.of_own R3.out HVB.out).lt t
      have HTK := hQ (take_succ_getD vs t (by rw [HVL.out]; exact hlt))
      generalize vs.getD t 0 = x at *
      have hki : (t : Int) < (m : Int) := by omega
      have hk0 : (0 : Int) ≤ (sp : Int) + k + t := by omega
      have hk9 : (sp : Int) + k + t < n := by omega
      have d1 : gA ≠ w2.heap.size := by have := HG1.out; omega
      have d2 : gB ≠ w2.heap.size := by have := HG2.out; omega
      have d3 := d1.symm
      have d4 := d2.symm
      have d5 : w.heap.size ≠ gA := by have := R1.out.lt gA rfl; omega
      have d6 : w.heap.size ≠ gB := by have := R2.out.lt gB rfl; omega
      have d7 : ad.add t ≠ ⟨gA, sp + k + t, none⟩ := by
       intro e
       have e' := congrArg Addr.block e
       rw [block_of_add] at e'
       have := (R3.out.lt ad.block (by obtain ⟨g, _, hv, _⟩ := R3.out.form (by omega); cases hv; rfl)).1
       have := HG1.out
       simp only at e'
       omega
      have d8 : ad.add t ≠ ⟨gB, sp + k + t, none⟩ := by
       intro e
       have e' := congrArg Addr.block e
       rw [block_of_add] at e'
       have := (R3.out.lt ad.block (by obtain ⟨g, _, hv, _⟩ := R3.out.form (by omega); cases hv; rfl)).1
       have := HG2.out
       simp only at e'
       omega
      have d9 := d7.symm
      have d10 := d8.symm
      have d11 := hne.symm
      clear hbl hl1 hl2
      go_wp2_with fail
      go_region
      obtain ⟨p1, p1g⟩ := R1.out.stored (sp + k + t) (.int .u8 x)
      have p2 := R2.out.kept p1g (.inr (by simpa [Value.ownBlock] using d11))
      obtain ⟨p2', p2g⟩ := p2.stored (sp + k + t) (.bool true)
      have p1' := p1.kept p2g (.inr (by simpa [Value.ownBlock] using hne))
      have hX : ∀ g, (Value.slice (some ad) m cx).ownBlock = some g → w2.heap.size + 1 ≤ g := fun g hg => (R3.out.lt g hg).1
      have p3 := (R3.out.kept p1g (by
       right; intro e; have := hX _ e; have := HG1.out; omega)).kept p2g (by
       right; intro e; have := hX _ e; have := HG2.out; omega)
      have pb := ((BL.out.grown p1g (by simpa using d3)).grown p2g (by simpa using d4))
      have hb6 := (below_own (B := w.heap.size + 3) R1.out p1g nL zr).trans (below_own (B := w.heap.size + 3) p2 p2g nL (by simpa using zr))
      have Q1 := hQ p1'
      have Q2 := hQ p2'
      have Q3 := hQ p3
      have QB := hQ pb
      have HB6 := hQ hb6
      clear p1 p1g p2 p2' p2g p1' hX p3 pb hb6
      go_wp2
      go_roundw
      case rel =>
       refine ⟨t + 1, by omega, by go_num, hQ (below_drewN (HBr.out.trans (HB6.out.mono (by omega))) 1), hQ ?_, hQ ?_, Q3, by simpa using zr, QB, fun g' hg' => (HB6.out.block g' hg').trans (HBLK.out g' hg')⟩
       · have h1 := Q1.out
         have h2 : (nb (splice lb (sp + k) (vs.take t))).set (sp + k + t) (Value.int .u8 x) = nb (splice lb (sp + k) (vs.take (t + 1))) := by
          rw [HTK.out, ← splice_snoc _ _ _ _ (by rw [List.length_take, HVL.out, HLB.out]; omega)]
          unfold nb
          rw [List.map_set, List.length_take, HVL.out, Nat.min_eq_left (by omega)]
         rw [h2] at h1
         exact h1
       · have h1 := Q2.out
         rw [show Value.bool true = (fun b => Value.bool b) true from rfl, ← List.map_set, splice_rep _ _ _ _ (by rw [HLU.out]; omega)] at h1
         exact h1
      case measure => simp [intOf]; omega
    · have hjm : t = m := by omega
      subst hjm
      have v0 : wr.cell? ⟨w.heap.size + 2, 0, none⟩ = some (.slice none 0 0) := by rw [World.cell?_of_block (hbl (w.heap.size + 2) (by omega))]; exact q0
      have v1 : wr.cell? ⟨w.heap.size + 2, 1, none⟩ = some (.slice none 0 0) := by rw [World.cell?_of_block (hbl (w.heap.size + 2) (by omega))]; exact q1
      have v2 : wr.cell? ⟨w.heap.size + 2, 2, none⟩ = some (.int .i64 0) := by rw [World.cell?_of_block (hbl (w.heap.size + 2) (by omega))]; exact q2
      have y0 : wr.frozen? ⟨w.heap.size + 2, 0, none⟩ = false := by rw [World.frozen?_of_block (hbl (w.heap.size + 2) (by omega))]; exact fq0
      have y1 : wr.frozen? ⟨w.heap.size + 2, 1, none⟩ = false := by rw [World.frozen?_of_block (hbl (w.heap.size + 2) (by omega))]; exact fq1
      have y2 : wr.frozen? ⟨w.heap.size + 2, 2, none⟩ = false := by rw [World.frozen?_of_block (hbl (w.heap.size + 2) (by omega))]; exact fq2
      have r1 := R1.out
      rw [List.take_of_length_le (by rw [HVL.out]; exact Nat.le_refl _)] at r1
      have R1' := hQ r1
      clear hbl HBLK r1 R1
      go_wp2
      refine bodyPost_ret (v := .tuple #[.agg #[.slice (some ⟨gA, 0, none⟩) n k1, .slice (some ⟨gB, 0, none⟩) n k2, .int .i64 sp], .int .i64 0]) (by simp [results, Tryz.results81, go_sem, *]) rfl ?_
      refine ⟨_, _, _, _, rfl, Bs.of_own (own_setCell (own_setCell (own_setCell R1'.out _ ?_ _) _ ?_ _) _ ?_ _) (splice_lt HBs.out.2 HVB.out), Sl.of_own (own_setCell (own_setCell (own_setCell R2.out _ ?_ _) _ ?_ _) _ ?_ _), hk1, hk2, ((HBr.out.setCell (by simp; omega) _).setCell (by simp; omega) _).setCell (by simp; omega) _, Frs.own R1'.out (by omega), Frs.own R2.out (by omega)⟩
      all_goals (show w.heap.size + 2 < w.heap.size + 3; omega)
def moveV (n sp : Nat) (lb : List Nat) (lu : List Bool) (dst fr size : Int) : Int × Bool × List Nat × List Bool × Nat :=
 if (okV n sp dst size && okV n sp fr size) = true then
  if usedV lu (sp + fr.toNat) size.toNat = true then (0, true, splice lb (sp + dst.toNat) ((lb.drop (sp + fr.toNat)).take size.toNat), splice lu (sp + dst.toNat) (List.replicate size.toNat true), sp)
  else (0, false, lb, lu, sp)
 else (4, false, lb, lu, sp)
def MoveR (A0 U0 : Option Addr) (w : World) (n : Nat) (r : Int × Bool × List Nat × List Bool × Nat) (e : Ending) (w' : World) : Prop :=
 ∃ A c U d, e = .returned (.tuple #[.agg #[.slice A n c, .slice U n d, .int .i64 (r.2.2.2.2 : Nat)], .bool r.2.1, .int .i64 r.1]) ∧ Bs w' w'.heap.size A n r.2.2.1 ∧ Sl Value.bool w' w'.heap.size U n r.2.2.2.1 ∧ n ≤ c ∧ n ≤ d ∧ Below w.heap.size w w' ∧ Frs w.heap.size A0 A ∧ Frs w.heap.size U0 U
def BsZ (w : World) (A : Option Addr) (n : Nat) (l : List Nat) : Prop := Bs w w.heap.size A n l
def SlZ (w : World) (A : Option Addr) (n : Nat) (l : List Bool) : Prop := Sl Value.bool w w.heap.size A n l
section
variable {w w' : World} {A : Option Addr} {n : Nat} {l : List Nat} {u : List Bool}
theorem BsZ.alloc (h : BsZ w A n l) (o : Obj) : BsZ (w.alloc o) A n l := (Bs.alloc h nL o).more (by simp)
theorem SlZ.alloc (h : SlZ w A n u) (o : Obj) : SlZ (w.alloc o) A n u := (Sl.alloc h nL o).more (by simp)
theorem BsZ.box {g i : Nat} {t : TypeId} {cs : Array Value} (h : BsZ w A n l) (hg : Blk w g t cs) (hne : ∀ a : Int, .int .u8 a ∉ cs) (v : Value) : BsZ (w.setCell ⟨g, i, none⟩ v) A n l := by
 refine ⟨?_, h.2⟩
 have := Reads.box (i := i) h.1 hg (fun x hx => by obtain ⟨k, _, rfl⟩ := List.mem_map.1 hx; exact hne _) v
 rw [show (w.setCell ⟨g, i, none⟩ v).heap.size = w.heap.size by simp [World.setCell]]
 exact this
theorem SlZ.box {g i : Nat} {t : TypeId} {cs : Array Value} (h : SlZ w A n u) (hg : Blk w g t cs) (hne : ∀ a : Bool, .bool a ∉ cs) (v : Value) : SlZ (w.setCell ⟨g, i, none⟩ v) A n u := by
 have := Reads.box (i := i) h hg (fun x hx => by obtain ⟨k, _, rfl⟩ := List.mem_map.1 hx; exact hne _) v
 unfold SlZ
 rw [show (w.setCell ⟨g, i, none⟩ v).heap.size = w.heap.size by simp [World.setCell]]
 exact this
end
def StkB (w : World) (g : Nat) (A : Option Addr) (n c : Nat) (U : Option Addr) (m d : Nat) (sp : Int) : Prop := Blk w g 69 #[.slice A n c, .slice U m d, .int .i64 sp]
def putStk (w : World) (g : Nat) (A : Option Addr) (n c : Nat) (U : Option Addr) (m d : Nat) (sp : Int) : World :=
 ((w.setCell ⟨g, 0, none⟩ (.slice A n c)).setCell ⟨g, 1, none⟩ (.slice U m d)).setCell ⟨g, 2, none⟩ (.int .i64 sp)
section
variable {w w' : World} {g g' : Nat} {A A' A2 : Option Addr} {n c n' c' n2 c2 : Nat} {U U' U2 : Option Addr} {m d m' d' m2 d2 : Nat} {sp sp' sp2 : Int} {l : List Nat} {u : List Bool} {t : TypeId} {cs : Array Value}
theorem BsZ.put (h : BsZ w A n l) (hg : StkB w g A2 n2 c2 U2 m2 d2 sp2) : BsZ (putStk w g A' n' c' U' m' d' sp') A n l :=
 ((h.box (i := 0) (hg : Blk _ _ _ _) (by simp) _).box (i := 1) (Blk.set_ hg 0 (.slice A' n' c')) (by simp) _).box (i := 2) (Blk.set_ (Blk.set_ hg 0 (.slice A' n' c')) 1 (.slice U' m' d')) (by simp) _
theorem SlZ.put (h : SlZ w U n u) (hg : StkB w g A2 n2 c2 U2 m2 d2 sp2) : SlZ (putStk w g A' n' c' U' m' d' sp') U n u :=
 ((h.box (i := 0) (hg : Blk _ _ _ _) (by simp) _).box (i := 1) (Blk.set_ hg 0 (.slice A' n' c')) (by simp) _).box (i := 2) (Blk.set_ (Blk.set_ hg 0 (.slice A' n' c')) 1 (.slice U' m' d')) (by simp) _
theorem Below.put {B : Nat} {w0 : World} (h : Below B w0 w) (hg : B ≤ g) : Below B w0 (putStk w g A' n' c' U' m' d' sp') := ((h.setCell (p := ⟨g, 0, none⟩) hg _).setCell (p := ⟨g, 1, none⟩) hg _).setCell (p := ⟨g, 2, none⟩) hg _
theorem putStk_size : (putStk w g A' n' c' U' m' d' sp').heap.size = w.heap.size := by simp [putStk, World.setCell]
end
theorem le_digs_self (l : List Nat) (h : ∀ x ∈ l, x < 256) : digs (le l) l.length = l := by
 induction l with
 | nil => rfl
 | cons x l ih =>
  have hx := h x (by simp)
  have ih := ih (fun y hy => h y (by simp [hy]))
  unfold digs at *
  rw [List.length_cons, List.range_succ_eq_map, List.map_cons, List.map_map]
  congr 1
  · simp [le]; omega
  · refine Eq.trans ?_ ih
    apply List.map_congr_left
    intro k _
    simp only [Function.comp, le, Nat.pow_succ]
    rw [show 256 ^ k * 256 = 256 * 256 ^ k by rw [Nat.mul_comm], ← Nat.div_div_eq_div_mul, show (x + 256 * le l) / 256 = le l by omega]
theorem bytesV_eq (a b n : Nat) (hn : n ≤ 16) : bytesV a b n = digs a (min n 8) ++ digs b (n - 8) := by
 have h1 := bytesV_take a b n
 have h2 := bytesV_drop a b n hn
 have h3 : ((bytesV a b n).drop 8).take 8 = (bytesV a b n).drop 8 := List.take_of_length_le (by simp [bytesV_len]; omega)
 rw [← h1, ← h2, h3, List.take_append_drop]
theorem bytesV_self (l : List Nat) (h : ∀ x ∈ l, x < 256) (hl : l.length ≤ 16) : bytesV (loV l) (hiV l) l.length = l := by
 rw [bytesV_eq _ _ _ hl]
 have h1 := le_digs_self (l.take 8) (fun x hx => h x (List.mem_of_mem_take hx))
 have h2 := le_digs_self (l.drop 8) (fun x hx => h x (List.mem_of_mem_drop hx))
 have h3 : (l.drop 8).take 8 = l.drop 8 := List.take_of_length_le (by simp; omega)
 unfold loV hiV
 rw [h3]
 rw [show (l.take 8).length = min l.length 8 by simp; omega] at h1
 rw [show (l.drop 8).length = l.length - 8 by simp] at h2
 rw [h1, h2, List.take_append_drop]
theorem refmove_any (A U : Option Addr) (n c d sp : Nat) (lb : List Nat) (lu : List Bool) (dst fr size : Int) (t0 : -9223372036854775808 ≤ dst) (t1 : dst ≤ 9223372036854775807) (h0 : -9223372036854775808 ≤ fr) (h1 : fr ≤ 9223372036854775807) (g0 : -9223372036854775808 ≤ size) (g1 : size ≤ 9223372036854775807)
 (w : World) (hb : Bs w w.heap.size A n lb) (hu : Sl Value.bool w w.heap.size U n lu) (hn : n ≤ 1048576) (hsp : sp ≤ n) (hcap : n ≤ c) (hd : n ≤ d) :
 Calls Tryz.prog 82 #[.agg #[.slice A n c, .slice U n d, .int .i64 sp], .int .i64 dst, .int .i64 fr, .int .i64 size] w (MoveR A U w n (moveV n sp lb lu dst fr size)) := by
 have hp := fun W : World => right_any A U n c n d sp dst size t0 t1 g0 g1 hn hsp W
 have hq := fun W : World => right_any A U n c n d sp fr size h0 h1 g0 g1 hn hsp W
 have HI := hQ (okV_iff n sp dst size)
 have HJ := hQ (okV_iff n sp fr size)
 have HBs := hQ hb
 have HSl := hQ hu
 clear hb hu
 rcases hok : (okV n sp dst size && okV n sp fr size) with _ | _
 · have hr : moveV n sp lb lu dst fr size = (4, false, lb, lu, sp) := by unfold moveV; rw [hok]; rfl
   rw [hr]
   have hcase : okV n sp dst size = false ∨ (okV n sp dst size = true ∧ okV n sp fr size = false) := by
    revert hok; cases okV n sp dst size <;> cases okV n sp fr size <;> simp
   clear hr hok HI HJ
   rcases hcase with h | ⟨h, h'⟩
   · rw [h] at hp
     have HP := hQ hp
     clear hp hq h
     go_enter Tryz.func82, Tryz.ntmps82
     go_wp2_with fail
     refine (HP.out _).mono ?_
     rintro e w1 ⟨rfl, bel1⟩
     obtain ⟨hc1, hf1⟩ := bcell bel1
     have hz1 := bel1.size
     simp at hz1
     have z1_0 : w.heap.size < w1.heap.size := (by omega)
     have z1_1 : w.heap.size + 1 < w1.heap.size := (by omega)
     have s0 : w1.cell? ⟨w.heap.size, 0, none⟩ = some (.slice A n c) := (by rw [hc1 _ _ (by simp <;> omega)]; go_simp)
     have s1 : w1.cell? ⟨w.heap.size, 1, none⟩ = some (.slice U n d) := (by rw [hc1 _ _ (by simp <;> omega)]; go_simp)
     have s2 : w1.cell? ⟨w.heap.size, 2, none⟩ = some (.int .i64 sp) := (by rw [hc1 _ _ (by simp <;> omega)]; go_simp)
     have q0 : w1.cell? ⟨w.heap.size + 1, 0, none⟩ = some (.slice none 0 0) := (by rw [hc1 _ _ (by simp <;> omega)]; go_simp)
     have fq0 : w1.frozen? ⟨w.heap.size + 1, 0, none⟩ = false := (by rw [hf1 _ _ (by simp <;> omega)]; go_simp)
     have q1 : w1.cell? ⟨w.heap.size + 1, 1, none⟩ = some (.slice none 0 0) := (by rw [hc1 _ _ (by simp <;> omega)]; go_simp)
     have fq1 : w1.frozen? ⟨w.heap.size + 1, 1, none⟩ = false := (by rw [hf1 _ _ (by simp <;> omega)]; go_simp)
     have q2 : w1.cell? ⟨w.heap.size + 1, 2, none⟩ = some (.int .i64 0) := (by rw [hc1 _ _ (by simp <;> omega)]; go_simp)
     have fq2 : w1.frozen? ⟨w.heap.size + 1, 2, none⟩ = false := (by rw [hf1 _ _ (by simp <;> omega)]; go_simp)
     have HB1 := hQ (((Below.refl w.heap.size w).alloc nL _).alloc (by simp) _ |>.trans (bel1.mono (by simp; omega)))
     have KR1 := hQ (Blk.below (show Blk _ (w.heap.size + 1) 69 #[.slice none 0 0, .slice none 0 0, .int .i64 0] from Blk.newAt (by simp)) bel1 (by simp))
     clear hc1 hf1 hz1 bel1
     clear HP
     go_wp2
     refine bodyPost_ret (v := .tuple #[.agg #[.slice A n c, .slice U n d, .int .i64 sp], .bool false, .int .i64 4]) (by simp [results, Tryz.results82, go_sem, q0, q1, q2]) rfl ?_
     have bel := ((HB1.out.setCell (p := ⟨w.heap.size + 1, 0, none⟩) (by simp) (.slice A n c)).setCell (p := ⟨w.heap.size + 1, 1, none⟩) (by simp) (.slice U n d)).setCell (p := ⟨w.heap.size + 1, 2, none⟩) (by simp) (.int .i64 sp)
     exact ⟨_, _, _, _, rfl, (HBs.out.below bel).more bel.size, (HSl.out.below bel).more bel.size, hcap, hd, bel, .inl rfl, .inl rfl⟩
   · rw [h] at hp
     rw [h'] at hq
     have HP := hQ hp
     have HQ := hQ hq
     clear hp hq h h'
     go_enter Tryz.func82, Tryz.ntmps82
     go_wp2_with fail
     refine (HP.out _).mono ?_
     rintro e w1 ⟨rfl, bel1⟩
     obtain ⟨hc1, hf1⟩ := bcell bel1
     have hz1 := bel1.size
     simp at hz1
     have z1_0 : w.heap.size < w1.heap.size := (by omega)
     have z1_1 : w.heap.size + 1 < w1.heap.size := (by omega)
     have s0 : w1.cell? ⟨w.heap.size, 0, none⟩ = some (.slice A n c) := (by rw [hc1 _ _ (by simp <;> omega)]; go_simp)
     have s1 : w1.cell? ⟨w.heap.size, 1, none⟩ = some (.slice U n d) := (by rw [hc1 _ _ (by simp <;> omega)]; go_simp)
     have s2 : w1.cell? ⟨w.heap.size, 2, none⟩ = some (.int .i64 sp) := (by rw [hc1 _ _ (by simp <;> omega)]; go_simp)
     have q0 : w1.cell? ⟨w.heap.size + 1, 0, none⟩ = some (.slice none 0 0) := (by rw [hc1 _ _ (by simp <;> omega)]; go_simp)
     have fq0 : w1.frozen? ⟨w.heap.size + 1, 0, none⟩ = false := (by rw [hf1 _ _ (by simp <;> omega)]; go_simp)
     have q1 : w1.cell? ⟨w.heap.size + 1, 1, none⟩ = some (.slice none 0 0) := (by rw [hc1 _ _ (by simp <;> omega)]; go_simp)
     have fq1 : w1.frozen? ⟨w.heap.size + 1, 1, none⟩ = false := (by rw [hf1 _ _ (by simp <;> omega)]; go_simp)
     have q2 : w1.cell? ⟨w.heap.size + 1, 2, none⟩ = some (.int .i64 0) := (by rw [hc1 _ _ (by simp <;> omega)]; go_simp)
     have fq2 : w1.frozen? ⟨w.heap.size + 1, 2, none⟩ = false := (by rw [hf1 _ _ (by simp <;> omega)]; go_simp)
     have HB1 := hQ (((Below.refl w.heap.size w).alloc nL _).alloc (by simp) _ |>.trans (bel1.mono (by simp; omega)))
     have KR1 := hQ (Blk.below (show Blk _ (w.heap.size + 1) 69 #[.slice none 0 0, .slice none 0 0, .int .i64 0] from Blk.newAt (by simp)) bel1 (by simp))
     clear hc1 hf1 hz1 bel1
     go_wp2_with fail
     refine (HQ.out _).mono ?_
     rintro e w2 ⟨rfl, bel2⟩
     obtain ⟨hc2, hf2⟩ := bcell bel2
     have hz2 := bel2.size
     have z2_0 : w.heap.size < w2.heap.size := (by omega)
     have z2_1 : w.heap.size + 1 < w2.heap.size := (by omega)
     have s0 : w2.cell? ⟨w.heap.size, 0, none⟩ = some (.slice A n c) := (by rw [hc2 _ _ z1_0]; exact s0)
     have s1 : w2.cell? ⟨w.heap.size, 1, none⟩ = some (.slice U n d) := (by rw [hc2 _ _ z1_0]; exact s1)
     have s2 : w2.cell? ⟨w.heap.size, 2, none⟩ = some (.int .i64 sp) := (by rw [hc2 _ _ z1_0]; exact s2)
     have q0 : w2.cell? ⟨w.heap.size + 1, 0, none⟩ = some (.slice none 0 0) := (by rw [hc2 _ _ z1_1]; exact q0)
     have fq0 : w2.frozen? ⟨w.heap.size + 1, 0, none⟩ = false := (by rw [hf2 _ _ z1_1]; exact fq0)
     have q1 : w2.cell? ⟨w.heap.size + 1, 1, none⟩ = some (.slice none 0 0) := (by rw [hc2 _ _ z1_1]; exact q1)
     have fq1 : w2.frozen? ⟨w.heap.size + 1, 1, none⟩ = false := (by rw [hf2 _ _ z1_1]; exact fq1)
     have q2 : w2.cell? ⟨w.heap.size + 1, 2, none⟩ = some (.int .i64 0) := (by rw [hc2 _ _ z1_1]; exact q2)
     have fq2 : w2.frozen? ⟨w.heap.size + 1, 2, none⟩ = false := (by rw [hf2 _ _ z1_1]; exact fq2)
     have HB2 := hQ (HB1.out.trans (bel2.mono (by omega)))
     have KR2 := hQ (KR1.out.below bel2 (by omega))
     clear hc2 hf2 hz2 bel2
     clear HP HQ
     go_wp2
     refine bodyPost_ret (v := .tuple #[.agg #[.slice A n c, .slice U n d, .int .i64 sp], .bool false, .int .i64 4]) (by simp [results, Tryz.results82, go_sem, q0, q1, q2]) rfl ?_
     have bel := ((HB2.out.setCell (p := ⟨w.heap.size + 1, 0, none⟩) (by simp) (.slice A n c)).setCell (p := ⟨w.heap.size + 1, 1, none⟩) (by simp) (.slice U n d)).setCell (p := ⟨w.heap.size + 1, 2, none⟩) (by simp) (.int .i64 sp)
     exact ⟨_, _, _, _, rfl, (HBs.out.below bel).more bel.size, (HSl.out.below bel).more bel.size, hcap, hd, bel, .inl rfl, .inl rfl⟩
 · obtain ⟨ho, ho'⟩ : okV n sp dst size = true ∧ okV n sp fr size = true := by revert hok; cases okV n sp dst size <;> cases okV n sp fr size <;> simp
   obtain ⟨hs, hto0, hto1⟩ := HI.out.1 ho
   obtain ⟨-, hfr0, hfr1⟩ := HJ.out.1 ho'
   have hr16 := sizeB_range hs
   obtain ⟨k, rfl⟩ := Int.eq_ofNat_of_zero_le hto0
   obtain ⟨j, rfl⟩ := Int.eq_ofNat_of_zero_le hfr0
   obtain ⟨m, rfl⟩ := Int.eq_ofNat_of_zero_le (show 0 ≤ size by omega)
   have hm : 0 < m := by omega
   have hkm : sp + k + m ≤ n := by omega
   have hjm : sp + j + m ≤ n := by omega
   have hlen : ((lb.drop (sp + j)).take m).length = m := by have := HBs.out.len; simp; omega
   have HVB : ∀ x ∈ (lb.drop (sp + j)).take m, x < 256 := fun x hx => HBs.out.2 x (List.mem_of_mem_drop (List.mem_of_mem_take hx))
   have hlv := loadV n sp lb lu j m
   have HL := hQ (show loadV n sp lb lu j m = if usedV lu (sp + j) m = true then ((loV ((lb.drop (sp + j)).take m), hiV ((lb.drop (sp + j)).take m)), true, 0) else ((0, 0), false, 0) by unfold loadV; rw [if_pos ho']; rfl)
   have HS := hQ (show storeV n sp lb lu (loV ((lb.drop (sp + j)).take m)) (hiV ((lb.drop (sp + j)).take m)) k m = (0, splice lb (sp + k) ((lb.drop (sp + j)).take m), splice lu (sp + k) (List.replicate m true), sp) by
    unfold storeV; rw [if_pos ho]
    have := bytesV_self _ HVB (by omega)
    rw [hlen] at this
    rw [show (m : Int).toNat = m from rfl, this]; rfl)
   have HR := hQ (show moveV n sp lb lu k j m = if usedV lu (sp + j) m = true then (0, true, splice lb (sp + k) ((lb.drop (sp + j)).take m), splice lu (sp + k) (List.replicate m true), sp) else (0, false, lb, lu, sp) by unfold moveV; rw [if_pos hok]; rfl)
   have C2 := hQ (fun (W : World) (h : Below w.heap.size w W) => refload_any A U n c d sp lb lu j m h0 h1 g0 g1 W ((HBs.out.below h).more h.size) ((HSl.out.below h).more h.size) hn hsp hcap hd)
   have C3 := hQ (fun (W : World) (h : Below w.heap.size w W) => refstore_any A U n c d sp lb lu k m t0 t1 g0 g1 _ _ (loV_lt _ HVB) (hiV_lt _ HVB) W ((HBs.out.below h).more h.size) ((HSl.out.below h).more h.size) hn hsp hcap hd)
   unfold LoadR at C2
   unfold StkR at C3
   rw [HL.out] at C2
   rw [HS.out] at C3
   clear HL HS
   rw [ho] at hp
   rw [ho'] at hq
   have HP := hQ hp
   have HQ := hQ hq
   rw [HR.out]
   generalize (lb.drop (sp + j)).take m = vs at *
   generalize loV vs = lo at *
   generalize hiV vs = hi at *
   generalize splice lb (sp + k) vs = lb' at *
   generalize splice lu (sp + k) (List.replicate m true) = lu' at *
   generalize usedV lu (sp + j) m = b at *
   clear hp hq HI HJ hok hs hto1 hfr1 ho ho' HR HVB hlen hlv
   cases b with
   | false =>
    simp only [Bool.false_eq_true, if_false] at C2 ⊢
    go_enter Tryz.func82, Tryz.ntmps82
    go_wp2_with fail
    refine (HP.out _).mono ?_
    rintro e w1 ⟨rfl, bel1⟩
    obtain ⟨hc1, hf1⟩ := bcell bel1
    have hz1 := bel1.size
    simp at hz1
    have z1_0 : w.heap.size < w1.heap.size := (by omega)
    have z1_1 : w.heap.size + 1 < w1.heap.size := (by omega)
    have s0 : w1.cell? ⟨w.heap.size, 0, none⟩ = some (.slice A n c) := (by rw [hc1 _ _ (by simp <;> omega)]; go_simp)
    have s1 : w1.cell? ⟨w.heap.size, 1, none⟩ = some (.slice U n d) := (by rw [hc1 _ _ (by simp <;> omega)]; go_simp)
    have s2 : w1.cell? ⟨w.heap.size, 2, none⟩ = some (.int .i64 sp) := (by rw [hc1 _ _ (by simp <;> omega)]; go_simp)
    have q0 : w1.cell? ⟨w.heap.size + 1, 0, none⟩ = some (.slice none 0 0) := (by rw [hc1 _ _ (by simp <;> omega)]; go_simp)
    have fq0 : w1.frozen? ⟨w.heap.size + 1, 0, none⟩ = false := (by rw [hf1 _ _ (by simp <;> omega)]; go_simp)
    have q1 : w1.cell? ⟨w.heap.size + 1, 1, none⟩ = some (.slice none 0 0) := (by rw [hc1 _ _ (by simp <;> omega)]; go_simp)
    have fq1 : w1.frozen? ⟨w.heap.size + 1, 1, none⟩ = false := (by rw [hf1 _ _ (by simp <;> omega)]; go_simp)
    have q2 : w1.cell? ⟨w.heap.size + 1, 2, none⟩ = some (.int .i64 0) := (by rw [hc1 _ _ (by simp <;> omega)]; go_simp)
    have fq2 : w1.frozen? ⟨w.heap.size + 1, 2, none⟩ = false := (by rw [hf1 _ _ (by simp <;> omega)]; go_simp)
    have HB1 := hQ (((Below.refl w.heap.size w).alloc nL _).alloc (by simp) _ |>.trans (bel1.mono (by simp; omega)))
    have KR1 := hQ (Blk.below (show Blk _ (w.heap.size + 1) 69 #[.slice none 0 0, .slice none 0 0, .int .i64 0] from Blk.newAt (by simp)) bel1 (by simp))
    clear hc1 hf1 hz1 bel1
    go_wp2_with fail
    refine (HQ.out _).mono ?_
    rintro e w2 ⟨rfl, bel2⟩
    obtain ⟨hc2, hf2⟩ := bcell bel2
    have hz2 := bel2.size
    have z2_0 : w.heap.size < w2.heap.size := (by omega)
    have z2_1 : w.heap.size + 1 < w2.heap.size := (by omega)
    have s0 : w2.cell? ⟨w.heap.size, 0, none⟩ = some (.slice A n c) := (by rw [hc2 _ _ z1_0]; exact s0)
    have s1 : w2.cell? ⟨w.heap.size, 1, none⟩ = some (.slice U n d) := (by rw [hc2 _ _ z1_0]; exact s1)
    have s2 : w2.cell? ⟨w.heap.size, 2, none⟩ = some (.int .i64 sp) := (by rw [hc2 _ _ z1_0]; exact s2)
    have q0 : w2.cell? ⟨w.heap.size + 1, 0, none⟩ = some (.slice none 0 0) := (by rw [hc2 _ _ z1_1]; exact q0)
    have fq0 : w2.frozen? ⟨w.heap.size + 1, 0, none⟩ = false := (by rw [hf2 _ _ z1_1]; exact fq0)
    have q1 : w2.cell? ⟨w.heap.size + 1, 1, none⟩ = some (.slice none 0 0) := (by rw [hc2 _ _ z1_1]; exact q1)
    have fq1 : w2.frozen? ⟨w.heap.size + 1, 1, none⟩ = false := (by rw [hf2 _ _ z1_1]; exact fq1)
    have q2 : w2.cell? ⟨w.heap.size + 1, 2, none⟩ = some (.int .i64 0) := (by rw [hc2 _ _ z1_1]; exact q2)
    have fq2 : w2.frozen? ⟨w.heap.size + 1, 2, none⟩ = false := (by rw [hf2 _ _ z1_1]; exact fq2)
    have HB2 := hQ (HB1.out.trans (bel2.mono (by omega)))
    have KR2 := hQ (KR1.out.below bel2 (by omega))
    clear hc2 hf2 hz2 bel2
    clear HP HQ
    go_wp2_with fail
    refine Calls.mono (C2.out _ HB2.out) ?_
    rintro e w3 ⟨rfl, bel3⟩
    obtain ⟨hc3, hf3⟩ := bcell bel3
    have hz3 := bel3.size
    have z3_0 : w.heap.size < w3.heap.size := (by omega)
    have z3_1 : w.heap.size + 1 < w3.heap.size := (by omega)
    have s0 : w3.cell? ⟨w.heap.size, 0, none⟩ = some (.slice A n c) := (by rw [hc3 _ _ z2_0]; exact s0)
    have s1 : w3.cell? ⟨w.heap.size, 1, none⟩ = some (.slice U n d) := (by rw [hc3 _ _ z2_0]; exact s1)
    have s2 : w3.cell? ⟨w.heap.size, 2, none⟩ = some (.int .i64 sp) := (by rw [hc3 _ _ z2_0]; exact s2)
    have q0 : w3.cell? ⟨w.heap.size + 1, 0, none⟩ = some (.slice none 0 0) := (by rw [hc3 _ _ z2_1]; exact q0)
    have fq0 : w3.frozen? ⟨w.heap.size + 1, 0, none⟩ = false := (by rw [hf3 _ _ z2_1]; exact fq0)
    have q1 : w3.cell? ⟨w.heap.size + 1, 1, none⟩ = some (.slice none 0 0) := (by rw [hc3 _ _ z2_1]; exact q1)
    have fq1 : w3.frozen? ⟨w.heap.size + 1, 1, none⟩ = false := (by rw [hf3 _ _ z2_1]; exact fq1)
    have q2 : w3.cell? ⟨w.heap.size + 1, 2, none⟩ = some (.int .i64 0) := (by rw [hc3 _ _ z2_1]; exact q2)
    have fq2 : w3.frozen? ⟨w.heap.size + 1, 2, none⟩ = false := (by rw [hf3 _ _ z2_1]; exact fq2)
    have HB3 := hQ (HB2.out.trans (bel3.mono (by omega)))
    have KR3 := hQ (KR2.out.below bel3 (by omega))
    clear hc3 hf3 hz3 bel3
    clear C2 C3
    go_wp2
    refine bodyPost_ret (v := .tuple #[.agg #[.slice A n c, .slice U n d, .int .i64 sp], .bool false, .int .i64 0]) (by simp [results, Tryz.results82, go_sem, q0, q1, q2, z3_1]) rfl ?_
    have bel := Below.alloc (((HB3.out.setCell (p := ⟨w.heap.size + 1, 0, none⟩) (by simp) (.slice A n c)).setCell (p := ⟨w.heap.size + 1, 1, none⟩) (by simp) (.slice U n d)).setCell (p := ⟨w.heap.size + 1, 2, none⟩) (by simp) (.int .i64 sp)) (by simp; omega) (.cells #[.int .u64 0, .int .u64 0] 38)
    exact ⟨_, _, _, _, rfl, (HBs.out.below bel).more bel.size, (HSl.out.below bel).more bel.size, hcap, hd, bel, .inl rfl, .inl rfl⟩
   | true =>
    simp only [if_true] at C2 ⊢
    go_enter Tryz.func82, Tryz.ntmps82
    go_wp2_with fail
    refine (HP.out _).mono ?_
    rintro e w1 ⟨rfl, bel1⟩
    obtain ⟨hc1, hf1⟩ := bcell bel1
    have hz1 := bel1.size
    simp at hz1
    have z1_0 : w.heap.size < w1.heap.size := (by omega)
    have z1_1 : w.heap.size + 1 < w1.heap.size := (by omega)
    have s0 : w1.cell? ⟨w.heap.size, 0, none⟩ = some (.slice A n c) := (by rw [hc1 _ _ (by simp <;> omega)]; go_simp)
    have s1 : w1.cell? ⟨w.heap.size, 1, none⟩ = some (.slice U n d) := (by rw [hc1 _ _ (by simp <;> omega)]; go_simp)
    have s2 : w1.cell? ⟨w.heap.size, 2, none⟩ = some (.int .i64 sp) := (by rw [hc1 _ _ (by simp <;> omega)]; go_simp)
    have q0 : w1.cell? ⟨w.heap.size + 1, 0, none⟩ = some (.slice none 0 0) := (by rw [hc1 _ _ (by simp <;> omega)]; go_simp)
    have fq0 : w1.frozen? ⟨w.heap.size + 1, 0, none⟩ = false := (by rw [hf1 _ _ (by simp <;> omega)]; go_simp)
    have q1 : w1.cell? ⟨w.heap.size + 1, 1, none⟩ = some (.slice none 0 0) := (by rw [hc1 _ _ (by simp <;> omega)]; go_simp)
    have fq1 : w1.frozen? ⟨w.heap.size + 1, 1, none⟩ = false := (by rw [hf1 _ _ (by simp <;> omega)]; go_simp)
    have q2 : w1.cell? ⟨w.heap.size + 1, 2, none⟩ = some (.int .i64 0) := (by rw [hc1 _ _ (by simp <;> omega)]; go_simp)
    have fq2 : w1.frozen? ⟨w.heap.size + 1, 2, none⟩ = false := (by rw [hf1 _ _ (by simp <;> omega)]; go_simp)
    have HB1 := hQ (((Below.refl w.heap.size w).alloc nL _).alloc (by simp) _ |>.trans (bel1.mono (by simp; omega)))
    have KR1 := hQ (Blk.below (show Blk _ (w.heap.size + 1) 69 #[.slice none 0 0, .slice none 0 0, .int .i64 0] from Blk.newAt (by simp)) bel1 (by simp))
    clear hc1 hf1 hz1 bel1
    go_wp2_with fail
    refine (HQ.out _).mono ?_
    rintro e w2 ⟨rfl, bel2⟩
    obtain ⟨hc2, hf2⟩ := bcell bel2
    have hz2 := bel2.size
    have z2_0 : w.heap.size < w2.heap.size := (by omega)
    have z2_1 : w.heap.size + 1 < w2.heap.size := (by omega)
    have s0 : w2.cell? ⟨w.heap.size, 0, none⟩ = some (.slice A n c) := (by rw [hc2 _ _ z1_0]; exact s0)
    have s1 : w2.cell? ⟨w.heap.size, 1, none⟩ = some (.slice U n d) := (by rw [hc2 _ _ z1_0]; exact s1)
    have s2 : w2.cell? ⟨w.heap.size, 2, none⟩ = some (.int .i64 sp) := (by rw [hc2 _ _ z1_0]; exact s2)
    have q0 : w2.cell? ⟨w.heap.size + 1, 0, none⟩ = some (.slice none 0 0) := (by rw [hc2 _ _ z1_1]; exact q0)
    have fq0 : w2.frozen? ⟨w.heap.size + 1, 0, none⟩ = false := (by rw [hf2 _ _ z1_1]; exact fq0)
    have q1 : w2.cell? ⟨w.heap.size + 1, 1, none⟩ = some (.slice none 0 0) := (by rw [hc2 _ _ z1_1]; exact q1)
    have fq1 : w2.frozen? ⟨w.heap.size + 1, 1, none⟩ = false := (by rw [hf2 _ _ z1_1]; exact fq1)
    have q2 : w2.cell? ⟨w.heap.size + 1, 2, none⟩ = some (.int .i64 0) := (by rw [hc2 _ _ z1_1]; exact q2)
    have fq2 : w2.frozen? ⟨w.heap.size + 1, 2, none⟩ = false := (by rw [hf2 _ _ z1_1]; exact fq2)
    have HB2 := hQ (HB1.out.trans (bel2.mono (by omega)))
    have KR2 := hQ (KR1.out.below bel2 (by omega))
    clear hc2 hf2 hz2 bel2
    clear HP HQ
    go_wp2_with fail
    refine Calls.mono (C2.out _ HB2.out) ?_
    rintro e w3 ⟨rfl, bel3⟩
    obtain ⟨hc3, hf3⟩ := bcell bel3
    have hz3 := bel3.size
    have z3_0 : w.heap.size < w3.heap.size := (by omega)
    have z3_1 : w.heap.size + 1 < w3.heap.size := (by omega)
    have s0 : w3.cell? ⟨w.heap.size, 0, none⟩ = some (.slice A n c) := (by rw [hc3 _ _ z2_0]; exact s0)
    have s1 : w3.cell? ⟨w.heap.size, 1, none⟩ = some (.slice U n d) := (by rw [hc3 _ _ z2_0]; exact s1)
    have s2 : w3.cell? ⟨w.heap.size, 2, none⟩ = some (.int .i64 sp) := (by rw [hc3 _ _ z2_0]; exact s2)
    have q0 : w3.cell? ⟨w.heap.size + 1, 0, none⟩ = some (.slice none 0 0) := (by rw [hc3 _ _ z2_1]; exact q0)
    have fq0 : w3.frozen? ⟨w.heap.size + 1, 0, none⟩ = false := (by rw [hf3 _ _ z2_1]; exact fq0)
    have q1 : w3.cell? ⟨w.heap.size + 1, 1, none⟩ = some (.slice none 0 0) := (by rw [hc3 _ _ z2_1]; exact q1)
    have fq1 : w3.frozen? ⟨w.heap.size + 1, 1, none⟩ = false := (by rw [hf3 _ _ z2_1]; exact fq1)
    have q2 : w3.cell? ⟨w.heap.size + 1, 2, none⟩ = some (.int .i64 0) := (by rw [hc3 _ _ z2_1]; exact q2)
    have fq2 : w3.frozen? ⟨w.heap.size + 1, 2, none⟩ = false := (by rw [hf3 _ _ z2_1]; exact fq2)
    have HB3 := hQ (HB2.out.trans (bel3.mono (by omega)))
    have KR3 := hQ (KR2.out.below bel3 (by omega))
    clear hc3 hf3 hz3 bel3
    go_wp2_with fail
    refine Calls.mono (C3.out _ (HB3.out.alloc (by omega) _)) ?_
    rintro e w4 ⟨A4, c4, U4, d4, rfl, b4, t4, j1, j2, bel4, fr1, fr2⟩
    have FR1 := hQ (fr1.mono (B := w.heap.size) (by simp; omega))
    have FR2 := hQ (fr2.mono (B := w.heap.size) (by simp; omega))
    clear fr1 fr2
    have BS4 := hQ (show BsZ _ _ _ _ from b4)
    have SL4 := hQ (show SlZ _ _ _ _ from t4)
    clear b4 t4
    obtain ⟨hc4, hf4⟩ := bcell bel4
    have hz4 := bel4.size
    simp at hz4
    have z4_0 : w.heap.size < w4.heap.size := (by omega)
    have z4_1 : w.heap.size + 1 < w4.heap.size := (by omega)
    have s0 : w4.cell? ⟨w.heap.size, 0, none⟩ = some (.slice A n c) := (by rw [hc4 _ _ (by simp <;> omega)]; go_simp)
    have s1 : w4.cell? ⟨w.heap.size, 1, none⟩ = some (.slice U n d) := (by rw [hc4 _ _ (by simp <;> omega)]; go_simp)
    have s2 : w4.cell? ⟨w.heap.size, 2, none⟩ = some (.int .i64 sp) := (by rw [hc4 _ _ (by simp <;> omega)]; go_simp)
    have q0 : w4.cell? ⟨w.heap.size + 1, 0, none⟩ = some (.slice none 0 0) := (by rw [hc4 _ _ (by simp <;> omega)]; go_simp)
    have fq0 : w4.frozen? ⟨w.heap.size + 1, 0, none⟩ = false := (by rw [hf4 _ _ (by simp <;> omega)]; go_simp)
    have q1 : w4.cell? ⟨w.heap.size + 1, 1, none⟩ = some (.slice none 0 0) := (by rw [hc4 _ _ (by simp <;> omega)]; go_simp)
    have fq1 : w4.frozen? ⟨w.heap.size + 1, 1, none⟩ = false := (by rw [hf4 _ _ (by simp <;> omega)]; go_simp)
    have q2 : w4.cell? ⟨w.heap.size + 1, 2, none⟩ = some (.int .i64 0) := (by rw [hc4 _ _ (by simp <;> omega)]; go_simp)
    have fq2 : w4.frozen? ⟨w.heap.size + 1, 2, none⟩ = false := (by rw [hf4 _ _ (by simp <;> omega)]; go_simp)
    have HB4 := hQ ((HB3.out.alloc (by omega) _).trans (bel4.mono (by simp; omega)))
    have KR4 := hQ ((KR3.out.alloc _).below bel4 (by simp; omega))
    clear hc4 hf4 hz4 bel4
    go_wp2
    refine bodyPost_ret (v := .tuple #[.agg #[.slice A4 n c4, .slice U4 n d4, .int .i64 sp], .bool true, .int .i64 0]) (by simp [results, Tryz.results82, go_sem, q0, q1, q2, z4_1]) rfl ?_
    have bel := Below.alloc (Below.put (A' := A4) (n' := n) (c' := c4) (U' := U4) (m' := n) (d' := d4) (sp' := sp) HB4.out (show w.heap.size ≤ w.heap.size + 1 by omega)) (by rw [putStk_size]; omega) (.cells #[.slice A4 n c4, .slice U4 n d4, .int .i64 sp] 69)
    exact ⟨_, _, _, _, rfl, (BsZ.put BS4.out KR4.out).alloc _, (SlZ.put SL4.out KR4.out).alloc _, j1, j2, bel, FR1.out, FR2.out⟩
end Go.Proofs.YtcnndoefgjbmiaaGreat
