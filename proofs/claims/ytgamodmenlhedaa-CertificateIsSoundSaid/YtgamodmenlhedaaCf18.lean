/- The walk of the draw Graph. -/
import Derived.Test.YtgamodmenlhedaaCf17
namespace Go.Proofs.Ytgamodmenlhedaa.cf
open Go.RowKit
set_option linter.unusedVariables false
set_option maxRecDepth 10000

/-- what Graph gives back -/
def GraphD (B cb : Nat) (A : Option Addr) (n c : Nat) (l : List Nat) (most : Nat) (free : Bool) (w : World) (e : Ending) (w' : World) : Prop :=
  ∃ (gb m : Nat) (g : List (List Int)) (p' : Nat), e = .returned (.slice (some ⟨gb, 0, none⟩) m m) ∧ Hid (GrowG w' w.heap.size gb m g) ∧ Hid (GraphOk most free g) ∧ 1 ≤ m ∧ m ≤ 8 ∧ CodesAt w' B cb A n c l p' ∧ w.grownBy w' (some cb)
set_option maxHeartbeats 4000000 in
theorem graph_d (B cb : Nat) (A : Option Addr) (n c : Nat) (l : List Nat) (p most : Nat) (free : Bool) (w : World) (h : CodesAt w B cb A n c l p) (hm : 1 ≤ most) (hm8 : most ≤ 8) :
    Calls Try.prog 26 #[.pointer (some ⟨cb, 0, none⟩), .int .i64 (most : Int), .bool free] w (GraphD B cb A n c l most free w) := by
  have hlt := h.1.lt
  have hB := h.2.2.2.1
  have HC := Lib.hid h
  clear h
  have hmi : (most : Int) ≤ 8 := by omega
  go_enter Try.func26, Try.ntmps26
  go_wp2_with fail
  refine (next_d _ _ _ _ _ _ _ (most : Int) _ HC.out (by omega) (by omega)).mono ?_
  rintro e w1 ⟨v0, p1, hv0, rfl, c1, g1⟩
  have hv1 : v0 < most := by omega
  obtain ⟨m, hmm⟩ : ∃ m, m = 1 + v0 := ⟨_, rfl⟩
  have hm1 : m ≤ most := by omega
  have hm2 : 1 ≤ m := by omega
  have hsz1 := g1.size
  have HG0 : Hid (GrowG (w1.alloc (.cells (zg m) 24)) w.heap.size w1.heap.size m (List.replicate m [])) := Lib.hid (growG_made w1 w.heap.size m hsz1 (by omega))
  have HC1 : Hid (CodesAt (w1.alloc (.cells (zg m) 24)) B cb A n c l p1) := Lib.hid (c1.alloc _)
  have HB1 : Hid (w.grownBy (w1.alloc (.cells (zg m) 24)) (some cb)) := Lib.hid (grownBy_al g1 _)
  have HSTART : Hid (GHead m free (List.replicate m []) 0) := Lib.hid (ghead_start m free)
  have hmk : ∀ W : World, (Instr.makeSlice 23 (.int .i64 (1 + (v0 : Int))) (.int .i64 (1 + (v0 : Int)))).run Try.prog W = .ok (.slice (some ⟨W.heap.size, 0, none⟩) m m) (W.alloc (.cells (zg m) 24)) := fun W => by
    have := make_rows m (by omega) W
    rw [show ((m : Nat) : Int) = 1 + (v0 : Int) by omega] at this
    exact this
  have hmi2 : 1 + (v0 : Int) = (m : Int) := by omega
  have HMI := Lib.hid hmi2
  have hz0 : w1.heap.size < (w1.alloc (.cells (zg m) 24)).heap.size := by simp
  clear hv0 c1 g1 hmi2 hmm
  go_wp2
  go_loopw [9] (fun i wr => ∃ (k p2 : Nat) (G : List (List Int)), k ≤ m ∧ i = .int .i64 k ∧ Hid (GrowG wr w.heap.size w1.heap.size m G) ∧ Hid (GHead m free G k) ∧ Hid (CodesAt wr B cb A n c l p2) ∧ Hid (w.grownBy wr (some cb)) ∧ w1.heap.size < wr.heap.size) (fun i _ => m - (intOf i).toNat)
  case atStart => exact ⟨0, p1, _, by omega, rfl, HG0, HSTART, HC1, HB1, hz0⟩
  case round =>
    obtain ⟨i, p2, G, hk, rfl, HG, HH, HCW, HGB, hzw⟩ := hrel
    clear HG0 HC1 HB1 HSTART hz0 HC
    have hi0 : (0 : Int) ≤ (i : Int) := by omega
    by_cases hilt : i < m
    · have hii : (i : Int) < 1 + (v0 : Int) := by have := HMI.out; omega
      go_wp2_with fail
      refine (next_d _ _ _ _ _ _ _ 4 _ HCW.out (by omega) (by omega)).mono ?_
      rintro e w2 ⟨t, p3, ht, rfl, c3, g3⟩
      have ht4 : t ≤ 3 := by omega
      have HG2 := Lib.hid (HG.out.draw g3 hlt)
      have HI2 := Lib.hid (HH.out.enter ht4)
      have HC2 := Lib.hid c3
      have HB2 := Lib.hid (grownBy_trans HGB.out g3)
      have hz2 : w1.heap.size < w2.heap.size := by have := g3.size; omega
      clear ht c3 g3 HG HH HCW HGB hzw
      go_wp2
      go_loopw [10] (fun x wr => ∃ (k p2 : Nat) (G : List (List Int)), k ≤ 3 ∧ x = .int .i64 k ∧ Hid (GrowG wr w.heap.size w1.heap.size m G) ∧ Hid (GInv m free G i k) ∧ Hid (CodesAt wr B cb A n c l p2) ∧ Hid (w.grownBy wr (some cb)) ∧ w1.heap.size < wr.heap.size) (fun x _ => (intOf x).toNat)
      case atStart => exact ⟨t, p3, G, ht4, rfl, HG2, HI2, HC2, HB2, hz2⟩
      case round =>
        obtain ⟨k, p4, G4, hk3, rfl, HG4, HI4, HC4, HB4, hz4⟩ := hrel
        clear HG2 HI2 HC2 HB2 hz2
        have hk0 : (0 : Int) ≤ (k : Int) := by omega
        have hk4 : (k : Int) ≤ 3 := by omega
        cases k with
        | zero =>
          have HH4 := Lib.hid HI4.out.leave
          go_wp2
          go_roundw
          case rel => exact ⟨i + 1, p4, G4, by omega, by go_num, HG4, HH4, HC4, HB4, hz4⟩
          case measure => simp [intOf]; omega
        | succ k =>
          have hGL : Hid (i < G4.length) := Lib.hid (by rw [HG4.out.1]; exact hilt)
          go_wp2_with fail
          refine (next_d _ _ _ _ _ _ _ (1 + (v0 : Int)) _ HC4.out (by omega) (by omega)).mono ?_
          rintro e w5 ⟨j, p5, hj, rfl, c5, g5⟩
          have hjm : j < m := by have := HMI.out; omega
          have HG5 := Lib.hid (HG4.out.draw g5 hlt)
          have HC5 := Lib.hid c5
          have HB5 := Lib.hid (grownBy_trans HB4.out g5)
          have hz5 : w1.heap.size < w5.heap.size := by have := g5.size; omega
          clear hj c5 g5 HG4 HC4 HB4 hz4
          -- what a store of the new row leaves
          have hstep : ∀ (W W6 : World) (x : Int) (r : Value), GrowG W w.heap.size w1.heap.size m G4 → W6.ownsRow W.heap.size 3 1 r (addL (G4.getD i []) x).length ((addL (G4.getD i []) x).map (Value.int .i64)) → Below W.heap.size W W6 → w.heap.size ≤ W.heap.size → w1.heap.size < W.heap.size → 0 ≤ x → x < (m : Int) → (free = true → (i : Int) < x) → ∀ pp, CodesAt W B cb A n c l pp → w.grownBy W (some cb) →
              Hid (GrowG (W6.setCell ⟨w1.heap.size, i, none⟩ r) w.heap.size w1.heap.size m (G4.set i (addL (G4.getD i []) x))) ∧ Hid (GInv m free (G4.set i (addL (G4.getD i []) x)) i k) ∧ Hid (CodesAt (W6.setCell ⟨w1.heap.size, i, none⟩ r) B cb A n c l pp) ∧ Hid (w.grownBy (W6.setCell ⟨w1.heap.size, i, none⟩ r) (some cb)) ∧ w1.heap.size < (W6.setCell ⟨w1.heap.size, i, none⟩ r).heap.size := fun W W6 x r hG hr hb hle hlt1 h0 h1 h2 pp hcc hgg => by
            obtain ⟨s1, s2, s3⟩ := (hG.below hb).store hilt (own_base hr hle)
            have hcb : cb ≠ w1.heap.size := by omega
            refine ⟨Lib.hid s1, Lib.hid (HI4.out.add hGL.out (by omega) h0 h1 h2), Lib.hid ((hcc.after hb).grown' s2 (fun e => by injection e with e; exact hcb e.symm) (fun j e => by injection e with e; omega)), Lib.hid (grownBy_step (grownBy_step hgg (grownBy_of_below hb (some cb)) (fun j e => by injection e with e; exact .inr e.symm)) s2 (fun j e => by injection e with e; exact .inl (by omega))), ?_⟩
            have := s2.size
            have := hb.size
            omega
          have HSTEP := Lib.hid hstep
          clear hstep
          cases free with
          | false =>
            obtain ⟨A4, c4, q4, f4, own4⟩ := HG5.out.at_ hilt
            have HA := Lib.hid (add_any A4 (G4.getD i []).length c4 (G4.getD i []) (j : Int) w5 (Iz.of_own own4) (by have := (HI4.out i).1.2.2; omega))
            have HGL : Hid ((G4.getD i []).length ≤ 3) := Lib.hid (HI4.out i).1.2.2
            have HW := Lib.hid (fun W6 r a b => HSTEP.out w5 W6 (j : Int) r HG5.out a b HB5.out.size hz5 (by omega) (by omega) (fun e => by cases e) p5 HC5.out HB5.out)
            have HCF : Hid (∀ W6, Below w5.heap.size w5 W6 → W6.cell? ⟨w1.heap.size, i, none⟩ = some (.slice A4 (G4.getD i []).length c4) ∧ W6.frozen? ⟨w1.heap.size, i, none⟩ = false) := Lib.hid (fun W6 hb => ⟨(hb.cell (p := ⟨w1.heap.size, i, none⟩) hz5).trans q4, (hb.frozen (p := ⟨w1.heap.size, i, none⟩) hz5).trans f4⟩)
            have hii2 : (i : Int) < (m : Int) := by omega
            clear own4
            generalize (G4.getD i []).length = gl at *
            go_wp2_with (go_at_call 59; refine HA.out.mono ?_; rintro e W6 ⟨r6, rfl, own6, hb6⟩; obtain ⟨q6, f6⟩ := HCF.out _ hb6; have HW6 := Lib.hid (HW.out W6 r6 own6 hb6); obtain ⟨A6, c6, rfl, -⟩ := own_form own6; clear own6 hb6)
            go_roundw
            case rel => exact ⟨k, p5, _, by omega, (by first | rfl | go_num | (congr 1; omega)), HW6.out.1, HW6.out.2.1, HW6.out.2.2.1, HW6.out.2.2.2.1, HW6.out.2.2.2.2⟩
            case measure => simp [intOf]; try omega
          | true =>
            by_cases hlast : (i : Int) + 1 < 1 + (v0 : Int)
            · go_wp2_with fail
              refine (next_d _ _ _ _ _ _ _ (1 + (v0 : Int) - (i : Int) - 1) _ HC5.out (by omega) (by omega)).mono ?_
              rintro e w7 ⟨j2, p7, hj2, rfl, c7, g7⟩
              have hjb : (i : Int) + 1 + (j2 : Int) < (m : Int) := by have := HMI.out; omega
              have HG7 := Lib.hid (HG5.out.draw g7 hlt)
              have HC7 := Lib.hid c7
              have HB7 := Lib.hid (grownBy_trans HB5.out g7)
              have hz7 : w1.heap.size < w7.heap.size := by have := g7.size; omega
              clear hj2 c7 g7 HG5 HC5 HB5 hz5
              obtain ⟨A4, c4, q4, f4, own4⟩ := HG7.out.at_ hilt
              have HA := Lib.hid (add_any A4 (G4.getD i []).length c4 (G4.getD i []) ((i : Int) + 1 + (j2 : Int)) w7 (Iz.of_own own4) (by have := (HI4.out i).1.2.2; omega))
              have HW := Lib.hid (fun W6 r a b => HSTEP.out w7 W6 ((i : Int) + 1 + (j2 : Int)) r HG7.out a b HB7.out.size hz7 (by omega) (by omega) (fun e => by omega) p7 HC7.out HB7.out)
              have HCF : Hid (∀ W6, Below w7.heap.size w7 W6 → W6.cell? ⟨w1.heap.size, i, none⟩ = some (.slice A4 (G4.getD i []).length c4) ∧ W6.frozen? ⟨w1.heap.size, i, none⟩ = false) := Lib.hid (fun W6 hb => ⟨(hb.cell (p := ⟨w1.heap.size, i, none⟩) hz7).trans q4, (hb.frozen (p := ⟨w1.heap.size, i, none⟩) hz7).trans f4⟩)
              have hii2 : (i : Int) < (m : Int) := by omega
              clear own4
              generalize (G4.getD i []).length = gl at *
              go_wp2_with (go_at_call 59; refine HA.out.mono ?_; rintro e W6 ⟨r6, rfl, own6, hb6⟩; obtain ⟨q6, f6⟩ := HCF.out _ hb6; have HW6 := Lib.hid (HW.out W6 r6 own6 hb6); obtain ⟨A6, c6, rfl, -⟩ := own_form own6; clear own6 hb6)
              go_roundw
              case rel => exact ⟨k, p7, _, by omega, (by first | rfl | go_num | (congr 1; omega)), HW6.out.1, HW6.out.2.1, HW6.out.2.2.1, HW6.out.2.2.2.1, HW6.out.2.2.2.2⟩
              case measure => simp [intOf]; try omega
            · have HS := Lib.hid HI4.out.skip
              go_wp2
              go_roundw
              case rel => exact ⟨k, p5, G4, by omega, (by first | rfl | go_num | (congr 1; omega)), HG5, HS, HC5, HB5, hz5⟩
              case measure => simp [intOf]; try omega
    · have hii : ¬ (i : Int) < 1 + (v0 : Int) := by have := HMI.out; omega
      have HOK : Hid (GraphOk most free G) := Lib.hid (HH.out.graphOk HG.out.1 hm2 hm1 (by omega))
      go_wp2
      go_ret
      exact ⟨_, m, G, p2, rfl, HG, HOK, hm2, by omega, HCW.out, HGB.out⟩
end Go.Proofs.Ytgamodmenlhedaa.cf
