/- Contracts: ref03.Add; ref29.All. -/
import Derived.Test.YtgamodmenlhedaaCf11
import Derived.Test.YtgamodmenlhedaaCf7
namespace Go.Proofs.Ytgamodmenlhedaa.cf
open Go.RowKit
set_option linter.unusedVariables false
set_option maxRecDepth 10000

theorem bound_yes (x : Int) (h : Bd x) (w : World) : Calls Try.prog 52 #[.int .i64 x] w fun e w' => e = .returned (.bool true) ∧ w = w' :=
  (refbound_any x w).mono fun e w' ⟨he, hw⟩ => ⟨by rw [he, decide_eq_true h], hw⟩
theorem add03_yes (x y : Int) (hx : Bd x) (hy : Bd y) (hs : x + y ≤ 2147483647) (w : World) :
    Calls Try.prog 56 #[.int .i64 x, .int .i64 y] w fun e w' => e = .returned (.tuple #[.int .i64 (x + y), .int .i64 0]) ∧ w = w' := by
  obtain ⟨x0, x1⟩ := id hx
  obtain ⟨y0, y1⟩ := id hy
  go_enter Try.func56, Try.ntmps56
  go_wp2_with (go_at_call 52; refine (bound_yes _ (by assumption) _).mono ?_; rintro e w' ⟨rfl, rfl⟩)
  go_ret2
  exact ⟨rfl, rfl⟩
theorem add03_no (x y : Int) (hx : Bd x) (hy : Bd y) (hs : 2147483647 < x + y) (w : World) :
    Calls Try.prog 56 #[.int .i64 x, .int .i64 y] w fun e w' => e = .returned (.tuple #[.int .i64 0, .int .i64 9]) ∧ w = w' := by
  obtain ⟨x0, x1⟩ := id hx
  obtain ⟨y0, y1⟩ := id hy
  go_enter Try.func56, Try.ntmps56
  go_wp2_with (go_at_call 52; refine (bound_yes _ (by assumption) _).mono ?_; rintro e w' ⟨rfl, rfl⟩)
  go_ret2
  exact ⟨rfl, rfl⟩

/-- a graph without cycles, by ranks below the number of functions -/
def RankedN (g : List (List Int)) : Prop := ∃ rk, Ranked g rk ∧ ∀ i, i < g.length → rk i < g.length
/-- what All answers -/
def AllR (g : List (List Int)) (v : List Int) (w : World) (e : Ending) (w' : World) : Prop :=
  Below w.heap.size w w' ∧ ((¬ Right g v ∧ e = .returned (.tuple #[.slice none 0 0, .int .i64 4])) ∨
  (Right g v ∧ Stuck g ∧ e = .returned (.tuple #[.slice none 0 0, .int .i64 8])) ∨
  (Right g v ∧ Over g v ∧ RankedN g ∧ e = .returned (.tuple #[.slice none 0 0, .int .i64 9])) ∨
  (Right g v ∧ RankedN g ∧ ∃ r b, Sol g v b ∧ (∀ k, Bd (b.getD k 0)) ∧ e = .returned (.tuple #[r, .int .i64 0]) ∧ w'.ownsRow w.heap.size 3 1 r b.length (b.map (Value.int .i64))))
theorem getD_mem_bd {b : List Int} (h : ∀ k, Bd (b.getD k 0)) {l : List Int} : ∀ k, k < l.length → b.getD (l.getD k 0).toNat 0 ≤ 2147483647 := fun k _ => (h _).2

set_option maxHeartbeats 4000000 in
theorem all_any (Ag Aw : Option Addr) (ng cg nw cw : Nat) (g : List (List Int)) (v : List Int) (w : World) (hg : Gz w Ag ng g) (hv : Iz w Aw nw v) (n1 : ng ≤ maxLen) (n2 : nw ≤ maxLen) :
    Calls Try.prog 21 #[.slice Ag ng cg, .slice Aw nw cw] w (AllR g v w) := by
  have hrt := right_any Ag Aw ng cg nw cw g v w hg hv n1 n2
  unfold maxLen at n1 n2
  have l1 := Lib.hid hg.len
  have l2 := Lib.hid hv.len
  have HV := Lib.hid hv
  have HGz := Lib.hid hg
  clear hg hv
  by_cases hr : Right g v
  · rw [rtB_iff.2 hr] at hrt
    have HRT := Lib.hid hrt
    have HR := Lib.hid hr
    have hng : ng ≤ 80 := by have := hr.1.2.1; rw [l1.out] at this; exact this
    have hnw : nw = ng := by have := hr.2.1; rw [l1.out, l2.out] at this; exact this
    subst hnw
    have HO := Lib.hid (fun W (h : Gz W Ag nw g) => order_any Ag nw cg g W h hr.1)
    clear hrt hr
    have hmk := fun W => make_ints nw (by omega) W
    go_enter Try.func21, Try.ntmps21
    go_wp2_with (go_at_call 53; refine HRT.out.mono ?_; rintro e w' ⟨rfl, q0, rfl⟩)
    go_wp2_with fail
    refine (HO.out _ (HGz.out.drewN q0)).mono ?_
    rintro e w1 (⟨r, out, rfl, own, hp, hol, hb⟩ | ⟨rfl, hs, hb⟩)
    · have hbw : Below w.heap.size w w1 := (below_drewN (Below.refl _ _) q0).trans hb
      have own' : w1.ownsRow w.heap.size 3 1 r out.length (out.map (Value.int .i64)) := own
      rw [l1.out] at hol
      obtain ⟨Ar, cr, rfl, -, hcr, -⟩ := fresh_ints own'
      have HB := Lib.hid hbw
      have hszw := hbw.size
      have HP := Lib.hid hp
      have HOL := Lib.hid hol
      rw [hol] at own'
      have hrb : Hid ((Value.slice Ar nw cr).ownBlock = none ∨ (Value.slice Ar nw cr).ownBlock ≠ some w1.heap.size) := Lib.hid (by
        rcases hq : (Value.slice Ar nw cr).ownBlock with _ | b4
        · exact .inl rfl
        · exact .inr (fun e => by
            injection e with e
            have := (own'.lt b4 hq).2
            omega))
      have HRK : Hid (RankedN g) := Lib.hid ⟨_, part_ranked HR.out.1 hp (part_full hp (by rw [hol, l1.out])), fun i hi => by have := (idx_at (part_full hp (by rw [hol, l1.out]) i hi)).1; rw [hol] at this; rw [l1.out]; exact this⟩
      have own0 := made_ints w1 w.heap.size nw hszw (by omega)
      have ownr := own'.alloc (.cells (zi nw) 3)
      have hb0 : Hid (Below w.heap.size w (w1.alloc (.cells (zi nw) 3))) := Lib.hid (hbw.alloc hszw _)
      have hw1 : w1.heap.size < (w1.alloc (.cells (zi nw) 3)).heap.size := by simp
      rw [hol]
      clear own own' hb hp hol HO HRT
      go_wp2
      go_loopw [9] (fun i wr => ∃ (k : Nat) (b : List Int), k ≤ nw ∧ i = .int .i64 k ∧ Hid (SumTo g v out b k) ∧ wr.ownsRow w.heap.size 3 1 (.slice (some ⟨w1.heap.size, 0, none⟩) nw nw) nw (b.map (Value.int .i64)) ∧ wr.ownsRow w.heap.size 3 1 (.slice Ar nw cr) nw (out.map (Value.int .i64)) ∧ Hid (Below w.heap.size w wr) ∧ w1.heap.size < wr.heap.size) (fun i _ => nw - (intOf i).toNat)
      case atStart => exact ⟨0, List.replicate nw 0, by omega, rfl, Lib.hid ⟨by rw [l1.out]; simp, fun k => by
        rw [List.getD_eq_getElem?_getD]
        by_cases hk : k < nw
        · rw [List.getElem?_eq_getElem (by simpa using hk)]; simp [Bd]
        · rw [List.getElem?_eq_none (by simpa using hk)]; simp [Bd], fun p hp => by omega⟩, own0, ownr, hb0, hw1⟩
      case round =>
        obtain ⟨k, b, hk, rfl, HS, ownb, owno, bel, hlt1⟩ := hrel
        clear own0 ownr hb0 hw1
        have hsz := bel.out.size
        have hk0 : (0 : Int) ≤ (k : Int) := by omega
        by_cases hlt : k < nw
        · have hki : (k : Int) < (nw : Int) := by omega
          obtain ⟨ao, rfl, -, co⟩ := (Iz.of_own owno).at_ hlt
          obtain ⟨⟨f, hf, hfl, hfs⟩, -⟩ := HP.out k (by rw [HOL.out]; exact hlt)
          rw [hf] at co
          have HF := Lib.hid hf
          have HFL := Lib.hid hfl
          rw [l1.out] at hfl
          have hfi : (f : Int) < (nw : Int) := by omega
          have hf0 : (0 : Int) ≤ (f : Int) := by omega
          obtain ⟨ag, A', n', c', rfl, -, cgr, hrr, hm', hcap⟩ := (HGz.out.below bel.out).at_ hfl
          obtain ⟨av, rfl, -, cv⟩ := (HV.out.below bel.out).at_ hfl
          have hm2 : n' ≤ 512 := by
            have := set_len (HR.out.1.2.2 f HFL.out).1
            rw [hrr.len] at this; exact this
          have hbv : Bd (v.getD f 0) := HR.out.2.2 f (by rw [HR.out.2.1]; exact HFL.out)
          have HRR := Lib.hid (show Iz wr A' n' (nx g f) from hrr)
          have HNL := Lib.hid (show (nx g f).length = n' from hrr.len)
          have HBB := Lib.hid (show Iz wr (some ⟨w1.heap.size, 0, none⟩) nw b from Iz.of_own ownb)
          have HM := Lib.hid (most_take_bd (getD_mem_bd (l := nx g f) HS.out.2.1))
          have HTK := Lib.hid (fun k (hk : k < n') => most_take (c := b) (l := nx g f) (k := k) (by have := HNL.out; omega))
          have HMT : Hid (∀ k, ¬ k < n' → most b ((nx g f).take k) = most b (nx g f)) := Lib.hid (fun k hk => by rw [List.take_of_length_le (by have := HNL.out; omega)])
          have HST : Hid (∀ j u, j < nw → (wr.setCell ⟨w1.heap.size, j, none⟩ (.int .i64 u)).ownsRow w.heap.size 3 1 (.slice (some ⟨w1.heap.size, 0, none⟩) nw nw) nw ((b.set j u).map (Value.int .i64)) ∧ wr.grownBy (wr.setCell ⟨w1.heap.size, j, none⟩ (.int .i64 u)) (some w1.heap.size)) := Lib.hid (fun j u hj => by
            have := ownb.stored j (.int .i64 u)
            rw [List.map_set]; exact this)
          have HVAL : Hid (∀ k, k < n' → ∃ j : Nat, (nx g f).getD k 0 = (j : Int) ∧ j < nw) := Lib.hid (fun k hk => by
            have := grOk_lt HR.out.1 f HFL.out k (by rw [HNL.out]; exact hk)
            rw [l1.out] at this
            exact ⟨((nx g f).getD k 0).toNat, by omega, by omega⟩)
          have HBD := Lib.hid HS.out.2.1
          have hcf := ownb.cellAt f (by omega)
          have hff := ownb.frozenAt f
          have HCF : Hid (∃ u, wr.cell? ⟨w1.heap.size, f, none⟩ = some u) := Lib.hid ⟨_, hcf.trans (List.getElem?_eq_getElem (by have := ownb.1; simp at this ⊢; omega))⟩
          clear hrr hfs hf hcf
          obtain ⟨u0, hcu⟩ := HCF.out
          obtain ⟨x, hx⟩ : ∃ x, x = v.getD f 0 := ⟨_, rfl⟩
          rw [← hx] at cv hbv
          have HX := Lib.hid hx
          clear hx
          go_wp2
          go_loop [11, 12] (fun m s => ∃ (j : Nat) (t : Int), j ≤ n' ∧ s = .int .i64 j ∧ m = .int .i64 t ∧ Hid (t = most b ((nx g f).take j)) ∧ 0 ≤ t ∧ t ≤ 2147483647) (fun _ s => n' - (intOf s).toNat)
          case atStart => exact ⟨0, 0, by omega, rfl, rfl, Lib.hid (by simp [most]), by omega, by omega⟩
          case round =>
            obtain ⟨j, t, hj, rfl, rfl, HT, t0, t1⟩ := hrel
            have hj0 : (0 : Int) ≤ (j : Int) := by omega
            by_cases hjl : j < n'
            · have hji : (j : Int) < (n' : Int) := by omega
              obtain ⟨ar, rfl, -, cr⟩ := HRR.out.at_ hjl
              obtain ⟨s, hs, hs'⟩ := HVAL.out j hjl
              rw [hs] at cr
              obtain ⟨ab, hab, -, cb⟩ := HBB.out.at_ hs'
              injection hab with hab
              subst hab
              have hstep := HTK.out j hjl
              have hnew := HM.out (j + 1)
              rw [hstep, hs, ← HT.out] at hnew
              rw [hs, ← HT.out] at hstep
              simp only [Int.toNat_natCast] at hstep hnew
              have HS2 := Lib.hid hstep
              have hcb := HBD.out s
              obtain ⟨y, hy⟩ : ∃ y, y = b.getD s 0 := ⟨_, rfl⟩
              rw [← hy] at cb hcb HS2 hnew
              have cb' : wr.cell? ⟨w1.heap.size, s, none⟩ = some (.int .i64 y) := by rw [← cb]; simp [Addr.add]; split <;> simp_all
              obtain ⟨y0, y1⟩ := hcb
              have hsi0 : (0 : Int) ≤ (s : Int) := by omega
              have hsi1 : (s : Int) < (nw : Int) := by omega
              clear hs hy hstep
              go_wp2
              go_round
              case rel => exact ⟨j + 1, max t y, by omega, by go_num, (by congr 1; split <;> omega), Lib.hid HS2.out.symm, hnew.1, hnew.2⟩
              case measure => simp [intOf]; omega
            · have HTM := Lib.hid (HT.out.trans (HMT.out j hjl))
              have hbt : Bd t := ⟨t0, t1⟩
              by_cases hsum : x + t ≤ 2147483647
              · have HA := Lib.hid (fun W => add03_yes x t hbv hbt hsum W)
                have HNX : Hid (SumTo g v out (b.set f (x + t)) (k + 1)) := Lib.hid (by
                  rw [HX.out, HTM.out]
                  exact sumTo_succ HR.out.1 HP.out HS.out (by rw [HOL.out]; exact hlt) HF.out HFL.out (by rw [← HX.out, ← HTM.out]; exact ⟨by have := hbv.1; omega, hsum⟩))
                clear hbt
                go_wp2_with (go_at_call 56; refine (HA.out _).mono ?_; rintro e w' ⟨rfl, rfl⟩)
                go_roundw
                case rel => exact ⟨k + 1, b.set f (x + t), by omega, by go_num, HNX, (HST.out f _ hfl).1, owno.kept (HST.out f (x + t) hfl).2 hrb.out, Lib.hid (bel.out.setCell (by simp; omega) _), by simpa [World.setCell] using hlt1⟩
                case measure => simp [intOf]; omega
              · have HA := Lib.hid (fun W => add03_no x t hbv hbt (by omega) W)
                have HOV : Hid (Over g v) := Lib.hid (sumTo_over HR.out.1 HP.out HS.out (by rw [HOL.out]; exact hlt) HF.out HFL.out (by rw [← HX.out, ← HTM.out]; omega))
                clear hbt
                go_wp2_with (go_at_call 56; refine (HA.out _).mono ?_; rintro e w' ⟨rfl, rfl⟩)
                go_ret2
                exact ⟨bel.out.setCell (by simp; omega) _, .inr (.inr (.inl ⟨HR.out, HOV.out, HRK.out, rfl⟩))⟩
        · have HF : Hid (SumTo g v out b out.length ∧ b.length = nw) := Lib.hid ⟨by rw [HOL.out, show nw = k by omega]; exact HS.out, by have := HS.out.1; rw [this, l1.out]⟩
          go_wp2
          go_ret2
          refine ⟨bel.out, .inr (.inr (.inr ⟨HR.out, HRK.out, _, b, sumTo_sol HP.out (by rw [HOL.out, l1.out]) HF.out.1, HS.out.2.1, rfl, ?_⟩))⟩
          rw [HF.out.2]; exact ownb
    · have HS := Lib.hid hs
      clear hs
      go_wp2
      go_ret2
      exact ⟨(below_drewN (Below.refl _ _) q0).trans hb, .inr (.inl ⟨HR.out, HS.out, rfl⟩)⟩
  · rw [rtB_not hr] at hrt
    have HRT := Lib.hid hrt
    have HN := Lib.hid hr
    clear hrt hr
    go_enter Try.func21, Try.ntmps21
    go_wp2_with (go_at_call 53; refine HRT.out.mono ?_; rintro e w' ⟨rfl, q0, rfl⟩)
    go_ret2
    exact ⟨below_drewN (Below.refl _ _) q0, .inl ⟨HN.out, rfl⟩⟩
end Go.Proofs.Ytgamodmenlhedaa.cf
