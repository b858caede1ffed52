/- Contracts: extent.Slots and what it calls. -/
import Derived.Test.YtillopkcmpcokaaDoorSc1
import Derived.Test.YtillopkcmpcokaaDoorVal
import Derived.Test.YtillopkcmpcokaaDoorSt
namespace Go.Proofs.YtillopkcmpcokaaDoor.pm
open Go.RowKit
set_option linter.unusedVariables false
set_option maxRecDepth 10000

def I64 (x : Int) : Prop := -9223372036854775808 ≤ x ∧ x ≤ 9223372036854775807
def badS (s : Int × Int) : Bool := !sizeB s.1 || !powB s.2
set_option maxHeartbeats 400000 in
theorem slots1_any (a b : Int) (ha : I64 a) (hb : I64 b) (w : World) :
    Calls Tryd.prog 75 #[.agg #[.int .i64 a, .int .i64 b]] w fun e w' => e = .returned (.bool (badS (a, b))) ∧ Below w.heap.size w w' := by
  have HA := Lib.hid ha
  have HB := Lib.hid hb
  clear ha hb
  rcases hs : sizeB a with _ | _
  · have HS := Lib.hid hs
    clear hs
    go_enter Tryd.func75, Tryd.ntmps75
    go_wp2_with fail
    refine (size_any _ HA.out.1 HA.out.2 _).mono ?_
    rintro e w1 ⟨rfl, rfl⟩
    rw [HS.out]
    go_wp2
    go_ret
    exact ⟨ret_bool (by unfold badS; rw [HS.out]; rfl), (Below.refl _ _).alloc (Nat.le_refl _) _⟩
  · have HS := Lib.hid hs
    clear hs
    go_enter Tryd.func75, Tryd.ntmps75
    go_wp2_with fail
    refine (size_any _ HA.out.1 HA.out.2 _).mono ?_
    rintro e w1 ⟨rfl, rfl⟩
    rw [HS.out]
    go_wp2_with fail
    refine (power_any _ HB.out.1 HB.out.2 _).mono ?_
    rintro e w1 ⟨rfl, rfl⟩
    go_wp2
    go_ret
    exact ⟨ret_bool (by unfold badS; rw [HS.out]; simp), (Below.refl _ _).alloc (Nat.le_refl _) _⟩
def IdxD (sl : List (Int × Int)) (w : World) (e : Ending) (w' : World) : Prop := ∃ r : Int, e = .returned (.int .i64 r) ∧ (r < 0 → ∀ s ∈ sl, badS s = false) ∧ (0 ≤ r → ∃ s ∈ sl, badS s = true) ∧ Below w.heap.size w w'
theorem mem_getD {α : Type} {l : List α} {k : Nat} {z : α} (h : k < l.length) : l.getD k z ∈ l := by
  rw [List.getD_eq_getElem?_getD, List.getElem?_eq_getElem h]
  exact List.getElem_mem h
set_option maxHeartbeats 400000 in
theorem index_any (As : Option Addr) (sl : List (Int × Int)) (cs : Nat) (w : World) (lo hi : Nat) (hs : Sx w lo hi As sl) (hh : hi ≤ w.heap.size) (hcs : sl.length ≤ maxLen) (hr : ∀ s ∈ sl, I64 s.1 ∧ I64 s.2) :
    Calls Tryd.prog 97 #[.slice As sl.length cs, .func (.func 75) #[] #[]] w (IdxD sl w) := by
  have HS := Lib.hid hs
  have HR := Lib.hid hr
  have hni : (sl.length : Int) ≤ 9223372036854775807 := by unfold maxLen at hcs; omega
  clear hs hr
  go_enter Tryd.func97, Tryd.ntmps97
  go_wp2
  go_loopw [8] (fun v wr => ∃ k : Nat, k ≤ sl.length ∧ v = .int .i64 k ∧ Hid (∀ j, j < k → badS (sl.getD j (0, 0)) = false) ∧ Hid (Below w.heap.size w wr)) (fun v _ => sl.length - (intOf v).toNat)
  case atStart => exact ⟨0, by omega, rfl, Lib.hid (fun j hj => by omega), Lib.hid (Below.refl _ _)⟩
  case round =>
    obtain ⟨k, hk, rfl, HN, HB⟩ := hrel
    have hk0 : (0 : Int) ≤ (k : Int) := by omega
    by_cases hlt : k < sl.length
    · have hki : (k : Int) < (sl.length : Int) := by omega
      obtain ⟨ad, rfl, hbl, c0, c1⟩ := (HS.out.keep (Kp.of_below HB.out hh)).whole hlt
      have HI : Hid (I64 (sl.getD k (0, 0)).1 ∧ I64 (sl.getD k (0, 0)).2) := Lib.hid (HR.out _ (mem_getD hlt))
      obtain ⟨s, hs⟩ : ∃ s, s = sl.getD k (0, 0) := ⟨_, rfl⟩
      rw [← hs] at c0 c1 HI
      have HSS := Lib.hid hs
      clear hs
      go_wp2_with fail
      refine (slots1_any _ _ HI.out.1 HI.out.2 _).mono ?_
      rintro e w3 ⟨rfl, bel3⟩
      have HB3 : Hid (Below w.heap.size w w3) := Lib.hid (HB.out.trans (bel3.mono HB.out.size))
      clear bel3 HB c0 c1
      rcases hbd : badS (s.1, s.2) with _ | _
      · have HN' : Hid (∀ j, j < k + 1 → badS (sl.getD j (0, 0)) = false) := Lib.hid (fun j hj => by
          rcases Nat.lt_or_ge j k with h | h
          · exact HN.out j h
          · obtain rfl : j = k := by omega
            rw [← HSS.out]; exact hbd)
        clear hbd HN HI HSS
        go_wp2
        go_roundw
        case rel => exact ⟨k + 1, by omega, by go_num, HN', HB3⟩
        case measure => simp [intOf]; omega
      · have HY : Hid (∃ s ∈ sl, badS s = true) := Lib.hid ⟨_, mem_getD hlt, by rw [← HSS.out]; exact hbd⟩
        clear hbd HN HI HSS
        go_wp2
        go_ret
        exact ⟨_, rfl, fun h => by omega, fun _ => HY.out, HB3.out⟩
    · have HA : Hid (∀ s ∈ sl, badS s = false) := Lib.hid (fun s hs => by
        obtain ⟨j, hj, rfl⟩ := List.mem_iff_getElem.1 hs
        have := HN.out j (by omega)
        rw [List.getD_eq_getElem?_getD, List.getElem?_eq_getElem hj] at this
        exact this)
      clear HN
      go_wp2
      go_ret
      exact ⟨-1, rfl, fun _ => HA.out, fun h => by omega, HB.out⟩
set_option maxHeartbeats 400000 in
theorem slots_any (As : Option Addr) (sl : List (Int × Int)) (cs : Nat) (w : World) (lo hi : Nat) (hs : Sx w lo hi As sl) (hh : hi ≤ w.heap.size) (hcs : sl.length ≤ maxLen) (hr : ∀ s ∈ sl, I64 s.1 ∧ I64 s.2) :
    Calls Tryd.prog 57 #[.slice As sl.length cs] w fun e w' => e = .returned (.int .i64 (slotsE sl)) ∧ Below w.heap.size w w' := by
  have HCON : Hid (∀ W, Below w.heap.size w W → Calls Tryd.prog 74 #[.slice As sl.length cs, .func (.func 75) #[] #[]] W fun e w' => e = .returned (.bool (sl.any badS)) ∧ Below W.heap.size W w') := Lib.hid (fun W hb => by
    have HI := Lib.hid (index_any As sl cs W lo hi (hs.keep (Kp.of_below hb hh)) (by have := hb.size; omega) hcs hr)
    clear hs hb hr
    go_enter Tryd.func74, Tryd.ntmps74
    go_wp2_with fail
    refine HI.out.mono ?_
    rintro e w3 ⟨r, rfl, h1, h2, bel⟩
    by_cases hr0 : 0 ≤ r
    · have HE : Hid (sl.any badS = true) := Lib.hid (List.any_eq_true.2 (h2 hr0))
      have HB := Lib.hid bel
      clear h1 h2 bel
      go_wp2
      go_ret
      exact ⟨ret_bool (by rw [HE.out]), HB.out⟩
    · have HE : Hid (sl.any badS = false) := Lib.hid (by
        rw [List.any_eq_false]
        intro s hs'
        rw [h1 (by omega) s hs']; simp)
      have HB := Lib.hid bel
      have hr1 : r < 0 := by omega
      clear h1 h2 bel hr0
      go_wp2
      go_ret
      exact ⟨ret_bool (by rw [HE.out]; simp; omega), HB.out⟩)
  clear hs hr
  have hni : (sl.length : Int) ≤ 9223372036854775807 := by unfold maxLen at hcs; omega
  by_cases h5 : 512 < sl.length
  · have HE : Hid (slotsE sl = 3) := Lib.hid (by unfold slotsE; rw [if_pos h5])
    have h5i : (512 : Int) < (sl.length : Int) := by omega
    clear h5
    go_enter Tryd.func57, Tryd.ntmps57
    go_wp2
    go_ret
    exact ⟨ret_int (by rw [HE.out]), Below.refl _ _⟩
  · have HE : Hid (slotsE sl = if sl.any badS = true then 5 else 0) := Lib.hid (by
      unfold slotsE
      rw [if_neg h5]
      have e : sl.all (fun s => sizeB s.1 && powB s.2) = !sl.any badS := by
        clear HCON hni hcs h5
        induction sl with
        | nil => rfl
        | cons s r ih => rw [List.all_cons, List.any_cons, ih]; unfold badS; cases sizeB s.1 <;> cases powB s.2 <;> simp
      rw [e]
      rcases sl.any badS with _ | _ <;> rfl)
    have h5i : (sl.length : Int) ≤ 512 := by omega
    clear h5
    rcases hb : sl.any badS with _ | _
    · rw [hb] at HE HCON
      clear hb
      go_enter Tryd.func57, Tryd.ntmps57
      go_wp2_with fail
      refine (HCON.out _ (Below.refl _ _)).mono ?_
      rintro e w3 ⟨rfl, bel⟩
      go_wp2
      go_ret
      exact ⟨ret_int (by rw [HE.out]; rfl), bel⟩
    · rw [hb] at HE HCON
      clear hb
      go_enter Tryd.func57, Tryd.ntmps57
      go_wp2_with fail
      refine (HCON.out _ (Below.refl _ _)).mono ?_
      rintro e w3 ⟨rfl, bel⟩
      go_wp2
      go_ret
      exact ⟨ret_int (by rw [HE.out]; rfl), bel⟩
end Go.Proofs.YtillopkcmpcokaaDoor.pm
