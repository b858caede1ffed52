/- Contracts of the lists of choices: New, Left, Next. -/
import Derived.Test.YtmeoabpigibaoaaSl
namespace Go.Proofs.Ytmeoabpigibaoaa
open Go.RowKit
set_option linter.unusedVariables false

theorem setCell_self {w : World} {g i : Nat} {v : Value} {cs : Array Value} {t : TypeId} {fr : Nat × Nat} (hg : w.heap[g]? = some (.cells cs t fr)) (hv : cs[i]? = some v) : w.setCell ⟨g, i, none⟩ v = w := by
  have e : (w.setCell ⟨g, i, none⟩ v).heap = w.heap := by
    apply Array.ext_getElem?
    intro k
    by_cases hk : k = g
    · subst hk
      simp only [World.setCell, Array.getElem?_modify]
      simp only [if_true, hg]
      simp
      apply Array.ext_getElem?
      intro j
      by_cases hj : j = i
      · subst hj
        rw [hv]
        have := (Array.getElem?_eq_some_iff.1 hv).1
        simp [this]
      · rw [Array.getElem?_setIfInBounds_ne (by omega)]
    · exact Below.heap_setCell w ⟨g, i, none⟩ v k hk
  cases w
  simp only [World.setCell] at e ⊢
  congr

/-- A list of choices lies in block g: the bytes l, and the place p of the next choice. -/
def CodesAt (w : World) (B g : Nat) (A : Option Addr) (n c : Nat) (l : List Nat) (p : Nat) : Prop :=
  Blk w g 45 #[.slice A n c, .int .i64 p] ∧ Bs w B A n l ∧ p ≤ n ∧ B ≤ g ∧ n ≤ 1000

theorem codes_new {w : World} {A : Option Addr} {n c : Nat} {l : List Nat} (hb : Bs w w.heap.size A n l) (m : Nat) (hm : m ≤ 1000) :
    CodesAt (w.alloc (.cells #[.slice A (min n m) c, .int .i64 0] 45)) w.heap.size w.heap.size A (min n m) c (l.take (min n m)) 0 :=
  ⟨Blk.new w _ _, (hb.take (Nat.min_le_left _ _)).alloc (Nat.le_refl _) _, Nat.zero_le _, Nat.le_refl _, by omega⟩
theorem newcodes_any (A : Option Addr) (n c : Nat) (l : List Nat) (m : Nat) (w : World) (hn : n ≤ maxLen) (hc : n ≤ c) (hm : m ≤ 1000) :
    Calls Try.prog 5 #[.slice A n c, .int .i64 m] w fun e w' => e = .returned (.pointer (some ⟨w.heap.size, 0, none⟩)) ∧ w' = w.alloc (.cells #[.slice A (min n m) c, .int .i64 0] 45) := by
  unfold maxLen at hn
  by_cases hq : m < n
  · have hmi : min n m = m := by omega
    have HM := Lib.hid hmi
    have h1 : (m : Int) ≤ (c : Int) := by omega
    have h2 : m ≤ c := by omega
    clear hmi
    go_enter Try.func5, Try.ntmps5
    go_wp2
    go_ret
    exact ⟨rfl, by rw [HM.out]⟩
  · have hmi : min n m = n := by omega
    have HM := Lib.hid hmi
    have h1 : (n : Int) ≤ (c : Int) := by omega
    clear hmi
    go_enter Try.func5, Try.ntmps5
    go_wp2
    go_ret
    exact ⟨rfl, by rw [HM.out]⟩

theorem left_any (g : Nat) (A : Option Addr) (n c : Nat) (p : Nat) (w : World) (hb : Blk w g 45 #[.slice A n c, .int .i64 p]) :
    Calls Try.prog 26 #[.pointer (some ⟨g, 0, none⟩)] w fun e w' => e = .returned (.bool (decide (p < n))) ∧ ∃ k, w' = w.drewN k := by
  have c0 := hb.cell 0
  have c1 := hb.cell 1
  simp at c0 c1
  clear hb
  go_enter Try.func26, Try.ntmps26
  go_wp2_with fail
  go_quiet (fail)
  go_wp2
  go_ret
  exact ⟨ret_bool (by first | rfl | simp), _, rfl⟩

/-- what a choice leaves: a number below n, and a later place -/
def Next1 (w : World) (g : Nat) (B : Nat) (A : Option Addr) (n c : Nat) (l : List Nat) (m : Int) (e : Ending) (w' : World) : Prop :=
  ∃ v p' k : Nat, (v = 0 ∨ (v : Int) < m) ∧ e = .returned (.int .i64 v) ∧ w' = (w.setCell ⟨g, 1, none⟩ (.int .i64 p')).drewN k ∧ CodesAt w' B g A n c l p'

set_option maxHeartbeats 1000000 in
theorem next_any (B g : Nat) (A : Option Addr) (n c : Nat) (l : List Nat) (p : Nat) (m : Int) (w : World) (h : CodesAt w B g A n c l p) (hm : m ≤ 1000000) (hm0 : -1000000 ≤ m) :
    Calls Try.prog 12 #[.pointer (some ⟨g, 0, none⟩), .int .i64 m] w (Next1 w g B A n c l m) := by
  obtain ⟨hb, hs, hp, hB, hn⟩ := h
  have c0 := hb.cell 0
  have c1 := hb.cell 1
  have fr := hb.frozen 1
  have hlt := hb.lt
  simp at c0 c1
  have HB := Lib.hid hb
  have HS := Lib.hid hs
  by_cases hl : p < n
  · obtain ⟨ad, rfl, hbl, hcell⟩ := hs.at_ hl
    have hx := hs.lt p
    generalize l.getD p 0 = x at *
    have hpi : (p : Int) < (n : Int) := by omega
    have hp0 : (0 : Int) ≤ (p : Int) := by omega
    clear hb hs
    by_cases hm1 : 1 ≤ m
    · go_enter Try.func12, Try.ntmps12
      go_wp2_with fail
      refine (left_any g _ n c p w HB.out).mono ?_
      rintro e w1 ⟨rfl, k, rfl⟩
      rw [show decide (p < n) = true by simpa using hl]
      go_wp2_with fail
      have hxm0 : 0 ≤ (x : Int) * m := Int.mul_nonneg (by omega) (by omega)
      have hxm1 : (x : Int) * m ≤ 255 * m := Int.mul_le_mul_of_nonneg_right (by omega) (by omega)
      have hxm2 : (x : Int) * m ≤ 255000000 := by omega
      have HXM := Lib.hid hxm1
      clear hxm1
      go_quiet (fail)
      go_wp2
      go_ret
      refine ⟨((x : Int) * m / 256).toNat, p + 1, _, .inr ?_, ret_int ?_, rfl, HB.out.set_ 1 _, ?_, by omega, hB, hn⟩
      · have := HXM.out
        omega
      · omega
      · exact ⟨HS.out.1.setCell (by simpa using hB) _, HS.out.2⟩
    · go_enter Try.func12, Try.ntmps12
      go_wp2_with fail
      refine (left_any g _ n c p w HB.out).mono ?_
      rintro e w1 ⟨rfl, k, rfl⟩
      rw [show decide (p < n) = true by simpa using hl]
      go_wp2
      go_ret
      exact ⟨0, p, k, .inl rfl, rfl, by rw [setCell_self HB.out (by simp)], ⟨HB.out.drewN k, HS.out.drewN k, hp, hB, hn⟩⟩
  · clear hb hs
    go_enter Try.func12, Try.ntmps12
    go_wp2_with fail
    refine (left_any g _ n c p w HB.out).mono ?_
    rintro e w1 ⟨rfl, k, rfl⟩
    rw [show decide (p < n) = false by simpa using hl]
    go_wp2
    go_ret
    exact ⟨0, p, k, .inl rfl, rfl, by rw [setCell_self HB.out (by simp)], ⟨HB.out.drewN k, HS.out.drewN k, hp, hB, hn⟩⟩
end Go.Proofs.Ytmeoabpigibaoaa
