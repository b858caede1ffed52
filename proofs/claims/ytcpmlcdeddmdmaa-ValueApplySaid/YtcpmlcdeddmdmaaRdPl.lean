/- The quotient bit by bit, in the walk's words. -/
import Derived.Test.YtcpmlcdeddmdmaaRc
namespace Go.Proofs.Ytcpmlcdeddmdmaa

structure DvS (a b c d j o0 o1 r0 r1 : Nat) : Prop where
  inv : LdI (vN a b) (vN c d) j (vN o0 o1) (vN r0 r1)
  a0 : o0 < 18446744073709551616
  a1 : o1 < 18446744073709551616
  b0 : r0 < 18446744073709551616
  b1 : r1 < 18446744073709551616
theorem dv_start (a b c d : Nat) (ha : a < 18446744073709551616) (hb : b < 18446744073709551616) : DvS a b c d 128 0 0 0 0 :=
  ⟨divI_start _ _ (vN_lt ha hb), by omega, by omega, by omega, by omega⟩
theorem dv_end {a b c d o0 o1 r0 r1 : Nat} (ha : a < 18446744073709551616) (hb : b < 18446744073709551616) (h : DvS a b c d 0 o0 o1 r0 r1) : o0 = loN (vN a b / vN c d) ∧ o1 = hiN (vN a b / vN c d) := by
  refine pair_eq h.a0 h.a1 ?_
  rw [divI_end h.inv]
  exact (Nat.mod_eq_of_lt (Nat.lt_of_le_of_lt (Nat.div_le_self _ _) (vN_lt ha hb))).symm
theorem dv_turn {a b c d m o0 o1 r0 r1 : Nat} (ha : a < 18446744073709551616) (hb : b < 18446744073709551616) (hc : c < 18446744073709551616) (hd : d < 18446744073709551616) (h0 : ¬ (c = 0 ∧ d = 0)) (hm : m < 128) (h : DvS a b c d (m + 1) o0 o1 r0 r1) :
    ∃ l1 u1 l2 t : Nat, loN (2 * vN r0 r1) = l1 ∧ hiN (2 * vN r0 r1) = u1 ∧ vN a b / 2 ^ m % 2 = t ∧ bits .or .u64 (l1 : Int) (t : Int) = (l2 : Int) ∧ (l1 < 18446744073709551616 ∧ u1 < 18446744073709551616 ∧ l2 < 18446744073709551616) ∧ vN o0 o1 / 2 ^ m % 2 = 0 ∧
      (r1 / 9223372036854775808 = 1 ∨ lessN l2 u1 c d = false → DvS a b c d m (loN (vN o0 o1 + 2 ^ m)) (hiN (vN o0 o1 + 2 ^ m)) (loN (vN l2 u1 + (M128 - vN c d))) (hiN (vN l2 u1 + (M128 - vN c d)))) ∧
      (¬ (r1 / 9223372036854775808 = 1) → lessN l2 u1 c d = true → DvS a b c d m o0 o1 l2 u1) := by
  obtain ⟨hi, g0, g1, g2, g3⟩ := h
  have hX := vN_lt ha hb
  have hY := vN_lt hc hd
  have hY0 : 0 < vN c d := by unfold vN; omega
  obtain ⟨t1, t2, t3, t4, t5⟩ := divI_turn hX hY0 hY hm hi
  have ht : vN a b / 2 ^ m % 2 < 2 := Nat.mod_lt _ (by decide)
  generalize vN a b / 2 ^ m % 2 = t at *
  have ev : loN (2 * vN r0 r1) % 2 = 0 := by unfold loN; omega
  have hl := loN_lt (2 * vN r0 r1)
  have e1 : bits .or .u64 (loN (2 * vN r0 r1) : Int) (t : Int) = ((loN (2 * vN r0 r1) + t : Nat) : Int) := by
    rw [u64_or_nat _ _ hl (by omega), nat_join 1 _ t ev (by omega)]
  have e2 : vN (loN (2 * vN r0 r1) + t) (hiN (2 * vN r0 r1)) = (2 * vN r0 r1) % M128 + t := by
    have := vN_lohi (2 * vN r0 r1)
    unfold vN at *
    omega
  have hov : r1 / 9223372036854775808 = 1 ↔ 9223372036854775808 * 18446744073709551616 ≤ vN r0 r1 := by unfold vN; omega
  refine ⟨_, _, _, t, rfl, rfl, rfl, e1, ⟨hl, hiN_lt _, by omega⟩, t2, ?_, ?_⟩
  · intro hc
    unfold lessN at hc
    rw [e2, decide_eq_false_iff_not, hov] at hc
    have := t5 hc
    refine ⟨?_, loN_lt _, hiN_lt _, loN_lt _, hiN_lt _⟩
    rw [vN_lohi, vN_lohi, e2, Nat.mod_eq_of_lt t3]
    exact this
  · intro h1 h2
    unfold lessN at h2
    rw [e2, decide_eq_true_iff] at h2
    rw [hov] at h1
    have := t4 (fun h => h.elim h1 (fun h => h h2))
    exact ⟨by rw [e2]; exact this, g0, g1, by omega, hiN_lt _⟩
end Go.Proofs.Ytcpmlcdeddmdmaa
