/- Contracts: New of the stack, of the program and of the reference. -/
import Derived.Test.YtgamodmenlhedaaSt
import Derived.Test.YtgamodmenlhedaaCo
namespace Go.Proofs.Ytgamodmenlhedaa
open Go.RowKit
set_option linter.unusedVariables false

theorem run_make_rowN {P : Program} (t e : TypeId) (i : TypeInfo) (z : Value) (ht : P.underlying t = some (.slice e)) (hi : P.info? e = some i) (hz : i.zero = some z)
    (kl kc : IntKind) (n c : Nat) (hnc : n ≤ c) (hbytes : i.bytes * c ≤ 281474976710656) (h63 : c ≤ 9223372036854775807) (w : World) :
    (Instr.makeSlice t (.int kl (n : Int)) (.int kc (c : Int))).run P w = .ok (.slice (some ⟨w.heap.size, 0, none⟩) n c) (w.alloc (.cells (madeCells z.cells (c * i.size)) e)) := by
  have hb : (i.bytes : Int) * (c : Int) ≤ 281474976710656 := by
    have h : ((i.bytes * c : Nat) : Int) ≤ 281474976710656 := by omega
    rwa [Int.natCast_mul] at h
  have hr := run_make (P := P) w t e i z ht hi hz kl kc n c (by omega) (by omega) hb (by omega)
  simp only [Int.toNat_natCast] at hr
  exact hr
def zb (s : Nat) : Array Value := madeCells #[.int .u8 0] s
def zu (s : Nat) : Array Value := madeCells #[.bool false] s
theorem zb_list (s : Nat) : (zb s).toList = nb (List.replicate s 0) := by
  unfold zb nb
  rw [toList_madeCells_one]
  simp
theorem zu_list (s : Nat) : (zu s).toList = (List.replicate s false).map Value.bool := by
  unfold zu
  rw [toList_madeCells_one]
  simp
theorem zb_size (s : Nat) : (zb s).size = s * 1 := by rw [← Array.length_toList, zb_list]; simp [nb]
theorem zu_size (s : Nat) : (zu s).size = s * 1 := by rw [← Array.length_toList, zu_list]; simp
theorem info_bool : (Try.prog.info? 4).map (fun i => (i.zero, i.size, i.bytes)) = some (some (.bool false), 1, 1) := by kernel_rfl
theorem make_bytes (s : Nat) (hs : s ≤ 1048576) (w : World) : (Instr.makeSlice 22 (.int .i64 (s : Int)) (.int .i64 (s : Int))).run Try.prog w = .ok (.slice (some ⟨w.heap.size, 0, none⟩) s s) (w.alloc (.cells (zb s) 5)) := by
  obtain ⟨i0, hi0, hz0, hz1, hz2⟩ := info_parts info_u8
  have := run_make_rowN (P := Try.prog) 22 5 i0 _ Try.underlying22 hi0 hz0 .i64 .i64 s s (Nat.le_refl _) (by rw [hz2]; omega) (by omega) w
  rw [hz1, Nat.mul_one] at this
  exact this
theorem make_bools (s : Nat) (hs : s ≤ 1048576) (w : World) : (Instr.makeSlice 53 (.int .i64 (s : Int)) (.int .i64 (s : Int))).run Try.prog w = .ok (.slice (some ⟨w.heap.size, 0, none⟩) s s) (w.alloc (.cells (zu s) 4)) := by
  obtain ⟨i0, hi0, hz0, hz1, hz2⟩ := info_parts info_bool
  have := run_make_rowN (P := Try.prog) 53 4 i0 _ Try.underlying53 hi0 hz0 .i64 .i64 s s (Nat.le_refl _) (by rw [hz2]; omega) (by omega) w
  rw [hz1, Nat.mul_one] at this
  exact this

/-- the error, the size and the stack pointer of a new stack -/
def newR (size align : Int) : Int × Nat × Int := if 0 ≤ size ∧ size ≤ 1048576 ∧ powB align = true then (0, size.toNat, size - size % align) else (4, 0, 0)
def NewR (w : World) (r : Int × Nat × Int) (e : Ending) (w' : World) : Prop :=
  ∃ A1 c1 A2 c2, e = .returned (.tuple #[.agg #[.slice A1 r.2.1 c1, .slice A2 r.2.1 c2, .int .i64 r.2.2], .int .i64 r.1]) ∧
    w'.ownsRow w.heap.size 5 1 (.slice A1 r.2.1 c1) r.2.1 (nb (List.replicate r.2.1 0)) ∧
    w'.ownsRow w.heap.size 4 1 (.slice A2 r.2.1 c2) r.2.1 ((List.replicate r.2.1 false).map Value.bool) ∧ Below w.heap.size w w'

theorem newstk_own1 (w : World) (o : Obj) (s : Nat) (hs : s ≤ 1048576) :
    (((w.alloc o).alloc (.cells (zb s) 5)).alloc (.cells (zu s) 4)).drew.ownsRow w.heap.size 5 1 (.slice (some ⟨w.heap.size + 1, 0, none⟩) s s) s (nb (List.replicate s 0)) ∧
    (((w.alloc o).alloc (.cells (zb s) 5)).alloc (.cells (zu s) 4)).drew.ownsRow w.heap.size 4 1 (.slice (some ⟨w.heap.size + 1 + 1, 0, none⟩) s s) s ((List.replicate s false).map Value.bool) ∧
    Below w.heap.size w (((w.alloc o).alloc (.cells (zb s) 5)).alloc (.cells (zu s) 4)).drew := by
  have e1 : (w.alloc o).heap.size = w.heap.size + 1 := by simp
  have e2 : ((w.alloc o).alloc (.cells (zb s) 5)).heap.size = w.heap.size + 1 + 1 := by simp
  have o1 := World.ownsRow_lit (base := w.heap.size) (e := 5) (size := 1) (w.alloc o) (zb s) s (by simp) (by unfold maxLen; omega) (zb_size s)
  have o2 := World.ownsRow_lit (base := w.heap.size) (e := 4) (size := 1) ((w.alloc o).alloc (.cells (zb s) 5)) (zu s) s (by simp; omega) (by unfold maxLen; omega) (zu_size s)
  rw [zb_list, e1] at o1
  rw [zu_list, e2] at o2
  exact ⟨(o1.alloc _).drew, o2.drew, by go_grown⟩
theorem newstk_own2 (w : World) (o : Obj) (s : Nat) (hs : s ≤ 1048576) :
    (((w.alloc o).alloc (.cells (zu s) 4)).alloc (.cells (zb s) 5)).drew.ownsRow w.heap.size 5 1 (.slice (some ⟨w.heap.size + 1 + 1, 0, none⟩) s s) s (nb (List.replicate s 0)) ∧
    (((w.alloc o).alloc (.cells (zu s) 4)).alloc (.cells (zb s) 5)).drew.ownsRow w.heap.size 4 1 (.slice (some ⟨w.heap.size + 1, 0, none⟩) s s) s ((List.replicate s false).map Value.bool) ∧
    Below w.heap.size w (((w.alloc o).alloc (.cells (zu s) 4)).alloc (.cells (zb s) 5)).drew := by
  have e1 : (w.alloc o).heap.size = w.heap.size + 1 := by simp
  have e2 : ((w.alloc o).alloc (.cells (zu s) 4)).heap.size = w.heap.size + 1 + 1 := by simp
  have o1 := World.ownsRow_lit (base := w.heap.size) (e := 4) (size := 1) (w.alloc o) (zu s) s (by simp) (by unfold maxLen; omega) (zu_size s)
  have o2 := World.ownsRow_lit (base := w.heap.size) (e := 5) (size := 1) ((w.alloc o).alloc (.cells (zu s) 4)) (zb s) s (by simp; omega) (by unfold maxLen; omega) (zb_size s)
  rw [zu_list, e1] at o1
  rw [zb_list, e2] at o2
  exact ⟨o2.drew, (o1.alloc _).drew, by go_grown⟩

set_option maxHeartbeats 1000000 in
theorem stknew_any (x y : Int) (hx0 : -9223372036854775808 ≤ x) (hx1 : x ≤ 9223372036854775807) (hy0 : -9223372036854775808 ≤ y) (hy1 : y ≤ 9223372036854775807) (w : World) :
    Calls Try.prog 30 #[.int .i64 x, .int .i64 y] w (NewR w (newR x y)) := by
  by_cases h : 0 ≤ x ∧ x ≤ 1048576
  · obtain ⟨h0, h1⟩ := h
    obtain ⟨s, rfl⟩ := Int.eq_ofNat_of_zero_le h0
    have hpw := fun W : World => power_any y hy0 hy1 W
    rcases hb : powB y with _ | _
    · rw [hb] at hpw
      have hr : newR (s : Int) y = (4, 0, 0) := by unfold newR; rw [if_neg (by simp [hb])]
      have HP := Lib.hid hpw
      have HR := Lib.hid hr
      clear hpw hb hr
      go_enter Try.func30, Try.ntmps30
      go_wp2_with fail
      refine (HP.out _).mono ?_
      rintro e w1 ⟨rfl, rfl⟩
      go_wp2
      go_returns
      rw [HR.out]
      exact ⟨none, 0, none, 0, rfl, World.ownsRow_nil _ _ _ _, World.ownsRow_nil _ _ _ _, by go_grown⟩
    · rw [hb] at hpw
      obtain ⟨k, hk, hy⟩ := (powB_iff y).1 hb
      have hand := i64_andNot_pow s k (by omega) hk
      have hpk := pow24 hk
      have hr : newR (s : Int) y = (0, s, ((s - s % 2 ^ k : Nat) : Int)) := by
        unfold newR
        rw [if_pos ⟨h0, h1, hb⟩]
        have e1 : (s : Int) % y = ((s % 2 ^ k : Nat) : Int) := by rw [hy]; rfl
        rw [e1]
        have : s % 2 ^ k ≤ s := Nat.mod_le _ _
        simp only [Int.toNat_natCast]
        congr 2
        omega
      have hy1' : y - 1 = ((2 ^ k - 1 : Nat) : Int) := by omega
      have HP := Lib.hid hpw
      have HR := Lib.hid hr
      have hand' : bits .andNot .i64 (s : Int) (y - 1) = ((s - s % 2 ^ k : Nat) : Int) := by rw [hy1']; exact hand
      have hyb : 1 ≤ y ∧ y ≤ 16777216 := powB_range y hb
      have hmb := make_bytes s (by omega)
      have hmu := make_bools s (by omega)
      clear hpw hb hr hand hy hy1'
      generalize s - s % 2 ^ k = sp at *
      clear hpk
      go_enter Try.func30, Try.ntmps30
      go_wp2_with fail
      refine (HP.out _).mono ?_
      rintro e w1 ⟨rfl, rfl⟩
      go_wp2_with fail
      go_region
      all_goals
        clear hmb hmu hand'
        go_wp2
        go_returns
        rw [HR.out]
        refine ⟨_, _, _, _, rfl, ?_⟩
      · exact newstk_own1 w _ s (by omega)
      · exact newstk_own2 w _ s (by omega)
  · have hr : newR x y = (4, 0, 0) := by unfold newR; rw [if_neg (by omega)]
    have HR := Lib.hid hr
    have hx : x < 0 ∨ (0 ≤ x ∧ 1048576 < x) := by omega
    clear hr h
    rcases hx with h | ⟨h, h'⟩
    all_goals
      go_enter Try.func30, Try.ntmps30
      go_wp2
      go_returns
      rw [HR.out]
      exact ⟨none, 0, none, 0, rfl, World.ownsRow_nil _ _ _ _, World.ownsRow_nil _ _ _ _, by go_grown⟩
set_option maxHeartbeats 1000000 in
theorem refstknew_any (x y : Int) (hx0 : -9223372036854775808 ≤ x) (hx1 : x ≤ 9223372036854775807) (hy0 : -9223372036854775808 ≤ y) (hy1 : y ≤ 9223372036854775807) (w : World) :
    Calls Try.prog 41 #[.int .i64 x, .int .i64 y] w (NewR w (newR x y)) := by
  by_cases h : 0 ≤ x ∧ x ≤ 1048576
  · obtain ⟨h0, h1⟩ := h
    obtain ⟨s, rfl⟩ := Int.eq_ofNat_of_zero_le h0
    have hpw := fun W : World => refpower_any y hy0 hy1 W
    rcases hb : powB y with _ | _
    · rw [hb] at hpw
      have hr : newR (s : Int) y = (4, 0, 0) := by unfold newR; rw [if_neg (by simp [hb])]
      have HP := Lib.hid hpw
      have HR := Lib.hid hr
      clear hpw hb hr
      go_enter Try.func41, Try.ntmps41
      go_wp2_with fail
      refine (HP.out _).mono ?_
      rintro e w1 ⟨rfl, rfl⟩
      go_wp2
      go_returns
      rw [HR.out]
      exact ⟨none, 0, none, 0, rfl, World.ownsRow_nil _ _ _ _, World.ownsRow_nil _ _ _ _, by go_grown⟩
    · rw [hb] at hpw
      obtain ⟨k, hk, hy⟩ := (powB_iff y).1 hb
      have hpk := pow24 hk
      have hyb' := powB_range y hb
      have hm0 : 0 ≤ (s : Int) % y := Int.emod_nonneg _ (by omega)
      have hm1 : (s : Int) % y < y := Int.emod_lt_of_pos _ (by omega)
      have hm2 : (s : Int) % y ≤ s := by
        have := Int.emod_lt_of_pos (s : Int) (show 0 < y by omega)
        have h3 : (s : Int) = y * ((s : Int) / y) + (s : Int) % y := (Int.mul_ediv_add_emod _ _).symm
        have h4 : 0 ≤ y * ((s : Int) / y) := Int.mul_nonneg (by omega) (Int.ediv_nonneg (by omega) (by omega))
        omega
      have hr : newR (s : Int) y = (0, s, (s : Int) - (s : Int) % y) := by
        unfold newR
        rw [if_pos ⟨h0, h1, hb⟩]
        simp
      have hyz : (y == 0) = false := by simp; omega
      have HP := Lib.hid hpw
      have HR := Lib.hid hr
      have hyb : 1 ≤ y ∧ y ≤ 16777216 := powB_range y hb
      have hmb := make_bytes s (by omega)
      have hmu := make_bools s (by omega)
      clear hpw hb hr hy hpk
      go_enter Try.func41, Try.ntmps41
      go_wp2_with fail
      refine (HP.out _).mono ?_
      rintro e w1 ⟨rfl, rfl⟩
      go_wp2_with fail
      go_region
      all_goals
        clear hmb hmu
        go_wp2
        go_returns
        rw [HR.out]
        refine ⟨_, _, _, _, rfl, ?_⟩
      · exact newstk_own1 w _ s (by omega)
      · exact newstk_own2 w _ s (by omega)
  · have hr : newR x y = (4, 0, 0) := by unfold newR; rw [if_neg (by omega)]
    have HR := Lib.hid hr
    have hx : x < 0 ∨ (0 ≤ x ∧ 1048576 < x) := by omega
    clear hr h
    rcases hx with h | ⟨h, h'⟩
    all_goals
      go_enter Try.func41, Try.ntmps41
      go_wp2
      go_returns
      rw [HR.out]
      exact ⟨none, 0, none, 0, rfl, World.ownsRow_nil _ _ _ _, World.ownsRow_nil _ _ _ _, by go_grown⟩
end Go.Proofs.Ytgamodmenlhedaa
