/- Slices of values and their equality; outcomes. -/
import Derived.Test.YtillopkcmpcokaaDoorSm1
namespace Go.Proofs.YtillopkcmpcokaaDoor.pm
open Go.RowKit
set_option linter.unusedVariables false
set_option maxRecDepth 10000
/-- the cells of a value -/
def ucells (x : Int × Int) : List Value := [.int .u64 x.1, .int .u64 x.2]
theorem ucells_len (x : Int × Int) : (ucells x).length = 2 := rfl
def Ux (w : World) (lo hi : Nat) (A : Option Addr) (l : List (Int × Int)) : Prop := Rx w lo hi 2 A l.length (l.flatMap ucells)
section
variable {lo hi lo' hi' : Nat} {w w' : World} {A : Option Addr} {k : Nat} {l : List (Int × Int)}
theorem Ux.keep (h : Ux w lo hi A l) (hk : Kp lo hi w w') : Ux w' lo hi A l := Rx.keep h hk
theorem Ux.more (h : Ux w lo hi A l) (hl : lo' ≤ lo) (hh : hi ≤ hi') : Ux w lo' hi' A l := Rx.more h hl hh
theorem Ux.whole (h : Ux w lo hi A l) (hk : k < l.length) : ∃ ad, A = some ad ∧ ad.block < hi ∧ w.cell? (ad.add (k * 2)) = some (.int .u64 (l.getD k (0, 0)).1) ∧ w.cell? ⟨(ad.add (k * 2)).block, (ad.add (k * 2)).off + 1, none⟩ = some (.int .u64 (l.getD k (0, 0)).2) := by
  obtain ⟨ad, e, hb, hc⟩ := h.1.2 (by omega)
  have g0 : ∀ j, j < 2 → (l.flatMap ucells)[k * 2 + j]? = (ucells (l.getD k (0, 0)))[j]? := fun j hj => flat_get ucells_len (0, 0) l k j (by omega) hj
  have c1 : w.cell? ((ad.add (k * 2)).add 1) = some (.int .u64 (l.getD k (0, 0)).2) := by
    rw [add_of_add]
    exact hc (k * 2 + 1) _ (by simpa [ucells] using g0 1 (by omega))
  rw [add_pos _ 1 (by omega)] at c1
  exact ⟨ad, e, hb, hc (k * 2) _ (by simpa [ucells] using g0 0 (by omega)), c1⟩
end
theorem eq_val (a b c d : Int) (w : World) : (Op.equalIn 10000 33 (.agg #[.int .u64 a, .int .u64 b]) (.agg #[.int .u64 c, .int .u64 d])).run Tryd.prog w = .ok (a == c && b == d) w := by
  have u4 := Tryd.underlying31
  have a4 := Tryd.isAgg31
  have z4 := Tryd.sizeOf31
  have hS : Tryd.prog.underlying 33 = some (.struct (Tryd.prog.fieldsOf 33)) := by kernel_rfl
  have hp : Tryd.prog.stoodInHeld 33 = false := by kernel_rfl
  rw [show (10000 : Nat) = 9999 + 1 from rfl, run_equalIn_agg w 9999 33 _ _ hS hp]
  simp only [Program.fieldsOf, Tryd.underlying33]
  go_simp
  by_cases h1 : a = c <;> by_cases h2 : b = d <;> simp [h1, h2]
theorem neq_val (a b c d : Int) (w : World) : (binOp .neq 33 (.agg #[.int .u64 a, .int .u64 b]) (.agg #[.int .u64 c, .int .u64 d])).run Tryd.prog w = .ok (.bool (!(a == c && b == d))) w := by
  rw [run_neq_struct, eq_val]; rfl
theorem eql_val (a b c d : Int) (w : World) : (binOp .eql 33 (.agg #[.int .u64 a, .int .u64 b]) (.agg #[.int .u64 c, .int .u64 d])).run Tryd.prog w = .ok (.bool (a == c && b == d)) w := by
  rw [run_eql_struct, eq_val]; rfl
set_option maxHeartbeats 1000000 in
theorem equal_vals (A1 A2 : Option Addr) (l m : List (Int × Int)) (c1 c2 : Nat) (w : World) (lo hi lo' hi' : Nat) (h1 : Ux w lo hi A1 l) (h2 : Ux w lo' hi' A2 m) (hl : l.length ≤ maxLen) (hm : m.length ≤ maxLen) :
    Calls Tryd.prog 32 #[.slice A1 l.length c1, .slice A2 m.length c2] w fun e w' => e = .returned (.bool (eqL slEq l m)) ∧ ∃ k, w' = w.drewN k := by
  have H1 := Lib.hid h1
  have H2 := Lib.hid h2
  have hli : (l.length : Int) ≤ 9223372036854775807 := by unfold maxLen at hl; omega
  clear h1 h2
  by_cases hlen : l.length = m.length
  · have e0 : ((l.length : Int) != (m.length : Int)) = false := by simp [hlen]
    have HLM := Lib.hid hlen
    clear hlen
    go_enter Tryd.func32, Tryd.ntmps32
    go_wp2
    go_loopw [13] (fun v wr => ∃ k q : Nat, k ≤ l.length ∧ v = .int .i64 k ∧ Hid (∀ j, j < k → slEq (l.getD j (0, 0)) (m.getD j (0, 0)) = true) ∧ Hid (wr = w.drewN q)) (fun v _ => l.length - (intOf v).toNat)
    case atStart => exact ⟨0, 0, by omega, rfl, Lib.hid (fun j hj => by omega), Lib.hid rfl⟩
    case round =>
      obtain ⟨k, q, hk, rfl, HZ, HW⟩ := hrel
      have hk0 : (0 : Int) ≤ (k : Int) := by omega
      obtain rfl := HW.out
      by_cases hlt : k < l.length
      · have hki : (k : Int) < (l.length : Int) := by omega
        have hkm : k < m.length := by have := HLM.out; omega
        have hkmi : (k : Int) < (m.length : Int) := by omega
        obtain ⟨a1, rfl, hb1, x0, x1⟩ := H1.out.whole hlt
        obtain ⟨a2, rfl, hb2, y0, y1⟩ := H2.out.whole hkm
        obtain ⟨s, hs⟩ : ∃ s, s = l.getD k (0, 0) := ⟨_, rfl⟩
        obtain ⟨t, ht⟩ : ∃ t, t = m.getD k (0, 0) := ⟨_, rfl⟩
        rw [← hs] at x0 x1
        rw [← ht] at y0 y1
        rcases hq : slEq s t with _ | _
        · have hne : ∀ W, (binOp .neq 33 (.agg #[.int .u64 s.1, .int .u64 s.2]) (.agg #[.int .u64 t.1, .int .u64 t.2])).run Tryd.prog W = .ok (.bool true) W := fun W => (neq_val s.1 s.2 t.1 t.2 W).trans (congrArg (fun b => Result.ok (Value.bool (!b)) W) hq)
          have HE : Hid (eqL slEq l m = false) := Lib.hid (eqL_one (z := (0, 0)) hlt hkm (by rw [← hs, ← ht]; exact hq))
          clear hs ht hq HZ
          go_wp2_with fail
          go_quiet (fail)
          go_wp2
          go_ret
          exact ⟨ret_bool (by rw [HE.out]), q + nq, by first | rfl | exact World.drewN_drewN _ _ _⟩
        · have hne : ∀ W, (binOp .neq 33 (.agg #[.int .u64 s.1, .int .u64 s.2]) (.agg #[.int .u64 t.1, .int .u64 t.2])).run Tryd.prog W = .ok (.bool false) W := fun W => (neq_val s.1 s.2 t.1 t.2 W).trans (congrArg (fun b => Result.ok (Value.bool (!b)) W) hq)
          have HZ' : Hid (∀ j, j < k + 1 → slEq (l.getD j (0, 0)) (m.getD j (0, 0)) = true) := Lib.hid (fun j hj => by
            rcases Nat.lt_or_ge j k with h | h
            · exact HZ.out j h
            · obtain rfl : j = k := by omega
              rw [← hs, ← ht]; exact hq)
          clear hs ht hq HZ
          go_wp2_with fail
          go_quiet (fail)
          go_wp2
          go_roundw
          case rel => exact ⟨k + 1, _, by omega, by go_num, HZ', Lib.hid rfl⟩
          case measure => simp [intOf]; omega
      · obtain rfl : k = l.length := by omega
        have HE : Hid (eqL slEq l m = true) := Lib.hid (eqL_all (z := (0, 0)) HLM.out HZ.out)
        clear HZ
        go_wp2
        go_ret
        exact ⟨ret_bool (by rw [HE.out]), q, rfl⟩
  · have e0 : ((l.length : Int) != (m.length : Int)) = true := by simp; omega
    have HE : Hid (eqL slEq l m = false) := Lib.hid (eqL_len hlen)
    clear hlen
    go_enter Tryd.func32, Tryd.ntmps32
    go_wp2
    go_ret
    exact ⟨ret_bool (by rw [HE.out]), 0, rfl⟩
set_option maxHeartbeats 1000000 in
theorem refequal_vals (A1 A2 : Option Addr) (l m : List (Int × Int)) (c1 c2 : Nat) (w : World) (lo hi lo' hi' : Nat) (h1 : Ux w lo hi A1 l) (h2 : Ux w lo' hi' A2 m) (hl : l.length ≤ maxLen) (hm : m.length ≤ maxLen) :
    Calls Tryd.prog 13 #[.slice A1 l.length c1, .slice A2 m.length c2] w fun e w' => e = .returned (.bool (eqL slEq l m)) ∧ ∃ k, w' = w.drewN k := by
  have H1 := Lib.hid h1
  have H2 := Lib.hid h2
  have hli : (l.length : Int) ≤ 9223372036854775807 := by unfold maxLen at hl; omega
  clear h1 h2
  by_cases hlen : l.length = m.length
  · have e0 : ((l.length : Int) != (m.length : Int)) = false := by simp [hlen]
    have HLM := Lib.hid hlen
    clear hlen
    go_enter Tryd.func13, Tryd.ntmps13
    go_wp2
    go_loopw [5] (fun v wr => ∃ k q : Nat, k ≤ l.length ∧ v = .int .i64 k ∧ Hid (∀ j, j < k → slEq (l.getD j (0, 0)) (m.getD j (0, 0)) = true) ∧ Hid (wr = w.drewN q)) (fun v _ => l.length - (intOf v).toNat)
    case atStart => exact ⟨0, 0, by omega, rfl, Lib.hid (fun j hj => by omega), Lib.hid rfl⟩
    case round =>
      obtain ⟨k, q, hk, rfl, HZ, HW⟩ := hrel
      have hk0 : (0 : Int) ≤ (k : Int) := by omega
      obtain rfl := HW.out
      by_cases hlt : k < l.length
      · have hki : (k : Int) < (l.length : Int) := by omega
        have hkm : k < m.length := by have := HLM.out; omega
        have hkmi : (k : Int) < (m.length : Int) := by omega
        obtain ⟨a1, rfl, hb1, x0, x1⟩ := H1.out.whole hlt
        obtain ⟨a2, rfl, hb2, y0, y1⟩ := H2.out.whole hkm
        obtain ⟨s, hs⟩ : ∃ s, s = l.getD k (0, 0) := ⟨_, rfl⟩
        obtain ⟨t, ht⟩ : ∃ t, t = m.getD k (0, 0) := ⟨_, rfl⟩
        rw [← hs] at x0 x1
        rw [← ht] at y0 y1
        rcases hq : slEq s t with _ | _
        · have hne : ∀ W, (binOp .neq 33 (.agg #[.int .u64 s.1, .int .u64 s.2]) (.agg #[.int .u64 t.1, .int .u64 t.2])).run Tryd.prog W = .ok (.bool true) W := fun W => (neq_val s.1 s.2 t.1 t.2 W).trans (congrArg (fun b => Result.ok (Value.bool (!b)) W) hq)
          have HE : Hid (eqL slEq l m = false) := Lib.hid (eqL_one (z := (0, 0)) hlt hkm (by rw [← hs, ← ht]; exact hq))
          clear hs ht hq HZ
          go_wp2_with fail
          go_quiet (fail)
          go_wp2
          go_ret
          exact ⟨ret_bool (by rw [HE.out]), q + nq, by first | rfl | exact World.drewN_drewN _ _ _⟩
        · have hne : ∀ W, (binOp .neq 33 (.agg #[.int .u64 s.1, .int .u64 s.2]) (.agg #[.int .u64 t.1, .int .u64 t.2])).run Tryd.prog W = .ok (.bool false) W := fun W => (neq_val s.1 s.2 t.1 t.2 W).trans (congrArg (fun b => Result.ok (Value.bool (!b)) W) hq)
          have HZ' : Hid (∀ j, j < k + 1 → slEq (l.getD j (0, 0)) (m.getD j (0, 0)) = true) := Lib.hid (fun j hj => by
            rcases Nat.lt_or_ge j k with h | h
            · exact HZ.out j h
            · obtain rfl : j = k := by omega
              rw [← hs, ← ht]; exact hq)
          clear hs ht hq HZ
          go_wp2_with fail
          go_quiet (fail)
          go_wp2
          go_roundw
          case rel => exact ⟨k + 1, _, by omega, by go_num, HZ', Lib.hid rfl⟩
          case measure => simp [intOf]; omega
      · obtain rfl : k = l.length := by omega
        have HE : Hid (eqL slEq l m = true) := Lib.hid (eqL_all (z := (0, 0)) HLM.out HZ.out)
        clear HZ
        go_wp2
        go_ret
        exact ⟨ret_bool (by rw [HE.out]), q, rfl⟩
  · have e0 : ((l.length : Int) != (m.length : Int)) = true := by simp; omega
    have HE : Hid (eqL slEq l m = false) := Lib.hid (eqL_len hlen)
    clear hlen
    go_enter Tryd.func13, Tryd.ntmps13
    go_wp2
    go_ret
    exact ⟨ret_bool (by rw [HE.out]), 0, rfl⟩
end Go.Proofs.YtillopkcmpcokaaDoor.pm
