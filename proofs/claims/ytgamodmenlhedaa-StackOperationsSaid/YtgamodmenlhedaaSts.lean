/- The contract of Same of stacks. -/
import Derived.Test.YtgamodmenlhedaaSl
namespace Go.Proofs.Ytgamodmenlhedaa
open Go.RowKit
set_option linter.unusedVariables false

set_option maxHeartbeats 2000000 in
theorem stk_same (A1 A2 U1 U2 : Option Addr) (n c1 c2 m d1 d2 : Nat) (sp : Int) (l : List Nat) (u : List Bool) (w : World) (B : Nat)
    (h1 : Bs w B A1 n l) (h2 : Bs w B A2 n l) (g1 : Sl Value.bool w B U1 m u) (g2 : Sl Value.bool w B U2 m u) (hB : B ≤ w.heap.size) (hn : n ≤ maxLen) (hm : m ≤ maxLen) :
    Calls Try.prog 37 #[.agg #[.slice A1 n c1, .slice U1 m d1, .int .i64 sp], .agg #[.slice A2 n c2, .slice U2 m d2, .int .i64 sp]] w fun e w' => e = .returned (.bool true) ∧ Below w.heap.size w w' := by
  unfold maxLen at hn hm
  go_enter Try.func37, Try.ntmps37
  go_wp2
  go_loopw [5] (fun i wr => ∃ k : Nat, k ≤ n ∧ i = .int .i64 k ∧ ∃ q, wr = ((w.alloc (.cells #[.slice A1 n c1, .slice U1 m d1, .int .i64 sp] 55)).alloc (.cells #[.slice A2 n c2, .slice U2 m d2, .int .i64 sp] 55)).drewN q) (fun i _ => n - (intOf i).toNat)
  case atStart => exact ⟨0, by omega, rfl, 0, rfl⟩
  case round =>
    obtain ⟨k, hk, rfl, q, rfl⟩ := hrel
    by_cases hlt : k < n
    · obtain ⟨a1, rfl, b1, e1⟩ := h1.at_ hlt
      obtain ⟨a2, rfl, b2, e2⟩ := h2.at_ hlt
      have hki : (k : Int) < (n : Int) := by omega
      have hk0 : (0 : Int) ≤ (k : Int) := by omega
      have b1' : (a1.add k).block < w.heap.size := by rw [block_of_add]; omega
      have b2' : (a2.add k).block < w.heap.size := by rw [block_of_add]; omega
      clear h1 h2
      generalize l.getD k 0 = x at *
      go_wp2_with fail
      go_quiet (fail)
      go_wp2
      go_roundw
      case rel => exact ⟨k + 1, by omega, by go_num, by first | exact ⟨_, rfl⟩ | exact ⟨_, World.drewN_drewN _ _ _⟩⟩
      case measure => simp [intOf]; omega
    · clear h1 h2
      go_wp2
      go_loopw [6] (fun i wr => ∃ k : Nat, k ≤ m ∧ i = .int .i64 k ∧ ∃ q, wr = ((w.alloc (.cells #[.slice A1 n c1, .slice U1 m d1, .int .i64 sp] 55)).alloc (.cells #[.slice A2 n c2, .slice U2 m d2, .int .i64 sp] 55)).drewN q) (fun i _ => m - (intOf i).toNat)
      case atStart => exact ⟨0, by omega, rfl, _, rfl⟩
      case round =>
        obtain ⟨k', hk', rfl, q', rfl⟩ := hrel
        by_cases hlt' : k' < m
        · obtain ⟨a1, x, rfl, b1, hx1, e1⟩ := g1.at_ hlt'
          obtain ⟨a2, y, rfl, b2, hx2, e2⟩ := g2.at_ hlt'
          have hki : (k' : Int) < (m : Int) := by omega
          have hk0 : (0 : Int) ≤ (k' : Int) := by omega
          have b1' : (a1.add k').block < w.heap.size := by rw [block_of_add]; omega
          have b2' : (a2.add k').block < w.heap.size := by rw [block_of_add]; omega
          have hxy : x = y := Option.some.inj (hx1.symm.trans hx2)
          subst hxy
          clear g1 g2 hx1 hx2
          go_wp2_with fail
          go_quiet (fail)
          go_wp2
          go_roundw
          case rel => exact ⟨k' + 1, by omega, by go_num, by first | exact ⟨_, rfl⟩ | exact ⟨_, World.drewN_drewN _ _ _⟩⟩
          case measure => simp [intOf]; omega
        · go_wp2
          go_ret
          exact ⟨rfl, below_drewN (by go_grown) _⟩
end Go.Proofs.Ytgamodmenlhedaa
