/- Mod of the draws. -/
import Derived.Test.YtinfeglhjmnlaaaDoorGBa
namespace Go.Proofs.YtinfeglhjmnlaaaDoor.pm
open Go.RowKit
set_option linter.unusedVariables false

/-- the number that Mod gives -/
def modOf (x : Int) (n : Nat) : Nat := (x.tmod n % n).toNat
theorem modOf_lt (x : Int) (n : Nat) (h : 0 < n) : modOf x n < n := by
  unfold modOf
  have h1 : 0 ≤ x.tmod n % n := Int.emod_nonneg _ (by omega)
  have h2 : x.tmod n % n < n := Int.emod_lt_of_pos _ (by omega)
  omega
theorem mod_any (x : Int) (h0 : -9223372036854775808 ≤ x) (h1 : x ≤ 9223372036854775807) (n : Nat) (hp : 0 < n) (hn : n ≤ 1000000) (w : World) :
    Calls Tryd.prog 15 #[.int .i64 x, .int .i64 n] w fun e w' => e = .returned (.int .i64 (modOf x n : Nat)) ∧ w = w' := by
  have hl : ¬ (n : Int) < 1 := by omega
  have t1 : x.tmod n < n := Int.tmod_lt_of_pos x (by omega)
  have t2 : -(n : Int) < x.tmod n := by have := Int.lt_tmod_of_pos x (show 0 < (n : Int) by omega); omega
  have hm : modOf x n = (x.tmod n % n).toNat := rfl
  have HM := Lib.hid hm
  have h3 : 0 ≤ x.tmod n % n := Int.emod_nonneg _ (by omega)
  have H3 := Lib.hid h3
  have hz : ((n : Int) == 0) = false := by simp; omega
  clear hm h3
  go_enter Tryd.func15, Tryd.ntmps15
  go_wp2
  go_ret
  exact ⟨ret_int (by rw [HM.out, Int.toNat_of_nonneg H3.out]), rfl⟩

theorem max_u8 (by' : Nat) (h : by' < 256) : ∃ m : Nat, m = max by' 1 ∧ m < 256 ∧ m ≠ 0 := ⟨max by' 1, rfl, by omega, by omega⟩
end Go.Proofs.YtinfeglhjmnlaaaDoor.pm
