/- Bytes as they are met by callers. -/
import Derived.Test.YtgamodmenlhedaaVfb
namespace Go.Proofs.Ytgamodmenlhedaa
open Go.RowKit
set_option linter.unusedVariables false

/-- so many bytes are taken -/
def szOf (x : Int) : Nat := if sizeB x = true then x.toNat else 0
theorem szOf_le (x : Int) : szOf x ≤ 16 := by
  unfold szOf
  split
  · rename_i h
    have := (sizeB_iff x).1 h
    omega
  · omega
def truncS (a b : Nat) (x : Int) : Nat × Nat := truncV a b (szOf x)

def BytesR (w : World) (a b : Nat) (x : Int) (e : Ending) (w' : World) : Prop :=
  ∃ A c, e = .returned (.slice A (szOf x) c) ∧ Bs w' w'.heap.size A (szOf x) (bytesV a b (szOf x)) ∧ szOf x ≤ c ∧ w'.ownsRow w.heap.size 5 1 (.slice A (szOf x) c) (szOf x) (nb (bytesV a b (szOf x))) ∧ Below w.heap.size w w'
theorem own_cap' {w : World} {base n c : Nat} {e : TypeId} {size : Nat} {A : Option Addr} {xs : List Value} (h : w.ownsRow base e size (.slice A n c) n xs) : n ≤ c := by
  rcases h.2 with ⟨h1, rfl⟩ | ⟨g, cap, cur, h1, _, _, h2, h3, _⟩
  · simp at h1
    omega
  · simp at h1
    omega
theorem bytesR_of {w w' : World} {a b : Nat} {x : Int} {e : Ending} (h : ∃ r, e = .returned r ∧ w'.ownsRow w.heap.size 5 1 r (if sizeB x = true then x.toNat else 0) (nb (bytesV a b (if sizeB x = true then x.toNat else 0))) ∧ Below w.heap.size w w') : BytesR w a b x e w' := by
  obtain ⟨r, rfl, own, bel⟩ := h
  have own : w'.ownsRow w.heap.size 5 1 r (szOf x) (nb (bytesV a b (szOf x))) := own
  obtain ⟨A, c, rfl, _⟩ := own_form own
  exact ⟨A, c, rfl, Bs.of_own own (bytesV_lt _ _ _), own_cap' own, own, bel⟩
theorem bytes_r (a b : Nat) (ha : a < 18446744073709551616) (hb : b < 18446744073709551616) (x : Int) (h0 : -9223372036854775808 ≤ x) (h1 : x ≤ 9223372036854775807) (w : World) :
    Calls Try.prog 64 #[.agg #[.int .u64 a, .int .u64 b], .int .i64 x] w (BytesR w a b x) := (bytes_any a b ha hb x h0 h1 w).mono fun _ _ h => bytesR_of h
theorem refbytes_r (a b : Nat) (ha : a < 18446744073709551616) (hb : b < 18446744073709551616) (x : Int) (h0 : -9223372036854775808 ≤ x) (h1 : x ≤ 9223372036854775807) (w : World) :
    Calls Try.prog 70 #[.agg #[.int .u64 a, .int .u64 b], .int .i64 x] w (BytesR w a b x) := (refbytes_any a b ha hb x h0 h1 w).mono fun _ _ h => bytesR_of h

end Go.Proofs.Ytgamodmenlhedaa
