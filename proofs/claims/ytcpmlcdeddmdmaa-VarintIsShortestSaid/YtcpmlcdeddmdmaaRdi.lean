/- Contracts: Int of the program and of the reference. -/
import Derived.Test.YtcpmlcdeddmdmaaRd
namespace Go.Proofs.Ytcpmlcdeddmdmaa
open Go.RowKit
set_option linter.unusedVariables false
def retI (r : Nat × Nat × Nat) : Ending := .returned (.tuple #[.int .i64 (uz r.1), .int .i64 (r.2.1 : Nat), .int .i64 (r.2.2 : Nat)])
theorem retI_eq {x : Int} {v p q : Nat} {r : Nat × Nat × Nat} (h : r = (v, p, q)) (hx : x = uz v) : Ending.returned (.tuple #[.int .i64 x, .int .i64 (p : Nat), .int .i64 (q : Nat)]) = retI r := by rw [h, hx]; rfl

set_option maxRecDepth 10000 in
theorem int_any (A : Option Addr) (n c : Nat) (l : List Nat) (x : Int) (h0 : -9223372036854775808 ≤ x) (h1 : x ≤ 9223372036854775807) (w : World) (B : Nat) (hb : Bs w B A n l) (hn : n ≤ 1000000) :
    Calls Try.prog 54 #[.slice A n c, .int .i64 x] w fun e w' => e = retI (rdU l x) ∧ w = w' := by
  have hlt := rdU_lt l x
  go_enter Try.func54, Try.ntmps54
  go_wp2_with fail
  refine (uint_any A n c l x h0 h1 w B hb hn).mono ?_
  rintro e w1 ⟨rfl, rfl⟩
  unfold retU
  generalize hr : rdU l x = r at *
  have HR := Lib.hid hr
  clear hr
  obtain ⟨v, p, q⟩ := r
  simp only at hlt ⊢
  have ha := u64_and1 v hlt
  have hh : v / 2 < 9223372036854775808 := by omega
  have HH := Lib.hid hh
  have HU : Hid (uz v = if v % 2 = 0 then ((v / 2 : Nat) : Int) else -((v / 2 : Nat) : Int) - 1) := rfl
  clear hh hlt h0 h1 hb
  have hv2 : v / 2 ≤ 9223372036854775807 := by have := HH.out; omega
  rcases Nat.mod_two_eq_zero_or_one v with h | h
  · have hx := xor_0 (v / 2) HH.out
    rw [h] at ha
    have HV := Lib.hid h
    have HX := Lib.hid hx
    clear h hx
    go_wp2
    go_ret3
    exact ⟨retI_eq HR.out (by rw [HU.out, if_pos HV.out, ← HX.out]; rfl), rfl⟩
  · have hx := xor_m1 (v / 2) HH.out
    rw [h] at ha
    have HV := Lib.hid h
    have HX := Lib.hid hx
    clear h hx
    go_wp2
    go_ret3
    exact ⟨retI_eq HR.out (by rw [HU.out, if_neg (by have := HV.out; omega), ← HX.out]; rfl), rfl⟩

set_option maxRecDepth 10000 in
theorem refint_any (A : Option Addr) (n c : Nat) (l : List Nat) (x : Int) (h0 : -9223372036854775808 ≤ x) (h1 : x ≤ 9223372036854775807) (w : World) (B : Nat) (hb : Bs w B A n l) (hn : n ≤ 1000000) :
    Calls Try.prog 55 #[.slice A n c, .int .i64 x] w fun e w' => e = retI (rdU l x) ∧ w = w' := by
  have hlt := rdU_lt l x
  go_enter Try.func55, Try.ntmps55
  go_wp2_with fail
  refine (refuint_any A n c l x h0 h1 w B hb hn).mono ?_
  rintro e w1 ⟨rfl, rfl⟩
  unfold retU
  generalize hr : rdU l x = r at *
  have HR := Lib.hid hr
  clear hr
  obtain ⟨v, p, q⟩ := r
  simp only at hlt ⊢
  have ha := u64_and1 v hlt
  have hh : v / 2 < 9223372036854775808 := by omega
  have HH := Lib.hid hh
  have HU : Hid (uz v = if v % 2 = 0 then ((v / 2 : Nat) : Int) else -((v / 2 : Nat) : Int) - 1) := rfl
  clear hh hlt h0 h1 hb
  have hv2 : v / 2 ≤ 9223372036854775807 := by have := HH.out; omega
  rcases Nat.mod_two_eq_zero_or_one v with h | h
  · have hx := xor_0 (v / 2) HH.out
    rw [h] at ha
    have HV := Lib.hid h
    have HX := Lib.hid hx
    clear h hx
    go_wp2
    go_ret3
    exact ⟨retI_eq HR.out (by rw [HU.out, if_pos HV.out, ← HX.out]; rfl), rfl⟩
  · have hx := xor_m1 (v / 2) HH.out
    rw [h] at ha
    have HV := Lib.hid h
    have HX := Lib.hid hx
    clear h hx
    go_wp2
    go_ret3
    exact ⟨retI_eq HR.out (by rw [HU.out, if_neg (by have := HV.out; omega), ← HX.out]; rfl), rfl⟩
end Go.Proofs.Ytcpmlcdeddmdmaa
