/- Which instructions are right: plain mathematics. -/
import Derived.Test.YtmeoabpigibaoaaPm
namespace Go.Proofs.Ytmeoabpigibaoaa.pm
set_option linter.unusedVariables false

/-- an instruction without a jump target, in a program of nf functions, in a function with so many parameters and these slots -/
inductive Vi0 (nf : Nat) (prm : Int) (sl : List (Int × Int)) : Ins → Prop
  | const (a im : Int) : 0 ≤ a → a < 8 → 0 ≤ im → im < 18446744073709551616 → Vi0 nf prm sl ⟨0, a, 0, 0, im⟩
  | copy (a b : Int) : 0 ≤ a → a < 8 → 0 ≤ b → b < 8 → Vi0 nf prm sl ⟨1, a, b, 0, 0⟩
  | arith (op a b c : Int) : 2 ≤ op → op ≤ 11 → 0 ≤ a → a < 8 → 0 ≤ b → b < 8 → 0 ≤ c → c < 8 → Vi0 nf prm sl ⟨op, a, b, c, 0⟩
  | high (a b : Int) : 0 ≤ a → a < 8 → 0 ≤ b → b < 8 → Vi0 nf prm sl ⟨12, a, b, 0, 0⟩
  | inp (a : Int) : 0 ≤ a → a < 8 → Vi0 nf prm sl ⟨13, a, 0, 0, 0⟩
  | out (a : Int) : 0 ≤ a → a < 8 → Vi0 nf prm sl ⟨14, a, 0, 0, 0⟩
  | load (a b : Int) : 0 ≤ a → a < 8 → 0 ≤ b → b < sl.length → Vi0 nf prm sl ⟨15, a, b, 0, 0⟩
  | store (a b : Int) : 0 ≤ a → a < sl.length → 0 ≤ b → b < 8 → Vi0 nf prm sl ⟨16, a, b, 0, 0⟩
  | move (a b : Int) : 0 ≤ a → a < sl.length → 0 ≤ b → b < sl.length → (sl.getD a.toNat (0, 0)).1 = (sl.getD b.toNat (0, 0)).1 → Vi0 nf prm sl ⟨17, a, b, 0, 0⟩
  | arg (a b : Int) : 0 ≤ a → a < 8 → 0 ≤ b → b < 8 → Vi0 nf prm sl ⟨18, a, b, 0, 0⟩
  | param (a b : Int) : 0 ≤ a → a < 8 → 0 ≤ b → b < prm → Vi0 nf prm sl ⟨19, a, b, 0, 0⟩
  | call (a : Int) : 0 ≤ a → a < nf → Vi0 nf prm sl ⟨22, a, 0, 0, 0⟩
  | ret : Vi0 nf prm sl ⟨23, 0, 0, 0, 0⟩
  | trap (im : Int) : 0 ≤ im → im < 18446744073709551616 → Vi0 nf prm sl ⟨24, 0, 0, 0, im⟩
/-- an instruction in a function of so many instructions -/
inductive Vi (nf : Nat) (prm : Int) (sl : List (Int × Int)) (nc : Nat) : Ins → Prop
  | plain (x : Ins) : Vi0 nf prm sl x → Vi nf prm sl nc x
  | jump (a : Int) : 0 ≤ a → a < nc → Vi nf prm sl nc ⟨20, a, 0, 0, 0⟩
  | branch (a b : Int) : 0 ≤ a → a < 8 → 0 ≤ b → b < nc → Vi nf prm sl nc ⟨21, a, b, 0, 0⟩
/-- an instruction before the targets are drawn -/
inductive ViP (nf : Nat) (prm : Int) (sl : List (Int × Int)) : Ins → Prop
  | plain (x : Ins) : Vi0 nf prm sl x → ViP nf prm sl x
  | jump : ViP nf prm sl ⟨20, -1, 0, 0, 0⟩
  | branch (a : Int) : 0 ≤ a → a < 8 → ViP nf prm sl ⟨21, a, -1, 0, 0⟩
/-- a slot that is drawn -/
def SlotOk (s : Int × Int) : Prop := (s.1 = 8 ∨ s.1 = 4 ∨ s.1 = 1 ∨ s.1 = 2 ∨ s.1 = 16) ∧ (s.2 = 8 ∨ s.2 = 4 ∨ s.2 = 1 ∨ s.2 = 16 ∨ s.2 = 2 ∨ s.2 = 32 ∨ s.2 = 64)
/-- a function that is drawn -/
def FnOk (nf : Nat) (f : Fn) : Prop :=
  0 ≤ f.params ∧ f.params ≤ 3 ∧ f.slots.length ≤ 6 ∧ (∀ s ∈ f.slots, SlotOk s) ∧ 1 ≤ f.code.length ∧ f.code.length ≤ 200 ∧ (∀ x ∈ f.code, Vi nf f.params f.slots f.code.length x) ∧
  (f.code.getD (f.code.length - 1) Ins.z).op ∈ [(23 : Int), 24]
/-- a program that is drawn -/
def PrOk (most : Nat) (p : List Fn) : Prop := 1 ≤ p.length ∧ p.length ≤ most ∧ (p.getD 0 Fn.z).params = 0 ∧ ∀ f ∈ p, FnOk p.length f
end Go.Proofs.Ytmeoabpigibaoaa.pm
