/- A region that draws its order and only reads, in a round of a range over a function: one walk of the lexical order serves every order. The library has it outside of a round alone (it asks 'F.round = none'); here an operation must be no defer statement, and no call. -/
import Derived.Test.YtgamodmenlhedaaZo
import Derived.Sort.BigQuietIn
import Derived.RangeFuncNested
import Derived.RangeFuncBound
import Derived.RangeFuncCalls
import Derived.RangeFuncLeaves
import Derived.RangeFuncFrom
import Derived.Shelf.Abstract
import Derived.Shelf.RegionOpen
import Derived.OwnWalkIn
import Derived.TacticsInMore
import Derived.LoopNIn
import Derived.LoopIn
namespace Go.Proofs.Ytgamodmenlhedaa.rq
set_option linter.unusedVariables false
variable {F : Fence} {n : Nat} {P : Program} {ops : Array Oper} {md : Region.Mode} {C : World → Prop}

theorem op_quiet {o : Oper} {a : Act} {K : Act → Prop} {K' : Act → World → Prop} {Q' : Exit → Act → World → Prop} {w : World} (hpl : ∀ c, o.op ≠ .defer c) (hw : C w) (h : ∀ a w', C w' → K a → K' a w')
    (ha : o.askedIn F P a C) (hh : o.quietIn F n P a C K) : o.wpIn F n P a w K' Q' := by
  obtain ⟨v, h1, h2⟩ := hh
  refine ⟨ha w hw, ?_⟩
  have h3 := h1 w hw
  rw [Oper.semAt_plain F a.eval o hpl]
  unfold Oper.quietAtIn at h3
  generalize (execOp a.eval o).run P w = r at h3 ⊢
  cases r with
  | halt x w' => simp only [Oper.quietUponIn] at h3
  | ok x w' =>
    cases x <;> simp only [Oper.quietUponIn] at h3 <;> simp only [Oper.uponIn]
    case value u =>
      obtain ⟨e1, e2⟩ := h3
      subst e1 e2
      exact h _ _ hw h2
    case skip =>
      obtain ⟨e1, e2⟩ := h3
      subst e1 e2
      exact h _ _ hw h2
    case enter f args =>
      obtain ⟨e1, hd, hc⟩ := h3
      subst e1
      exact ⟨hd, hc.mono fun e w'' ⟨he, hw''⟩ => by subst he; exact h _ _ hw'' h2⟩
theorem one_quiet (hall : ∀ (i : Nat) o, ops[i]? = some o → ∀ c, o.op ≠ .defer c) {i : Nat} {a : Act} {K : Act → Prop} {K' : Act → World → Prop} {Q' : Exit → Act → World → Prop} {w : World} (hC : C w) (h : ∀ a w', C w' → K a → K' a w')
    (hh : qOpIn F n P ops C i K a) : wpOpIn F n P ops Q' i K' a w := by
  unfold wpOpIn
  unfold qOpIn at hh
  cases ho : ops[i]? with
  | none => rw [ho] at hh; exact h _ _ hC hh
  | some o =>
    rw [ho] at hh
    obtain ⟨ha, hh⟩ := hh
    by_cases hw : Region.wanted o (yielded ops a.tmps) = true
    · rw [if_pos hw] at hh
      simp only [if_pos hw]
      exact op_quiet (hall i o ho) hC h ha hh
    · rw [if_neg hw] at hh
      simp only [if_neg hw]
      exact ⟨ha w hC, h _ _ hC hh⟩
theorem any_quiet (hall : ∀ (i : Nat) o, ops[i]? = some o → ∀ c, o.op ≠ .defer c) {Q : Act → Prop} {Q' : Exit → Act → World → Prop} (hQ : ∀ a w, C w → Q a → Q' .normal a w) : ∀ (fuel : Nat) (listed : Array Bool) (a : Act) (w : World), C w →
    wpAnyQIn F n P md ops C Q fuel listed a → wpAnyIn F n P md ops Q' fuel listed a w := by
  intro fuel
  induction fuel with
  | zero => intro listed a w hw h; exact ⟨h.1, hQ _ _ hw h.2⟩
  | succ fuel ih => intro listed a w hw h; exact ⟨fun h0 => hQ _ _ hw (h.1 h0), fun i hi => one_quiet hall hw (fun a' w' hw' h' => ih _ a' w' hw' h') (h.2 i hi)⟩
/-- the operations of a list are no defer statements -/
def plainB (l : List Oper) : Bool := l.all fun o => match o.op with | .defer _ => false | _ => true
theorem plainB_spec {l : List Oper} (h : plainB l = true) : ∀ (i : Nat) o, l.toArray[i]? = some o → ∀ c, o.op ≠ .defer c := by
  intro i o ho c e
  have hm : o ∈ l := List.mem_of_getElem? (by simpa using ho)
  have := List.all_eq_true.1 h o hm
  rw [e] at this
  cases this
theorem region_quiet {id : Nat} {Q : Exit → Act → World → Prop} {a : Act} {w : World} {l : List Oper} (hp : plainB l = true) (hm : P.follows .mixedOrders = true) (hB : Region.lexB .any l.toArray = true)
    (h : wpQuietIn F n P l.toArray (fun w' => ∃ n, w' = w.drewN n) (fun a' => ∀ w', (∃ n, w' = w.drewN n) → Q .normal a' w') l a) : (Code.region id l.toArray true).wpIn F n P Q a w := by
  simp only [Region.lexB, Bool.and_eq_true] at hB
  refine wpIn_region_any hm (any_quiet (C := fun w' => ∃ n, w' = w.drewN n) (plainB_spec hp) (Q := fun a' => ∀ w', (∃ n, w' = w.drewN n) → Q .normal a' w') (fun _ w' hw' h => h w' hw') _ _ _ _ ⟨1, rfl⟩ ?_)
  have := wpAnyQIn_lex (F := F) (n := n) (C := fun w' => ∃ n, w' = w.drewN n) (md := .any) hB.1 l 0 (Array.replicate l.toArray.size false) a (by simp) (by simpa using hB.2) h
  simpa using this
end Go.Proofs.Ytgamodmenlhedaa.rq
