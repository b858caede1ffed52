/- StackLoadAfterStore: for every input the law returns true and each argument reads afterwards as it read before. No condition. -/
import Derived.Test.YtgamodmenlhedaaLsLaw
import Derived.ShutString
import Derived.ChangeOld
namespace Go.Proofs.Ytgamodmenlhedaa.ls
open Go.ChangeShapes Go.WideShapes Go.ChangeAt Go.RowKit Go.Joins
set_option linter.unusedVariables false

theorem own : ownKnob Try.prog.godebug = none := by kernel_rfl
theorem laidOut : laidOutB Try.prog = true := by kernel_rfl

set_option maxHeartbeats 1000000 in
set_option maxRecDepth 100000 in
theorem lifted (os : Os) (started : os.Started) (H : Type) (enc : TypeId × Value → H) :
    ReturnsInHanded {} Try.checked os 8 .any (Rows.stackLoadAfterStoreSpec.pre6 enc Try.prog Try.f8 Rows.stackLoadAfterStoreRow.domain false) (Rows.stackLoadAfterStoreSpec.post enc Try.prog Try.f8 false true false false) := by
  refine returnsInHanded_of_change (C := Try.checked) own started (by kernel_rfl) Try.func8
    (ChangeSpec.witness6 (enc := enc) (C := Try.checked) false ⟨#[], #[.slice none 0 0, .agg #[.int .u64 0, .int .u64 0]], []⟩ 8 (by kernel_rfl) (by kernel_rfl) (by kernel_rfl) (by kernel_rfl)) ?_
  intro W base args ds gs before hval0 hW hcnd _
  have hval : ∀ (j : Nat) t v, Try.f8.params[j]? = some t → args[j]? = some v → Value.okWide Try.prog W .any base t v := hval0
  have hW' := hW
  obtain ⟨p, q, hA0, hV, rfl, hfz, hnd⟩ := hW
  have hA : DataW.TrodAll enc Try.prog W 0 (fun _ => true) true Try.f8.params.toList args.toList ds p := hA0
  rw [Try.params8] at hA hval
  obtain ⟨v0, vs0, d0, ds0, p0, q0, hargs, rfl, rfl, h0, r0⟩ := trodAll_cons hA
  obtain ⟨v1, vs1, d1, ds1, p1, q1, rfl, rfl, rfl, h1, r1⟩ := trodAll_cons r0
  obtain ⟨rfl, rfl, rfl⟩ := trodAll_nil r1
  obtain rfl : args = #[v0, v1] := by cases args; simp_all
  obtain ⟨rfl, rfl⟩ := trodVars_none hV
  have k0 := h0
  have lt0 : ∀ x ∈ p0, x.block < W.heap.size := by obtain ⟨m, hm⟩ := k0; exact DataW.trod_lt m _ _ _ hm
  have k1 := h1
  have lt1 : ∀ x ∈ p1, x.block < W.heap.size := by obtain ⟨m, hm⟩ := k1; exact DataW.trod_lt m _ _ _ hm
  obtain ⟨a0, len0, cap0, rfl⟩ := okWide_slice Try.underlying22 (hval 0 22 v0 rfl rfl)
  obtain ⟨l0, ⟨b0, m0⟩, cp0⟩ : ∃ l, (Bs W W.heap.size a0 len0 l ∧ len0 ≤ maxLen) ∧ len0 ≤ cap0 := by
    obtain ⟨fuel, hf⟩ := h0
    rcases open_ints Try.underlying22 Try.underlying5 (by kernel_rfl) hf with ⟨hcs, _⟩ | ⟨x, l, c, zs, hcs, _, hl, hm, hz, _, hcell, hwz⟩
    · simp [Value.cells] at hcs
      obtain ⟨rfl, rfl, rfl⟩ := hcs
      exact (Bs.of_row (.inl ⟨rfl, rfl, rfl, rfl⟩)).elim fun l h => ⟨l, h, by omega⟩
    · simp [Value.cells] at hcs
      obtain ⟨rfl, rfl, rfl⟩ := hcs
      exact (Bs.of_row (.inr ⟨_, rfl, hl, hm, by simpa using hz, hcell, hwz⟩)).elim fun l h => ⟨l, h, hl⟩
  obtain ⟨x1, y1, rfl, bx1, by1⟩ : ∃ x y : Nat, v1 = .agg #[.int .u64 (x : Int), .int .u64 (y : Int)] ∧ x < 18446744073709551616 ∧ y < 18446744073709551616 := by
    obtain ⟨c0, c1, y0, y1, n, rfl, _, _, g0, g1⟩ := open_agg2 Try.underlying52 (by kernel_rfl) (by kernel_rfl) (hval 1 52 v1 rfl rfl) h1
    obtain ⟨p, e0, _, wp⟩ := DataW.trod_int Try.underlying50 g0
    obtain ⟨q, e1, _, wq⟩ := DataW.trod_int Try.underlying50 g1
    simp at e0 e1
    subst e0 e1
    simp [Lit.wf, IntKind.min, IntKind.max, IntKind.signed, IntKind.bits] at wp wq
    exact ⟨p.toNat, q.toNat, by rw [Int.toNat_of_nonneg wp.1, Int.toNat_of_nonneg wq.1], by omega, by omega⟩
  clear hA0 hval0
  refine (law a0 len0 cap0 l0 x1 y1 bx1 by1 W b0 m0 cp0).mono fun e W' ⟨he, bel⟩ => ?_
  subst he
  exact ⟨_, rfl, _, _, _, [], _, [], hW', trodAll_mk1 (shut_bool Try.underlying4 _), (trodAll_cons_mk (Below.trod laidOut (by kernel_rfl) (of_decide_eq_true (by kernel_rfl)) k0 bel lt0) (trodAll_cons_mk (Below.trod laidOut (by kernel_rfl) (of_decide_eq_true (by kernel_rfl)) k1 bel lt1) trodAll_mk0)), rfl, bel.frame _, fun h => by cases h⟩

theorem over : Rows.stackLoadAfterStoreRow.holds Try.pinned (OpenSpec.ofChange Rows.stackLoadAfterStoreSpec) :=
  OpenClaim.holds_of_wide 8 Try.f8 rfl rfl rfl rfl rfl rfl rfl ⟨rfl, rfl, rfl, rfl, rfl⟩ rfl rfl rfl rfl rfl (by kernel_rfl) Try.func8 (by kernel_rfl)
    (of_decide_eq_true (by kernel_rfl)) (by unfold Func.isWrapper; first | (rw [if_pos (by decide +kernel)]; kernel_rfl) | (rw [if_neg (by decide +kernel)]; exact ⟨rfl, rfl⟩))
    (fun os started H enc _ => lifted os started H enc)

theorem proved : Rows.StackLoadAfterStoreSaid := over
#print axioms proved
end Go.Proofs.Ytgamodmenlhedaa.ls
