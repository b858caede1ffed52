/- ValueApply: for every input the law returns true and each argument reads afterwards as it read before. No condition. -/
import Derived.Test.YtcpmlcdeddmdmaaVaLaw
import Derived.ShutString
import Derived.ChangeOld
namespace Go.Proofs.Ytcpmlcdeddmdmaa.va
open Go.ChangeShapes Go.WideShapes Go.ChangeAt Go.RowKit Go.Joins
set_option linter.unusedVariables false

theorem own : ownKnob Try.prog.godebug = none := by kernel_rfl
theorem laidOut : laidOutB Try.prog = true := by kernel_rfl

set_option maxHeartbeats 1000000 in
set_option maxRecDepth 100000 in
theorem lifted (os : Os) (started : os.Started) (H : Type) (enc : TypeId × Value → H) :
    ReturnsInHanded {} Try.checked os 12 .any (Rows.valueApplySpec.pre6 enc Try.prog Try.f12 Rows.valueApplyRow.domain false) (Rows.valueApplySpec.post enc Try.prog Try.f12 false true false false) := by
  refine returnsInHanded_of_change (C := Try.checked) own started (by kernel_rfl) Try.func12
    (ChangeSpec.witness6 (enc := enc) (C := Try.checked) false ⟨#[], #[.int .i64 0, .agg #[.int .u64 0, .int .u64 0], .agg #[.int .u64 0, .int .u64 0]], []⟩ 8 (by kernel_rfl) (by kernel_rfl) (by kernel_rfl) (by kernel_rfl)) ?_
  intro W base args ds gs before hval0 hW hcnd _
  have hval : ∀ (j : Nat) t v, Try.f12.params[j]? = some t → args[j]? = some v → Value.okWide Try.prog W .any base t v := hval0
  have hW' := hW
  obtain ⟨p, q, hA0, hV, rfl, hfz, hnd⟩ := hW
  have hA : DataW.TrodAll enc Try.prog W 0 (fun _ => true) true Try.f12.params.toList args.toList ds p := hA0
  rw [Try.params12] at hA hval
  obtain ⟨v0, vs0, d0, ds0, p0, q0, hargs, rfl, rfl, h0, r0⟩ := trodAll_cons hA
  obtain ⟨v1, vs1, d1, ds1, p1, q1, rfl, rfl, rfl, h1, r1⟩ := trodAll_cons r0
  obtain ⟨v2, vs2, d2, ds2, p2, q2, rfl, rfl, rfl, h2, r2⟩ := trodAll_cons r1
  obtain ⟨rfl, rfl, rfl⟩ := trodAll_nil r2
  obtain rfl : args = #[v0, v1, v2] := by cases args; simp_all
  obtain ⟨rfl, rfl⟩ := trodVars_none hV
  have k0 := h0
  have lt0 : ∀ x ∈ p0, x.block < W.heap.size := by obtain ⟨m, hm⟩ := k0; exact DataW.trod_lt m _ _ _ hm
  have k1 := h1
  have lt1 : ∀ x ∈ p1, x.block < W.heap.size := by obtain ⟨m, hm⟩ := k1; exact DataW.trod_lt m _ _ _ hm
  have k2 := h2
  have lt2 : ∀ x ∈ p2, x.block < W.heap.size := by obtain ⟨m, hm⟩ := k2; exact DataW.trod_lt m _ _ _ hm
  obtain ⟨a0, rfl, rfl, rfl, wf0⟩ := open_int Try.underlying3 (hval 0 3 v0 rfl rfl) h0
  have bd0 := wf0
  simp [Lit.wf, IntKind.min, IntKind.max, IntKind.signed, IntKind.bits] at bd0
  obtain ⟨x1, y1, rfl, bx1, by1⟩ : ∃ x y : Nat, v1 = .agg #[.int .u64 (x : Int), .int .u64 (y : Int)] ∧ x < 18446744073709551616 ∧ y < 18446744073709551616 := by
    obtain ⟨c0, c1, y0, y1, n, rfl, _, _, g0, g1⟩ := open_agg2 Try.underlying58 (by kernel_rfl) (by kernel_rfl) (hval 1 58 v1 rfl rfl) h1
    obtain ⟨p, e0, _, wp⟩ := DataW.trod_int Try.underlying40 g0
    obtain ⟨q, e1, _, wq⟩ := DataW.trod_int Try.underlying40 g1
    simp at e0 e1
    subst e0 e1
    simp [Lit.wf, IntKind.min, IntKind.max, IntKind.signed, IntKind.bits] at wp wq
    exact ⟨p.toNat, q.toNat, by rw [Int.toNat_of_nonneg wp.1, Int.toNat_of_nonneg wq.1], by omega, by omega⟩
  obtain ⟨x2, y2, rfl, bx2, by2⟩ : ∃ x y : Nat, v2 = .agg #[.int .u64 (x : Int), .int .u64 (y : Int)] ∧ x < 18446744073709551616 ∧ y < 18446744073709551616 := by
    obtain ⟨c0, c1, y0, y1, n, rfl, _, _, g0, g1⟩ := open_agg2 Try.underlying58 (by kernel_rfl) (by kernel_rfl) (hval 2 58 v2 rfl rfl) h2
    obtain ⟨p, e0, _, wp⟩ := DataW.trod_int Try.underlying40 g0
    obtain ⟨q, e1, _, wq⟩ := DataW.trod_int Try.underlying40 g1
    simp at e0 e1
    subst e0 e1
    simp [Lit.wf, IntKind.min, IntKind.max, IntKind.signed, IntKind.bits] at wp wq
    exact ⟨p.toNat, q.toNat, by rw [Int.toNat_of_nonneg wp.1, Int.toNat_of_nonneg wq.1], by omega, by omega⟩
  clear hA0 hval0
  refine (law a0 (by have := bd0.1; omega) (by have := bd0.2; omega) x1 y1 bx1 by1 x2 y2 bx2 by2 W ).mono fun e W' ⟨he, bel⟩ => ?_
  subst he
  exact ⟨_, rfl, _, _, _, [], _, [], hW', trodAll_mk1 (shut_bool Try.underlying4 _), (trodAll_cons_mk (Below.trod laidOut (by kernel_rfl) (of_decide_eq_true (by kernel_rfl)) k0 bel lt0) (trodAll_cons_mk (Below.trod laidOut (by kernel_rfl) (of_decide_eq_true (by kernel_rfl)) k1 bel lt1) (trodAll_cons_mk (Below.trod laidOut (by kernel_rfl) (of_decide_eq_true (by kernel_rfl)) k2 bel lt2) trodAll_mk0))), rfl, bel.frame _, fun h => by cases h⟩

theorem over : Rows.valueApplyRow.holds Try.pinned (OpenSpec.ofChange Rows.valueApplySpec) :=
  OpenClaim.holds_of_wide 12 Try.f12 rfl rfl rfl rfl rfl rfl rfl ⟨rfl, rfl, rfl, rfl, rfl⟩ rfl rfl rfl rfl rfl (by kernel_rfl) Try.func12 (by kernel_rfl)
    (of_decide_eq_true (by kernel_rfl)) (by unfold Func.isWrapper; first | (rw [if_pos (by decide +kernel)]; kernel_rfl) | (rw [if_neg (by decide +kernel)]; exact ⟨rfl, rfl⟩))
    (fun os started H enc _ => lifted os started H enc)

theorem proved : Rows.ValueApplySaid := over
#print axioms proved
end Go.Proofs.Ytcpmlcdeddmdmaa.va
