/- MachIntervals: for every input the law returns true and each argument reads afterwards as it read before. No condition. -/
import Derived.Test.YtcpmlcdeddmdmaaMiLaw
import Derived.ShutString
import Derived.ChangeOld
namespace Go.Proofs.Ytcpmlcdeddmdmaa.mi
open Go.ChangeShapes Go.WideShapes Go.ChangeAt Go.RowKit Go.Joins
set_option linter.unusedVariables false

theorem own : ownKnob Try.prog.godebug = none := by kernel_rfl
theorem laidOut : laidOutB Try.prog = true := by kernel_rfl

set_option maxRecDepth 100000 in
theorem lifted (os : Os) (started : os.Started) (H : Type) (enc : TypeId × Value → H) :
    ReturnsInHanded {} Try.checked os 4 .any (Rows.machIntervalsSpec.pre6 enc Try.prog Try.f4 Rows.machIntervalsRow.domain false) (Rows.machIntervalsSpec.post enc Try.prog Try.f4 false true false false) := by
  refine returnsInHanded_of_change (C := Try.checked) own started (by kernel_rfl) Try.func4
    (ChangeSpec.witness6 (enc := enc) (C := Try.checked) false ⟨#[], #[.agg #[.int .i64 0, .int .i64 0, .slice none 0 0], .agg #[.int .i64 0, .int .i64 0, .int .i64 0, .int .i64 0, .int .u64 0], .int .u8 0], []⟩ 8 (by kernel_rfl) (by kernel_rfl) (by kernel_rfl) (by kernel_rfl)) ?_
  intro W base args ds gs before hval0 hW hcnd _
  have hval : ∀ (j : Nat) t v, Try.f4.params[j]? = some t → args[j]? = some v → Value.okWide Try.prog W .any base t v := hval0
  have hW' := hW
  obtain ⟨p, q, hA0, hV, rfl, hfz, hnd⟩ := hW
  have hA : DataW.TrodAll enc Try.prog W 0 (fun _ => true) true Try.f4.params.toList args.toList ds p := hA0
  rw [Try.params4] at hA hval
  obtain ⟨v0, vs0, d0, ds0, p0, q0, hargs, rfl, rfl, h0, r0⟩ := trodAll_cons hA
  obtain ⟨v1, vs1, d1, ds1, p1, q1, rfl, rfl, rfl, h1, r1⟩ := trodAll_cons r0
  obtain ⟨v2, vs2, d2, ds2, p2, q2, rfl, rfl, rfl, h2, r2⟩ := trodAll_cons r1
  obtain ⟨rfl, rfl, rfl⟩ := trodAll_nil r2
  obtain rfl : args = #[v0, v1, v2] := by cases args; simp_all
  obtain ⟨rfl, rfl⟩ := trodVars_none hV
  have k0 := h0
  have lt0 : ∀ x ∈ p0, x.block < W.heap.size := by obtain ⟨m, hm⟩ := k0; exact DataW.trod_lt m _ _ _ hm
  have k1 := h1
  have lt1 : ∀ x ∈ p1, x.block < W.heap.size := by obtain ⟨m, hm⟩ := k1; exact DataW.trod_lt m _ _ _ hm
  have k2 := h2
  have lt2 : ∀ x ∈ p2, x.block < W.heap.size := by obtain ⟨m, hm⟩ := k2; exact DataW.trod_lt m _ _ _ hm
  obtain ⟨c0, c1, c2, y0, y1, y2, n, rfl, _, _, _, _, _⟩ := open_agg3 Try.underlying39 (by kernel_rfl) (by kernel_rfl) (hval 0 39 v0 rfl rfl) h0
  obtain ⟨i0, i1, i2, i3, i4, z0, z1, z2, z3, z4, m, rfl, _, _, g0, g1, g2, g3, g4⟩ := open_agg5 Try.underlying42 (by kernel_rfl) (by kernel_rfl) (hval 1 42 v1 rfl rfl) h1
  obtain ⟨o, e0, _, _⟩ := DataW.trod_int Try.underlying3 g0
  obtain ⟨a, e1, _, _⟩ := DataW.trod_int Try.underlying3 g1
  obtain ⟨b, e2, _, _⟩ := DataW.trod_int Try.underlying3 g2
  obtain ⟨c, e3, _, _⟩ := DataW.trod_int Try.underlying3 g3
  obtain ⟨im, e4, _, _⟩ := DataW.trod_int Try.underlying40 g4
  simp at e0 e1 e2 e3 e4
  subst e0 e1 e2 e3 e4
  obtain ⟨u, rfl, rfl, rfl, wu⟩ := open_int Try.underlying5 (hval 2 5 v2 rfl rfl) h2
  have hu : 0 ≤ u ∧ u ≤ 255 := by simpa [Lit.wf, IntKind.min, IntKind.max, IntKind.signed, IntKind.bits] using wu
  clear hA0 hval0
  refine (law c0 c1 c2 o a b c im u hu.1 hu.2 W).mono fun e W' ⟨he, bel⟩ => ?_
  subst he
  exact ⟨_, rfl, _, _, _, [], _, [], hW', trodAll_mk1 (shut_bool Try.underlying4 _), (trodAll_cons_mk (Below.trod laidOut (by kernel_rfl) (of_decide_eq_true (by kernel_rfl)) k0 bel lt0) (trodAll_cons_mk (Below.trod laidOut (by kernel_rfl) (of_decide_eq_true (by kernel_rfl)) k1 bel lt1) (trodAll_cons_mk (Below.trod laidOut (by kernel_rfl) (of_decide_eq_true (by kernel_rfl)) k2 bel lt2) trodAll_mk0))), rfl, bel.frame _, fun h => by cases h⟩

theorem over : Rows.machIntervalsRow.holds Try.pinned (OpenSpec.ofChange Rows.machIntervalsSpec) :=
  OpenClaim.holds_of_wide 4 Try.f4 rfl rfl rfl rfl rfl rfl rfl ⟨rfl, rfl, rfl, rfl, rfl⟩ rfl rfl rfl rfl rfl (by kernel_rfl) Try.func4 (by kernel_rfl)
    (of_decide_eq_true (by kernel_rfl)) (by unfold Func.isWrapper; first | (rw [if_pos (by decide +kernel)]; kernel_rfl) | (rw [if_neg (by decide +kernel)]; exact ⟨rfl, rfl⟩))
    (fun os started H enc _ => lifted os started H enc)

theorem proved : Rows.MachIntervalsSaid := over
#print axioms proved
end Go.Proofs.Ytcpmlcdeddmdmaa.mi
