/- compute: all operations. -/
import Derived.Test.YtgakphichcihjaaGJc
import Derived.Test.YtgakphichcihjaaJe
import Derived.Test.YtgakphichcihjaaJf
import Derived.Test.YtgakphichcihjaaJg
import Derived.Test.YtgakphichcihjaaGJp
namespace Go.Proofs.Ytgakphichcihjaa.pm
open Go.RowKit
set_option linter.unusedVariables false
set_option maxRecDepth 10000
section
variable {B mb cs ct np cp : Nat} {L : Pl} {ad : Addr} {pv iv : Value} {As At : Option Addr} {m : Mx}
theorem comp_any (w : World) (x : Ins) (nf : Nat) (prm sz : Int) (nc : Nat) (gx : GX nf prm sz nc x) (hop : x.op ≤ 14) (hi : 0 ≤ x.imm) (hr8 : m.regs.length = 8) (hrg : ∀ r, W64x (rg m r)) (htr : m.trace.length ≤ 1000000) (h : MAt w B mb L ad (.slice (some ad) np cp) iv As cs At ct m) (hin : InX w B iv m.inp) (hB : B ≤ w.heap.size) :
    Calls Try.prog 91 #[.pointer (some ⟨mb, 0, none⟩), .agg #[.int .i64 x.op, .int .i64 x.a, .int .i64 x.b, .int .i64 x.c, .int .u64 x.imm]] w (StepI w B mb L ad (.slice (some ad) np cp) (m.plain x)) := by
  obtain ⟨op, xa, xb, xc, xi⟩ := x
  have h0 := gx.op.1
  dsimp only at hop hi h0
  have hca := gx.ra (.inl (by dsimp only; omega))
  dsimp only at hca
  obtain ⟨a, rfl⟩ := Int.eq_ofNat_of_zero_le hca.1
  have ha : a < 8 := by have := hca.2; omega
  by_cases e0 : op = 0
  · subst e0
    obtain ⟨i, rfl⟩ := Int.eq_ofNat_of_zero_le hi
    refine (const_any w a xb xc i ha hr8 h hB).mono fun e w' hd => ?_
    exact StepI.of hd hin
  by_cases e13 : op = 13
  · subst e13
    exact comp_in w a xb xc xi ha hr8 h hin hB
  by_cases e14 : op = 14
  · subst e14
    exact (comp_out w a xb xc xi ha htr h hB).mono fun e w' hd => StepI.of hd hin
  have hcb := gx.rb (by dsimp only; omega)
  dsimp only at hcb
  obtain ⟨b, rfl⟩ := Int.eq_ofNat_of_zero_le hcb.1
  have hb : b < 8 := by have := hcb.2; omega
  by_cases e1 : op = 1
  · subst e1
    exact (comp_copy w a b xc xi ha hb hr8 h hB).mono fun e w' hd => StepI.of hd hin
  by_cases e12 : op = 12
  · subst e12
    exact (comp_high w a b xc xi ha hb hr8 h hB).mono fun e w' hd => StepI.of hd hin
  have hcc := gx.rc (by dsimp only; omega)
  dsimp only at hcc
  obtain ⟨c, rfl⟩ := Int.eq_ofNat_of_zero_le hcc.1
  have hc : c < 8 := by have := hcc.2; omega
  by_cases e11 : op = 11
  · subst e11
    exact (comp_pair w a b c xi ha hb hc hr8 h hB).mono fun e w' hd => StepI.of hd hin
  have hE : m.plain ⟨op, (a : Int), (b : Int), (c : Int), xi⟩ = binM m a (apV op (rg m b).1 (rg m b).2 (rg m c).1 (rg m c).2) := by
    unfold Mx.plain binM
    dsimp only
    rw [if_neg e0, if_neg e1, if_neg e11, if_neg e12, if_neg e13, if_neg e14]
    rfl
  rw [hE]
  refine (comp_apply w op (by omega) (by omega) a b c xi ha hb hc hr8 (hrg b) (hrg c) h hB).mono fun e w' hd => StepI.of hd ?_
  unfold binM
  split
  · exact hin
  · exact hin
end
end Go.Proofs.Ytgakphichcihjaa.pm
