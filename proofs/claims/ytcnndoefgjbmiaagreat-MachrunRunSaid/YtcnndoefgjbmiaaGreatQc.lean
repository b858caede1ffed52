/- The reference's Plain. -/
import Derived.Test.YtcnndoefgjbmiaaGreatQc1
import Derived.Test.YtcnndoefgjbmiaaGreatQc2
import Derived.Test.YtcnndoefgjbmiaaGreatGQd
set_option linter.unusedVariables false
namespace Go.Proofs.YtcnndoefgjbmiaaGreat.pm
open Go.RowKit
section
variable {B lo ct : Nat} {iv : Value} {At : Option Addr} {k : Mx}
theorem pl_any (w : World) (op : Int) (a b c : Nat) (imm : Int) (hop0 : 0 ≤ op) (hop1 : op ≤ 14) (him : 0 ≤ imm) (ha : a < 8) (hb : b < 8) (hc : c < 8) (hr8 : k.regs.length = 8) (hrg : ∀ r, W64x (rg k r)) (hin : InX w B iv k.inp) (htr : Rx w lo w.heap.size 2 At k.trace.length (k.trace.flatMap vcl)) (hct : k.trace.length ≤ ct) (ht : k.trace.length ≤ 1000000) (hB : B ≤ w.heap.size) (hlo : lo ≤ w.heap.size) (he : k.ended = false) (k' : Mx) (hk' : k' = k.pl0 ⟨op, a, b, c, imm⟩) :
 Calls Tryz.prog 56 #[.agg #[.int .i64 op, .int .i64 a, .int .i64 b, .int .i64 c, .int .u64 imm], rgv k.regs, iv, .slice At k.trace.length ct] w (PlD B lo k' w) := by
 have hcase : op = 0 ∨ op = 1 ∨ op = 11 ∨ op = 12 ∨ op = 13 ∨ op = 14 ∨ (2 ≤ op ∧ op ≤ 10) := by omega
 rcases hcase with h | h | h | h | h | h | h
 · exact pl_a w op a b c imm hop0 hop1 (.inl h) him ha hb hc hr8 hrg hin htr hct ht hB hlo he k' hk'
 · exact pl_a w op a b c imm hop0 hop1 (.inr (.inl h)) him ha hb hc hr8 hrg hin htr hct ht hB hlo he k' hk'
 · exact pl_b w op a b c imm hop0 hop1 (.inl h) him ha hb hc hr8 hrg hin htr hct ht hB hlo he k' hk'
 · exact pl_a w op a b c imm hop0 hop1 (.inr (.inr (.inl h))) him ha hb hc hr8 hrg hin htr hct ht hB hlo he k' hk'
 · exact pl_a w op a b c imm hop0 hop1 (.inr (.inr (.inr h))) him ha hb hc hr8 hrg hin htr hct ht hB hlo he k' hk'
 · exact pl_b w op a b c imm hop0 hop1 (.inr h) him ha hb hc hr8 hrg hin htr hct ht hB hlo he k' hk'
 · rcases hz : (apV op (rg k b).1 (rg k b).2 (rg k c).1 (rg k c).2).2 with _ | _
   · exact pl_c w op a b c imm hop0 hop1 h.1 h.2 hz him ha hb hc hr8 hrg hin htr hct ht hB hlo he k' hk'
   · exact pl_d w op a b c imm hop0 hop1 h.1 h.2 hz him ha hb hc hr8 hrg hin htr hct ht hB hlo he k' hk'
end
end Go.Proofs.YtcnndoefgjbmiaaGreat.pm
