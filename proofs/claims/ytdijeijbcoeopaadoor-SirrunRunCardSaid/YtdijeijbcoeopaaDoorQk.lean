/- Short words for the walks of the reference's machine. -/
import Derived.Test.YtdijeijbcoeopaaDoorGQa
set_option linter.unusedVariables false
namespace Go.Proofs.YtdijeijbcoeopaaDoor.pm
open Go.RowKit
theorem cell2 {W1 W4 : World} {a : Addr} {v : Value} (hB : Below W1.heap.size W1 W4) (h : W1.cell? a = some v) (hlt : a.block < W1.heap.size) : W4.cell? a = some v ∧ ∀ o, (W4.alloc o).drew.cell? a = some v :=
 ⟨(hB.cell (p := a) hlt).trans h, fun o => (World.cell?_alloc_lt W4 o a (Nat.lt_of_lt_of_le hlt hB.size)).trans ((hB.cell (p := a) hlt).trans h)⟩
theorem cell3 {W4 : World} {a : Addr} {v : Value} (h : W4.cell? a = some v) (hlt : a.block < W4.heap.size) : ∀ o, (W4.alloc o).drew.cell? a = some v := fun o => (World.cell?_alloc_lt W4 o a hlt).trans h
theorem row4 {W w : World} {base g n c t lo hi : Nat} {e : TypeId} {vs : List Value} {l : List As8} {a : As8} (h : w.ownsRow base e 4 (.slice (some ⟨g, 0, none⟩) n c) n vs) (hv : SVx W lo hi vs l) (hn : n = t + 1) (hl : l.length = t + 1) (ha : a = l.getD t As8.z) :
 ∃ Sl c1 Ar c2, w.cell? ⟨g, t * 4, none⟩ = some (.int .i64 a.f) ∧ w.cell? ⟨g, t * 4 + 1, none⟩ = some (.int .i64 a.pc) ∧ w.cell? ⟨g, t * 4 + 2, none⟩ = some (.slice Sl a.ss.length c1) ∧ w.cell? ⟨g, t * 4 + 3, none⟩ = some (.slice Ar a.aa.length c2) ∧
 w.frozen? ⟨g, t * 4, none⟩ = false ∧ w.frozen? ⟨g, t * 4 + 1, none⟩ = false ∧ w.frozen? ⟨g, t * 4 + 2, none⟩ = false ∧ w.frozen? ⟨g, t * 4 + 3, none⟩ = false ∧
 CX W lo hi Sl a.ss ∧ CX W lo hi Ar a.aa ∧ (a.ss.length ≤ c1 ∧ a.ss.length ≤ maxLen) ∧ (a.aa.length ≤ c2 ∧ a.aa.length ≤ maxLen) := by
 obtain ⟨Sl, c1, Ar, c2, e1, e2, e3, e4, q1, q2, q3, q4⟩ := hv t (by omega)
 rw [← ha] at e1 e2 e3 e4 q1 q2 q3 q4
 have hvl : vs.length = n * 4 := h.1
 exact ⟨Sl, c1, Ar, c2, (h.cellAt (t * 4) (by omega)).trans e1, (h.cellAt (t * 4 + 1) (by omega)).trans e2, (h.cellAt (t * 4 + 2) (by omega)).trans e3, (h.cellAt (t * 4 + 3) (by omega)).trans e4, h.frozenAt _, h.frozenAt _, h.frozenAt _, h.frozenAt _, q1, q2, q3, q4⟩
end Go.Proofs.YtdijeijbcoeopaaDoor.pm
