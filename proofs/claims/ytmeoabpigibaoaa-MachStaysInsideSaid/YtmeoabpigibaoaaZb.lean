/- Slices, variables and lists of choices carried from world to world; draws of numbers (no stack in sight). -/
import Derived.Test.YtmeoabpigibaoaaCo
namespace Go.Proofs.Ytmeoabpigibaoaa
open Go.RowKit
set_option linter.unusedVariables false
set_option maxRecDepth 10000

theorem Reads.box {w : World} {B size n g i : Nat} {t : TypeId} {cs : Array Value} {A : Option Addr} {xs : List Value} (h : Reads w B size A n xs) (hg : Blk w g t cs) (hne : ∀ x ∈ xs, x ∉ cs) (u : Value) : Reads (w.setCell ⟨g, i, none⟩ u) B size A n xs :=
  ⟨h.1, fun hn => by
    obtain ⟨ad, e, hb, hc⟩ := h.2 hn
    refine ⟨ad, e, hb, fun j v hv => ?_⟩
    have hcj := hc j v hv
    by_cases hbl : ad.block = g
    · exfalso
      unfold World.cell? at hcj
      rw [block_of_add, hbl, show w.heap[g]? = _ from hg] at hcj
      simp only at hcj
      split at hcj
      · cases hcj
      · exact hne v (List.mem_of_getElem? hv) (Array.mem_of_getElem? hcj)
    · rw [World.cell?_setCell_other w _ _ u (fun e => hbl (by have := congrArg Addr.block e; rw [block_of_add] at this; exact this.symm))]
      exact hcj⟩

theorem Blk.after {w w' : World} {g : Nat} {t : TypeId} {cs : Array Value} (h : Blk w g t cs) (hb : Below w.heap.size w w') : Blk w' g t cs := h.below hb h.lt
theorem Blk.newAt {w : World} {g : Nat} {t : TypeId} {cs : Array Value} (h : g = w.heap.size) : Blk (w.alloc (.cells cs t)) g t cs := by subst h; exact Blk.new w t cs
theorem Blk.two {w : World} {g : Nat} {t : TypeId} {a b : Value} (h : Blk w g t #[a, b]) : w.cell? ⟨g, 0, none⟩ = some a ∧ w.cell? ⟨g, 1, none⟩ = some b ∧ w.frozen? ⟨g, 0, none⟩ = false ∧ w.frozen? ⟨g, 1, none⟩ = false ∧ g < w.heap.size :=
  ⟨Blk.cell h 0, Blk.cell h 1, Blk.frozen h 0, Blk.frozen h 1, Blk.lt h⟩
theorem Reads.grownNe {w w' : World} {B size n g : Nat} {t : TypeId} {cs : Array Value} {A : Option Addr} {xs : List Value} (h : Reads w B size A n xs) (hg : Blk w g t cs) (hne : ∀ x ∈ xs, x ∉ cs) (hw : w.grownBy w' (some g)) (hB : B ≤ w.heap.size) : Reads w' B size A n xs :=
  ⟨h.1, fun hn => by
    obtain ⟨ad, e, hb, hc⟩ := h.2 hn
    refine ⟨ad, e, hb, fun j v hv => ?_⟩
    have hcj := hc j v hv
    by_cases hbl : ad.block = g
    · exfalso
      unfold World.cell? at hcj
      rw [block_of_add, hbl, show w.heap[g]? = _ from hg] at hcj
      simp only at hcj
      split at hcj
      · cases hcj
      · exact hne v (List.mem_of_getElem? hv) (Array.mem_of_getElem? hcj)
    · rw [World.cell?_of_block (hw.block _ (by rw [block_of_add]; omega) (by rw [block_of_add]; intro e; exact hbl (by injection e)))]
      exact hcj⟩
section
variable {w w' : World} {B g n c p : Nat} {A : Option Addr} {l : List Nat}
theorem CodesAt.alloc (h : CodesAt w B g A n c l p) (o : Obj) : CodesAt (w.alloc o) B g A n c l p := ⟨h.1.alloc o, h.2.1.alloc (by have := h.1.lt; have := h.2.2.2.1; omega) o, h.2.2⟩
theorem CodesAt.after (h : CodesAt w B g A n c l p) (hb : Below w.heap.size w w') : CodesAt w' B g A n c l p := ⟨h.1.after hb, h.2.1.below (hb.mono (by have := h.1.lt; have := h.2.2.2.1; omega)), h.2.2⟩
end
theorem grownBy_drewN' (w : World) (k : Nat) (r : Option Nat) : w.grownBy (w.drewN k) r := by
  have h := below_drewN (Below.refl w.heap.size w) k
  exact ⟨h.os, h.tape, h.output, h.size, fun j hj _ => h.block j hj⟩
theorem grownBy_of_below {w w' : World} (h : Below w.heap.size w w') (r : Option Nat) : w.grownBy w' r := ⟨h.os, h.tape, h.output, h.size, fun j hj _ => h.block j hj⟩
theorem grownBy_trans {a b c : World} {g : Nat} (h : a.grownBy b (some g)) (k : b.grownBy c (some g)) : a.grownBy c (some g) :=
  ⟨k.os.trans h.os, k.tape.trans h.tape, k.output.trans h.output, Nat.le_trans h.size k.size, fun j hj hn => (k.block j (Nat.lt_of_lt_of_le hj h.size) hn).trans (h.block j hj hn)⟩
theorem below_of_grown {w w' : World} {B g : Nat} (h : w.grownBy w' (some g)) (hB : B ≤ g) (hB' : B ≤ w.heap.size) : Below B w w' := ⟨h.os, h.tape, h.output, h.size, fun j hj => h.block j (by omega) (by intro e; injection e; omega)⟩

theorem grownBy_set {a b : World} {g : Nat} (h : a.grownBy b (some g)) {p : Addr} (hp : a.heap.size ≤ p.block) (v : Value) : a.grownBy (b.setCell p v) (some g) :=
  ⟨h.os, h.tape, h.output, by have := h.size; simpa [World.setCell] using this, fun j hj hn => (Below.heap_setCell b p v j (by omega)).trans (h.block j hj hn)⟩
theorem CodesAt.set {w : World} {B g n c p : Nat} {A : Option Addr} {l : List Nat} (h : CodesAt w B g A n c l p) {q : Addr} (hne : g ≠ q.block) (hB : B ≤ q.block) (v : Value) : CodesAt (w.setCell q v) B g A n c l p :=
  ⟨h.1.far hne v, h.2.1.below ((Below.refl B w).setCell hB v), h.2.2⟩
theorem Below.al {w0 w : World} (h : Below w0.heap.size w0 w) (o : Obj) : Below w0.heap.size w0 (w.alloc o) := h.alloc h.size o
theorem Below.step {w0 W w' : World} (h : Below w0.heap.size w0 W) (hb : Below W.heap.size W w') : Below w0.heap.size w0 w' := h.trans (hb.mono h.size)
theorem Below.stepG {w0 W w' : World} {g : Nat} (h : Below w0.heap.size w0 W) (hg : W.grownBy w' (some g)) (le : w0.heap.size ≤ g) : Below w0.heap.size w0 w' := h.trans (below_of_grown hg le h.size)
/-- a choice, and the list of choices behind it -/
theorem next_d (B g : Nat) (A : Option Addr) (n c : Nat) (l : List Nat) (p : Nat) (m : Int) (w : World) (h : CodesAt w B g A n c l p) (hm : m ≤ 1000000) (hm0 : -1000000 ≤ m) :
    Calls Try.prog 12 #[.pointer (some ⟨g, 0, none⟩), .int .i64 m] w fun e w' => ∃ v p' : Nat, (v = 0 ∨ (v : Int) < m) ∧ e = .returned (.int .i64 v) ∧ CodesAt w' B g A n c l p' ∧ w.grownBy w' (some g) :=
  (next_any B g A n c l p m w h hm hm0).mono fun e w' hh => by
    obtain ⟨v, p', k, hv, rfl, rfl, hc⟩ := hh
    refine ⟨v, p', hv, rfl, hc, grownBy_trans ?_ (grownBy_drewN' _ k _)⟩
    exact ⟨rfl, rfl, rfl, by simp [World.setCell], fun j hj hn => Below.heap_setCell w ⟨g, 1, none⟩ _ j (fun e => hn (by rw [e]))⟩
theorem u64_ex (x : Int) (h : 0 ≤ x) (h' : x < 18446744073709551616) : ∃ y : Nat, y < 18446744073709551616 ∧ x = (y : Int) := ⟨x.toNat, by omega, by omega⟩
theorem wrap_ex (x : Int) : ∃ y : Nat, y < 18446744073709551616 ∧ IntKind.u64.wrap x = (y : Int) := by
  rw [IntKind.wrap_u64]
  exact u64_ex _ (by omega) (by omega)

set_option maxHeartbeats 1000000 in
theorem word_d (B g : Nat) (A : Option Addr) (n c : Nat) (l : List Nat) (p : Nat) (w : World) (h : CodesAt w B g A n c l p) :
    Calls Try.prog 14 #[.pointer (some ⟨g, 0, none⟩)] w fun e w' => ∃ v p' : Nat, v < 18446744073709551616 ∧ e = .returned (.int .u64 v) ∧ CodesAt w' B g A n c l p' ∧ w.grownBy w' (some g) := by
  have HC := Lib.hid h
  clear h
  go_enter Try.func14, Try.ntmps14
  go_wp2_with fail
  refine (next_d _ _ _ _ _ _ _ 6 _ HC.out (by omega) (by omega)).mono ?_
  rintro e w1 ⟨v, p1, hv, rfl, c1, g1⟩
  have HC1 := Lib.hid c1
  have HG1 := Lib.hid g1
  clear HC c1 g1
  have hcase : v = 0 ∨ v = 1 ∨ v = 2 ∨ (3 ≤ v ∧ v < 6) := by omega
  clear hv
  rcases hcase with rfl | rfl | rfl | ⟨h3, h6⟩
  · go_wp2_with fail
    refine (next_d _ _ _ _ _ _ _ 3 _ HC1.out (by omega) (by omega)).mono ?_
    rintro e w2 ⟨v, p2, hv, rfl, c2, g2⟩
    go_wp2
    go_ret
    obtain ⟨y, hy, e⟩ := u64_ex (18446744073709551615 - (v : Int)) (by omega) (by omega)
    exact ⟨y, p2, hy, ret_int e, c2, grownBy_trans HG1.out g2⟩
  · go_wp2_with fail
    refine (next_d _ _ _ _ _ _ _ 64 _ HC1.out (by omega) (by omega)).mono ?_
    rintro e w2 ⟨v, p2, hv, rfl, c2, g2⟩
    have hv0 : (0 : Int) ≤ (v : Int) := by omega
    have hv1 : (v : Int) < 64 := by omega
    have hv2 : v < 64 := by omega
    go_wp2
    go_ret
    obtain ⟨y, hy, e⟩ := wrap_ex (2 ^ v)
    exact ⟨y, p2, hy, ret_int e, c2, grownBy_trans HG1.out g2⟩
  · go_wp2
    go_ret
    exact ⟨0, p1, by omega, rfl, HC1.out, HG1.out⟩
  · have h3' : ¬ (v = 0) := by omega
    have h4' : ¬ (v = 1) := by omega
    have h5' : ¬ (v = 2) := by omega
    have h3'' : ¬ ((v : Int) = 0) := by omega
    have h4'' : ¬ ((v : Int) = 1) := by omega
    have h5'' : ¬ ((v : Int) = 2) := by omega
    go_wp2_with fail
    refine (next_d _ _ _ _ _ _ _ 256 _ HC1.out (by omega) (by omega)).mono ?_
    rintro e w2 ⟨v, p2, hv, rfl, c2, g2⟩
    go_wp2
    go_ret
    exact ⟨v, p2, by omega, rfl, c2, grownBy_trans HG1.out g2⟩

theorem Blk.c1 {w : World} {g : Nat} {t : TypeId} {a0 : Value} (h : Blk w g t #[a0]) : w.cell? ⟨g, 0, none⟩ = some a0 ∧ w.frozen? ⟨g, 0, none⟩ = false ∧ g < w.heap.size :=
  ⟨Blk.cell h 0, Blk.frozen h 0, Blk.lt h⟩
theorem Blk.c2 {w : World} {g : Nat} {t : TypeId} {a0 a1 : Value} (h : Blk w g t #[a0, a1]) : w.cell? ⟨g, 0, none⟩ = some a0 ∧ w.cell? ⟨g, 1, none⟩ = some a1 ∧ w.frozen? ⟨g, 0, none⟩ = false ∧ w.frozen? ⟨g, 1, none⟩ = false ∧ g < w.heap.size :=
  ⟨Blk.cell h 0, Blk.cell h 1, Blk.frozen h 0, Blk.frozen h 1, Blk.lt h⟩
theorem Blk.c3 {w : World} {g : Nat} {t : TypeId} {a0 a1 a2 : Value} (h : Blk w g t #[a0, a1, a2]) : w.cell? ⟨g, 0, none⟩ = some a0 ∧ w.cell? ⟨g, 1, none⟩ = some a1 ∧ w.cell? ⟨g, 2, none⟩ = some a2 ∧ w.frozen? ⟨g, 0, none⟩ = false ∧ w.frozen? ⟨g, 1, none⟩ = false ∧ w.frozen? ⟨g, 2, none⟩ = false ∧ g < w.heap.size :=
  ⟨Blk.cell h 0, Blk.cell h 1, Blk.cell h 2, Blk.frozen h 0, Blk.frozen h 1, Blk.frozen h 2, Blk.lt h⟩
theorem Blk.c4 {w : World} {g : Nat} {t : TypeId} {a0 a1 a2 a3 : Value} (h : Blk w g t #[a0, a1, a2, a3]) : w.cell? ⟨g, 0, none⟩ = some a0 ∧ w.cell? ⟨g, 1, none⟩ = some a1 ∧ w.cell? ⟨g, 2, none⟩ = some a2 ∧ w.cell? ⟨g, 3, none⟩ = some a3 ∧ w.frozen? ⟨g, 0, none⟩ = false ∧ w.frozen? ⟨g, 1, none⟩ = false ∧ w.frozen? ⟨g, 2, none⟩ = false ∧ w.frozen? ⟨g, 3, none⟩ = false ∧ g < w.heap.size :=
  ⟨Blk.cell h 0, Blk.cell h 1, Blk.cell h 2, Blk.cell h 3, Blk.frozen h 0, Blk.frozen h 1, Blk.frozen h 2, Blk.frozen h 3, Blk.lt h⟩
theorem Blk.c5 {w : World} {g : Nat} {t : TypeId} {a0 a1 a2 a3 a4 : Value} (h : Blk w g t #[a0, a1, a2, a3, a4]) : w.cell? ⟨g, 0, none⟩ = some a0 ∧ w.cell? ⟨g, 1, none⟩ = some a1 ∧ w.cell? ⟨g, 2, none⟩ = some a2 ∧ w.cell? ⟨g, 3, none⟩ = some a3 ∧ w.cell? ⟨g, 4, none⟩ = some a4 ∧ w.frozen? ⟨g, 0, none⟩ = false ∧ w.frozen? ⟨g, 1, none⟩ = false ∧ w.frozen? ⟨g, 2, none⟩ = false ∧ w.frozen? ⟨g, 3, none⟩ = false ∧ w.frozen? ⟨g, 4, none⟩ = false ∧ g < w.heap.size :=
  ⟨Blk.cell h 0, Blk.cell h 1, Blk.cell h 2, Blk.cell h 3, Blk.cell h 4, Blk.frozen h 0, Blk.frozen h 1, Blk.frozen h 2, Blk.frozen h 3, Blk.frozen h 4, Blk.lt h⟩
theorem Blk.c6 {w : World} {g : Nat} {t : TypeId} {a0 a1 a2 a3 a4 a5 : Value} (h : Blk w g t #[a0, a1, a2, a3, a4, a5]) : w.cell? ⟨g, 0, none⟩ = some a0 ∧ w.cell? ⟨g, 1, none⟩ = some a1 ∧ w.cell? ⟨g, 2, none⟩ = some a2 ∧ w.cell? ⟨g, 3, none⟩ = some a3 ∧ w.cell? ⟨g, 4, none⟩ = some a4 ∧ w.cell? ⟨g, 5, none⟩ = some a5 ∧ w.frozen? ⟨g, 0, none⟩ = false ∧ w.frozen? ⟨g, 1, none⟩ = false ∧ w.frozen? ⟨g, 2, none⟩ = false ∧ w.frozen? ⟨g, 3, none⟩ = false ∧ w.frozen? ⟨g, 4, none⟩ = false ∧ w.frozen? ⟨g, 5, none⟩ = false ∧ g < w.heap.size :=
  ⟨Blk.cell h 0, Blk.cell h 1, Blk.cell h 2, Blk.cell h 3, Blk.cell h 4, Blk.cell h 5, Blk.frozen h 0, Blk.frozen h 1, Blk.frozen h 2, Blk.frozen h 3, Blk.frozen h 4, Blk.frozen h 5, Blk.lt h⟩
theorem Blk.c7 {w : World} {g : Nat} {t : TypeId} {a0 a1 a2 a3 a4 a5 a6 : Value} (h : Blk w g t #[a0, a1, a2, a3, a4, a5, a6]) : w.cell? ⟨g, 0, none⟩ = some a0 ∧ w.cell? ⟨g, 1, none⟩ = some a1 ∧ w.cell? ⟨g, 2, none⟩ = some a2 ∧ w.cell? ⟨g, 3, none⟩ = some a3 ∧ w.cell? ⟨g, 4, none⟩ = some a4 ∧ w.cell? ⟨g, 5, none⟩ = some a5 ∧ w.cell? ⟨g, 6, none⟩ = some a6 ∧ w.frozen? ⟨g, 0, none⟩ = false ∧ w.frozen? ⟨g, 1, none⟩ = false ∧ w.frozen? ⟨g, 2, none⟩ = false ∧ w.frozen? ⟨g, 3, none⟩ = false ∧ w.frozen? ⟨g, 4, none⟩ = false ∧ w.frozen? ⟨g, 5, none⟩ = false ∧ w.frozen? ⟨g, 6, none⟩ = false ∧ g < w.heap.size :=
  ⟨Blk.cell h 0, Blk.cell h 1, Blk.cell h 2, Blk.cell h 3, Blk.cell h 4, Blk.cell h 5, Blk.cell h 6, Blk.frozen h 0, Blk.frozen h 1, Blk.frozen h 2, Blk.frozen h 3, Blk.frozen h 4, Blk.frozen h 5, Blk.frozen h 6, Blk.lt h⟩
theorem Blk.c8 {w : World} {g : Nat} {t : TypeId} {a0 a1 a2 a3 a4 a5 a6 a7 : Value} (h : Blk w g t #[a0, a1, a2, a3, a4, a5, a6, a7]) : w.cell? ⟨g, 0, none⟩ = some a0 ∧ w.cell? ⟨g, 1, none⟩ = some a1 ∧ w.cell? ⟨g, 2, none⟩ = some a2 ∧ w.cell? ⟨g, 3, none⟩ = some a3 ∧ w.cell? ⟨g, 4, none⟩ = some a4 ∧ w.cell? ⟨g, 5, none⟩ = some a5 ∧ w.cell? ⟨g, 6, none⟩ = some a6 ∧ w.cell? ⟨g, 7, none⟩ = some a7 ∧ w.frozen? ⟨g, 0, none⟩ = false ∧ w.frozen? ⟨g, 1, none⟩ = false ∧ w.frozen? ⟨g, 2, none⟩ = false ∧ w.frozen? ⟨g, 3, none⟩ = false ∧ w.frozen? ⟨g, 4, none⟩ = false ∧ w.frozen? ⟨g, 5, none⟩ = false ∧ w.frozen? ⟨g, 6, none⟩ = false ∧ w.frozen? ⟨g, 7, none⟩ = false ∧ g < w.heap.size :=
  ⟨Blk.cell h 0, Blk.cell h 1, Blk.cell h 2, Blk.cell h 3, Blk.cell h 4, Blk.cell h 5, Blk.cell h 6, Blk.cell h 7, Blk.frozen h 0, Blk.frozen h 1, Blk.frozen h 2, Blk.frozen h 3, Blk.frozen h 4, Blk.frozen h 5, Blk.frozen h 6, Blk.frozen h 7, Blk.lt h⟩
end Go.Proofs.Ytmeoabpigibaoaa
