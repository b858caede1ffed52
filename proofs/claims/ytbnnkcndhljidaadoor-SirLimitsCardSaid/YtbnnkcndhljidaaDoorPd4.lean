/- The draw function: a function of a program. -/
import Derived.Test.YtbnnkcndhljidaaDoorPd3
namespace Go.Proofs.YtbnnkcndhljidaaDoor.pm
open Go.RowKit
set_option linter.unusedVariables false
set_option maxRecDepth 10000
attribute [local go_sem ↓] Go.wp_at_zero Go.wp_at_succ

theorem flat_set {α : Type} {f : α → List Value} {d : Nat} (hf : ∀ x, (f x).length = d) {j : Nat} {v : Value} {g : α → α} (hj : j < d) (hg : ∀ x, (f x).set j v = f (g x)) (z : α) : ∀ (l : List α) (k : Nat), k < l.length → (l.flatMap f).set (k * d + j) v = (l.set k (g (l.getD k z))).flatMap f
  | [], k, h => by simp at h
  | x :: r, 0, _ => by
    rw [List.flatMap_cons, show 0 * d + j = j by omega, List.set_append_left _ _ (by rw [hf]; exact hj), hg]
    simp
  | x :: r, k + 1, h => by
    rw [List.flatMap_cons, List.set_append_right _ _ (by rw [hf, Nat.succ_mul]; omega), hf, show (k + 1) * d + j - d = k * d + j by rw [Nat.succ_mul]; omega, flat_set hf hj hg z r k (by simpa using h)]
    simp
def setA (tg : Int) (x : Ins) : Ins := ⟨x.op, tg, x.b, x.c, x.imm⟩
def setB (tg : Int) (x : Ins) : Ins := ⟨x.op, x.a, tg, x.c, x.imm⟩
theorem inV_setA (l : List Ins) (k : Nat) (tg : Int) (h : k < l.length) : (inV l).set (k * 5 + 1) (.int .i64 tg) = inV (l.set k (setA tg (l.getD k Ins.z))) := flat_set (g := setA tg) icells_len (by omega) (fun x => rfl) Ins.z l k h
theorem inV_setB (l : List Ins) (k : Nat) (tg : Int) (h : k < l.length) : (inV l).set (k * 5 + 2) (.int .i64 tg) = inV (l.set k (setB tg (l.getD k Ins.z))) := flat_set (g := setB tg) icells_len (by omega) (fun x => rfl) Ins.z l k h
theorem vi0_op {nf : Nat} {prm : Int} {sl : List (Int × Int)} {x : Ins} (h : Vi0 nf prm sl x) : x.op ≠ 20 ∧ x.op ≠ 21 ∧ (0 ≤ x.op ∧ x.op < 25) := by
  cases h <;> simp <;> omega
/-- code before the targets are drawn -/
theorem viP_fix {nf : Nat} {prm : Int} {sl : List (Int × Int)} {x : Ins} {nc : Nat} {tg : Int} (h : ViP nf prm sl x) (t0 : 0 ≤ tg) (t1 : tg < nc) :
    (x.op = 20 → x.a < 0 → Vi nf prm sl nc (setA tg x)) ∧ (x.op = 20 → x.a < 0) ∧ (x.op = 21 → x.b < 0 → Vi nf prm sl nc (setB tg x)) ∧ (x.op = 21 → x.b < 0) ∧ (x.op ≠ 20 → x.op ≠ 21 → Vi nf prm sl nc x) := by
  rcases h with ⟨_, h⟩ | _ | ⟨a, h0, h1⟩
  · have := vi0_op h
    exact ⟨fun e => absurd e this.1, fun e => absurd e this.1, fun e => absurd e this.2.1, fun e => absurd e this.2.1, fun _ _ => .plain _ h⟩
  · exact ⟨fun _ _ => .jump _ t0 t1, fun _ => (by show (-1 : Int) < 0; omega), fun e => (by cases e), fun e => (by cases e), fun e => absurd rfl e⟩
  · exact ⟨fun e => (by cases e), fun e => (by cases e), fun _ _ => .branch _ _ h0 h1 t0 t1, fun _ => (by show (-1 : Int) < 0; omega), fun _ e => absurd rfl e⟩
theorem own_far {w : World} {base n c : Nat} {e : TypeId} {size : Nat} {A : Option Addr} {xs : List Value} (h : w.ownsRow base e size (.slice A n c) n xs) (p : Addr) (hp : p.block < base) (u : Value) : (w.setCell p u).ownsRow base e size (.slice A n c) n xs := by
  refine ⟨h.1, ?_⟩
  rcases h.2 with h1 | ⟨g, cap, cur, h1, h2, h3, r⟩
  · exact .inl h1
  · refine .inr ⟨g, cap, cur, h1, h2, ?_, r⟩
    exact (Below.heap_setCell w p u g (by omega)).trans h3
theorem all_snoc {α : Type} {P : α → Prop} {l : List α} {x : α} (h : ∀ y ∈ l, P y) (hx : P x) : ∀ y ∈ l ++ [x], P y := fun y hy => by
  rcases List.mem_append.1 hy with h1 | h1
  · exact h y h1
  · simp at h1; subst h1; exact hx
theorem all_app {α : Type} {P : α → Prop} {l m : List α} (h : ∀ y ∈ l, P y) (hx : ∀ y ∈ m, P y) : ∀ y ∈ l ++ m, P y := fun y hy => by
  rcases List.mem_append.1 hy with h1 | h1
  · exact h y h1
  · exact hx y h1
theorem own_miss {w : World} {base n : Nat} {e : TypeId} {size : Nat} {v : Value} {xs : List Value} (h : w.ownsRow base e size v n xs) (p : Addr) (hp : ∀ j, v.ownBlock = some j → j ≠ p.block) (u : Value) : (w.setCell p u).ownsRow base e size v n xs := by
  refine ⟨h.1, ?_⟩
  rcases h.2 with h1 | ⟨g, cap, cur, rfl, h2, h3, r⟩
  · exact .inl h1
  · refine .inr ⟨g, cap, cur, rfl, h2, ?_, r⟩
    exact (Below.heap_setCell w p u g (hp g rfl)).trans h3
theorem own_ins_at {w : World} {base g N cap : Nat} {cur : List Ins} {k : Nat} (h : w.ownsRow base 26 5 (.slice (some ⟨g, 0, none⟩) N cap) N (inV cur)) (hk : k < N) :
    w.cell? ⟨g, k * 5, none⟩ = some (.int .i64 (cur.getD k Ins.z).op) ∧ w.cell? ⟨g, k * 5 + 1, none⟩ = some (.int .i64 (cur.getD k Ins.z).a) ∧ w.cell? ⟨g, k * 5 + 2, none⟩ = some (.int .i64 (cur.getD k Ins.z).b) := by
  have hl : cur.length = N := by have := h.1; rw [inV_len] at this; omega
  have g0 : ∀ j, j < 5 → (inV cur)[k * 5 + j]? = (icells (cur.getD k Ins.z))[j]? := fun j hj => flat_get icells_len Ins.z cur k j (by omega) hj
  exact ⟨(h.cellAt (k * 5) (by omega)).trans (by simpa [icells] using g0 0 (by omega)), (h.cellAt (k * 5 + 1) (by omega)).trans (by simpa [icells] using g0 1 (by omega)), (h.cellAt (k * 5 + 2) (by omega)).trans (by simpa [icells] using g0 2 (by omega))⟩
theorem getD_set_same {cur : List Ins} {k : Nat} {y : Ins} (h : k < cur.length) : (cur.set k y).getD k Ins.z = y := by simp [List.getD_eq_getElem?_getD, h]
theorem getD_set_ne {cur : List Ins} {k j : Nat} {y : Ins} (h : j ≠ k) : (cur.set k y).getD j Ins.z = cur.getD j Ins.z := by
  rw [List.getD_eq_getElem?_getD, List.getD_eq_getElem?_getD, List.getElem?_set_ne (Ne.symm h)]
/-- one instruction is mended -/
theorem set_round {P Q : Ins → Prop} {cur : List Ins} {k N : Nat} {y : Ins} (hl : cur.length = N) (hk : k < N) (hd : ∀ j, j < k → P (cur.getD j Ins.z)) (ht : ∀ j, k ≤ j → j < N → Q (cur.getD j Ins.z)) (hy : P y)
    (hz : (cur.getD (N - 1) Ins.z).op ∈ [(23 : Int), 24]) (hne : (cur.getD k Ins.z).op ∉ [(23 : Int), 24]) :
    (cur.set k y).length = N ∧ (∀ j, j < k + 1 → P ((cur.set k y).getD j Ins.z)) ∧ (∀ j, k + 1 ≤ j → j < N → Q ((cur.set k y).getD j Ins.z)) ∧ ((cur.set k y).getD (N - 1) Ins.z).op ∈ [(23 : Int), 24] := by
  refine ⟨by simpa using hl, fun j hj => ?_, fun j h1 h2 => ?_, ?_⟩
  · by_cases e : j = k
    · subst e; rw [getD_set_same (by omega)]; exact hy
    · rw [getD_set_ne e]; exact hd j (by omega)
  · rw [getD_set_ne (by omega)]; exact ht j (by omega) h2
  · by_cases e : N - 1 = k
    · rw [e] at hz; exact absurd hz hne
    · rw [getD_set_ne e]; exact hz
theorem fn_ok {nf : Nat} {prm : Int} {sl : List (Int × Int)} {cur : List Ins} {N : Nat} (r0 : 0 ≤ prm) (r1 : prm ≤ 3) (hs : sl.length ≤ 6 ∧ ∀ s ∈ sl, SlotOk s) (h1 : 1 ≤ N) (h2 : (N : Int) ≤ 101) (hl : cur.length = N) (hd : ∀ j, j < N → Vi nf prm sl N (cur.getD j Ins.z)) (hz : (cur.getD (N - 1) Ins.z).op ∈ [(23 : Int), 24]) :
    FnOk nf ⟨prm, sl, cur⟩ := by
  subst hl
  refine ⟨r0, r1, hs.1, hs.2, h1, (by show cur.length ≤ 200; omega), fun x hx => ?_, hz⟩
  obtain ⟨j, hj, rfl⟩ := List.mem_iff_getElem.1 hx
  have := hd j hj
  rw [List.getD_eq_getElem?_getD, List.getElem?_eq_getElem hj] at this
  simpa using this
end Go.Proofs.YtbnnkcndhljidaaDoor.pm
