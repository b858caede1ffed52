/- Contracts: ref29.Sum; lists of ways; ref29.ways, Paths. -/
import Derived.Test.YtgamodmenlhedaaCiPlain
import Derived.Deep.DrawnRows
import Derived.Deep.RegionLaw
import Derived.Deep.CutBlock
namespace Go.Proofs.Ytgamodmenlhedaa.cf
open Go.RowKit
set_option linter.unusedVariables false
set_option maxRecDepth 10000

set_option maxHeartbeats 1000000 in
theorem sum_any (Aw Al : Option Addr) (nw cw nl cl : Nat) (v L : List Int) (w : World) (hv : Iz w Aw nw v) (hl : Iz w Al nl L) (n1 : nw ≤ 1000) (n2 : nl ≤ 1000)
    (hr : ∀ p, p < nl → 0 ≤ L.getD p 0 ∧ L.getD p 0 < nw) (hs : ∀ k, k ≤ nl → 0 ≤ sumTo v L k ∧ sumTo v L k ≤ 2147483647) (hb : ∀ i, i < nw → Bd (v.getD i 0)) :
    Calls Try.prog 23 #[.slice Aw nw cw, .slice Al nl cl] w fun e w' => e = .returned (.int .i64 (sumTo v L nl)) ∧ w = w' := by
  have HV := Lib.hid hv
  have HL := Lib.hid hl
  have HR := Lib.hid hr
  have HS := Lib.hid hs
  have HBD := Lib.hid hb
  clear hv hl hr hs hb
  go_enter Try.func23, Try.ntmps23
  go_wp2
  go_loop [5, 6] (fun s i => ∃ (k : Nat) (t : Int), k ≤ nl ∧ i = .int .i64 k ∧ s = .int .i64 t ∧ Hid (t = sumTo v L k)) (fun _ i => nl - (intOf i).toNat)
  case atStart => exact ⟨0, 0, by omega, rfl, rfl, Lib.hid rfl⟩
  case round =>
    obtain ⟨k, t, hk, rfl, rfl, HT⟩ := hrel
    have hk0 : (0 : Int) ≤ (k : Int) := by omega
    by_cases hlt : k < nl
    · have hki : (k : Int) < (nl : Int) := by omega
      obtain ⟨al, rfl, -, cl'⟩ := HL.out.at_ hlt
      obtain ⟨j, hj⟩ : ∃ j : Nat, L.getD k 0 = (j : Int) := ⟨(L.getD k 0).toNat, by have := HR.out k hlt; omega⟩
      have hjn : j < nw := by have := HR.out k hlt; omega
      have hj0 : (0 : Int) ≤ (j : Int) := by omega
      have hji : (j : Int) < (nw : Int) := by omega
      rw [hj] at cl'
      obtain ⟨av, rfl, -, cv⟩ := HV.out.at_ hjn
      obtain ⟨x0, x1⟩ := HBD.out j hjn
      have HNX : Hid (t + v.getD j 0 = sumTo v L (k + 1)) := Lib.hid (by rw [HT.out]; show _ = sumTo v L k + v.getD (L.getD k 0).toNat 0; rw [hj]; rfl)
      obtain ⟨t0, t1⟩ : 0 ≤ t ∧ t ≤ 2147483647 := by rw [HT.out]; exact HS.out k (by omega)
      clear hj
      generalize v.getD j 0 = x at *
      go_wp2
      go_round
      case rel => exact ⟨k + 1, t + x, by omega, by go_num, rfl, HNX⟩
      case measure => simp [intOf]; omega
    · have HE : Hid (t = sumTo v L nl) := Lib.hid (by rw [HT.out, show k = nl by omega])
      go_wp2
      go_ret
      exact ⟨ret_int HE.out, rfl⟩

theorem own_diff {w : World} {b b' n m s s' : Nat} {e1 e2 : TypeId} {v1 v2 : Value} {xs ys : List Value} (h1 : w.ownsRow b e1 s v1 n xs) (h2 : w.ownsRow b' e2 s' v2 m ys) (hne : e1 ≠ e2) : v1.ownBlock = none ∨ v1.ownBlock ≠ v2.ownBlock := by
  rcases h2.2 with ⟨h, _⟩ | ⟨g', cap, cur, hv, _, hh, _⟩
  · rcases hq : v1.ownBlock with _ | b
    · exact .inl rfl
    · refine .inr fun e => ?_
      rw [h] at e
      simp [Value.ownBlock] at e
  · rw [hv]
    exact .inr (own_blk_ne h1 hh hne)
/-- a list of ways: a row of rows, all of the call's own -/
def WL (w : World) (B : Nat) (o : Value) (ws : List (List Int)) : Prop :=
  ∃ vs : List Value, w.ownsRow B 24 1 o ws.length vs ∧ ∀ i, i < ws.length → ∃ r, vs[i]? = some r ∧ w.ownsRow B 3 1 r (ws.getD i []).length ((ws.getD i []).map (Value.int .i64))
theorem wl_nil (w : World) (B : Nat) : WL w B (.slice none 0 0) [] := ⟨[], World.ownsRow_nil _ _ _ _, fun i hi => by simp at hi⟩
theorem WL.below {w w' : World} {B : Nat} {o : Value} {ws : List (List Int)} (h : WL w B o ws) (hb : Below w.heap.size w w') : WL w' B o ws := by
  obtain ⟨vs, h1, h2⟩ := h
  exact ⟨vs, own_keep h1 hb (Nat.le_refl _), fun i hi => by obtain ⟨r, a, b⟩ := h2 i hi; exact ⟨r, a, own_keep b hb (Nat.le_refl _)⟩⟩
theorem wl_push {w w' : World} {B : Nat} {o o' r : Value} {ws : List (List Int)} {L : List Int} {vs : List Value} (h1 : w.ownsRow B 24 1 o ws.length vs) (h2 : ∀ i, i < ws.length → ∃ r, vs[i]? = some r ∧ w.ownsRow B 3 1 r (ws.getD i []).length ((ws.getD i []).map (Value.int .i64)))
    (hr : w.ownsRow B 3 1 r L.length (L.map (Value.int .i64))) (hn : w'.ownsRow B 24 1 o' (ws.length + 1) (vs ++ [r])) (hg : w.grownBy w' o.ownBlock) : WL w' B o' (ws ++ [L]) := by
  refine ⟨vs ++ [r], by simpa using hn, fun i hi => ?_⟩
  have hvl : vs.length = ws.length := by have := h1.1; omega
  simp at hi
  rcases Nat.lt_or_ge i ws.length with a | a
  · obtain ⟨q, c, d⟩ := h2 i a
    refine ⟨q, by rw [List.getElem?_append_left (by omega)]; exact c, ?_⟩
    rw [show (ws ++ [L]).getD i [] = ws.getD i [] by rw [List.getD_eq_getElem?_getD, List.getD_eq_getElem?_getD, List.getElem?_append_left a]]
    exact d.kept hg (own_diff d h1 (by decide))
  · obtain rfl : i = ws.length := by omega
    refine ⟨r, by rw [List.getElem?_append_right (by omega), hvl]; simp, ?_⟩
    rw [show (ws ++ [L]).getD ws.length [] = L by rw [List.getD_eq_getElem?_getD, List.getElem?_append_right (Nat.le_refl _)]; simp]
    exact hr.kept hg (own_diff hr h1 (by decide))
/-- where the row of a list lies after it has grown -/
def Moved (w : World) (o o' : Value) : Prop := o'.ownBlock = o.ownBlock ∨ ∃ b, o'.ownBlock = some b ∧ w.heap.size ≤ b
theorem Moved.refl (w : World) (o : Value) : Moved w o o := .inl rfl
theorem Moved.trans {a b : World} {o o1 o2 : Value} (h : Moved a o o1) (k : Moved b o1 o2) (hs : a.heap.size ≤ b.heap.size) : Moved a o o2 := by
  rcases k with k | ⟨j, k1, k2⟩
  · rcases h with h | ⟨i, h1, h2⟩
    · exact .inl (k.trans h)
    · exact .inr ⟨i, k.trans h1, h2⟩
  · exact .inr ⟨j, k1, by omega⟩
theorem grown_chain {a b c : World} {o o1 : Value} (h : a.grownBy b o.ownBlock) (hm : Moved a o o1) (k : b.grownBy c o1.ownBlock) : a.grownBy c o.ownBlock :=
  ⟨k.os.trans h.os, k.tape.trans h.tape, k.output.trans h.output, Nat.le_trans h.size k.size, fun j hj hn => (k.block j (Nat.lt_of_lt_of_le hj h.size) (fun e => by
    rcases hm with hm | ⟨i, h1, h2⟩
    · exact hn (e.trans hm)
    · rw [h1] at e; injection e with e; omega)).trans (h.block j hj hn)⟩
theorem grown_none {a b : World} {row : Option Nat} (h : a.grownBy b none) : a.grownBy b row := ⟨h.os, h.tape, h.output, h.size, fun j hj _ => h.block j hj (by simp)⟩
theorem grown_below {a b : World} {row : Option Nat} (h : Below a.heap.size a b) : a.grownBy b row := ⟨h.os, h.tape, h.output, h.size, fun j hj _ => h.block j hj⟩
/-- what ways gives back -/
def WaysR (g : List (List Int)) (B : Nat) (o : Value) (k : Nat) (w : World) (e : Ending) (w' : World) : Prop :=
  ∃ (o' : Value) (ws : List (List Int)), e = .returned o' ∧ WL w' B o' ws ∧ (∀ i, i < ws.length → IsWay g (ws.getD i []) ∧ (ws.getD i []).length ≤ 200) ∧ ws.length ≤ k ∧ w.grownBy w' o.ownBlock ∧ Moved w o o'
end Go.Proofs.Ytgamodmenlhedaa.cf
