/- The draw Int with its range; the draw Odd: a program with one thing changed. -/
import Derived.Test.YtmeoabpigibaoaaPd5
import Derived.Test.YtmeoabpigibaoaaSc3
import Derived.Deep.CutBlock
import Derived.Deep.RegionLaw
import Derived.Deep.RegionHeld3
namespace Go.Proofs.Ytmeoabpigibaoaa.pm
open Go.RowKit
set_option linter.unusedVariables false
set_option maxRecDepth 10000
attribute [local go_sem ↓] Go.wp_at_zero Go.wp_at_succ

theorem ten_ex' (k : Nat) (hk : k < 10) : ∃ x : Int, (#[Value.int .i64 9223372036854775807, Value.int .i64 (-9223372036854775808), Value.int .i64 2147483648, Value.int .i64 2147483647, Value.int .i64 (-1), Value.int .i64 16777216, Value.int .i64 33554432, Value.int .i64 1048577, Value.int .i64 512, Value.int .i64 80] : Array Value)[k]? = some (.int .i64 x) ∧ (-9223372036854775808 ≤ x ∧ x ≤ 9223372036854775807) := by
  have h : k = 0 ∨ k = 1 ∨ k = 2 ∨ k = 3 ∨ k = 4 ∨ k = 5 ∨ k = 6 ∨ k = 7 ∨ k = 8 ∨ k = 9 := by omega
  rcases h with rfl | rfl | rfl | rfl | rfl | rfl | rfl | rfl | rfl | rfl <;> exact ⟨_, rfl, by omega⟩
set_option maxHeartbeats 2000000 in
theorem int_r (B g : Nat) (A : Option Addr) (n c : Nat) (l : List Nat) (p : Nat) (w : World) (h : CodesAt w B g A n c l p) :
    Calls Try.prog 13 #[.pointer (some ⟨g, 0, none⟩)] w fun e w' => ∃ (x : Int) (p' : Nat), (-9223372036854775808 ≤ x ∧ x ≤ 9223372036854775807) ∧ e = .returned (.int .i64 x) ∧ CodesAt w' B g A n c l p' ∧ w.grownBy w' (some g) := by
  have HC := Lib.hid h
  clear h
  go_enter Try.func13, Try.ntmps13
  go_wp2_with fail
  refine (next_d _ _ _ _ _ _ _ 12 _ HC.out (by omega) (by omega)).mono ?_
  rintro e w1 ⟨k, p1, hk, rfl, c1, g1⟩
  have HC1 := Lib.hid c1
  have HG1 := Lib.hid g1
  have hgl := c1.1.lt
  clear HC c1 g1
  by_cases h11 : k = 11
  · subst h11
    go_wp2_with fail
    refine (next_d _ _ _ _ _ _ _ 10 _ (HC1.out.alloc _) (by omega) (by omega)).mono ?_
    rintro e w2 ⟨v, p2, hv, rfl, c2, g2⟩
    obtain ⟨x, hx, hxr⟩ := ten_ex' v (by omega)
    have HXR := Lib.hid hxr
    clear hxr
    have hb := ((Blk.new w1 3 #[Value.int .i64 9223372036854775807, Value.int .i64 (-9223372036854775808), Value.int .i64 2147483648, Value.int .i64 2147483647, Value.int .i64 (-1), Value.int .i64 16777216, Value.int .i64 33554432, Value.int .i64 1048577, Value.int .i64 512, Value.int .i64 80]).grown g2 (by intro e; injection e; omega))
    have hcell := (Blk.cell hb v).trans hx
    have HC2 := Lib.hid c2
    have HG2 := Lib.hid (grownBy_trans (grownBy_al HG1.out _) g2)
    have hv0 : (0 : Int) ≤ (v : Int) := by omega
    have hv1 : (v : Int) < 10 := by omega
    clear hx hb c2 g2 hv
    go_wp2
    go_ret
    exact ⟨x, p2, HXR.out, rfl, HC2.out, HG2.out⟩
  · have hk11 : ¬ ((k : Int) = 11) := by omega
    have hk0 : (0 : Int) ≤ (k : Int) := by omega
    have hk1 : (k : Int) < 12 := by omega
    clear hk
    go_wp2_with fail
    refine (next_d _ _ _ _ _ _ _ 256 _ HC1.out (by omega) (by omega)).mono ?_
    rintro e w2 ⟨v, p2, hv, rfl, c2, g2⟩
    have HC2 := Lib.hid c2
    have HG2 := Lib.hid (grownBy_trans HG1.out g2)
    have hv0 : (0 : Int) ≤ (v : Int) := by omega
    have hv1 : (v : Int) < 256 := by omega
    clear c2 g2 hv
    go_wp2_with fail
    refine (next_d _ _ _ _ _ _ _ 7 _ HC2.out (by omega) (by omega)).mono ?_
    rintro e w3 ⟨u, p3, hu, rfl, c3, g3⟩
    have HC3 := Lib.hid c3
    have HG3 := Lib.hid (grownBy_trans HG2.out g3)
    have hu0 : (0 : Int) ≤ (u : Int) := by omega
    have hu1 : (u : Int) < 7 := by omega
    have hu2 : u < 7 := by omega
    clear c3 g3 hu
    go_wp2
    go_ret
    refine ⟨_, p3, ?_, rfl, HC3.out, HG3.out⟩
    unfold wrap64; omega
theorem grownBy_setg {a b : World} {g : Nat} (h : a.grownBy b (some g)) (i : Nat) (v : Value) : a.grownBy (b.setCell ⟨g, i, none⟩ v) (some g) :=
  ⟨h.os, h.tape, h.output, by have := h.size; simpa [World.setCell] using this, fun j hj hn => (Below.heap_setCell b ⟨g, i, none⟩ v j (fun e => hn (by rw [e]))).trans (h.block j hj hn)⟩
theorem own_ne2 {w : World} {b b' n m c s s' g : Nat} {e1 e2 : TypeId} {v1 : Value} {xs ys : List Value} (h1 : w.ownsRow b e1 s v1 n xs) (h2 : w.ownsRow b' e2 s' (.slice (some ⟨g, 0, none⟩) m c) m ys) (hne : e1 ≠ e2) : ∀ j, v1.ownBlock = some j → j ≠ g := fun j e e2 => by
  rcases own_two' h1 h2 hne with h | h
  · rw [h] at e; cases e
  · exact h (e.trans (by rw [e2]; rfl))
theorem Vx.setFn {w : World} {lo hi : Nat} {vs : List Value} {p : List Fn} {i : Nat} (h : Vx w lo hi vs p) (hl : vs.length = p.length * 3) (hi' : i < p.length) {g : Fn} {As Ai : Option Addr} {cs ci : Nat} (hs : Sx w lo hi As g.slots) (hn : Nx w lo hi Ai g.code) (h3 : g.slots.length ≤ maxLen ∧ g.slots.length ≤ cs) (h4 : g.code.length ≤ maxLen ∧ g.code.length ≤ ci) :
    Vx w lo hi (((vs.set (i * 3) (.int .i64 g.params)).set (i * 3 + 1) (.slice As g.slots.length cs)).set (i * 3 + 2) (.slice Ai g.code.length ci)) (p.set i g) := fun j hj => by
  rw [List.length_set] at hj
  by_cases e : j = i
  · subst e
    have e : (p.set j g).getD j Fn.z = g := by simp [List.getD_eq_getElem?_getD, hj]
    rw [e]
    refine ⟨As, cs, Ai, ci, ?_, ?_, ?_, hs, hn, h3, h4⟩
    · rw [List.getElem?_set_ne (by omega), List.getElem?_set_ne (by omega), List.getElem?_set_self (by omega)]
    · rw [List.getElem?_set_ne (by omega), List.getElem?_set_self (by simp; omega)]
    · rw [List.getElem?_set_self (by simp; omega)]
  · obtain ⟨As', cs', Ai', ci', q1, q2, q3, r⟩ := h j hj
    have e' : (p.set i g).getD j Fn.z = p.getD j Fn.z := by rw [List.getD_eq_getElem?_getD, List.getElem?_set_ne (Ne.symm e), ← List.getD_eq_getElem?_getD]
    rw [e']
    exact ⟨As', cs', Ai', ci', by rw [List.getElem?_set_ne (by omega), List.getElem?_set_ne (by omega), List.getElem?_set_ne (by omega)]; exact q1, by rw [List.getElem?_set_ne (by omega), List.getElem?_set_ne (by omega), List.getElem?_set_ne (by omega)]; exact q2, by rw [List.getElem?_set_ne (by omega), List.getElem?_set_ne (by omega), List.getElem?_set_ne (by omega)]; exact q3, r⟩
theorem inVs0 (l : List Ins) (k : Nat) (v : Int) (h : k < l.length) : (inV l).set (k * 5) (.int .i64 v) = inV (l.set k ((fun x => ⟨v, x.a, x.b, x.c, x.imm⟩ : Ins → Ins) (l.getD k Ins.z))) := flat_set (j := 0) (g := (fun x => ⟨v, x.a, x.b, x.c, x.imm⟩ : Ins → Ins)) icells_len (by omega) (fun x => rfl) Ins.z l k h
theorem inVs1 (l : List Ins) (k : Nat) (v : Int) (h : k < l.length) : (inV l).set (k * 5 + 1) (.int .i64 v) = inV (l.set k ((fun x => ⟨x.op, v, x.b, x.c, x.imm⟩ : Ins → Ins) (l.getD k Ins.z))) := flat_set (j := 1) (g := (fun x => ⟨x.op, v, x.b, x.c, x.imm⟩ : Ins → Ins)) icells_len (by omega) (fun x => rfl) Ins.z l k h
theorem inVs2 (l : List Ins) (k : Nat) (v : Int) (h : k < l.length) : (inV l).set (k * 5 + 2) (.int .i64 v) = inV (l.set k ((fun x => ⟨x.op, x.a, v, x.c, x.imm⟩ : Ins → Ins) (l.getD k Ins.z))) := flat_set (j := 2) (g := (fun x => ⟨x.op, x.a, v, x.c, x.imm⟩ : Ins → Ins)) icells_len (by omega) (fun x => rfl) Ins.z l k h
theorem inVs3 (l : List Ins) (k : Nat) (v : Int) (h : k < l.length) : (inV l).set (k * 5 + 3) (.int .i64 v) = inV (l.set k ((fun x => ⟨x.op, x.a, x.b, v, x.imm⟩ : Ins → Ins) (l.getD k Ins.z))) := flat_set (j := 3) (g := (fun x => ⟨x.op, x.a, x.b, v, x.imm⟩ : Ins → Ins)) icells_len (by omega) (fun x => rfl) Ins.z l k h
theorem inVs4 (l : List Ins) (k : Nat) (v : Int) (h : k < l.length) : (inV l).set (k * 5 + 4) (.int .u64 v) = inV (l.set k ((fun x => ⟨x.op, x.a, x.b, x.c, v⟩ : Ins → Ins) (l.getD k Ins.z))) := flat_set (j := 4) (g := (fun x => ⟨x.op, x.a, x.b, x.c, v⟩ : Ins → Ins)) icells_len (by omega) (fun x => rfl) Ins.z l k h
theorem slV_set (l : List (Int × Int)) (k : Nat) (a b : Int) (h : k < l.length) : ((slV l).set (k * 2) (.int .i64 a)).set (k * 2 + 1) (.int .i64 b) = slV (l.set k (a, b)) := by
  have s0 := flat_set (j := 0) (v := .int .i64 a) (g := (fun x => (a, x.2) : Int × Int → Int × Int)) scells_len (by omega) (fun x => rfl) (0, 0) l k h
  have s1 := flat_set (j := 1) (v := .int .i64 b) (g := (fun x => (x.1, b) : Int × Int → Int × Int)) scells_len (by omega) (fun x => rfl) (0, 0) (l.set k (a, (l.getD k (0, 0)).2)) k (by simpa using h)
  unfold slV
  rw [Nat.add_zero] at s0
  rw [s0, s1]
  simp [List.getD_eq_getElem?_getD, h]
theorem inV_take (l : List Ins) (k : Nat) : inV (l.take k) = (inV l).take (k * 5) := by
  induction k generalizing l with
  | zero => simp [inV]
  | succ k ih =>
    rcases l with _ | ⟨x, r⟩
    · simp [inV]
    · unfold inV at ih ⊢
      rw [List.take_succ_cons, List.flatMap_cons, List.flatMap_cons, ih r, show (k + 1) * 5 = (icells x).length + k * 5 by rw [icells_len]; omega, List.take_length_add_append]
theorem Nx.take {w : World} {lo hi : Nat} {A : Option Addr} {l : List Ins} (h : Nx w lo hi A l) (k : Nat) (hk : k ≤ l.length) : Nx w lo hi A (l.take k) := by
  have hl : (l.take k).length = k := by rw [List.length_take]; omega
  unfold Nx
  rw [hl]
  refine ⟨⟨by rw [inV_len, hl], fun hp => ?_⟩, fun ad e hp => h.2 ad e (by omega)⟩
  obtain ⟨ad, e, hb, hc⟩ := h.1.2 (by omega)
  refine ⟨ad, e, hb, fun j u hu => hc j u ?_⟩
  rw [inV_take, List.getElem?_take] at hu
  split at hu
  · exact hu
  · cases hu
/-- a program whose parts are not too great -/
def PrS (p : List Fn) : Prop := ∀ i, i < p.length → (p.getD i Fn.z).slots.length ≤ 1000 ∧ (p.getD i Fn.z).code.length ≤ 1000 ∧ FnR (p.getD i Fn.z)
/-- what Odd draws -/
def OddD (B cb lo : Nat) (A : Option Addr) (n c : Nat) (l : List Nat) (m : Nat) (w : World) (e : Ending) (w' : World) : Prop :=
  ∃ (q : List Fn) (Aq : Option Addr) (cq p' : Nat), e = .returned (.agg #[.slice Aq q.length cq]) ∧ q.length = m ∧ PrS q ∧ q.length ≤ cq ∧ Fx w' lo w'.heap.size Aq q ∧ CodesAt w' B cb A n c l p' ∧ w.grownBy w' (some cb)
end Go.Proofs.Ytmeoabpigibaoaa.pm
