/- The draw Int with its range; the draw Odd: a program with one thing changed. -/
import Derived.Test.YtdijeijbcoeopaaDoorGPe
import Derived.Test.YtdijeijbcoeopaaDoorGSc
import Derived.Deep.CutBlock
import Derived.Deep.RegionLaw
import Derived.Deep.RegionHeld3
import Derived.Test.YtdijeijbcoeopaaDoorGPm
set_option linter.unusedVariables false
set_option maxRecDepth 10000
set_option maxHeartbeats 8000000
namespace Go.Proofs.YtdijeijbcoeopaaDoor.pm
open Go.RowKit
attribute [local go_sem ↓] Go.wp_at_zero Go.wp_at_succ
theorem ten_ex' (k : Nat) (hk : k < 10) : ∃ x : Int, (#[Value.int .i64 9223372036854775807, Value.int .i64 (-9223372036854775808), Value.int .i64 2147483648, Value.int .i64 2147483647, Value.int .i64 (-1), Value.int .i64 16777216, Value.int .i64 33554432, Value.int .i64 1048577, Value.int .i64 512, Value.int .i64 80] : Array Value)[k]? = some (.int .i64 x) ∧ (-9223372036854775808 ≤ x ∧ x ≤ 9223372036854775807) := by
 have h : k = 0 ∨ k = 1 ∨ k = 2 ∨ k = 3 ∨ k = 4 ∨ k = 5 ∨ k = 6 ∨ k = 7 ∨ k = 8 ∨ k = 9 := by omega
 rcases h with rfl | rfl | rfl | rfl | rfl | rfl | rfl | rfl | rfl | rfl <;> exact ⟨_, rfl, by omega⟩
theorem int_r (B g : Nat) (A : Option Addr) (n c : Nat) (l : List Nat) (p : Nat) (w : World) (h : CodesAt w B g A n c l p) :
 Calls Tryd.prog 19 #[.pointer (some ⟨g, 0, none⟩)] w fun e w' => ∃ (x : Int) (p' : Nat), (-9223372036854775808 ≤ x ∧ x ≤ 9223372036854775807) ∧ e = .returned (.int .i64 x) ∧ CodesAt w' B g A n c l p' ∧ w.grownBy w' (some g) := by
 have HC := hQ h
 clear h
 go_enter Tryd.func19, Tryd.ntmps19
 go_wp2_with fail
 refine (next_d _ _ _ _ _ _ _ 12 _ HC.out (by omega) (by omega)).mono ?_
 rintro e w1 ⟨k, p1, hk, rfl, c1, g1⟩
 have HC1 := hQ c1
 have HG1 := hQ g1
 have hgl := c1.1.lt
 clear HC c1 g1
 by_cases h11 : k = 11
 · subst h11
   go_wp2_with fail
   refine (next_d _ _ _ _ _ _ _ 10 _ (HC1.out.alloc _) (by omega) (by omega)).mono ?_
   rintro e w2 ⟨v, p2, hv, rfl, c2, g2⟩
   obtain ⟨x, hx, hxr⟩ := ten_ex' v (by omega)
   have HXR := hQ hxr
   clear hxr
   have hb := ((Blk.new w1 3 #[Value.int .i64 9223372036854775807, Value.int .i64 (-9223372036854775808), Value.int .i64 2147483648, Value.int .i64 2147483647, Value.int .i64 (-1), Value.int .i64 16777216, Value.int .i64 33554432, Value.int .i64 1048577, Value.int .i64 512, Value.int .i64 80]).grown g2 (by intro e; injection e; omega))
   have hcell := (Blk.cell hb v).trans hx
   have HC2 := hQ c2
   have HG2 := hQ (grownBy_trans (grownBy_al HG1.out _) g2)
   have hv0 : (0 : Int) ≤ (v : Int) := by omega
   have hv1 : (v : Int) < 10 := by omega
   clear hx hb c2 g2 hv
   go_wp2
   go_ret
   exact ⟨x, p2, HXR.out, rfl, HC2.out, HG2.out⟩
 · have hk11 : ¬ ((k : Int) = 11) := by omega
   have hk0 : (0 : Int) ≤ (k : Int) := by omega
   have hk1 : (k : Int) < 12 := by omega
   clear hk
   go_wp2_with fail
   refine (next_d _ _ _ _ _ _ _ 256 _ HC1.out (by omega) (by omega)).mono ?_
   rintro e w2 ⟨v, p2, hv, rfl, c2, g2⟩
   have HC2 := hQ c2
   have HG2 := hQ (grownBy_trans HG1.out g2)
   have hv0 : (0 : Int) ≤ (v : Int) := by omega
   have hv1 : (v : Int) < 256 := by omega
   clear c2 g2 hv
   go_wp2_with fail
   refine (next_d _ _ _ _ _ _ _ 7 _ HC2.out (by omega) (by omega)).mono ?_
   rintro e w3 ⟨u, p3, hu, rfl, c3, g3⟩
   have HC3 := hQ c3
   have HG3 := hQ (grownBy_trans HG2.out g3)
   have hu0 : (0 : Int) ≤ (u : Int) := by omega
   have hu1 : (u : Int) < 7 := by omega
   have hu2 : u < 7 := by omega
   clear c3 g3 hu
   go_wp2
   go_ret
   refine ⟨_, p3, ?_, rfl, HC3.out, HG3.out⟩
   unfold wrap64; omega
theorem grownBy_setg {a b : World} {g : Nat} (h : a.grownBy b (some g)) (i : Nat) (v : Value) : a.grownBy (b.setCell ⟨g, i, none⟩ v) (some g) :=
 ⟨h.os, h.tape, h.output, by have := h.size; simpa [World.setCell] using this, fun j hj hn => (Below.heap_setCell b ⟨g, i, none⟩ v j (fun e => hn (by rw [e]))).trans (h.block j hj hn)⟩
theorem own_ne2 {w : World} {b b' n m c s s' g : Nat} {e1 e2 : TypeId} {v1 : Value} {xs ys : List Value} (h1 : w.ownsRow b e1 s v1 n xs) (h2 : w.ownsRow b' e2 s' (.slice (some ⟨g, 0, none⟩) m c) m ys) (hne : e1 ≠ e2) : ∀ j, v1.ownBlock = some j → j ≠ g := fun j e e2 => by
 rcases own_two' h1 h2 hne with h | h
 · rw [h] at e; cases e
 · exact h (e.trans (by rw [e2]; rfl))
theorem Vx.setFn {w : World} {lo hi : Nat} {vs : List Value} {p : List Fn} {i : Nat} (h : Vx w lo hi vs p) (hl : vs.length = p.length * 3) (hi' : i < p.length) {g : Fn} {As Ai : Option Addr} {cs ci : Nat} (hs : Sx w lo hi As g.slots) (hn : Nx w lo hi Ai g.code) (h3 : g.slots.length ≤ maxLen ∧ g.slots.length ≤ cs) (h4 : g.code.length ≤ maxLen ∧ g.code.length ≤ ci) :
 Vx w lo hi (((vs.set (i * 3) (.int .i64 g.params)).set (i * 3 + 1) (.slice As g.slots.length cs)).set (i * 3 + 2) (.slice Ai g.code.length ci)) (p.set i g) := fun j hj => by
 rw [List.length_set] at hj
 by_cases e : j = i
 · subst e
   have e : (p.set j g).getD j Fn.z = g := by simp [List.getD_eq_getElem?_getD, hj]
   rw [e]
   refine ⟨As, cs, Ai, ci, ?_, ?_, ?_, hs, hn, h3, h4⟩
   · rw [List.getElem?_set_ne (by omega), List.getElem?_set_ne (by omega), List.getElem?_set_self (by omega)]
   · rw [List.getElem?_set_ne (by omega), List.getElem?_set_self (by simp; omega)]
   · rw [List.getElem?_set_self (by simp; omega)]
 · obtain ⟨As', cs', Ai', ci', q1, q2, q3, r⟩ := h j hj
   have e' : (p.set i g).getD j Fn.z = p.getD j Fn.z := by rw [List.getD_eq_getElem?_getD, List.getElem?_set_ne (Ne.symm e), ← List.getD_eq_getElem?_getD]
   rw [e']
   exact ⟨As', cs', Ai', ci', by rw [List.getElem?_set_ne (by omega), List.getElem?_set_ne (by omega), List.getElem?_set_ne (by omega)]; exact q1, by rw [List.getElem?_set_ne (by omega), List.getElem?_set_ne (by omega), List.getElem?_set_ne (by omega)]; exact q2, by rw [List.getElem?_set_ne (by omega), List.getElem?_set_ne (by omega), List.getElem?_set_ne (by omega)]; exact q3, r⟩
theorem inVs0 (l : List Ins) (k : Nat) (v : Int) (h : k < l.length) : (inV l).set (k * 5) (.int .i64 v) = inV (l.set k ((fun x => ⟨v, x.a, x.b, x.c, x.imm⟩ : Ins → Ins) (l.getD k Ins.z))) := flat_set (j := 0) (g := (fun x => ⟨v, x.a, x.b, x.c, x.imm⟩ : Ins → Ins)) icells_len (by omega) (fun x => rfl) Ins.z l k h
theorem inVs1 (l : List Ins) (k : Nat) (v : Int) (h : k < l.length) : (inV l).set (k * 5 + 1) (.int .i64 v) = inV (l.set k ((fun x => ⟨x.op, v, x.b, x.c, x.imm⟩ : Ins → Ins) (l.getD k Ins.z))) := flat_set (j := 1) (g := (fun x => ⟨x.op, v, x.b, x.c, x.imm⟩ : Ins → Ins)) icells_len (by omega) (fun x => rfl) Ins.z l k h
theorem inVs2 (l : List Ins) (k : Nat) (v : Int) (h : k < l.length) : (inV l).set (k * 5 + 2) (.int .i64 v) = inV (l.set k ((fun x => ⟨x.op, x.a, v, x.c, x.imm⟩ : Ins → Ins) (l.getD k Ins.z))) := flat_set (j := 2) (g := (fun x => ⟨x.op, x.a, v, x.c, x.imm⟩ : Ins → Ins)) icells_len (by omega) (fun x => rfl) Ins.z l k h
theorem inVs3 (l : List Ins) (k : Nat) (v : Int) (h : k < l.length) : (inV l).set (k * 5 + 3) (.int .i64 v) = inV (l.set k ((fun x => ⟨x.op, x.a, x.b, v, x.imm⟩ : Ins → Ins) (l.getD k Ins.z))) := flat_set (j := 3) (g := (fun x => ⟨x.op, x.a, x.b, v, x.imm⟩ : Ins → Ins)) icells_len (by omega) (fun x => rfl) Ins.z l k h
theorem inVs4 (l : List Ins) (k : Nat) (v : Int) (h : k < l.length) : (inV l).set (k * 5 + 4) (.int .u64 v) = inV (l.set k ((fun x => ⟨x.op, x.a, x.b, x.c, v⟩ : Ins → Ins) (l.getD k Ins.z))) := flat_set (j := 4) (g := (fun x => ⟨x.op, x.a, x.b, x.c, v⟩ : Ins → Ins)) icells_len (by omega) (fun x => rfl) Ins.z l k h
theorem slV_set (l : List (Int × Int)) (k : Nat) (a b : Int) (h : k < l.length) : ((slV l).set (k * 2) (.int .i64 a)).set (k * 2 + 1) (.int .i64 b) = slV (l.set k (a, b)) := by
 have s0 := flat_set (j := 0) (v := .int .i64 a) (g := (fun x => (a, x.2) : Int × Int → Int × Int)) scells_len (by omega) (fun x => rfl) (0, 0) l k h
 have s1 := flat_set (j := 1) (v := .int .i64 b) (g := (fun x => (x.1, b) : Int × Int → Int × Int)) scells_len (by omega) (fun x => rfl) (0, 0) (l.set k (a, (l.getD k (0, 0)).2)) k (by simpa using h)
 unfold slV
 rw [Nat.add_zero] at s0
 rw [s0, s1]
 simp [List.getD_eq_getElem?_getD, h]
theorem inV_take (l : List Ins) (k : Nat) : inV (l.take k) = (inV l).take (k * 5) := by
 induction k generalizing l with
 | zero => simp [inV]
 | succ k ih =>
  rcases l with _ | ⟨x, r⟩
  · simp [inV]
  · unfold inV at ih ⊢
    rw [List.take_succ_cons, List.flatMap_cons, List.flatMap_cons, ih r, show (k + 1) * 5 = (icells x).length + k * 5 by rw [icells_len]; omega, List.take_length_add_append]
theorem Nx.take {w : World} {lo hi : Nat} {A : Option Addr} {l : List Ins} (h : Nx w lo hi A l) (k : Nat) (hk : k ≤ l.length) : Nx w lo hi A (l.take k) := by
 have hl : (l.take k).length = k := by rw [List.length_take]; omega
 unfold Nx
 rw [hl]
 refine ⟨⟨by rw [inV_len, hl], fun hp => ?_⟩, fun ad e hp => h.2 ad e (by omega)⟩
 obtain ⟨ad, e, hb, hc⟩ := h.1.2 (by omega)
 refine ⟨ad, e, hb, fun j u hu => hc j u ?_⟩
 rw [inV_take, List.getElem?_take] at hu
 split at hu
 · exact hu
 · cases hu
end Go.Proofs.YtdijeijbcoeopaaDoor.pm
namespace Go.Proofs.YtdijeijbcoeopaaDoor.pm
open Go.RowKit
def ImO (c : List Ins) : Prop := ∀ x ∈ c, 0 ≤ x.imm ∧ x.imm < 18446744073709551616
theorem ImO.set {c : List Ins} {k : Nat} {y : Ins} (h : ImO c) (hy : 0 ≤ y.imm ∧ y.imm < 18446744073709551616) : ImO (c.set k y) := fun x hx => (List.mem_or_eq_of_mem_set hx).elim (h x) (fun e => e ▸ hy)
theorem ImO.take {c : List Ins} {k : Nat} (h : ImO c) : ImO (c.take k) := fun x hx => h x (List.mem_of_mem_take hx)
def FnI (f : Fn) : Prop := FnR f ∧ ImO f.code
def PrS7 (p : List Fn) : Prop := ∀ i, i < p.length → (p.getD i Fn.z).slots.length ≤ 1000 ∧ (p.getD i Fn.z).code.length ≤ 1000 ∧ FnI (p.getD i Fn.z)
def OddD7 (B cb lo : Nat) (A : Option Addr) (n c : Nat) (l : List Nat) (m : Nat) (w : World) (e : Ending) (w' : World) : Prop :=
 ∃ (q : List Fn) (Aq : Option Addr) (cq p' : Nat), e = .returned (.agg #[.slice Aq q.length cq]) ∧ q.length = m ∧ PrS7 q ∧ q.length ≤ cq ∧ Fx w' lo w'.heap.size Aq q ∧ CodesAt w' B cb A n c l p' ∧ w.grownBy w' (some cb)
theorem odd7_d (B cb : Nat) (A : Option Addr) (n c : Nat) (l : List Nat) (p0 : Nat) (Ap : Option Addr) (p : List Fn) (cp lo hi : Nat) (w : World) (h : CodesAt w B cb A n c l p0) (hf : Fx w lo hi Ap p) (hh : hi ≤ w.heap.size) (hlo : cb < lo) (hlw : lo ≤ w.heap.size) (hp1 : 1 ≤ p.length) (hp2 : p.length ≤ 100) (hps : PrS7 p) (hpc : ∀ i, i < p.length → 1 ≤ (p.getD i Fn.z).code.length ∧ (p.getD i Fn.z).code.length ≤ 500 ∧ (p.getD i Fn.z).slots.length ≤ 500) :
 Calls Tryd.prog 6 #[.pointer (some ⟨cb, 0, none⟩), .agg #[.slice Ap p.length cp]] w (OddD7 B cb lo A n c l p.length w) := by
 obtain ⟨i0, hi0, hz0, hz1, hz2⟩ := info_parts info_ins
 obtain ⟨i1, hi1, hy0, hy1, hy2⟩ := info_parts info_fn
 obtain ⟨i2, hi2, hw0, hw1, hw2⟩ := info_parts info_slot
 have hlt := h.1.lt
 have hB := h.2.2.2.1
 obtain ⟨W1, hW1⟩ : ∃ W1, W1 = (w.alloc (.cells #[.slice Ap p.length cp] 26)).alloc (.cells #[.slice none 0 0] 26) := ⟨_, rfl⟩
 have HK3 : Hid (Blk W1 w.heap.size 26 #[.slice Ap p.length cp]) := hQ (by rw [hW1]; exact (Blk.new _ _ _).alloc _)
 have HK4 : Hid (Blk W1 (w.heap.size + 1) 26 #[.slice none 0 0]) := hQ (by rw [hW1]; exact Blk.newAt (by simp))
 have hB1 : Below w.heap.size w W1 := by rw [hW1]; exact (bR.alloc nL _).alloc (by simp) _
 have HC1 : Hid (CodesAt W1 B cb A n c l p0) := hQ ((h.alloc _).alloc _ |> fun h => by rw [hW1]; exact h)
 have HG1 : Hid (w.grownBy W1 (some cb)) := hQ (grownBy_of_below hB1 _)
 have HFX1 := hQ (hf.keep (Kp.of_below hB1 hh))
 have HKS : Hid (Kp lo hi W1 w) := hQ (fun b h1 h2 => ((Kp.of_below (lo := lo) hB1 hh) b h1 h2).symm)
 have HW1 := hQ hW1
 have HPS := hQ hps
 have HPC := hQ hpc
 have hz1' : w.heap.size + 1 < W1.heap.size := HK4.out.lt
 obtain ⟨vs, hrx, hvx⟩ := HFX1.out
 have HRX := hQ hrx
 have HVX := hQ hvx
 have HVL : Hid (vs.length = p.length * 3) := hQ hrx.1.1
 have HV1 := hQ (Vx.one hvx hrx.1.1)
 have hpi : (p.length : Int) ≤ 100 := by omega
 clear h hf hW1 hB1 hps hpc hrx hvx
 obtain ⟨q0, -, qz⟩ := blk_one HK3.out
 go_enter Tryd.func6, Tryd.ntmps6
 go_upto_region 1 with (fail)
 rw [← HW1.out]
 go_upto_region 2 with (at_builtin; refine wpList_append_any _ rfl (.const (.slice none 0 0)) (.tmp 10) _ rfl W1.heap.size 54 i1 _ 3 56 Tryd.underlying24 hi1 hy0 hy1 hy2 rfl (by omega) _ 0 [] rfl (World.ownsRow_nil _ _ _ _) hi Ap p.length cp vs rfl HRX.out.1 HV1.out (by unfold maxLen; omega) (by omega) nL ?_; intro v2 w2 own2 hg2 hat2; have hfo := own2.form (by omega); obtain ⟨gl, cl, rfl, hgl, hgl2⟩ := hfo)
 have HG2' : Hid (W1.grownBy w2 none) := hQ hg2
 have HL2 : Hid (w2.ownsRow W1.heap.size 54 3 (.slice (some ⟨gl, 0, none⟩) p.length cl) p.length vs) := hQ (by simpa using own2)
 have HG2 : Hid (w.grownBy w2 (some cb)) := hQ (grownBy_step HG1.out HG2'.out (fun j e => by cases e))
 have HC2 : Hid (CodesAt w2 B cb A n c l p0) := hQ (HC1.out.grown' HG2'.out (by simp) (fun j e => by cases e))
 have HK42 := hQ (HK4.out.grown HG2'.out (by simp))
 have hs2 : W1.heap.size ≤ w2.heap.size := HG2'.out.size
 have HG2n := HG2'
 clear own2 hg2 hat2 q0 qz HG2' HG1 HC1 HK3 HK4
 try simp only [Nat.zero_add]
 go_wp2_with fail
 refine (next_d _ _ _ _ _ _ _ (p.length : Int) _ HC2.out (by omega) (by omega)).mono ?_
 rintro e w3 ⟨i, p3, hi3, rfl, c3, g3⟩
 have hil : i < p.length := by omega
 have HC3 := hQ c3
 have HG3 := hQ (grownBy_trans HG2.out g3)
 have hltW : cb < W1.heap.size := by omega
 have HL3 := hQ (own_draw HL2.out g3 hltW)
 have HK43 := hQ (HK42.out.grown g3 (some_ne (by omega)))
 have HG13 : Hid (W1.grownBy w3 (some cb)) := hQ (grownBy_trans (grownBy_step (World.grownBy.refl _ _) HG2n.out (fun j e => by cases e)) g3)
 have HKP3 : Hid (Kp lo hi w w3) := hQ (Kp.of_grown HG3.out hh (.inl hlo))
 have hs3 : w2.heap.size ≤ w3.heap.size := g3.size
 obtain ⟨As, cs, Ai, ci, v0, v1, v2, sx, nx, ⟨hs1, hs1'⟩, hn1, hn2⟩ := HVX.out i hil
 obtain ⟨f, hff⟩ : ∃ f, f = p.getD i Fn.z := ⟨_, rfl⟩
 have hpcf := HPC.out i hil
 rw [← hff] at v0 v1 v2 sx nx hs1 hs1' hn1 hn2 hpcf
 obtain ⟨k1, k2, k3⟩ := hpcf
 have HFF := hQ hff
 have HSX : Hid (Sx W1 lo hi As f.slots) := hQ sx
 have HNX : Hid (Nx W1 lo hi Ai f.code) := hQ nx
 have c0 : w3.cell? ⟨gl, i * 3, none⟩ = some (.int .i64 f.params) := (HL3.out.cellAt (i * 3) (by omega)).trans v0
 have c1 : w3.cell? ⟨gl, i * 3 + 1, none⟩ = some (.slice As f.slots.length cs) := (HL3.out.cellAt (i * 3 + 1) (by omega)).trans v1
 have c2 : w3.cell? ⟨gl, i * 3 + 2, none⟩ = some (.slice Ai f.code.length ci) := (HL3.out.cellAt (i * 3 + 2) (by omega)).trans v2
 have hii : (i : Int) < (p.length : Int) := by omega
 have hi00 : (0 : Int) ≤ (i : Int) := by omega
 clear c3 g3 hi3 hff sx nx v0 v1 v2 HC2 HG2 HL2 HK42
 go_upto_region 4 with (fail)
 obtain ⟨W4, hW4⟩ : ∃ W4, W4 = w3.alloc (.cells #[.int .i64 f.params, .slice As f.slots.length cs, .slice Ai f.code.length ci] 54) := ⟨_, rfl⟩
 rw [← hW4]
 have HK7 : Hid (Blk W4 w3.heap.size 54 #[.int .i64 f.params, .slice As f.slots.length cs, .slice Ai f.code.length ci]) := hQ (by rw [hW4]; exact Blk.new _ _ _)
 have HB34 : Hid (Below w3.heap.size w3 W4) := hQ (by rw [hW4]; exact bR.alloc nL _)
 obtain ⟨g7, hg7⟩ : ∃ g, g = w3.heap.size := ⟨_, rfl⟩
 rw [← hg7] at HK7 ⊢
 have HG7 := hQ hg7
 have hg7w : w.heap.size ≤ g7 := by omega
 have hg7a : w2.heap.size ≤ g7 := by omega
 have h7z : g7 < W4.heap.size := HK7.out.lt
 have HG4 : Hid (w.grownBy W4 (some cb)) := hQ (grownBy_trans HG3.out (grownBy_of_below HB34.out _))
 have HC4 : Hid (CodesAt W4 B cb A n c l p3) := hQ (HC3.out.after HB34.out)
 have HL4 := hQ (own_keep HL3.out HB34.out nL)
 have HK44 := hQ (HK43.out.after HB34.out)
 have hh4 : hi ≤ W4.heap.size := by have := HB34.out.size; omega
 have HKP14 : Hid (Kp lo hi W1 W4) := hQ (Kp.of_grown (grownBy_trans (show W1.grownBy w3 (some cb) from HG13.out) (grownBy_of_below HB34.out _)) (by omega) (.inl hlo))
 have HRN : Hid (∀ W, Kp lo hi W4 W → Reads W hi 5 Ai f.code.length (inV f.code)) := hQ (fun W hk => (HNX.out.keep (HKP14.out.trans hk)).1)
 have HRS : Hid (∀ W, Kp lo hi W4 W → Reads W hi 2 As f.slots.length (slV f.slots)) := hQ (fun W hk => (HSX.out.keep (HKP14.out.trans hk)).1)
 have KPD : Hid (Kp lo hi W4 W4.drew) := hQ (Kp.refl _ _ _)
 have e0 : ((f.code.length : Int) == 0) = false := by rw [beq_eq_false_iff_ne]; omega
 clear hW4 hg7 c0 c1 c2 HC3 HG3 HL3 HK43 HKP3 HB34
 obtain ⟨x0, x1, x2, y0, y1, y2, xz⟩ := HK7.out.c3
 go_upto_region 6 with (fail)
 go_cut [] (fun wx => ∃ (As' Ai' : Option Addr) (cs' ci' : Nat), Hid (Blk wx g7 54 #[.int .i64 f.params, .slice As' f.slots.length cs', .slice Ai' f.code.length ci']) ∧ Hid (wx.ownsRow W4.heap.size 61 2 (.slice As' f.slots.length cs') f.slots.length (slV f.slots)) ∧ Hid (wx.ownsRow W4.heap.size 50 5 (.slice Ai' f.code.length ci') f.code.length (inV f.code)) ∧ Hid (W4.grownBy wx (some g7)))
 case first =>
  go_region_law (first
   | (refine step_append_any _ rfl (.const (.slice none 0 0)) (.tmp 26) 51 rfl W4.heap.size 50 i0 _ 5 40 Tryd.underlying51 hi0 hz0 hz1 hz2 rfl (by omega) (.slice none 0 0) 0 [] rfl (World.ownsRow_nil _ _ _ _) hi Ai f.code.length ci (inV f.code) (by first | (simp [Act.eval]; done) | (simp [Act.eval, Act.put]; done)) (HRN.out _ (by first | exact KPD.out | exact KPX.out)) (inV_one _) (by unfold maxLen; omega) (by omega) (by first | exact Nat.le_refl _ | exact hsX) ?_; intro v6 w6 own6 gX atX; clear atX; simp only [Nat.zero_add, List.nil_append] at own6; have OWN6 : Hid (w6.ownsRow W4.heap.size 50 5 v6 f.code.length (inV f.code)) := hQ own6; obtain ⟨Aw6, cw6, rfl, -⟩ := own_form own6; have BX : Hid (Below W4.heap.size W4 w6) := hQ (by first | exact (((Below.refl W4.heap.size W4).drew).grown gX nL (fun k hk => by cases hk)) | exact BX.out.grown gX BX.out.size (fun k hk => by cases hk)); have KPX : Hid (Kp lo hi W4 w6) := hQ (Kp.of_below BX.out hh4); have hsX : W4.heap.size ≤ w6.heap.size := BX.out.size; obtain ⟨hcX, hfX⟩ := bcell BX.out; (try (have OWN7 := hQ (own_keep OWN7.out ((Below.refl w7.heap.size w7).grown gX nL (fun k hk => by cases hk)) nL))); clear gX own6)
   | (refine step_append_any _ rfl (.const (.slice none 0 0)) (.tmp 29) 52 rfl W4.heap.size 61 i2 _ 2 16 Tryd.underlying52 hi2 hw0 hw1 hw2 rfl (by omega) (.slice none 0 0) 0 [] rfl (World.ownsRow_nil _ _ _ _) hi As f.slots.length cs (slV f.slots) (by first | (simp [Act.eval]; done) | (simp [Act.eval, Act.put]; done)) (HRS.out _ (by first | exact KPD.out | exact KPX.out)) (slV_one _) (by unfold maxLen; omega) (by omega) (by first | exact Nat.le_refl _ | exact hsX) ?_; intro v7 w7 own7 gX atX; clear atX; simp only [Nat.zero_add, List.nil_append] at own7; have OWN7 : Hid (w7.ownsRow W4.heap.size 61 2 v7 f.slots.length (slV f.slots)) := hQ own7; obtain ⟨Aw7, cw7, rfl, -⟩ := own_form own7; have BX : Hid (Below W4.heap.size W4 w7) := hQ (by first | exact (((Below.refl W4.heap.size W4).drew).grown gX nL (fun k hk => by cases hk)) | exact BX.out.grown gX BX.out.size (fun k hk => by cases hk)); have KPX : Hid (Kp lo hi W4 w7) := hQ (Kp.of_below BX.out hh4); have hsX : W4.heap.size ≤ w7.heap.size := BX.out.size; obtain ⟨hcX, hfX⟩ := bcell BX.out; (try (have OWN6 := hQ (own_keep OWN6.out ((Below.refl w6.heap.size w6).grown gX nL (fun k hk => by cases hk)) nL))); clear gX own7))
  all_goals go_wp2_with fail
  all_goals go_meet
  all_goals
   exact ⟨_, _, _, _, hQ (Blk.set_ (Blk.set_ (HK7.out.below BX.out h7z) 2 _) 1 _), hQ (own_far (own_far OWN7.out _ h7z _) _ h7z _), hQ (own_far (own_far OWN6.out _ h7z _) _ h7z _), hQ (grownBy_setg (grownBy_setg (grownBy_of_below BX.out _) _ _) _ _)⟩
 case rest =>
  obtain ⟨As', Ai', cs', ci', HK, HOS, HOI, HGW⟩ := hcut
  obtain ⟨W5, hW5⟩ : ∃ W5, W5 = wc := ⟨_, rfl⟩
  subst hW5
  obtain ⟨gi, gc, hform, hgi1, hgi2⟩ := HOI.out.form (by omega)
  obtain ⟨rfl, rfl⟩ : Ai' = some ⟨gi, 0, none⟩ ∧ ci' = gc := by injection hform; exact ⟨by assumption, by assumption⟩
  clear hform x0 x1 x2 y0 y1 y2 xz
  have HG5 : Hid (w.grownBy W5 (some cb)) := hQ (grownBy_step HG4.out HGW.out (fun j e => by injection e with e; left; omega))
  have HC5 : Hid (CodesAt W5 B cb A n c l p3) := hQ (HC4.out.grown' HGW.out (fun e => by injection e with e; omega) (fun j e => by injection e with e; omega))
  have HL5 : Hid (W5.ownsRow W1.heap.size 54 3 (.slice (some ⟨gl, 0, none⟩) p.length cl) p.length vs) := hQ (HL4.out.kept HGW.out (.inr (by show some gl ≠ some g7; intro e; injection e with e; omega)))
  have HK45 := hQ (HK44.out.grown HGW.out (fun e => by injection e with e; omega))
  have hs5 : W4.heap.size ≤ W5.heap.size := HGW.out.size
  obtain ⟨x0, x1, x2, y0, y1, y2, xz⟩ := HK.out.c3
  go_wp2_with fail
  refine (next_d _ _ _ _ _ _ _ (f.code.length : Int) _ HC5.out (by omega) (by omega)).mono ?_
  rintro e W6 ⟨k, p6, hk, rfl, c6, g6⟩
  have hkl : k < f.code.length := by omega
  have HC6 := hQ c6
  have HG6 := hQ (grownBy_trans HG5.out g6)
  have HL6 := hQ (own_draw HL5.out g6 hltW)
  have HOS6 := hQ (own_draw HOS.out g6 (by omega))
  have HOI6 := hQ (own_draw HOI.out g6 (by omega))
  have HK46 := hQ (HK45.out.grown g6 (some_ne (by omega)))
  have HK76 := hQ (HK.out.grown g6 (some_ne (by omega)))
  have hs6 : W5.heap.size ≤ W6.heap.size := g6.size
  have hki : (k : Int) < (f.code.length : Int) := by omega
  have hk0 : (0 : Int) ≤ (k : Int) := by omega
  clear c6 g6 hk HC5 HG5 HL5 HOS HOI HK45 HK x0 x1 x2 y0 y1 y2 xz HC4 HG4 HL4 HK44 HGW
  go_wp2_with fail
  refine (next_d _ _ _ _ _ _ _ 9 _ HC6.out (by omega) (by omega)).mono ?_
  rintro e W7 ⟨z, p7, hz, rfl, c7, g7'⟩
  have hz9 : z < 9 := by omega
  have HC7 := hQ c7
  have HG7' := hQ (grownBy_trans HG6.out g7')
  have HL7 := hQ (own_draw HL6.out g7' hltW)
  have HOS7 := hQ (own_draw HOS6.out g7' (by omega))
  have HOI7 := hQ (own_draw HOI6.out g7' (by omega))
  have HK47 := hQ (HK46.out.grown g7' (some_ne (by omega)))
  have HK77 := hQ (HK76.out.grown g7' (some_ne (by omega)))
  have hs7 : W6.heap.size ≤ W7.heap.size := g7'.size
  clear c7 g7' hz HC6 HG6 HL6 HOS6 HOI6 HK46 HK76
  go_upto_block 0 with (fail)
  have HFR : Hid (FnI f) := hQ (by rw [HFF.out]; exact (HPS.out i hil).2.2)
  have HCS : Hid (f.slots.length ≤ cs') := hQ (own_cap HOS7.out).2
  have HCI : Hid (f.code.length ≤ ci') := hQ (own_cap HOI7.out).2
  go_cut [] (fun wx => ∃ (g : Fn) (As'' Ai'' : Option Addr) (cs'' ci'' p8 : Nat), Hid (Blk wx g7 54 #[.int .i64 g.params, .slice As'' g.slots.length cs'', .slice Ai'' g.code.length ci'']) ∧ Hid (Sx wx W4.heap.size wx.heap.size As'' g.slots) ∧ Hid (Nx wx W4.heap.size wx.heap.size Ai'' g.code) ∧ Hid ((g.slots.length ≤ 1000 ∧ g.code.length ≤ 1000 ∧ FnI g) ∧ g.slots.length ≤ cs'' ∧ g.code.length ≤ ci'') ∧ Hid (CodesAt wx B cb A n c l p8) ∧ Hid (w.grownBy wx (some cb)) ∧ Hid (wx.ownsRow W1.heap.size 54 3 (.slice (some ⟨gl, 0, none⟩) p.length cl) p.length vs) ∧ Hid (Blk wx (w.heap.size + 1) 26 #[.slice none 0 0]))
  case first =>
   have hz' : z = 0 ∨ z = 1 ∨ z = 2 ∨ z = 3 ∨ z = 4 ∨ z = 5 ∨ z = 6 ∨ z = 7 ∨ z = 8 := by omega
   clear hz9
   rcases hz' with hz | hz | hz | hz | hz | hz | hz | hz | hz
   · have e0 : ((z : Int) == 0) = true := by simp [hz]
     clear hz
     go_wp2_with fail
     have x2 : W7.cell? ⟨g7, 2, none⟩ = some (.slice (some ⟨gi, 0, none⟩) f.code.length ci') := HK77.out.c3.2.2.1
     go_region_held3 (fun W => W.cell? ⟨g7, 2, none⟩ = some (.slice (some ⟨gi, 0, none⟩) f.code.length ci')) (first | exact x2 | exact HX8.out | exact HX9.out _) ((go_at_call 7; refine Calls.mono (next_d _ _ _ _ _ _ _ 28 _ (CodesAt.dr HC7.out) (by omega) (by omega)) ?_; rintro e W8 ⟨v, p8, hv, rfl, c8, g8⟩; have HC8 := hQ c8; have HG8 := hQ (grownBy_trans HG7'.out (grownBy_trans (grownBy_drewN' W7 1 _) g8)); have HL8 := hQ (own_draw (w := W7.drew) HL7.out g8 hltW); have HOS8 := hQ (own_draw (w := W7.drew) HOS7.out g8 (by omega)); have HOI8 := hQ (own_draw (w := W7.drew) HOI7.out g8 (by omega)); have HK48 := hQ (Blk.grown (w := W7.drew) HK47.out g8 (some_ne (by omega))); have HK78 := hQ (Blk.grown (w := W7.drew) HK77.out g8 (some_ne (by omega))); have hs8 : W7.heap.size ≤ W8.heap.size := g8.size; have HX8 : Hid (W8.cell? ⟨g7, 2, none⟩ = some (.slice (some ⟨gi, 0, none⟩) f.code.length ci')) := hQ HK78.out.c3.2.2.1; have HX9 : Hid (∀ V, (W8.setCell ⟨gi, k * 5, none⟩ V).cell? ⟨g7, 2, none⟩ = some (.slice (some ⟨gi, 0, none⟩) f.code.length ci')) := hQ (fun V => (HK78.out.far (p := ⟨gi, k * 5, none⟩) (by show ¬ g7 = gi; omega) V).c3.2.2.1); have y0 : W8.cell? ⟨gi, k * 5, none⟩ = (icells (f.code.getD k Ins.z))[0]? := (HOI8.out.cellAt (k * 5) (by omega)).trans (flat_get icells_len Ins.z f.code k 0 hkl (by omega)); have yf := HOI8.out.frozenAt (k * 5); simp [icells] at y0; have hwv : IntKind.i64.wrap ((v : Int) - 1) = (v : Int) - 1 := IntWalk.i64_in _ (by omega); clear c8 g8))
     all_goals go_wp2_with fail
     all_goals go_meet
     have hst := (HOI8.out.stored (k * 5) (.int .i64 ((v : Int) - 1))).1
     rw [inVs0 _ _ _ hkl] at hst
     obtain ⟨cd, hcd⟩ : ∃ cd, cd = f.code.set k ((fun x => ⟨(v : Int) - 1, x.a, x.b, x.c, x.imm⟩ : Ins → Ins) (f.code.getD k Ins.z)) := ⟨_, rfl⟩
     rw [← hcd] at hst
     have hcl : cd.length = f.code.length := by rw [hcd, List.length_set]
     have hII : ImO cd := by
      rw [hcd]
      refine HFR.out.2.set ?_
      first | exact HFR.out.2 (f.code.getD k Ins.z) (getD_mem' hkl) | (show (0 : Int) ≤ (v : Int) ∧ (v : Int) < 18446744073709551616; omega)
     clear hcd
     have hN : Nx (W8.setCell ⟨gi, k * 5, none⟩ (.int .i64 ((v : Int) - 1))) W4.heap.size (W8.setCell ⟨gi, k * 5, none⟩ (.int .i64 ((v : Int) - 1))).heap.size (some ⟨gi, 0, none⟩) cd := by
      have h := Rx.of_own hst
      unfold Nx
      rw [hcl]
      exact h
     exact ⟨⟨f.params, f.slots, cd⟩, As', some ⟨gi, 0, none⟩, cs', ci', p8, hQ (by show Blk _ g7 _ #[.int .i64 f.params, .slice As' f.slots.length cs', .slice (some ⟨gi, 0, none⟩) cd.length ci']; rw [hcl]; exact HK78.out.far (by show ¬ g7 = gi; omega) _), hQ ((Rx.of_own (own_miss HOS8.out _ (own_ne2 HOS8.out HOI8.out (by decide)) _)).more nL nL), hQ hN, hQ ⟨⟨by show f.slots.length ≤ 1000; omega, by show cd.length ≤ 1000; omega, ⟨HFR.out.1, hII⟩⟩, HCS.out, by show cd.length ≤ ci'; rw [hcl]; exact HCI.out⟩, hQ (HC8.out.set (show cb ≠ gi by omega) (show B ≤ gi by omega) _), hQ (grownBy_set HG8.out (show w.heap.size ≤ gi by omega) _), hQ (own_miss HL8.out _ (fun j e => by have e' : gl = j := (by simpa [Value.ownBlock] using e); show j ≠ gi; omega) _), hQ (HK48.out.far (by show ¬ w.heap.size + 1 = gi; omega) _)⟩
   · have e0 : ((z : Int) == 0) = false := by rw [beq_eq_false_iff_ne]; omega
     have e1 : ((z : Int) == 1) = true := by simp [hz]
     clear hz
     go_wp2_with fail
     have x2 : W7.cell? ⟨g7, 2, none⟩ = some (.slice (some ⟨gi, 0, none⟩) f.code.length ci') := HK77.out.c3.2.2.1
     go_region_held3 (fun W => W.cell? ⟨g7, 2, none⟩ = some (.slice (some ⟨gi, 0, none⟩) f.code.length ci')) (first | exact x2 | exact HX8.out | exact HX9.out _) ((go_at_call 19; refine Calls.mono (int_r _ _ _ _ _ _ _ _ (CodesAt.dr HC7.out)) ?_; rintro e W8 ⟨v, p8, hv, rfl, c8, g8⟩; have HC8 := hQ c8; have HG8 := hQ (grownBy_trans HG7'.out (grownBy_trans (grownBy_drewN' W7 1 _) g8)); have HL8 := hQ (own_draw (w := W7.drew) HL7.out g8 hltW); have HOS8 := hQ (own_draw (w := W7.drew) HOS7.out g8 (by omega)); have HOI8 := hQ (own_draw (w := W7.drew) HOI7.out g8 (by omega)); have HK48 := hQ (Blk.grown (w := W7.drew) HK47.out g8 (some_ne (by omega))); have HK78 := hQ (Blk.grown (w := W7.drew) HK77.out g8 (some_ne (by omega))); have hs8 : W7.heap.size ≤ W8.heap.size := g8.size; have HX8 : Hid (W8.cell? ⟨g7, 2, none⟩ = some (.slice (some ⟨gi, 0, none⟩) f.code.length ci')) := hQ HK78.out.c3.2.2.1; have HX9 : Hid (∀ V, (W8.setCell ⟨gi, k * 5 + 1, none⟩ V).cell? ⟨g7, 2, none⟩ = some (.slice (some ⟨gi, 0, none⟩) f.code.length ci')) := hQ (fun V => (HK78.out.far (p := ⟨gi, k * 5 + 1, none⟩) (by show ¬ g7 = gi; omega) V).c3.2.2.1); have y0 : W8.cell? ⟨gi, k * 5 + 1, none⟩ = (icells (f.code.getD k Ins.z))[1]? := (HOI8.out.cellAt (k * 5 + 1) (by omega)).trans (flat_get icells_len Ins.z f.code k 1 hkl (by omega)); have yf := HOI8.out.frozenAt (k * 5 + 1); simp [icells] at y0; skip; clear c8 g8))
     all_goals go_wp2_with fail
     all_goals go_meet
     have hst := (HOI8.out.stored (k * 5 + 1) (.int .i64 (v))).1
     rw [inVs1 _ _ _ hkl] at hst
     obtain ⟨cd, hcd⟩ : ∃ cd, cd = f.code.set k ((fun x => ⟨x.op, v, x.b, x.c, x.imm⟩ : Ins → Ins) (f.code.getD k Ins.z)) := ⟨_, rfl⟩
     rw [← hcd] at hst
     have hcl : cd.length = f.code.length := by rw [hcd, List.length_set]
     have hII : ImO cd := by
      rw [hcd]
      refine HFR.out.2.set ?_
      first | exact HFR.out.2 (f.code.getD k Ins.z) (getD_mem' hkl) | (show (0 : Int) ≤ (v : Int) ∧ (v : Int) < 18446744073709551616; omega)
     clear hcd
     have hN : Nx (W8.setCell ⟨gi, k * 5 + 1, none⟩ (.int .i64 (v))) W4.heap.size (W8.setCell ⟨gi, k * 5 + 1, none⟩ (.int .i64 (v))).heap.size (some ⟨gi, 0, none⟩) cd := by
      have h := Rx.of_own hst
      unfold Nx
      rw [hcl]
      exact h
     exact ⟨⟨f.params, f.slots, cd⟩, As', some ⟨gi, 0, none⟩, cs', ci', p8, hQ (by show Blk _ g7 _ #[.int .i64 f.params, .slice As' f.slots.length cs', .slice (some ⟨gi, 0, none⟩) cd.length ci']; rw [hcl]; exact HK78.out.far (by show ¬ g7 = gi; omega) _), hQ ((Rx.of_own (own_miss HOS8.out _ (own_ne2 HOS8.out HOI8.out (by decide)) _)).more nL nL), hQ hN, hQ ⟨⟨by show f.slots.length ≤ 1000; omega, by show cd.length ≤ 1000; omega, ⟨HFR.out.1, hII⟩⟩, HCS.out, by show cd.length ≤ ci'; rw [hcl]; exact HCI.out⟩, hQ (HC8.out.set (show cb ≠ gi by omega) (show B ≤ gi by omega) _), hQ (grownBy_set HG8.out (show w.heap.size ≤ gi by omega) _), hQ (own_miss HL8.out _ (fun j e => by have e' : gl = j := (by simpa [Value.ownBlock] using e); show j ≠ gi; omega) _), hQ (HK48.out.far (by show ¬ w.heap.size + 1 = gi; omega) _)⟩
   · have e0 : ((z : Int) == 0) = false := by rw [beq_eq_false_iff_ne]; omega
     have e1 : ((z : Int) == 1) = false := by rw [beq_eq_false_iff_ne]; omega
     have e2 : ((z : Int) == 2) = true := by simp [hz]
     clear hz
     go_wp2_with fail
     have x2 : W7.cell? ⟨g7, 2, none⟩ = some (.slice (some ⟨gi, 0, none⟩) f.code.length ci') := HK77.out.c3.2.2.1
     go_region_held3 (fun W => W.cell? ⟨g7, 2, none⟩ = some (.slice (some ⟨gi, 0, none⟩) f.code.length ci')) (first | exact x2 | exact HX8.out | exact HX9.out _) ((go_at_call 19; refine Calls.mono (int_r _ _ _ _ _ _ _ _ (CodesAt.dr HC7.out)) ?_; rintro e W8 ⟨v, p8, hv, rfl, c8, g8⟩; have HC8 := hQ c8; have HG8 := hQ (grownBy_trans HG7'.out (grownBy_trans (grownBy_drewN' W7 1 _) g8)); have HL8 := hQ (own_draw (w := W7.drew) HL7.out g8 hltW); have HOS8 := hQ (own_draw (w := W7.drew) HOS7.out g8 (by omega)); have HOI8 := hQ (own_draw (w := W7.drew) HOI7.out g8 (by omega)); have HK48 := hQ (Blk.grown (w := W7.drew) HK47.out g8 (some_ne (by omega))); have HK78 := hQ (Blk.grown (w := W7.drew) HK77.out g8 (some_ne (by omega))); have hs8 : W7.heap.size ≤ W8.heap.size := g8.size; have HX8 : Hid (W8.cell? ⟨g7, 2, none⟩ = some (.slice (some ⟨gi, 0, none⟩) f.code.length ci')) := hQ HK78.out.c3.2.2.1; have HX9 : Hid (∀ V, (W8.setCell ⟨gi, k * 5 + 2, none⟩ V).cell? ⟨g7, 2, none⟩ = some (.slice (some ⟨gi, 0, none⟩) f.code.length ci')) := hQ (fun V => (HK78.out.far (p := ⟨gi, k * 5 + 2, none⟩) (by show ¬ g7 = gi; omega) V).c3.2.2.1); have y0 : W8.cell? ⟨gi, k * 5 + 2, none⟩ = (icells (f.code.getD k Ins.z))[2]? := (HOI8.out.cellAt (k * 5 + 2) (by omega)).trans (flat_get icells_len Ins.z f.code k 2 hkl (by omega)); have yf := HOI8.out.frozenAt (k * 5 + 2); simp [icells] at y0; skip; clear c8 g8))
     all_goals go_wp2_with fail
     all_goals go_meet
     have hst := (HOI8.out.stored (k * 5 + 2) (.int .i64 (v))).1
     rw [inVs2 _ _ _ hkl] at hst
     obtain ⟨cd, hcd⟩ : ∃ cd, cd = f.code.set k ((fun x => ⟨x.op, x.a, v, x.c, x.imm⟩ : Ins → Ins) (f.code.getD k Ins.z)) := ⟨_, rfl⟩
     rw [← hcd] at hst
     have hcl : cd.length = f.code.length := by rw [hcd, List.length_set]
     have hII : ImO cd := by
      rw [hcd]
      refine HFR.out.2.set ?_
      first | exact HFR.out.2 (f.code.getD k Ins.z) (getD_mem' hkl) | (show (0 : Int) ≤ (v : Int) ∧ (v : Int) < 18446744073709551616; omega)
     clear hcd
     have hN : Nx (W8.setCell ⟨gi, k * 5 + 2, none⟩ (.int .i64 (v))) W4.heap.size (W8.setCell ⟨gi, k * 5 + 2, none⟩ (.int .i64 (v))).heap.size (some ⟨gi, 0, none⟩) cd := by
      have h := Rx.of_own hst
      unfold Nx
      rw [hcl]
      exact h
     exact ⟨⟨f.params, f.slots, cd⟩, As', some ⟨gi, 0, none⟩, cs', ci', p8, hQ (by show Blk _ g7 _ #[.int .i64 f.params, .slice As' f.slots.length cs', .slice (some ⟨gi, 0, none⟩) cd.length ci']; rw [hcl]; exact HK78.out.far (by show ¬ g7 = gi; omega) _), hQ ((Rx.of_own (own_miss HOS8.out _ (own_ne2 HOS8.out HOI8.out (by decide)) _)).more nL nL), hQ hN, hQ ⟨⟨by show f.slots.length ≤ 1000; omega, by show cd.length ≤ 1000; omega, ⟨HFR.out.1, hII⟩⟩, HCS.out, by show cd.length ≤ ci'; rw [hcl]; exact HCI.out⟩, hQ (HC8.out.set (show cb ≠ gi by omega) (show B ≤ gi by omega) _), hQ (grownBy_set HG8.out (show w.heap.size ≤ gi by omega) _), hQ (own_miss HL8.out _ (fun j e => by have e' : gl = j := (by simpa [Value.ownBlock] using e); show j ≠ gi; omega) _), hQ (HK48.out.far (by show ¬ w.heap.size + 1 = gi; omega) _)⟩
   · have e0 : ((z : Int) == 0) = false := by rw [beq_eq_false_iff_ne]; omega
     have e1 : ((z : Int) == 1) = false := by rw [beq_eq_false_iff_ne]; omega
     have e2 : ((z : Int) == 2) = false := by rw [beq_eq_false_iff_ne]; omega
     have e3 : ((z : Int) == 3) = true := by simp [hz]
     clear hz
     go_wp2_with fail
     have x2 : W7.cell? ⟨g7, 2, none⟩ = some (.slice (some ⟨gi, 0, none⟩) f.code.length ci') := HK77.out.c3.2.2.1
     go_region_held3 (fun W => W.cell? ⟨g7, 2, none⟩ = some (.slice (some ⟨gi, 0, none⟩) f.code.length ci')) (first | exact x2 | exact HX8.out | exact HX9.out _) ((go_at_call 19; refine Calls.mono (int_r _ _ _ _ _ _ _ _ (CodesAt.dr HC7.out)) ?_; rintro e W8 ⟨v, p8, hv, rfl, c8, g8⟩; have HC8 := hQ c8; have HG8 := hQ (grownBy_trans HG7'.out (grownBy_trans (grownBy_drewN' W7 1 _) g8)); have HL8 := hQ (own_draw (w := W7.drew) HL7.out g8 hltW); have HOS8 := hQ (own_draw (w := W7.drew) HOS7.out g8 (by omega)); have HOI8 := hQ (own_draw (w := W7.drew) HOI7.out g8 (by omega)); have HK48 := hQ (Blk.grown (w := W7.drew) HK47.out g8 (some_ne (by omega))); have HK78 := hQ (Blk.grown (w := W7.drew) HK77.out g8 (some_ne (by omega))); have hs8 : W7.heap.size ≤ W8.heap.size := g8.size; have HX8 : Hid (W8.cell? ⟨g7, 2, none⟩ = some (.slice (some ⟨gi, 0, none⟩) f.code.length ci')) := hQ HK78.out.c3.2.2.1; have HX9 : Hid (∀ V, (W8.setCell ⟨gi, k * 5 + 3, none⟩ V).cell? ⟨g7, 2, none⟩ = some (.slice (some ⟨gi, 0, none⟩) f.code.length ci')) := hQ (fun V => (HK78.out.far (p := ⟨gi, k * 5 + 3, none⟩) (by show ¬ g7 = gi; omega) V).c3.2.2.1); have y0 : W8.cell? ⟨gi, k * 5 + 3, none⟩ = (icells (f.code.getD k Ins.z))[3]? := (HOI8.out.cellAt (k * 5 + 3) (by omega)).trans (flat_get icells_len Ins.z f.code k 3 hkl (by omega)); have yf := HOI8.out.frozenAt (k * 5 + 3); simp [icells] at y0; skip; clear c8 g8))
     all_goals go_wp2_with fail
     all_goals go_meet
     have hst := (HOI8.out.stored (k * 5 + 3) (.int .i64 (v))).1
     rw [inVs3 _ _ _ hkl] at hst
     obtain ⟨cd, hcd⟩ : ∃ cd, cd = f.code.set k ((fun x => ⟨x.op, x.a, x.b, v, x.imm⟩ : Ins → Ins) (f.code.getD k Ins.z)) := ⟨_, rfl⟩
     rw [← hcd] at hst
     have hcl : cd.length = f.code.length := by rw [hcd, List.length_set]
     have hII : ImO cd := by
      rw [hcd]
      refine HFR.out.2.set ?_
      first | exact HFR.out.2 (f.code.getD k Ins.z) (getD_mem' hkl) | (show (0 : Int) ≤ (v : Int) ∧ (v : Int) < 18446744073709551616; omega)
     clear hcd
     have hN : Nx (W8.setCell ⟨gi, k * 5 + 3, none⟩ (.int .i64 (v))) W4.heap.size (W8.setCell ⟨gi, k * 5 + 3, none⟩ (.int .i64 (v))).heap.size (some ⟨gi, 0, none⟩) cd := by
      have h := Rx.of_own hst
      unfold Nx
      rw [hcl]
      exact h
     exact ⟨⟨f.params, f.slots, cd⟩, As', some ⟨gi, 0, none⟩, cs', ci', p8, hQ (by show Blk _ g7 _ #[.int .i64 f.params, .slice As' f.slots.length cs', .slice (some ⟨gi, 0, none⟩) cd.length ci']; rw [hcl]; exact HK78.out.far (by show ¬ g7 = gi; omega) _), hQ ((Rx.of_own (own_miss HOS8.out _ (own_ne2 HOS8.out HOI8.out (by decide)) _)).more nL nL), hQ hN, hQ ⟨⟨by show f.slots.length ≤ 1000; omega, by show cd.length ≤ 1000; omega, ⟨HFR.out.1, hII⟩⟩, HCS.out, by show cd.length ≤ ci'; rw [hcl]; exact HCI.out⟩, hQ (HC8.out.set (show cb ≠ gi by omega) (show B ≤ gi by omega) _), hQ (grownBy_set HG8.out (show w.heap.size ≤ gi by omega) _), hQ (own_miss HL8.out _ (fun j e => by have e' : gl = j := (by simpa [Value.ownBlock] using e); show j ≠ gi; omega) _), hQ (HK48.out.far (by show ¬ w.heap.size + 1 = gi; omega) _)⟩
   · have e0 : ((z : Int) == 0) = false := by rw [beq_eq_false_iff_ne]; omega
     have e1 : ((z : Int) == 1) = false := by rw [beq_eq_false_iff_ne]; omega
     have e2 : ((z : Int) == 2) = false := by rw [beq_eq_false_iff_ne]; omega
     have e3 : ((z : Int) == 3) = false := by rw [beq_eq_false_iff_ne]; omega
     have e4 : ((z : Int) == 4) = true := by simp [hz]
     clear hz
     go_wp2_with fail
     have x2 : W7.cell? ⟨g7, 2, none⟩ = some (.slice (some ⟨gi, 0, none⟩) f.code.length ci') := HK77.out.c3.2.2.1
     go_region_held3 (fun W => W.cell? ⟨g7, 2, none⟩ = some (.slice (some ⟨gi, 0, none⟩) f.code.length ci')) (first | exact x2 | exact HX8.out | exact HX9.out _) ((go_at_call 20; refine Calls.mono (word_d _ _ _ _ _ _ _ _ (CodesAt.dr HC7.out)) ?_; rintro e W8 ⟨v, p8, hv, rfl, c8, g8⟩; have HC8 := hQ c8; have HG8 := hQ (grownBy_trans HG7'.out (grownBy_trans (grownBy_drewN' W7 1 _) g8)); have HL8 := hQ (own_draw (w := W7.drew) HL7.out g8 hltW); have HOS8 := hQ (own_draw (w := W7.drew) HOS7.out g8 (by omega)); have HOI8 := hQ (own_draw (w := W7.drew) HOI7.out g8 (by omega)); have HK48 := hQ (Blk.grown (w := W7.drew) HK47.out g8 (some_ne (by omega))); have HK78 := hQ (Blk.grown (w := W7.drew) HK77.out g8 (some_ne (by omega))); have hs8 : W7.heap.size ≤ W8.heap.size := g8.size; have HX8 : Hid (W8.cell? ⟨g7, 2, none⟩ = some (.slice (some ⟨gi, 0, none⟩) f.code.length ci')) := hQ HK78.out.c3.2.2.1; have HX9 : Hid (∀ V, (W8.setCell ⟨gi, k * 5 + 4, none⟩ V).cell? ⟨g7, 2, none⟩ = some (.slice (some ⟨gi, 0, none⟩) f.code.length ci')) := hQ (fun V => (HK78.out.far (p := ⟨gi, k * 5 + 4, none⟩) (by show ¬ g7 = gi; omega) V).c3.2.2.1); have y0 : W8.cell? ⟨gi, k * 5 + 4, none⟩ = (icells (f.code.getD k Ins.z))[4]? := (HOI8.out.cellAt (k * 5 + 4) (by omega)).trans (flat_get icells_len Ins.z f.code k 4 hkl (by omega)); have yf := HOI8.out.frozenAt (k * 5 + 4); simp [icells] at y0; skip; clear c8 g8))
     all_goals go_wp2_with fail
     all_goals go_meet
     have hst := (HOI8.out.stored (k * 5 + 4) (.int .u64 ((v : Int)))).1
     rw [inVs4 _ _ _ hkl] at hst
     obtain ⟨cd, hcd⟩ : ∃ cd, cd = f.code.set k ((fun x => ⟨x.op, x.a, x.b, x.c, (v : Int)⟩ : Ins → Ins) (f.code.getD k Ins.z)) := ⟨_, rfl⟩
     rw [← hcd] at hst
     have hcl : cd.length = f.code.length := by rw [hcd, List.length_set]
     have hII : ImO cd := by
      rw [hcd]
      refine HFR.out.2.set ?_
      first | exact HFR.out.2 (f.code.getD k Ins.z) (getD_mem' hkl) | (show (0 : Int) ≤ (v : Int) ∧ (v : Int) < 18446744073709551616; omega)
     clear hcd
     have hN : Nx (W8.setCell ⟨gi, k * 5 + 4, none⟩ (.int .u64 ((v : Int)))) W4.heap.size (W8.setCell ⟨gi, k * 5 + 4, none⟩ (.int .u64 ((v : Int)))).heap.size (some ⟨gi, 0, none⟩) cd := by
      have h := Rx.of_own hst
      unfold Nx
      rw [hcl]
      exact h
     exact ⟨⟨f.params, f.slots, cd⟩, As', some ⟨gi, 0, none⟩, cs', ci', p8, hQ (by show Blk _ g7 _ #[.int .i64 f.params, .slice As' f.slots.length cs', .slice (some ⟨gi, 0, none⟩) cd.length ci']; rw [hcl]; exact HK78.out.far (by show ¬ g7 = gi; omega) _), hQ ((Rx.of_own (own_miss HOS8.out _ (own_ne2 HOS8.out HOI8.out (by decide)) _)).more nL nL), hQ hN, hQ ⟨⟨by show f.slots.length ≤ 1000; omega, by show cd.length ≤ 1000; omega, ⟨HFR.out.1, hII⟩⟩, HCS.out, by show cd.length ≤ ci'; rw [hcl]; exact HCI.out⟩, hQ (HC8.out.set (show cb ≠ gi by omega) (show B ≤ gi by omega) _), hQ (grownBy_set HG8.out (show w.heap.size ≤ gi by omega) _), hQ (own_miss HL8.out _ (fun j e => by have e' : gl = j := (by simpa [Value.ownBlock] using e); show j ≠ gi; omega) _), hQ (HK48.out.far (by show ¬ w.heap.size + 1 = gi; omega) _)⟩
   · have e0 : ((z : Int) == 0) = false := by rw [beq_eq_false_iff_ne]; omega
     have e1 : ((z : Int) == 1) = false := by rw [beq_eq_false_iff_ne]; omega
     have e2 : ((z : Int) == 2) = false := by rw [beq_eq_false_iff_ne]; omega
     have e3 : ((z : Int) == 3) = false := by rw [beq_eq_false_iff_ne]; omega
     have e4 : ((z : Int) == 4) = false := by rw [beq_eq_false_iff_ne]; omega
     have e5 : ((z : Int) == 5) = true := by simp [hz]
     clear hz
     obtain ⟨x0, x1, x2, y0, y1, y2, xz⟩ := HK77.out.c3
     go_wp2_with fail
     refine (int_r _ _ _ _ _ _ _ _ HC7.out).mono ?_
     rintro e W8 ⟨v, p8, hv, rfl, c8, g8⟩
     have HC8 := hQ c8
     have HG8 := hQ (grownBy_trans HG7'.out g8)
     have HL8 := hQ (own_draw HL7.out g8 hltW)
     have HOS8 := hQ (own_draw HOS7.out g8 (by omega))
     have HOI8 := hQ (own_draw HOI7.out g8 (by omega))
     have HK48 := hQ (HK47.out.grown g8 (some_ne (by omega)))
     have HK78 := hQ (HK77.out.grown g8 (some_ne (by omega)))
     clear c8 g8 x0 x1 x2 y0 y1 y2 xz
     obtain ⟨x0, x1, x2, y0, y1, y2, xz⟩ := HK78.out.c3
     go_wp2
     go_meet
     exact ⟨⟨v, f.slots, f.code⟩, As', some ⟨gi, 0, none⟩, cs', ci', p8, hQ (Blk.set_ HK78.out 0 _), hQ ((Rx.of_own (own_far HOS8.out _ h7z _)).more nL nL), hQ ((Rx.of_own (own_far HOI8.out _ h7z _)).more nL nL), hQ ⟨⟨by show f.slots.length ≤ 1000; omega, by show f.code.length ≤ 1000; omega, ⟨HFR.out.1, HFR.out.2⟩⟩, HCS.out, HCI.out⟩, hQ (HC8.out.set (show cb ≠ g7 by omega) (show B ≤ g7 by omega) _), hQ (grownBy_set HG8.out hg7w _), hQ (own_miss HL8.out _ (fun j e => by have e' : gl = j := (by simpa [Value.ownBlock] using e); show j ≠ g7; omega) _), hQ (HK48.out.far (by show ¬ w.heap.size + 1 = g7; omega) _)⟩
   · have e0 : ((z : Int) == 0) = false := by rw [beq_eq_false_iff_ne]; omega
     have e1 : ((z : Int) == 1) = false := by rw [beq_eq_false_iff_ne]; omega
     have e2 : ((z : Int) == 2) = false := by rw [beq_eq_false_iff_ne]; omega
     have e3 : ((z : Int) == 3) = false := by rw [beq_eq_false_iff_ne]; omega
     have e4 : ((z : Int) == 4) = false := by rw [beq_eq_false_iff_ne]; omega
     have e5 : ((z : Int) == 5) = false := by rw [beq_eq_false_iff_ne]; omega
     have e6 : ((z : Int) == 6) = true := by simp [hz]
     clear hz
     have x1 : W7.cell? ⟨g7, 1, none⟩ = some (.slice As' f.slots.length cs') := HK77.out.c3.2.1
     have xz : g7 < W7.heap.size := HK77.out.lt
     go_wp2_with fail
     go_region_law (first
      | ((have Q8 := HC8); go_simp; refine (int_r B cb A n c l _ _ HC8.out).mono ?_; rintro e W9 ⟨b, p9, hb, rfl, c9, g9⟩; have HG9 : Hid (W7.grownBy W9 (some cb)) := hQ (grownBy_trans HG8x.out g9); have hs9 : W7.heap.size ≤ W9.heap.size := HG9.out.size; have HC9 := hQ c9; have HBR9 := hQ hb; have x1c : W9.cell? ⟨g7, 1, none⟩ = some (.slice As' f.slots.length cs') := (HK77.out.grown HG9.out (some_ne (by omega))).c3.2.1; have x1f := (HK77.out.grown HG9.out (some_ne (by omega))).frozen 1; have xz9 : g7 < W9.heap.size := (HK77.out.grown HG9.out (some_ne (by omega))).lt; have HOS9 := hQ (own_draw HOS7.out HG9.out (by omega)); clear c9 g9 hb)
      | ((fail_if_success have Q8 := HC8); go_simp; refine (int_r B cb A n c l _ _ (CodesAt.dr HC7.out)).mono ?_; rintro e W8 ⟨a, p8, ha, rfl, c8, g8⟩; have HG8x : Hid (W7.grownBy W8 (some cb)) := hQ (grownBy_trans (grownBy_drewN' W7 1 _) g8); have HC8 := hQ c8; have HAR8 := hQ ha; have x1b : W8.cell? ⟨g7, 1, none⟩ = some (.slice As' f.slots.length cs') := (HK77.out.grown HG8x.out (some_ne (by omega))).c3.2.1; clear c8 g8 ha)
      | (refine step_append_any _ rfl (.tmp 94) (.tmp 100) 52 rfl W4.heap.size 61 i2 _ 2 16 Tryd.underlying52 hi2 hw0 hw1 hw2 rfl (by omega) (.slice As' f.slots.length cs') f.slots.length (slV f.slots) (by first | (simp [Act.eval]; done) | (simp [Act.eval, Act.put]; done)) (HOS9.out.alloc _) (W9.heap.size + 1) (some ⟨W9.heap.size, 0, none⟩) 1 1 _ (by first | (simp [Act.eval]; done) | (simp [Act.eval, Act.put]; done)) (reads_new rfl) (by simp [Value.oneCell']) (by unfold maxLen; omega) (by omega) (by simp; omega) ?_; intro v10 W10 own10 g10 at10; clear at10; have HO10 := hQ own10; have HG10 := hQ g10; obtain ⟨A10, c10, rfl, -⟩ := own_form own10; have hl10 : Hid (∀ j, (Value.slice As' f.slots.length cs').ownBlock = some j → W4.heap.size ≤ j) := hQ (fun j e => (HOS9.out.lt j e).1); have HK710 := hQ (((HK77.out.grown HG9.out (some_ne (by omega))).alloc _).grown HG10.out (fun e => by have := hl10.out _ e.symm; omega)); have x1d := HK710.out.c3.2.1; have x1e := HK710.out.frozen 1; have xz10 := HK710.out.lt; clear own10 g10))
     all_goals go_wp2_with fail
     all_goals go_meet
     all_goals
      have HE6 : ∀ (W : World) (x y : Int) (T : Obj) (o : Value), I64 x → I64 y → (W9.alloc T).grownBy W10 (Value.slice As' f.slots.length cs').ownBlock → W10.ownsRow W4.heap.size 61 2 (.slice A10 (f.slots.length + 1) c10) (f.slots.length + 1) (slV f.slots ++ [.int .i64 x, .int .i64 y]) → ∃ (g : Fn) (As'' Ai'' : Option Addr) (cs'' ci'' p8 : Nat), Hid (Blk (W10.setCell ⟨g7, 1, none⟩ (.slice A10 (f.slots.length + 1) c10)) g7 54 #[.int .i64 g.params, .slice As'' g.slots.length cs'', .slice Ai'' g.code.length ci'']) ∧ Hid (Sx (W10.setCell ⟨g7, 1, none⟩ (.slice A10 (f.slots.length + 1) c10)) W4.heap.size (W10.setCell ⟨g7, 1, none⟩ (.slice A10 (f.slots.length + 1) c10)).heap.size As'' g.slots) ∧ Hid (Nx (W10.setCell ⟨g7, 1, none⟩ (.slice A10 (f.slots.length + 1) c10)) W4.heap.size (W10.setCell ⟨g7, 1, none⟩ (.slice A10 (f.slots.length + 1) c10)).heap.size Ai'' g.code) ∧ Hid ((g.slots.length ≤ 1000 ∧ g.code.length ≤ 1000 ∧ FnI g) ∧ g.slots.length ≤ cs'' ∧ g.code.length ≤ ci'') ∧ Hid (CodesAt (W10.setCell ⟨g7, 1, none⟩ (.slice A10 (f.slots.length + 1) c10)) B cb A n c l p8) ∧ Hid (w.grownBy (W10.setCell ⟨g7, 1, none⟩ (.slice A10 (f.slots.length + 1) c10)) (some cb)) ∧ Hid ((W10.setCell ⟨g7, 1, none⟩ (.slice A10 (f.slots.length + 1) c10)).ownsRow W1.heap.size 54 3 (.slice (some ⟨gl, 0, none⟩) p.length cl) p.length vs) ∧ Hid (Blk (W10.setCell ⟨g7, 1, none⟩ (.slice A10 (f.slots.length + 1) c10)) (w.heap.size + 1) 26 #[.slice none 0 0]) := by
       intro W x y T o hx hy hg ho
       have hne : ∀ j, (Value.slice As' f.slots.length cs').ownBlock = some j → W4.heap.size ≤ j := hl10.out
       have o2 := own_draw HOI7.out HG9.out (by omega)
       have o2' := (o2.alloc T).kept hg (own_two' o2 HOS9.out (by decide))
       have o3 := own_draw HL7.out HG9.out hltW
       have o3' := (o3.alloc T).kept hg (own_two' o3 HOS9.out (by decide))
       have o4 := ((HK47.out.grown HG9.out (some_ne (by omega))).alloc T).grown hg (fun e => by have := hne _ e.symm; omega)
       have hl : (f.slots ++ [(x, y)]).length = f.slots.length + 1 := by simp
       have hsv : slV (f.slots ++ [(x, y)]) = slV f.slots ++ [.int .i64 x, .int .i64 y] := by rw [slV_app]; rfl
       refine ⟨⟨f.params, f.slots ++ [(x, y)], f.code⟩, A10, some ⟨gi, 0, none⟩, c10, ci', p9, hQ ?_, hQ ?_, hQ ((Rx.of_own (own_far o2' _ h7z _)).more nL nL), hQ ⟨⟨?_, by show f.code.length ≤ 1000; omega, ?_⟩, ?_, HCI.out⟩, hQ ?_, hQ (grownBy_set (grownBy_step (grownBy_al (grownBy_trans HG7'.out HG9.out) T) hg (fun j e => .inl (by have := hne j e; omega))) hg7w _), hQ (own_miss o3' _ (fun j e => by have e' : gl = j := (by simpa [Value.ownBlock] using e); show j ≠ g7; omega) _), hQ (o4.far (by show ¬ w.heap.size + 1 = g7; omega) _)⟩
       · show Blk _ g7 _ #[.int .i64 f.params, .slice A10 (f.slots ++ [(x, y)]).length c10, .slice (some ⟨gi, 0, none⟩) f.code.length ci']
         rw [hl]
         exact Blk.set_ HK710.out 1 _
       · have h := Rx.of_own (own_far ho ⟨g7, 1, none⟩ h7z (.slice A10 (f.slots.length + 1) c10))
         unfold Sx
         show Rx _ _ _ 2 _ (f.slots ++ [(x, y)]).length (slV (f.slots ++ [(x, y)]))
         rw [hl, hsv]
         exact h
       · show (f.slots ++ [(x, y)]).length ≤ 1000; omega
       · refine ⟨?_, HFR.out.2⟩
         intro s hs
         have hs' : s ∈ f.slots ++ [(x, y)] := hs
         rcases List.mem_append.1 hs' with h1 | h1
         · exact HFR.out.1 s h1
         · simp at h1; subst h1; exact ⟨hx, hy⟩
       · show (f.slots ++ [(x, y)]).length ≤ c10; rw [hl]; exact (own_cap ho).2
       · exact ((HC9.out.alloc T).grown' hg (fun e => by have := hne _ e; omega) (fun j e => by have := hne _ e; omega)).set (show cb ≠ g7 by omega) (show B ≤ g7 by omega) _
      first
      | exact HE6 W10 a b _ (.bool true) HAR8.out HBR9.out HG10.out HO10.out
      | exact HE6 W10 b a _ (.bool true) HBR9.out HAR8.out HG10.out HO10.out
   · have e0 : ((z : Int) == 0) = false := by rw [beq_eq_false_iff_ne]; omega
     have e1 : ((z : Int) == 1) = false := by rw [beq_eq_false_iff_ne]; omega
     have e2 : ((z : Int) == 2) = false := by rw [beq_eq_false_iff_ne]; omega
     have e3 : ((z : Int) == 3) = false := by rw [beq_eq_false_iff_ne]; omega
     have e4 : ((z : Int) == 4) = false := by rw [beq_eq_false_iff_ne]; omega
     have e5 : ((z : Int) == 5) = false := by rw [beq_eq_false_iff_ne]; omega
     have e6 : ((z : Int) == 6) = false := by rw [beq_eq_false_iff_ne]; omega
     have e7 : ((z : Int) == 7) = true := by simp [hz]
     clear hz
     obtain ⟨x0, x1, x2, y0, y1, y2, xz⟩ := HK77.out.c3
     have hkc : (k : Int) ≤ (ci' : Int) := by have := HCI.out; omega
     have hkc' : k ≤ ci' := by omega
     go_wp2
     go_meet
     have hlk : (f.code.take k).length = k := by rw [List.length_take]; omega
     have hN : Nx (W7.setCell ⟨g7, 2, none⟩ (.slice (some ⟨gi, 0, none⟩) k ci')) W4.heap.size (W7.setCell ⟨g7, 2, none⟩ (.slice (some ⟨gi, 0, none⟩) k ci')).heap.size (some ⟨gi, 0, none⟩) (f.code.take k) := Nx.take ((Rx.of_own (own_far HOI7.out _ h7z _)).more nL nL) k (by omega)
     exact ⟨⟨f.params, f.slots, f.code.take k⟩, As', some ⟨gi, 0, none⟩, cs', ci', p7, hQ (by show Blk _ g7 _ #[.int .i64 f.params, .slice As' f.slots.length cs', .slice (some ⟨gi, 0, none⟩) (f.code.take k).length ci']; rw [hlk]; exact Blk.set_ HK77.out 2 _), hQ ((Rx.of_own (own_far HOS7.out _ h7z _)).more nL nL), hQ hN, hQ ⟨⟨by show f.slots.length ≤ 1000; omega, by show (f.code.take k).length ≤ 1000; omega, ⟨HFR.out.1, HFR.out.2.take⟩⟩, HCS.out, by show (f.code.take k).length ≤ ci'; omega⟩, hQ (HC7.out.set (show cb ≠ g7 by omega) (show B ≤ g7 by omega) _), hQ (grownBy_set HG7'.out hg7w _), hQ (own_miss HL7.out _ (fun j e => by have e' : gl = j := (by simpa [Value.ownBlock] using e); show j ≠ g7; omega) _), hQ (HK47.out.far (by show ¬ w.heap.size + 1 = g7; omega) _)⟩
   · have e0 : ((z : Int) == 0) = false := by rw [beq_eq_false_iff_ne]; omega
     have e1 : ((z : Int) == 1) = false := by rw [beq_eq_false_iff_ne]; omega
     have e2 : ((z : Int) == 2) = false := by rw [beq_eq_false_iff_ne]; omega
     have e3 : ((z : Int) == 3) = false := by rw [beq_eq_false_iff_ne]; omega
     have e4 : ((z : Int) == 4) = false := by rw [beq_eq_false_iff_ne]; omega
     have e5 : ((z : Int) == 5) = false := by rw [beq_eq_false_iff_ne]; omega
     have e6 : ((z : Int) == 6) = false := by rw [beq_eq_false_iff_ne]; omega
     have e7 : ((z : Int) == 7) = false := by rw [beq_eq_false_iff_ne]; omega
     have e8 : ((z : Int) == 8) = true := by simp [hz]
     clear hz
     obtain ⟨x0, x1, x2, y0, y1, y2, xz⟩ := HK77.out.c3
     by_cases hns : f.slots.length = 0
     · have hle : ¬ (0 < f.slots.length) := by omega
       go_wp2
       go_meet
       exact ⟨f, As', some ⟨gi, 0, none⟩, cs', ci', p7, HK77, hQ ((Rx.of_own HOS7.out)), hQ ((Rx.of_own HOI7.out)), hQ ⟨⟨by omega, by omega, HFR.out⟩, HCS.out, HCI.out⟩, HC7, HG7', HL7, HK47⟩
     · have hpos : (0 : Int) < (f.slots.length : Int) := by omega
       have hpos' : 0 < f.slots.length := by omega
       obtain ⟨gs, gsc, hform, hgs1, hgs2⟩ := HOS7.out.form hpos'
       obtain ⟨rfl, rfl⟩ : As' = some ⟨gs, 0, none⟩ ∧ cs' = gsc := by injection hform; exact ⟨by assumption, by assumption⟩
       clear hform
       have HALL : Hid (∀ W, W7.grownBy W (some cb) → W.ownsRow W4.heap.size 61 2 (.slice (some ⟨gs, 0, none⟩) f.slots.length cs') f.slots.length (slV f.slots) ∧ W.ownsRow W4.heap.size 50 5 (.slice (some ⟨gi, 0, none⟩) f.code.length ci') f.code.length (inV f.code) ∧ W.ownsRow W1.heap.size 54 3 (.slice (some ⟨gl, 0, none⟩) p.length cl) p.length vs ∧ Blk W (w.heap.size + 1) 26 #[.slice none 0 0] ∧ Blk W g7 54 #[.int .i64 f.params, .slice (some ⟨gs, 0, none⟩) f.slots.length cs', .slice (some ⟨gi, 0, none⟩) f.code.length ci']) := hQ (fun W hg => ⟨own_draw HOS7.out hg (by omega), own_draw HOI7.out hg (by omega), own_draw HL7.out hg hltW, HK47.out.grown hg (some_ne (by omega)), HK77.out.grown hg (some_ne (by omega))⟩)
       have HST : Hid (∀ W, W7.grownBy W (some cb) → ∀ (v : Nat) V1 V2, ((W.setCell ⟨gs, v * 2, none⟩ V1).setCell ⟨gs, v * 2 + 1, none⟩ V2).cell? ⟨g7, 1, none⟩ = some (.slice (some ⟨gs, 0, none⟩) f.slots.length cs')) := hQ (fun W hg v V1 V2 => (((HALL.out W hg).2.2.2.2.far (p := ⟨gs, v * 2, none⟩) (by show ¬ g7 = gs; omega) V1).far (p := ⟨gs, v * 2 + 1, none⟩) (by show ¬ g7 = gs; omega) V2).c3.2.1)
       have HCE : Hid (∀ W, W7.grownBy W (some cb) → ∀ (v : Nat), v < f.slots.length → W.cell? ⟨gs, v * 2, none⟩ = some (.int .i64 (f.slots.getD v (0, 0)).1) ∧ W.cell? ⟨gs, v * 2 + 1, none⟩ = some (.int .i64 (f.slots.getD v (0, 0)).2) ∧ W.frozen? ⟨gs, v * 2, none⟩ = false ∧ W.frozen? ⟨gs, v * 2 + 1, none⟩ = false) := hQ (fun W hg v hv => ⟨((HALL.out W hg).1.cellAt (v * 2) (by omega)).trans (by simpa [scells, slV] using flat_get scells_len (0, 0) f.slots v 0 hv (by omega)), ((HALL.out W hg).1.cellAt (v * 2 + 1) (by omega)).trans (by simpa [scells, slV] using flat_get scells_len (0, 0) f.slots v 1 hv (by omega)), (HALL.out W hg).1.frozenAt _, (HALL.out W hg).1.frozenAt _⟩)
       clear x0 x2 y0 y1 y2 xz
       go_wp2_with fail
       go_region_held3 (fun W => W.cell? ⟨g7, 1, none⟩ = some (.slice (some ⟨gs, 0, none⟩) f.slots.length cs')) (first | exact x1 | exact (HALL.out _ HGX.out).2.2.2.2.c3.2.1 | exact (HALL.out _ HGY.out).2.2.2.2.c3.2.1 | exact HST.out _ HGX.out _ _ _ | exact HST.out _ HGY.out _ _ _)
        (first
         | (go_at_call 7; refine Calls.mono (next_d B cb A n c l _ (f.slots.length : Int) _ (by first | exact HCY.out | exact CodesAt.dr HC7.out) (by omega) (by omega)) ?_; rintro e W8 ⟨v, p8, hv, rfl, c8, g8⟩; have HGX : Hid (W7.grownBy W8 (some cb)) := hQ (by first | exact grownBy_trans HGY.out g8 | exact grownBy_trans (grownBy_drewN' W7 1 _) g8); have HCX := hQ c8; have hvl : v < f.slots.length := (by omega); have hvi : (v : Int) < (f.slots.length : Int) := (by omega); have hv00 : (0 : Int) ≤ (v : Int) := (by omega); obtain ⟨t0, t1, t2, t3⟩ := HCE.out _ HGX.out v hvl; clear c8 g8 hv)
         | (go_at_call 21; refine Calls.mono (slot_d B cb A n c l _ _ (by first | exact HCX.out | exact CodesAt.dr HC7.out)) ?_; rintro e W9 ⟨sa, sb, p9, hso, rfl, c9, g9⟩; have HGY : Hid (W7.grownBy W9 (some cb)) := hQ (by first | exact grownBy_trans HGX.out g9 | exact grownBy_trans (grownBy_drewN' W7 1 _) g9); have HCY := hQ c9; have HSO := hQ hso; (try obtain ⟨s0, s1, s2, s3⟩ := HCE.out _ HGY.out v hvl); clear c9 g9 hso))
       all_goals go_wp2_with fail
       all_goals go_meet
       all_goals
        have HE8 : ∀ W p8, W7.grownBy W (some cb) → CodesAt W B cb A n c l p8 → ∃ (g : Fn) (As'' Ai'' : Option Addr) (cs'' ci'' p8 : Nat), Hid (Blk ((W.setCell ⟨gs, v * 2, none⟩ (.int .i64 sa)).setCell ⟨gs, v * 2 + 1, none⟩ (.int .i64 sb)) g7 54 #[.int .i64 g.params, .slice As'' g.slots.length cs'', .slice Ai'' g.code.length ci'']) ∧ Hid (Sx ((W.setCell ⟨gs, v * 2, none⟩ (.int .i64 sa)).setCell ⟨gs, v * 2 + 1, none⟩ (.int .i64 sb)) W4.heap.size ((W.setCell ⟨gs, v * 2, none⟩ (.int .i64 sa)).setCell ⟨gs, v * 2 + 1, none⟩ (.int .i64 sb)).heap.size As'' g.slots) ∧ Hid (Nx ((W.setCell ⟨gs, v * 2, none⟩ (.int .i64 sa)).setCell ⟨gs, v * 2 + 1, none⟩ (.int .i64 sb)) W4.heap.size ((W.setCell ⟨gs, v * 2, none⟩ (.int .i64 sa)).setCell ⟨gs, v * 2 + 1, none⟩ (.int .i64 sb)).heap.size Ai'' g.code) ∧ Hid ((g.slots.length ≤ 1000 ∧ g.code.length ≤ 1000 ∧ FnI g) ∧ g.slots.length ≤ cs'' ∧ g.code.length ≤ ci'') ∧ Hid (CodesAt ((W.setCell ⟨gs, v * 2, none⟩ (.int .i64 sa)).setCell ⟨gs, v * 2 + 1, none⟩ (.int .i64 sb)) B cb A n c l p8) ∧ Hid (w.grownBy ((W.setCell ⟨gs, v * 2, none⟩ (.int .i64 sa)).setCell ⟨gs, v * 2 + 1, none⟩ (.int .i64 sb)) (some cb)) ∧ Hid (((W.setCell ⟨gs, v * 2, none⟩ (.int .i64 sa)).setCell ⟨gs, v * 2 + 1, none⟩ (.int .i64 sb)).ownsRow W1.heap.size 54 3 (.slice (some ⟨gl, 0, none⟩) p.length cl) p.length vs) ∧ Hid (Blk ((W.setCell ⟨gs, v * 2, none⟩ (.int .i64 sa)).setCell ⟨gs, v * 2 + 1, none⟩ (.int .i64 sb)) (w.heap.size + 1) 26 #[.slice none 0 0]) := by
         intro W pX hg hc
         obtain ⟨o1, o2, o3, o4, o5⟩ := HALL.out W hg
         have hst := ((o1.stored (v * 2) (.int .i64 sa)).1.stored (v * 2 + 1) (.int .i64 sb)).1
         rw [slV_set _ _ _ _ hvl] at hst
         have hl : (f.slots.set v (sa, sb)).length = f.slots.length := List.length_set
         have ho2 := own_miss (own_miss o2 ⟨gs, v * 2, none⟩ (own_ne2 o2 o1 (by decide)) (.int .i64 sa)) ⟨gs, v * 2 + 1, none⟩ (own_ne2 o2 o1 (by decide)) (.int .i64 sb)
         have ho3 := own_miss (own_miss o3 ⟨gs, v * 2, none⟩ (own_ne2 o3 o1 (by decide)) (.int .i64 sa)) ⟨gs, v * 2 + 1, none⟩ (own_ne2 o3 o1 (by decide)) (.int .i64 sb)
         refine ⟨⟨f.params, f.slots.set v (sa, sb), f.code⟩, some ⟨gs, 0, none⟩, some ⟨gi, 0, none⟩, cs', ci', pX, hQ ?_, hQ ?_, hQ (Rx.of_own ho2), hQ ⟨⟨?_, by show f.code.length ≤ 1000; omega, ?_⟩, ?_, HCI.out⟩, hQ ((hc.set (show cb ≠ gs by omega) (show B ≤ gs by omega) _).set (show cb ≠ gs by omega) (show B ≤ gs by omega) _), hQ (grownBy_set (grownBy_set (grownBy_trans HG7'.out hg) (show w.heap.size ≤ gs by omega) _) (show w.heap.size ≤ gs by omega) _), hQ ho3, hQ ((o4.far (by show ¬ w.heap.size + 1 = gs; omega) _).far (by show ¬ w.heap.size + 1 = gs; omega) _)⟩
         · show Blk _ g7 _ #[.int .i64 f.params, .slice (some ⟨gs, 0, none⟩) (f.slots.set v (sa, sb)).length cs', .slice (some ⟨gi, 0, none⟩) f.code.length ci']
           rw [hl]
           exact (o5.far (by show ¬ g7 = gs; omega) _).far (by show ¬ g7 = gs; omega) _
         · have h := Rx.of_own hst
           unfold Sx
           show Rx _ _ _ 2 _ (f.slots.set v (sa, sb)).length _
           rw [hl]
           exact h
         · show (f.slots.set v (sa, sb)).length ≤ 1000; omega
         · refine ⟨?_, HFR.out.2⟩
           intro s hs
           have hs' : s ∈ f.slots.set v (sa, sb) := hs
           rcases List.mem_or_eq_of_mem_set hs' with h1 | h1
           · exact HFR.out.1 s h1
           · subst h1
             have := HSO.out
             unfold SlotOk at this
             unfold I64
             omega
         · show (f.slots.set v (sa, sb)).length ≤ cs'; rw [hl]; exact HCS.out
        first
        | exact HE8 W9 p9 HGY.out HCY.out
        | exact HE8 W8 p8 HGX.out HCX.out
  case rest =>
   obtain ⟨g, As2, Ai2, cs2, ci2, p8, HK8, HSg, HNg, HLG, HC8, HG8, HL8, HK48⟩ := hcut
   obtain ⟨W9, hW9⟩ : ∃ W9, W9 = wc := ⟨_, rfl⟩
   subst hW9
   have c0 := HL8.out.cellAt (i * 3) (by omega)
   have c1 := HL8.out.cellAt (i * 3 + 1) (by omega)
   have c2 := HL8.out.cellAt (i * 3 + 2) (by omega)
   have z0 := HL8.out.frozenAt (i * 3)
   have z1 := HL8.out.frozenAt (i * 3 + 1)
   have z2 := HL8.out.frozenAt (i * 3 + 2)
   obtain ⟨As3, cs3, Ai3, ci3, v0, v1, v2, -⟩ := HVX.out i hil
   rw [v0] at c0
   rw [v1] at c1
   rw [v2] at c2
   obtain ⟨x0, x1, x2, y0, y1, y2, xz⟩ := HK8.out.c3
   obtain ⟨q0, q1, q2⟩ := blk_one HK48.out
   have hgl9 : gl < W9.heap.size := (HL8.out.lt gl rfl).2
   have hglw : w.heap.size ≤ gl := by omega
   have hgl4 : gl < W4.heap.size := by omega
   have ngl : ¬ (w.heap.size + 1 = gl) := by omega
   have ngl' : ¬ (gl = w.heap.size + 1) := by omega
   clear v0 v1 v2 HOS7 HOI7 HK47 HK77 HC7 HG7' HL7
   generalize (p.getD i Fn.z).slots.length = sl3 at c1
   generalize (p.getD i Fn.z).code.length = cl3 at c2
   generalize (p.getD i Fn.z).params = pr3 at c0
   go_wp2
   refine bodyPost_ret (v := .agg #[.slice (some ⟨gl, 0, none⟩) p.length cl]) (by simp [results, Tryd.results6, go_sem, q0]) rfl ?_
   have hL := ((((HL8.out.stored (i * 3) (.int .i64 g.params)).1.stored (i * 3 + 1) (.slice As2 g.slots.length cs2)).1.stored (i * 3 + 2) (.slice Ai2 g.code.length ci2)).1)
   have hLf := own_miss hL ⟨w.heap.size + 1, 0, none⟩ (fun j e => by have e' : gl = j := (by simpa [Value.ownBlock] using e); show j ≠ w.heap.size + 1; omega) (.slice (some ⟨gl, 0, none⟩) p.length cl)
   have hGf : w.grownBy ((((W9.setCell ⟨gl, i * 3, none⟩ (.int .i64 g.params)).setCell ⟨gl, i * 3 + 1, none⟩ (.slice As2 g.slots.length cs2)).setCell ⟨gl, i * 3 + 2, none⟩ (.slice Ai2 g.code.length ci2)).setCell ⟨w.heap.size + 1, 0, none⟩ (.slice (some ⟨gl, 0, none⟩) p.length cl)) (some cb) := grownBy_set (grownBy_set (grownBy_set (grownBy_set HG8.out hglw _) hglw _) hglw _) (Nat.le_succ _) _
   have hKf : Kp W4.heap.size W9.heap.size W9 ((((W9.setCell ⟨gl, i * 3, none⟩ (.int .i64 g.params)).setCell ⟨gl, i * 3 + 1, none⟩ (.slice As2 g.slots.length cs2)).setCell ⟨gl, i * 3 + 2, none⟩ (.slice Ai2 g.code.length ci2)).setCell ⟨w.heap.size + 1, 0, none⟩ (.slice (some ⟨gl, 0, none⟩) p.length cl)) := ((((Kp.refl _ _ _).set (.inl hgl4) _).set (.inl hgl4) _).set (.inl hgl4) _).set (.inl (by show w.heap.size + 1 < W4.heap.size; omega)) _
   have hVw := (HVX.out.keep HKS.out).keep (Kp.of_grown hGf hh (.inl hlo))
   have hqn : ∀ j, j < p.length → j ≠ i → (p.set i g).getD j Fn.z = p.getD j Fn.z := fun j _ hj => by rw [List.getD_eq_getElem?_getD, List.getElem?_set_ne (Ne.symm hj), ← List.getD_eq_getElem?_getD]
   have hqi : (p.set i g).getD i Fn.z = g := by simp [List.getD_eq_getElem?_getD, hil]
   obtain ⟨⟨l1, l2, l3⟩, l4, l5⟩ := HLG.out
   refine ⟨p.set i g, some ⟨gl, 0, none⟩, cl, p8, by rw [List.length_set], by rw [List.length_set], fun j hj => ?_, by rw [List.length_set]; exact (own_cap HL8.out).2, ⟨_, by rw [List.length_set]; exact (Rx.of_own hLf).more (by omega) nL, ?_⟩, ?_, hGf⟩
   · rw [List.length_set] at hj
     by_cases e : j = i
     · subst e; rw [hqi]; exact ⟨l1, l2, l3⟩
     · rw [hqn j hj e]; exact HPS.out j hj
   · exact Vx.setFn (hVw.more nL (by simp; omega)) HVL.out hil ((HSg.out.keep hKf).more (by omega) (by simp)) ((HNg.out.keep hKf).more (by omega) (by simp)) ⟨by unfold maxLen; omega, l4⟩ ⟨by unfold maxLen; omega, l5⟩
   · exact (((HC8.out.set (show cb ≠ gl by omega) (show B ≤ gl by omega) _).set (show cb ≠ gl by omega) (show B ≤ gl by omega) _).set (show cb ≠ gl by omega) (show B ≤ gl by omega) _).set (show cb ≠ w.heap.size + 1 by omega) (show B ≤ w.heap.size + 1 by omega) _
end Go.Proofs.YtdijeijbcoeopaaDoor.pm
