/- The draw function: a function of a program. -/
import Derived.Test.YtcnndoefgjbmiaaGreatGPd
set_option linter.unusedVariables false
set_option maxRecDepth 10000
set_option maxHeartbeats 8000000
namespace Go.Proofs.YtcnndoefgjbmiaaGreat.pm
open Go.RowKit
attribute [local go_sem ↓] Go.wp_at_zero Go.wp_at_succ
theorem flat_set {α : Type} {f : α → List Value} {d : Nat} (hf : ∀ x, (f x).length = d) {j : Nat} {v : Value} {g : α → α} (hj : j < d) (hg : ∀ x, (f x).set j v = f (g x)) (z : α) : ∀ (l : List α) (k : Nat), k < l.length → (l.flatMap f).set (k * d + j) v = (l.set k (g (l.getD k z))).flatMap f
 | [], k, h => by simp at h
 | x :: r, 0, _ => by
  rw [List.flatMap_cons, show 0 * d + j = j by omega, List.set_append_left _ _ (by rw [hf]; exact hj), hg]
  simp
 | x :: r, k + 1, h => by
  rw [List.flatMap_cons, List.set_append_right _ _ (by rw [hf, Nat.succ_mul]; omega), hf, show (k + 1) * d + j - d = k * d + j by rw [Nat.succ_mul]; omega, flat_set hf hj hg z r k (by simpa using h)]
  simp
def setA (tg : Int) (x : Ins) : Ins := ⟨x.op, tg, x.b, x.c, x.imm⟩
def setB (tg : Int) (x : Ins) : Ins := ⟨x.op, x.a, tg, x.c, x.imm⟩
theorem inV_setA (l : List Ins) (k : Nat) (tg : Int) (h : k < l.length) : (inV l).set (k * 5 + 1) (.int .i64 tg) = inV (l.set k (setA tg (l.getD k Ins.z))) := flat_set (g := setA tg) icells_len (by omega) (fun x => rfl) Ins.z l k h
theorem inV_setB (l : List Ins) (k : Nat) (tg : Int) (h : k < l.length) : (inV l).set (k * 5 + 2) (.int .i64 tg) = inV (l.set k (setB tg (l.getD k Ins.z))) := flat_set (g := setB tg) icells_len (by omega) (fun x => rfl) Ins.z l k h
theorem vi0_op {nf : Nat} {prm : Int} {sl : List (Int × Int)} {x : Ins} (h : Vi0 nf prm sl x) : x.op ≠ 20 ∧ x.op ≠ 21 ∧ (0 ≤ x.op ∧ x.op < 25) := by
 cases h <;> simp <;> omega
theorem viP_fix {nf : Nat} {prm : Int} {sl : List (Int × Int)} {x : Ins} {nc : Nat} {tg : Int} (h : ViP nf prm sl x) (t0 : 0 ≤ tg) (t1 : tg < nc) :
 (x.op = 20 → x.a < 0 → Vi nf prm sl nc (setA tg x)) ∧ (x.op = 20 → x.a < 0) ∧ (x.op = 21 → x.b < 0 → Vi nf prm sl nc (setB tg x)) ∧ (x.op = 21 → x.b < 0) ∧ (x.op ≠ 20 → x.op ≠ 21 → Vi nf prm sl nc x) := by
 rcases h with ⟨_, h⟩ | _ | ⟨a, h0, h1⟩
 · have := vi0_op h
   exact ⟨fun e => absurd e this.1, fun e => absurd e this.1, fun e => absurd e this.2.1, fun e => absurd e this.2.1, fun _ _ => .plain _ h⟩
 · exact ⟨fun _ _ => .jump _ t0 t1, fun _ => (by show (-1 : Int) < 0; omega), fun e => (by cases e), fun e => (by cases e), fun e => absurd rfl e⟩
 · exact ⟨fun e => (by cases e), fun e => (by cases e), fun _ _ => .branch _ _ h0 h1 t0 t1, fun _ => (by show (-1 : Int) < 0; omega), fun _ e => absurd rfl e⟩
theorem app_code {W1 W w' : World} {cb B n c p : Nat} {A : Option Addr} {l : List Nat} {o v : Value} {pre : List Ins} {x : Ins} (own : W.ownsRow W1.heap.size 50 5 o pre.length (inV pre)) (hc : CodesAt W B cb A n c l p) (hg : W1.grownBy W (some cb)) (hlt : cb < W1.heap.size) (hB : B ≤ cb)
 (own' : w'.ownsRow W1.heap.size 50 5 v (pre.length + 1) (inV pre ++ icells x)) (hg' : (W.alloc (.cells #[Value.int .i64 x.op, Value.int .i64 x.a, Value.int .i64 x.b, Value.int .i64 x.c, Value.int .u64 x.imm] 50)).grownBy w' o.ownBlock) :
 w'.ownsRow W1.heap.size 50 5 v (pre ++ [x]).length (inV (pre ++ [x])) ∧ CodesAt w' B cb A n c l p ∧ W1.grownBy w' (some cb) := by
 have hl := fun j (e : o.ownBlock = some j) => (own.lt j e).1
 refine ⟨by rw [inV_app, List.length_append]; exact own', (hc.alloc _).grown' hg' (fun e => by have := hl cb e; omega) (fun j e => by have := hl j e; omega), grownBy_step (grownBy_al hg _) hg' (fun j e => .inl (hl j e))⟩
theorem app_body {W1 W w' : World} {cb B n c p : Nat} {A : Option Addr} {l : List Nat} {o v : Value} {pre xs : List Ins} (own : W.ownsRow W1.heap.size 50 5 o pre.length (inV pre)) (hc : CodesAt W B cb A n c l p) (hg : W1.grownBy W (some cb)) (hlt : cb < W1.heap.size) (hB : B ≤ cb)
 (own' : w'.ownsRow W1.heap.size 50 5 v (pre.length + xs.length) (inV pre ++ inV xs)) (hg' : W.grownBy w' o.ownBlock) :
 w'.ownsRow W1.heap.size 50 5 v (pre ++ xs).length (inV (pre ++ xs)) ∧ CodesAt w' B cb A n c l p ∧ W1.grownBy w' (some cb) := by
 have hl := fun j (e : o.ownBlock = some j) => (own.lt j e).1
 exact ⟨by rw [inV_app, List.length_append]; exact own', hc.grown' hg' (fun e => by have := hl cb e; omega) (fun j e => by have := hl j e; omega), grownBy_step hg hg' (fun j e => .inl (hl j e))⟩
theorem own_far {w : World} {base n c : Nat} {e : TypeId} {size : Nat} {A : Option Addr} {xs : List Value} (h : w.ownsRow base e size (.slice A n c) n xs) (p : Addr) (hp : p.block < base) (u : Value) : (w.setCell p u).ownsRow base e size (.slice A n c) n xs := by
 refine ⟨h.1, ?_⟩
 rcases h.2 with h1 | ⟨g, cap, cur, h1, h2, h3, r⟩
 · exact .inl h1
 · refine .inr ⟨g, cap, cur, h1, h2, ?_, r⟩
   exact (Below.heap_setCell w p u g (by omega)).trans h3
theorem all_snoc {α : Type} {P : α → Prop} {l : List α} {x : α} (h : ∀ y ∈ l, P y) (hx : P x) : ∀ y ∈ l ++ [x], P y := fun y hy => by
 rcases List.mem_append.1 hy with h1 | h1
 · exact h y h1
 · simp at h1; subst h1; exact hx
theorem all_app {α : Type} {P : α → Prop} {l m : List α} (h : ∀ y ∈ l, P y) (hx : ∀ y ∈ m, P y) : ∀ y ∈ l ++ m, P y := fun y hy => by
 rcases List.mem_append.1 hy with h1 | h1
 · exact h y h1
 · exact hx y h1
theorem own_miss {w : World} {base n : Nat} {e : TypeId} {size : Nat} {v : Value} {xs : List Value} (h : w.ownsRow base e size v n xs) (p : Addr) (hp : ∀ j, v.ownBlock = some j → j ≠ p.block) (u : Value) : (w.setCell p u).ownsRow base e size v n xs := by
 refine ⟨h.1, ?_⟩
 rcases h.2 with h1 | ⟨g, cap, cur, rfl, h2, h3, r⟩
 · exact .inl h1
 · refine .inr ⟨g, cap, cur, rfl, h2, ?_, r⟩
   exact (Below.heap_setCell w p u g (hp g rfl)).trans h3
theorem own_ins_at {w : World} {base g N cap : Nat} {cur : List Ins} {k : Nat} (h : w.ownsRow base 50 5 (.slice (some ⟨g, 0, none⟩) N cap) N (inV cur)) (hk : k < N) :
 w.cell? ⟨g, k * 5, none⟩ = some (.int .i64 (cur.getD k Ins.z).op) ∧ w.cell? ⟨g, k * 5 + 1, none⟩ = some (.int .i64 (cur.getD k Ins.z).a) ∧ w.cell? ⟨g, k * 5 + 2, none⟩ = some (.int .i64 (cur.getD k Ins.z).b) := by
 have hl : cur.length = N := by have := h.1; rw [inV_len] at this; omega
 have g0 : ∀ j, j < 5 → (inV cur)[k * 5 + j]? = (icells (cur.getD k Ins.z))[j]? := fun j hj => flat_get icells_len Ins.z cur k j (by omega) hj
 exact ⟨(h.cellAt (k * 5) (by omega)).trans (by simpa [icells] using g0 0 (by omega)), (h.cellAt (k * 5 + 1) (by omega)).trans (by simpa [icells] using g0 1 (by omega)), (h.cellAt (k * 5 + 2) (by omega)).trans (by simpa [icells] using g0 2 (by omega))⟩
theorem getD_set_same {cur : List Ins} {k : Nat} {y : Ins} (h : k < cur.length) : (cur.set k y).getD k Ins.z = y := by simp [List.getD_eq_getElem?_getD, h]
theorem getD_set_ne {cur : List Ins} {k j : Nat} {y : Ins} (h : j ≠ k) : (cur.set k y).getD j Ins.z = cur.getD j Ins.z := by
 rw [List.getD_eq_getElem?_getD, List.getD_eq_getElem?_getD, List.getElem?_set_ne (Ne.symm h)]
theorem set_round {P Q : Ins → Prop} {cur : List Ins} {k N : Nat} {y : Ins} (hl : cur.length = N) (hk : k < N) (hd : ∀ j, j < k → P (cur.getD j Ins.z)) (ht : ∀ j, k ≤ j → j < N → Q (cur.getD j Ins.z)) (hy : P y)
 (hz : (cur.getD (N - 1) Ins.z).op ∈ [(23 : Int), 24]) (hne : (cur.getD k Ins.z).op ∉ [(23 : Int), 24]) :
 (cur.set k y).length = N ∧ (∀ j, j < k + 1 → P ((cur.set k y).getD j Ins.z)) ∧ (∀ j, k + 1 ≤ j → j < N → Q ((cur.set k y).getD j Ins.z)) ∧ ((cur.set k y).getD (N - 1) Ins.z).op ∈ [(23 : Int), 24] := by
 refine ⟨by simpa using hl, fun j hj => ?_, fun j h1 h2 => ?_, ?_⟩
 · by_cases e : j = k
   · subst e; rw [getD_set_same (by omega)]; exact hy
   · rw [getD_set_ne e]; exact hd j (by omega)
 · rw [getD_set_ne (by omega)]; exact ht j (by omega) h2
 · by_cases e : N - 1 = k
   · rw [e] at hz; exact absurd hz hne
   · rw [getD_set_ne e]; exact hz
theorem fn_ok {nf : Nat} {prm : Int} {sl : List (Int × Int)} {cur : List Ins} {N : Nat} (r0 : 0 ≤ prm) (r1 : prm ≤ 3) (hs : sl.length ≤ 6 ∧ ∀ s ∈ sl, SlotOk s) (h1 : 1 ≤ N) (h2 : (N : Int) ≤ 101) (hl : cur.length = N) (hd : ∀ j, j < N → Vi nf prm sl N (cur.getD j Ins.z)) (hz : (cur.getD (N - 1) Ins.z).op ∈ [(23 : Int), 24]) :
 FnOk nf ⟨prm, sl, cur⟩ := by
 subst hl
 refine ⟨r0, r1, hs.1, hs.2, h1, (by show cur.length ≤ 200; omega), fun x hx => ?_, hz⟩
 obtain ⟨j, hj, rfl⟩ := List.mem_iff_getElem.1 hx
 have := hd j hj
 rw [List.getD_eq_getElem?_getD, List.getElem?_eq_getElem hj] at this
 simpa using this
def FnD (B cb : Nat) (A : Option Addr) (n c : Nat) (l : List Nat) (nf : Nat) (prm : Int) (w : World) (e : Ending) (w' : World) : Prop :=
 ∃ (f : Fn) (As : Option Addr) (cs : Nat) (Ai : Option Addr) (ci p' : Nat), e = .returned (.agg #[.int .i64 prm, .slice As f.slots.length cs, .slice Ai f.code.length ci]) ∧ f.params = prm ∧ FnOk nf f ∧
  w'.ownsRow w.heap.size 134 2 (.slice As f.slots.length cs) f.slots.length (slV f.slots) ∧ w'.ownsRow w.heap.size 50 5 (.slice Ai f.code.length ci) f.code.length (inV f.code) ∧ CodesAt w' B cb A n c l p' ∧ w.grownBy w' (some cb)
theorem function_d (B cb : Nat) (A : Option Addr) (n c : Nat) (l : List Nat) (p : Nat) (i most : Nat) (Ap : Option Addr) (np cp : Nat) (ps : List Int) (w : World) (b0 : Nat) (hb0 : cb < b0) (h : CodesAt w B cb A n c l p) (hp : w.ownsRow b0 3 1 (.slice Ap np cp) np (ps.map (Value.int .i64))) (hnp : np ≤ 100) (hin : i < np) (hps : ∀ k, k < np → 0 ≤ ps.getD k 0 ∧ ps.getD k 0 ≤ 3) (hmost : most ≤ 12) :
 Calls Tryz.prog 36 #[.pointer (some ⟨cb, 0, none⟩), .int .i64 (i : Int), .slice Ap np cp, .int .i64 (most : Int)] w (FnD B cb A n c l np (ps.getD i 0) w) := by
 obtain ⟨i0, hi0, hz0, hz1, hz2⟩ := info_parts info_ins
 have hlt := h.1.lt
 have hB := h.2.2.2.1
 obtain ⟨pb, cpp, hpf, -, hpb⟩ := hp.form (by omega)
 obtain ⟨rfl, rfl⟩ : Ap = some ⟨pb, 0, none⟩ ∧ cp = cpp := by injection hpf; exact ⟨by assumption, by assumption⟩
 have hprm := hps i hin
 have HPS := hQ hps
 have hcell := own_int_at hp hin
 have HPO : Hid (∀ W, w.grownBy W (some cb) → W.ownsRow b0 3 1 (.slice (some ⟨pb, 0, none⟩) np cp) np (ps.map (Value.int .i64))) := hQ (fun W hg => own_draw2 hp hg hb0)
 have npc : ¬ (pb = cb) := by have := (hp.lt pb rfl).1; omega
 have HC := hQ h
 have hii : (i : Int) < (np : Int) := by omega
 have hi00 : (0 : Int) ≤ (i : Int) := by omega
 have hmi : (most : Int) ≤ 12 := by omega
 obtain ⟨prm, hpm⟩ : ∃ prm, prm = ps.getD i 0 := ⟨_, rfl⟩
 rw [← hpm] at hcell hprm ⊢
 obtain ⟨r0, r1⟩ := hprm
 clear h hp hps hpf hpm
 have nw : ¬ (w.heap.size = cb) := by omega
 have nw2 : ¬ (w.heap.size + 1 = cb) := by omega
 go_enter Tryz.func36, Tryz.ntmps36
 go_upto_region 1 with (fail)
 go_cut [9] (fun s9 wx => ∃ (gf : Nat) (As : Option Addr) (cs : Nat) (sl : List (Int × Int)) (p1 : Nat), s9 = .pointer (some ⟨gf, 0, none⟩) ∧ Hid (w.heap.size < gf) ∧ Hid (Blk wx w.heap.size 97 #[.int .i64 0, .slice none 0 0, .slice none 0 0]) ∧ Hid (Blk wx gf 97 #[.int .i64 prm, .slice As sl.length cs, .slice none 0 0]) ∧ Hid (wx.ownsRow w.heap.size 134 2 (.slice As sl.length cs) sl.length (slV sl)) ∧ Hid (sl.length ≤ 6 ∧ ∀ s ∈ sl, SlotOk s) ∧ Hid (CodesAt wx B cb A n c l p1) ∧ Hid (w.grownBy wx (some cb)))
 case first =>
  go_region_with (first
   | (go_at_call 57; refine Calls.mono (slots_d B cb A n c l p 6 _ ?_ (by omega)) ?_; (with_reducible first | exact CodesAt.dr (CodesAt.alloc HC.out _) | exact CodesAt.dr (CodesAt.alloc (CodesAt.alloc HC.out _) _)); rintro e w3 ⟨rs, sl, p3, rfl, hsl, hso, own3, c3, g3⟩; obtain ⟨hc3, hf3⟩ := gcell g3; have zz3 := g3.size; (try simp at zz3); have HSL := hQ (And.intro hsl hso); have HC3 := hQ c3; obtain ⟨As, cs, rfl, -⟩ := own_form own3; have OWN3 : Hid (w3.ownsRow w.heap.size 134 2 (.slice As sl.length cs) sl.length (slV sl)) := hQ (own_base own3 (by simp; try omega)); have HG3 : Hid (w.grownBy w3 (some cb)) := hQ (by with_reducible first | exact grownBy_trans (grownBy_dr (grownBy_al (World.grownBy.refl _ _) _)) g3 | exact grownBy_trans (grownBy_dr (grownBy_al (grownBy_al (World.grownBy.refl _ _) _) _)) g3); have KR3 : Hid (Blk w3 w.heap.size 97 #[.int .i64 0, .slice none 0 0, .slice none 0 0]) := hQ (by with_reducible first | exact Blk.grown (Blk.drew (Blk.new w _ _)) g3 (some_ne nw) | exact Blk.grown (Blk.drew (Blk.alloc (Blk.new w _ _) _)) g3 (some_ne nw)); have hz3 : w.heap.size < w3.heap.size := (by omega); have hpb3 : pb < w3.heap.size := (by omega); (first | have KB3 : Hid (Blk w3 (w.heap.size + 1) 97 #[.int .i64 0, .slice none 0 0, .slice none 0 0] ∧ w3.ownsRow (w.heap.size + 2) 134 2 (.slice As sl.length cs) sl.length (slV sl)) := hQ ⟨by with_reducible exact Blk.grown (Blk.drew (Blk.newAt (w := w.alloc _) (by simp))) g3 (some_ne nw2), own_base own3 (by simp)⟩ | skip); clear hsl hso own3 c3))
  all_goals go_wp2_with fail
  all_goals go_meet
  all_goals
   first
   | exact ⟨_, As, cs, sl, p3, rfl, hQ (by omega), hQ (KR3.out.alloc _), hQ (Blk.new w3 _ _), hQ (OWN3.out.alloc _), HSL, hQ (HC3.out.alloc _), hQ (grownBy_al HG3.out _)⟩
   | (obtain ⟨kb, ob⟩ := KB3
      have kb' := Blk.set_ (Blk.set_ (Blk.set_ kb 0 (.int .i64 prm)) 1 (.slice As sl.length cs)) 2 (.slice none 0 0)
      have lt3 : w.heap.size + 1 < w3.heap.size := kb.lt
      refine ⟨_, As, cs, sl, p3, rfl, hQ (by omega), hQ (((KR3.out.far ?_ _).far ?_ _).far ?_ _), hQ kb', hQ (own_base (own_far (own_far (own_far ob _ ?_ _) _ ?_ _) _ ?_ _) (by omega)), HSL, hQ (((HC3.out.set ?_ ?_ _).set ?_ ?_ _).set ?_ ?_ _), hQ (grownBy_set (grownBy_set (grownBy_set HG3.out ?_ _) ?_ _) ?_ _)⟩
      all_goals first | omega | (simp; done) | (simp; omega) | (show ¬ _; omega))
 case rest =>
  obtain ⟨gf, As, cs, sl, p1, rfl, HGF, KR, KF, OWNS, HSL, HC1, HG1⟩ := hcut
  obtain ⟨W1, hW1⟩ : ∃ W1, W1 = wc := ⟨_, rfl⟩
  subst hW1
  have hgf := HGF.out
  have hlt1 : cb < W1.heap.size := by have := HG1.out.size; omega
  have hgl : gf < W1.heap.size := KF.out.lt
  have hsl6 := HSL.out.1
  have ngf : ¬ gf = cb := by omega
  have hBc := hB
  have HSW : Hid (∀ W, W1.grownBy W (some cb) → W.ownsRow (cb + 1) 134 2 (.slice As sl.length cs) sl.length (slV sl)) := hQ (fun W hg => own_base (own_draw2 OWNS.out hg hlt) (by omega))
  have HPW : Hid (∀ W, W1.grownBy W (some cb) → W.ownsRow (cb + 1) 3 1 (.slice (some ⟨pb, 0, none⟩) np cp) np (ps.map (Value.int .i64))) := hQ (fun W hg => own_base (HPO.out W (grownBy_trans HG1.out hg)) (by omega))
  have HKF : Hid (∀ W, W1.grownBy W (some cb) → Blk W gf 97 #[.int .i64 prm, .slice As sl.length cs, .slice none 0 0]) := hQ (fun W hg => KF.out.grown hg (some_ne ngf))
  clear HPO HC hcell
  go_wp2
  go_loopw [10, 11] (fun o x wr => ∃ (k p1 : Nat) (pre : List Ins), x = .int .i64 k ∧ k ≤ sl.length ∧ pre.length ≤ k ∧ Hid (∀ x ∈ pre, ViP np prm sl x) ∧ wr.ownsRow W1.heap.size 50 5 o pre.length (inV pre) ∧ Hid (CodesAt wr B cb A n c l p1) ∧ Hid (W1.grownBy wr (some cb))) (fun _ x _ => sl.length - (intOf x).toNat)
  case atStart => exact ⟨0, p1, [], rfl, by omega, by simp, hQ (fun x hx => by simp at hx), World.ownsRow_nil _ _ _ _, HC1, hQ (World.grownBy.refl _ _)⟩
  case round =>
   obtain ⟨k, p2, pre, rfl, hk, hpl, HP, own, HCw, HGw⟩ := hrel
   have hk0 : (0 : Int) ≤ (k : Int) := by omega
   have hszw : W1.heap.size ≤ wr.heap.size := HGw.out.size
   obtain ⟨b0', b1', b2', -, -, -, bz⟩ := (HKF.out wr HGw.out).c3
   by_cases hkl : k < sl.length
   · have hki : (k : Int) < (sl.length : Int) := by omega
     go_wp2_with fail
     refine (next_d _ _ _ _ _ _ _ (4) _ HCw.out (by omega) (by omega)).mono ?_
     rintro e w5 ⟨v, p5, hv, rfl, c5, g5⟩
     have HC5 := hQ c5
     have HG5 := hQ (grownBy_trans HGw.out g5)
     have own5 := own_draw own g5 hlt1
     have hv0 : (0 : Int) ≤ (v : Int) := by omega
     have hv1 : (v : Int) < max (4) 1 := by omega
     have hsz5 : W1.heap.size ≤ w5.heap.size := HG5.out.size
     clear c5 g5 own HCw HGw
     by_cases hv3 : (v : Int) < 3
     · go_wp2_with fail
       refine (next_d _ _ _ _ _ _ _ (4) _ HC5.out (by omega) (by omega)).mono ?_
       rintro e w6 ⟨u, p6, hu, rfl, c6, g6⟩
       have HC6 := hQ c6
       have HG6 := hQ (grownBy_trans HG5.out g6)
       have own6 := own_draw own5 g6 hlt1
       have hu0 : (0 : Int) ≤ (u : Int) := by omega
       have hu1 : (u : Int) < max (4) 1 := by omega
       have hsz6 : W1.heap.size ≤ w6.heap.size := HG6.out.size
       clear c6 g6 own5 HC5 HG5
       have HVI : Hid (ViP np prm sl ⟨16, (k : Int), (u : Int), 0, 0⟩) := hQ (.plain _ (Vi0.store _ _ (by omega) (by omega) (by omega) (by omega)))
       go_wp2_with (at_builtin; refine wpList_append_any _ rfl (.tmp 33) (.tmp 38) _ rfl W1.heap.size 50 i0 _ 5 40 Tryz.underlying51 hi0 hz0 hz1 hz2 rfl (by omega) _ (pre).length (inV pre) rfl (own6.alloc _) (w6.heap.size + 1) (some ⟨w6.heap.size, 0, none⟩) 1 1 [Value.int .i64 16, Value.int .i64 (k : Int), Value.int .i64 (u : Int), Value.int .i64 0, Value.int .u64 0] rfl (reads_new rfl) (by simp [Value.oneCell']) (by unfold maxLen; omega) (by omega) (by simp; omega) ?_; intro v7 w7 own7 hg7 hat7; have AP7 := hQ (app_code (x := ⟨16, (k : Int), (u : Int), 0, 0⟩) own6 HC6.out HG6.out hlt1 hBc own7 hg7); clear own7 hg7 hat7)
       go_roundw
       case rel => exact ⟨k + 1, p6, pre ++ [⟨16, (k : Int), (u : Int), 0, 0⟩], by go_num, by omega, by simp; omega, hQ (all_snoc HP.out HVI.out), AP7.out.1, hQ AP7.out.2.1, hQ AP7.out.2.2⟩
       case measure => simp [intOf]; omega
     · go_wp2
       go_roundw
       case rel => exact ⟨k + 1, p5, pre, by go_num, by omega, by omega, HP, own5, HC5, HG5⟩
       case measure => simp [intOf]; omega
   · go_wp2_with fail
     refine (next_d _ _ _ _ _ _ _ ((most : Int) + 1) _ HCw.out (by omega) (by omega)).mono ?_
     rintro e w5 ⟨t, p5, ht, rfl, c5, g5⟩
     have HC5 := hQ c5
     have HG5 := hQ (grownBy_trans HGw.out g5)
     have own5 := own_draw own g5 hlt1
     have ht0 : (0 : Int) ≤ (t : Int) := by omega
     have ht1 : (t : Int) < max ((most : Int) + 1) 1 := by omega
     have hsz5 : W1.heap.size ≤ w5.heap.size := HG5.out.size
     clear c5 g5 own HCw HGw
     have htm : t ≤ 12 := by omega
     have hpl6 : pre.length ≤ 6 := by omega
     clear b0' b1' b2' bz
     go_wp2
     go_loopw [10, 12] (fun o x wr => ∃ (k p1 : Nat) (pre : List Ins), x = .int .i64 k ∧ k ≤ 12 ∧ pre.length + 6 * k ≤ 100 ∧ Hid (∀ x ∈ pre, ViP np prm sl x) ∧ wr.ownsRow W1.heap.size 50 5 o pre.length (inV pre) ∧ Hid (CodesAt wr B cb A n c l p1) ∧ Hid (W1.grownBy wr (some cb))) (fun _ x _ => (intOf x).toNat)
     case atStart => exact ⟨t, p5, pre, rfl, by omega, by omega, HP, own5, HC5, HG5⟩
     case round =>
      clear own5 HC5 HG5 hsz5 HP hpl hpl6 hk hk0 hkl htm ht ht0 ht1 hszw
      obtain ⟨m, p6, qre, rfl, hm12, hql, HQ, own, HCw, HGw⟩ := hrel
      have hszw := HGw.out.size
      have hm0 : (0 : Int) ≤ (m : Int) := by omega
      rcases Nat.eq_zero_or_pos m with rfl | hmp
      · have hql2 : qre.length ≤ 100 := by omega
        have HLW := hQ own.lt
        have nec : ¬ wr.heap.size = cb := by omega
        go_wp2_with fail
        have HKE : Hid (Blk (wr.alloc (.cells #[.int .i64 23, .int .i64 0, .int .i64 0, .int .i64 0, .int .u64 0] 50)) wr.heap.size 50 #[.int .i64 23, .int .i64 0, .int .i64 0, .int .i64 0, .int .u64 0]) := hQ (Blk.new wr _ _)
        refine (next_d _ _ _ _ _ _ _ 12 _ (HCw.out.alloc _) (by omega) (by omega)).mono ?_
        rintro e w5 ⟨u, p5, hu, rfl, c5, g5⟩
        have HC5 := hQ c5
        have HG5 := hQ (grownBy_trans (grownBy_al HGw.out _) g5)
        have OWN5 := hQ (own_draw (own.alloc _) g5 hlt1)
        have HKE5 := hQ (HKE.out.grown g5 (some_ne nec))
        have hsz5 : wr.heap.size < w5.heap.size := HKE5.out.lt
        have hu0 : (0 : Int) ≤ (u : Int) := by omega
        have HLN : Hid (∀ j, Value.ownBlock _ = some j → j ≠ wr.heap.size) := hQ (fun j e => Nat.ne_of_lt (HLW.out j e).2)
        clear c5 g5 own HCw HGw HKE
        go_upto_if 77 with (fail)
        go_cut [] (fun wx => ∃ (op8 im8 : Int) (p8 : Nat), Hid (op8 ∈ [(23 : Int), 24]) ∧ Hid (ViP np prm sl ⟨op8, 0, 0, 0, im8⟩) ∧ Hid (Blk wx wr.heap.size 50 #[.int .i64 op8, .int .i64 0, .int .i64 0, .int .i64 0, .int .u64 im8]) ∧ Hid (∀ v, w5.ownsRow W1.heap.size 50 5 v qre.length (inV qre) → (∀ j, v.ownBlock = some j → j ≠ wr.heap.size) → wx.ownsRow W1.heap.size 50 5 v qre.length (inV qre)) ∧ Hid (CodesAt wx B cb A n c l p8) ∧ Hid (W1.grownBy wx (some cb)))
        case first =>
         by_cases hu11 : (u : Int) = 11
         · have hb11 : ((u : Int) == 11) = true := by simpa using hu11
           go_wp2_with fail
           refine (word_d _ _ _ _ _ _ _ _ HC5.out).mono ?_
           rintro e w6 ⟨im, p6', him, rfl, c6, g6⟩
           have HC6 := hQ c6
           have HG6 := hQ (grownBy_trans HG5.out g6)
           have HD6 := hQ (fun v (hv : w5.ownsRow W1.heap.size 50 5 v qre.length (inV qre)) => own_draw hv g6 hlt1)
           have HKE6 := hQ (HKE5.out.grown g6 (some_ne nec))
           have hsz6 : wr.heap.size < w6.heap.size := HKE6.out.lt
           obtain ⟨e0, e1, e2, e3, e4, f0, f1, f2, f3, f4, ez⟩ := HKE6.out.c5
           clear c6 g6
           go_wp2_with fail
           go_meet
           refine ⟨24, (im : Int), p6', hQ (by simp), hQ (.plain _ (.trap _ (by omega) (by omega))), hQ (Blk.set_ (Blk.set_ (Blk.set_ (Blk.set_ (Blk.set_ HKE6.out 0 _) 1 _) 2 _) 3 _) 4 _), hQ (fun v hv hne => own_miss (own_miss (own_miss (own_miss (own_miss (HD6.out v hv) _ hne _) _ hne _) _ hne _) _ hne _) _ hne _), hQ (((((HC6.out.set (Ne.symm nec) (by show B ≤ wr.heap.size; omega) _).set (Ne.symm nec) (by show B ≤ wr.heap.size; omega) _).set (Ne.symm nec) (by show B ≤ wr.heap.size; omega) _).set (Ne.symm nec) (by show B ≤ wr.heap.size; omega) _).set (Ne.symm nec) (by show B ≤ wr.heap.size; omega) _), hQ (grownBy_set (grownBy_set (grownBy_set (grownBy_set (grownBy_set HG6.out hszw _) hszw _) hszw _) hszw _) hszw _)⟩
         · have hb11 : ((u : Int) == 11) = false := by simpa using hu11
           go_wp2_with fail
           go_meet
           exact ⟨23, 0, p5, hQ (by simp), hQ (.plain _ .ret), HKE5, hQ (fun v hv _ => hv), HC5, HG5⟩
        case rest =>
         obtain ⟨op8, im8, p8, HOP8, HV8, HK8, HOWN8, HC8, HG8⟩ := hcut
         have own8 := HOWN8.out _ OWN5.out HLN.out
         have hsz8 : W1.heap.size ≤ wc.heap.size := HG8.out.size
         obtain ⟨e0, e1, e2, e3, e4, f0, f1, f2, f3, f4, ez⟩ := HK8.out.c5
         clear HOWN8 OWN5 HC5 HG5 HKE5 HLN HLW hu hu0
         obtain ⟨w8, hw8⟩ : ∃ w8, w8 = wc := ⟨_, rfl⟩
         subst hw8
         go_wp2_with (at_builtin; refine wpList_append_any _ rfl (.tmp 81) (.tmp 83) _ rfl W1.heap.size 50 i0 _ 5 40 Tryz.underlying51 hi0 hz0 hz1 hz2 rfl (by omega) _ (qre).length (inV qre) rfl (own8.alloc _) (w8.heap.size + 1) (some ⟨w8.heap.size, 0, none⟩) 1 1 [Value.int .i64 op8, Value.int .i64 0, Value.int .i64 0, Value.int .i64 0, Value.int .u64 im8] rfl (reads_new rfl) (by simp [Value.oneCell']) (by unfold maxLen; omega) (by omega) (by simp; omega) ?_; intro v9 w9 own9 hg9 hat9; have AP9 := hQ (app_code (x := ⟨op8, 0, 0, 0, im8⟩) own8 HC8.out HG8.out hlt1 hBc own9 hg9); clear own9 hg9 hat9)
         obtain ⟨q, hq⟩ : ∃ q, q = qre ++ [(⟨op8, 0, 0, 0, im8⟩ : Ins)] := ⟨_, rfl⟩
         rw [← hq] at AP9
         obtain ⟨own9, c9, g9⟩ := AP9.out
         have HC9 := hQ c9
         have HG9 := hQ g9
         have HQ9 : Hid (∀ x ∈ q, ViP np prm sl x) := hQ (by rw [hq]; exact all_snoc HQ.out HV8.out)
         have hqN : 1 ≤ q.length ∧ q.length ≤ 101 := by rw [hq]; simp; omega
         have hlast : Hid ((q.getD (q.length - 1) Ins.z).op ∈ [(23 : Int), 24]) := hQ (by rw [hq]; simpa using HOP8.out)
         obtain ⟨hq1, hq2⟩ := hqN
         obtain ⟨qg, qc, hform, hqb, -⟩ := own9.form hq1
         subst hform
         have HO9 := hQ own9
         have hqi : (q.length : Int) ≤ 101 := by omega
         have hqj : (1 : Int) ≤ (q.length : Int) := by omega
         clear c9 g9 AP9 hq HQ HV8 HOP8 HK8 HC8 HG8 own8 own9 e0 e1 e2 e3 e4 f0 f1 f2 f3 f4 ez hql2 hql hsz8 hsz5 hszw nec
         obtain ⟨N, hN⟩ : ∃ N, N = q.length := ⟨_, rfl⟩
         rw [← hN] at HO9 hqi hqj hlast hq1 hq2
         have HN := hQ hN
         clear hN
         rw [← HN.out]
         go_wp2
         go_loopw [14] (fun x wr => ∃ (k p1 : Nat) (cur : List Ins), x = .int .i64 k ∧ k ≤ N ∧ Hid (cur.length = N) ∧ Hid (∀ j, j < k → Vi np prm sl N (cur.getD j Ins.z)) ∧ Hid (∀ j, k ≤ j → j < N → ViP np prm sl (cur.getD j Ins.z)) ∧ Hid ((cur.getD (N - 1) Ins.z).op ∈ [(23 : Int), 24]) ∧ Hid (wr.ownsRow W1.heap.size 50 5 (.slice (some ⟨qg, 0, none⟩) N qc) N (inV cur)) ∧ Hid (CodesAt wr B cb A n c l p1) ∧ Hid (W1.grownBy wr (some cb))) (fun x _ => N - (intOf x).toNat)
         case atStart => exact ⟨0, _, q, rfl, by omega, hQ HN.out.symm, hQ (fun j h => by omega), hQ (fun j _ h => HQ9.out _ (by rw [List.getD_eq_getElem?_getD, List.getElem?_eq_getElem (by have := HN.out; omega)]; simp)), hlast, HO9, HC9, HG9⟩
         case round =>
          clear HO9 HC9 HG9 HQ9 hlast
          obtain ⟨k, p2, cur, rfl, hk, HLEN, HDONE, HTODO, HLAST, HO, HCw, HGw⟩ := hrel
          have hk0 : (0 : Int) ≤ (k : Int) := by omega
          have hszw := HGw.out.size
          by_cases hkl : k < N
          · have hki : (k : Int) < (N : Int) := by omega
            go_wp2_with fail
            refine (next_d _ _ _ _ _ _ _ (8) _ HCw.out (by omega) (by omega)).mono ?_
            rintro e w5 ⟨v, p5, hv, rfl, c5, g5⟩
            have HC5 := hQ c5
            have HG5 := hQ (grownBy_trans HGw.out g5)
            have HO5 := hQ (own_draw HO.out g5 hlt1)
            have hv0 : (0 : Int) ≤ (v : Int) := by omega
            have hv1 : (v : Int) < 8 := by omega
            clear c5 g5 HCw HGw HO hv hszw
            go_upto_region 26 with (fail)
            go_cut [103] (fun s103 wx => s103 = .bool (decide ((k : Int) + (v : Int) - 2 < 0 ∨ (N : Int) ≤ (k : Int) + (v : Int) - 2)) ∧ w5 = wx)
            case first =>
             by_cases h1 : (k : Int) + (v : Int) - 2 < 0
             · go_wp2
               go_meet
               exact ⟨by rw [decide_eq_true (.inl h1)], rfl⟩
             · by_cases h2 : (N : Int) ≤ (k : Int) + (v : Int) - 2
               · go_wp2
                 go_meet
                 exact ⟨by rw [decide_eq_true (.inr h2)], rfl⟩
               · go_wp2
                 go_meet
                 exact ⟨by rw [decide_eq_false (by omega)], rfl⟩
            case rest =>
             obtain ⟨rfl, rfl⟩ := hcut
             obtain ⟨bb, hbb⟩ : ∃ bb : Bool, bb = decide ((k : Int) + (v : Int) - 2 < 0 ∨ (N : Int) ≤ (k : Int) + (v : Int) - 2) := ⟨_, rfl⟩
             rw [← hbb]
             have HBB := hQ hbb
             clear hbb
             go_upto_if 103 with (fail)
             go_cut [15] (fun s15 wx => ∃ tg : Int, s15 = .int .i64 tg ∧ 0 ≤ tg ∧ tg < (N : Int) ∧ w5 = wx)
             case first =>
              cases bb
              · have h1 := of_decide_eq_false HBB.out.symm
                clear HBB
                go_wp2
                go_meet
                exact ⟨_, rfl, by omega, by omega, rfl⟩
              · clear HBB
                go_wp2
                go_meet
                exact ⟨_, rfl, by omega, by omega, rfl⟩
             case rest =>
             obtain ⟨tg, rfl, ht0, ht1, rfl⟩ := hcut
             clear HBB
             obtain ⟨i0', i1', i2'⟩ := own_ins_at HO5.out hkl
             have z1 := HO5.out.frozenAt (k * 5 + 1)
             have z2 := HO5.out.frozenAt (k * 5 + 2)
             have hfix := viP_fix (nc := N) (HTODO.out k nL hkl) ht0 ht1
             obtain ⟨xo, hxo⟩ : ∃ xo, xo = (cur.getD k Ins.z).op := ⟨_, rfl⟩
             obtain ⟨xa, hxa⟩ : ∃ xa, xa = (cur.getD k Ins.z).a := ⟨_, rfl⟩
             obtain ⟨xb, hxb⟩ : ∃ xb, xb = (cur.getD k Ins.z).b := ⟨_, rfl⟩
             rw [← hxo] at i0'
             rw [← hxa] at i1'
             rw [← hxb] at i2'
             by_cases o20 : xo = 20
             · have hop : (cur.getD k Ins.z).op = 20 := hxo.symm.trans o20
               have hlt0 := hfix.2.1 hop
               have HNL : Hid ((cur.getD k Ins.z).op ∉ [(23 : Int), 24]) := hQ (by rw [hop]; simp)
               have HST : Hid (∀ V : Int, (w5.setCell ⟨qg, k * 5 + 1, none⟩ (.int .i64 V)).ownsRow W1.heap.size 50 5 (.slice (some ⟨qg, 0, none⟩) N qc) N (inV (cur.set k (setA V (cur.getD k Ins.z))))) := hQ (fun V => by have h := HO5.out.stored (k * 5 + 1) (.int .i64 V); rw [inV_setA _ _ _ (by have := HLEN.out; omega)] at h; exact h.1)
               have HV := hQ (hfix.1 hop hlt0)
               have HSR := hQ (set_round HLEN.out hkl HDONE.out HTODO.out HV.out HLAST.out HNL.out)
               rw [← hxa] at hlt0
               subst o20
               clear hfix HV HDONE HTODO HLAST HNL hop hxo hxa hxb
               go_wp2
               go_roundw
               case rel => exact ⟨k + 1, p5, _, by go_num, by omega, hQ HSR.out.1, hQ HSR.out.2.1, hQ HSR.out.2.2.1, hQ HSR.out.2.2.2, hQ (HST.out _), hQ (HC5.out.set (q := ⟨qg, k * 5 + 1, none⟩) (show cb ≠ qg by omega) (show B ≤ qg by omega) _), hQ (grownBy_set HG5.out (p := ⟨qg, k * 5 + 1, none⟩) hqb _)⟩
               case measure => simp [intOf]; omega
             · by_cases o21 : xo = 21
               · have hop : (cur.getD k Ins.z).op = 21 := hxo.symm.trans o21
                 have hlt0 := hfix.2.2.2.1 hop
                 have HNL : Hid ((cur.getD k Ins.z).op ∉ [(23 : Int), 24]) := hQ (by rw [hop]; simp)
                 have HST : Hid (∀ V : Int, (w5.setCell ⟨qg, k * 5 + 2, none⟩ (.int .i64 V)).ownsRow W1.heap.size 50 5 (.slice (some ⟨qg, 0, none⟩) N qc) N (inV (cur.set k (setB V (cur.getD k Ins.z))))) := hQ (fun V => by have h := HO5.out.stored (k * 5 + 2) (.int .i64 V); rw [inV_setB _ _ _ (by have := HLEN.out; omega)] at h; exact h.1)
                 have HV := hQ (hfix.2.2.1 hop hlt0)
                 have HSR := hQ (set_round HLEN.out hkl HDONE.out HTODO.out HV.out HLAST.out HNL.out)
                 rw [← hxb] at hlt0
                 subst o21
                 clear hfix HV HDONE HTODO HLAST HNL hop hxo hxa hxb
                 go_wp2
                 go_roundw
                 case rel => exact ⟨k + 1, p5, _, by go_num, by omega, hQ HSR.out.1, hQ HSR.out.2.1, hQ HSR.out.2.2.1, hQ HSR.out.2.2.2, hQ (HST.out _), hQ (HC5.out.set (q := ⟨qg, k * 5 + 2, none⟩) (show cb ≠ qg by omega) (show B ≤ qg by omega) _), hQ (grownBy_set HG5.out (p := ⟨qg, k * 5 + 2, none⟩) hqb _)⟩
                 case measure => simp [intOf]; omega
               · have HV : Hid (Vi np prm sl N (cur.getD k Ins.z)) := hQ (hfix.2.2.2.2 (by rw [← hxo]; exact o20) (by rw [← hxo]; exact o21))
                 have b20 : (xo == 20) = false := by simpa using o20
                 have b21 : (xo == 21) = false := by simpa using o21
                 have HD2 : Hid (∀ j, j < k + 1 → Vi np prm sl N (cur.getD j Ins.z)) := hQ (fun j hj => by
                  by_cases e : j = k
                  · subst e; exact HV.out
                  · exact HDONE.out j (by omega))
                 have HT2 : Hid (∀ j, k + 1 ≤ j → j < N → ViP np prm sl (cur.getD j Ins.z)) := hQ (fun j h1 h2 => HTODO.out j (by omega) h2)
                 clear hfix HV HDONE HTODO o20 o21 hxo hxa hxb
                 go_wp2
                 go_roundw
                 case rel => exact ⟨k + 1, p5, cur, by go_num, by omega, HLEN, HD2, HT2, HLAST, HO5, HC5, HG5⟩
                 case measure => simp [intOf]; omega
          · obtain rfl : k = N := by omega
            have HFN : Hid (FnOk np ⟨prm, sl, cur⟩) := hQ (fn_ok r0 r1 HSL.out hq1 hqi HLEN.out HDONE.out HLAST.out)
            have HKR := hQ (KR.out.grown HGw.out (some_ne nw))
            have HKG := hQ (HKF.out wr HGw.out)
            have HOS : Hid (wr.ownsRow w.heap.size 134 2 (.slice As sl.length cs) sl.length (slV sl)) := hQ (own_draw2 OWNS.out HGw.out hlt)
            have NS1 : Hid (∀ j, (Value.slice As sl.length cs).ownBlock = some j → j ≠ gf) := hQ (fun j e1 e2 => own_blk_ne HOS.out HKG.out (by decide) (e2 ▸ e1))
            have NS2 : Hid (∀ j, (Value.slice As sl.length cs).ownBlock = some j → j ≠ w.heap.size) := hQ (fun j e1 e2 => own_blk_ne HOS.out HKR.out (by decide) (e2 ▸ e1))
            obtain ⟨b0', b1', b2', f0', f1', f2', bz⟩ := HKG.out.c3
            obtain ⟨d0', d1', d2', y0', y1', y2', dz⟩ := HKR.out.c3
            have nwg : ¬ (w.heap.size = gf) := by omega
            have ngw : ¬ (gf = w.heap.size) := by omega
            have hlw : w.heap.size < W1.heap.size := by omega
            have hNp : sl.length ≤ maxLen := by unfold maxLen; omega
            go_wp2
            refine bodyPost_ret (v := .agg #[.int .i64 prm, .slice As sl.length cs, .slice (some ⟨qg, 0, none⟩) k qc]) (by simp [results, Tryz.results36, go_sem, d0', d1', d2']) rfl ?_
            refine ⟨⟨prm, sl, cur⟩, As, cs, some ⟨qg, 0, none⟩, qc, p2, ?_, rfl, HFN.out, ?_, ?_, ?_, ?_⟩
            · have e : cur.length = k := HLEN.out
              show Ending.returned _ = Ending.returned (.agg #[.int .i64 prm, .slice As sl.length cs, .slice (some ⟨qg, 0, none⟩) cur.length qc])
              rw [e]
            · exact own_miss (own_miss (own_miss (own_miss HOS.out _ NS1.out _) _ NS2.out _) _ NS2.out _) _ NS2.out _
            · have e : cur.length = k := HLEN.out
              show World.ownsRow _ w.heap.size 50 5 (.slice (some ⟨qg, 0, none⟩) cur.length qc) cur.length (inV cur)
              rw [e]
              exact own_base (own_far (own_far (own_far (own_far HO.out _ hgl _) _ hlw _) _ hlw _) _ hlw _) (by omega)
            · exact (((HCw.out.set (show cb ≠ gf by omega) (show B ≤ gf by omega) _).set (show cb ≠ w.heap.size by omega) (show B ≤ w.heap.size by omega) _).set (show cb ≠ w.heap.size by omega) (show B ≤ w.heap.size by omega) _).set (show cb ≠ w.heap.size by omega) (show B ≤ w.heap.size by omega) _
            · exact grownBy_set (grownBy_set (grownBy_set (grownBy_set (grownBy_trans HG1.out HGw.out) (show w.heap.size ≤ gf by omega) _) nL _) nL _) nL _
      · have hmi : (0 : Int) < (m : Int) := by omega
        obtain ⟨b0', b1', b2', -, -, -, bz⟩ := (HKF.out _ HGw.out).c3
        go_wp2_with fail
        refine (body_d B cb A n c l p6 prm As sl.length cs none 0 0 sl i (some ⟨pb, 0, none⟩) np cp ps _ (cb + 1) (by omega) HCw.out (HSW.out _ HGw.out) (by omega) (HPW.out _ HGw.out) hnp hin HPS.out ⟨r0, r1⟩).mono ?_
        rintro e w5 ⟨r, xs, p5, rfl, hxl, hxs, ownr, c5, g5⟩
        obtain ⟨Ar, cr, rfl, -⟩ := own_form ownr
        have HR : Hid (Reads w5 w5.heap.size 5 Ar xs.length (inV xs)) := hQ (Reads.of_own ownr)
        have HC5 := hQ c5
        have HG5 := hQ (grownBy_trans HGw.out g5)
        have own5 := own_draw own g5 hlt1
        have HXS : Hid (∀ x ∈ xs, ViP np prm sl x) := hQ (fun x hx => .plain _ (hxs x hx))
        have hsz5 : W1.heap.size ≤ w5.heap.size := HG5.out.size
        clear c5 g5 own HCw HGw ownr hxs b0' b1' b2' bz
        go_wp2_with (at_builtin; refine wpList_append_any _ rfl (.tmp 48) (.tmp 53) _ rfl W1.heap.size 50 i0 _ 5 40 Tryz.underlying51 hi0 hz0 hz1 hz2 rfl (by omega) _ qre.length (inV qre) rfl own5 w5.heap.size Ar xs.length cr (inV xs) rfl HR.out (inV_one xs) (by unfold maxLen; omega) (by omega) (by omega) ?_; intro v7 w7 own7 hg7 hat7; have AP7 := hQ (app_body own5 HC5.out HG5.out hlt1 hBc own7 hg7); clear own7 hg7 hat7)
        obtain ⟨q, hq⟩ : ∃ q, q = qre ++ xs := ⟨_, rfl⟩
        rw [← hq] at AP7
        have HQ7 : Hid (∀ x ∈ q, ViP np prm sl x) := hQ (by rw [hq]; exact all_app HQ.out HXS.out)
        have hql7 : q.length + 6 * (m - 1) ≤ 99 := by
         have : q.length = qre.length + xs.length := by rw [hq, List.length_append]
         omega
        obtain ⟨own7, c7, g7⟩ := AP7.out
        have HC7 := hQ c7
        have HG7 := hQ g7
        clear c7 g7 AP7 hq HR HXS HQ hxl hql own5 HC5 HG5 hsz5 hszw
        go_wp2_with fail
        refine (next_d _ _ _ _ _ _ _ (9) _ HC7.out (by omega) (by omega)).mono ?_
        rintro e w8 ⟨d, p8, hd, rfl, c8, g8⟩
        have HC8 := hQ c8
        have HG8 := hQ (grownBy_trans HG7.out g8)
        have own8 := own_draw own7 g8 hlt1
        have hd0 : (0 : Int) ≤ (d : Int) := by omega
        have hd1 : (d : Int) < max (9) 1 := by omega
        have hsz8 : W1.heap.size ≤ w8.heap.size := HG8.out.size
        clear c8 g8 own7 HC7 HG7
        by_cases hd7 : (d : Int) = 7
        · have hb7 : ((d : Int) == 7) = true := by simpa using hd7
          go_wp2_with fail
          refine (next_d _ _ _ _ _ _ _ (4) _ HC8.out (by omega) (by omega)).mono ?_
          rintro e w9 ⟨u, p9, hu, rfl, c9, g9⟩
          have HC9 := hQ c9
          have HG9 := hQ (grownBy_trans HG8.out g9)
          have own9 := own_draw own8 g9 hlt1
          have hu0 : (0 : Int) ≤ (u : Int) := by omega
          have hu1 : (u : Int) < max (4) 1 := by omega
          have hsz9 : W1.heap.size ≤ w9.heap.size := HG9.out.size
          clear c9 g9 own8 HC8 HG8
          have HVI : Hid (ViP np prm sl ⟨21, (u : Int), -1, 0, 0⟩) := hQ (.branch _ (by omega) (by omega))
          go_wp2_with (at_builtin; refine wpList_append_any _ rfl (.tmp 59) (.tmp 63) _ rfl W1.heap.size 50 i0 _ 5 40 Tryz.underlying51 hi0 hz0 hz1 hz2 rfl (by omega) _ (q).length (inV q) rfl (own9.alloc _) (w9.heap.size + 1) (some ⟨w9.heap.size, 0, none⟩) 1 1 [Value.int .i64 21, Value.int .i64 (u : Int), Value.int .i64 (-1), Value.int .i64 0, Value.int .u64 0] rfl (reads_new rfl) (by simp [Value.oneCell']) (by unfold maxLen; omega) (by omega) (by simp; omega) ?_; intro v10 w10 own10 hg10 hat10; have AP10 := hQ (app_code (x := ⟨21, (u : Int), (-1), 0, 0⟩) own9 HC9.out HG9.out hlt1 hBc own10 hg10); clear own10 hg10 hat10)
          go_roundw
          case rel => exact ⟨m - 1, p9, q ++ [⟨21, (u : Int), -1, 0, 0⟩], (by congr 1; omega), by omega, by simp; omega, hQ (all_snoc HQ7.out HVI.out), AP10.out.1, hQ AP10.out.2.1, hQ AP10.out.2.2⟩
          case measure => simp [intOf]; omega
        · have hb7 : ((d : Int) == 7) = false := by simpa using hd7
          by_cases hd8 : (d : Int) = 8
          · have hb8 : ((d : Int) == 8) = true := by simpa using hd8
            go_wp2_with fail
            refine (next_d _ _ _ _ _ _ _ (3) _ HC8.out (by omega) (by omega)).mono ?_
            rintro e w9 ⟨u, p9, hu, rfl, c9, g9⟩
            have HC9 := hQ c9
            have HG9 := hQ (grownBy_trans HG8.out g9)
            have own9 := own_draw own8 g9 hlt1
            have hu0 : (0 : Int) ≤ (u : Int) := by omega
            have hu1 : (u : Int) < max (3) 1 := by omega
            have hsz9 : W1.heap.size ≤ w9.heap.size := HG9.out.size
            clear c9 g9 own8 HC8 HG8
            by_cases hu2 : (u : Int) = 2
            · have hb2 : ((u : Int) == 2) = true := by simpa using hu2
              have HVI : Hid (ViP np prm sl ⟨20, -1, 0, 0, 0⟩) := hQ .jump
              go_wp2_with (at_builtin; refine wpList_append_any _ rfl (.tmp 70) (.tmp 72) _ rfl W1.heap.size 50 i0 _ 5 40 Tryz.underlying51 hi0 hz0 hz1 hz2 rfl (by omega) _ (q).length (inV q) rfl (own9.alloc _) (w9.heap.size + 1) (some ⟨w9.heap.size, 0, none⟩) 1 1 [Value.int .i64 20, Value.int .i64 (-1), Value.int .i64 0, Value.int .i64 0, Value.int .u64 0] rfl (reads_new rfl) (by simp [Value.oneCell']) (by unfold maxLen; omega) (by omega) (by simp; omega) ?_; intro v10 w10 own10 hg10 hat10; have AP10 := hQ (app_code (x := ⟨20, (-1), 0, 0, 0⟩) own9 HC9.out HG9.out hlt1 hBc own10 hg10); clear own10 hg10 hat10)
              go_roundw
              case rel => exact ⟨m - 1, p9, q ++ [⟨20, -1, 0, 0, 0⟩], (by congr 1; omega), by omega, by simp; omega, hQ (all_snoc HQ7.out HVI.out), AP10.out.1, hQ AP10.out.2.1, hQ AP10.out.2.2⟩
              case measure => simp [intOf]; omega
            · have hb2 : ((u : Int) == 2) = false := by simpa using hu2
              go_wp2
              go_roundw
              case rel => exact ⟨m - 1, p9, q, (by congr 1; omega), by omega, by omega, HQ7, own9, HC9, HG9⟩
              case measure => simp [intOf]; omega
          · have hb8 : ((d : Int) == 8) = false := by simpa using hd8
            go_wp2
            go_roundw
            case rel => exact ⟨m - 1, p8, q, (by congr 1; omega), by omega, by omega, HQ7, own8, HC8, HG8⟩
            case measure => simp [intOf]; omega
end Go.Proofs.YtcnndoefgjbmiaaGreat.pm
namespace Go.Proofs.YtcnndoefgjbmiaaGreat.pm
open Go.RowKit
def PrgD (B cb : Nat) (A : Option Addr) (n c : Nat) (l : List Nat) (most : Nat) (w : World) (e : Ending) (w' : World) : Prop :=
 ∃ (p : List Fn) (Ap : Option Addr) (cp p' : Nat), e = .returned (.agg #[.slice Ap p.length cp]) ∧ PrOk most p ∧ p.length ≤ cp ∧ Fx w' w.heap.size w'.heap.size Ap p ∧ CodesAt w' B cb A n c l p' ∧ w.grownBy w' (some cb)
theorem Blk.one {w : World} {g : Nat} {t : TypeId} {a : Value} (h : Blk w g t #[a]) : w.cell? ⟨g, 0, none⟩ = some a ∧ w.frozen? ⟨g, 0, none⟩ = false ∧ g < w.heap.size := ⟨Blk.cell h 0, Blk.frozen h 0, Blk.lt h⟩
theorem getD_snoc {ps : List Int} {v : Int} {j : Nat} : (ps ++ [v]).getD j 0 = if j < ps.length then ps.getD j 0 else if j = ps.length then v else 0 := by
 rw [List.getD_eq_getElem?_getD]
 by_cases h : j < ps.length
 · rw [if_pos h, List.getElem?_append_left h, List.getD_eq_getElem?_getD]
 · rw [if_neg h, List.getElem?_append_right (by omega)]
   by_cases h2 : j = ps.length
   · subst h2; simp
   · rw [if_neg h2, List.getElem?_eq_none (by simp; omega)]; rfl
def PsOk (ps : List Int) : Prop := 1 ≤ ps.length ∧ ps.getD 0 0 = 0 ∧ ∀ j, j < ps.length → 0 ≤ ps.getD j 0 ∧ ps.getD j 0 ≤ 3
theorem PsOk.one : PsOk [0] := ⟨by simp, rfl, fun j hj => by
 have : j = 0 := by simpa using hj
 subst this; simp⟩
theorem PsOk.snoc {ps : List Int} (h : PsOk ps) {v : Int} (h0 : 0 ≤ v) (h3 : v ≤ 3) : PsOk (ps ++ [v]) := by
 refine ⟨by simp, by rw [getD_snoc, if_pos (by have := h.1; omega)]; exact h.2.1, fun j hj => ?_⟩
 rw [getD_snoc]
 split
 · exact h.2.2 j ‹_›
 · rw [if_pos (by simp at hj; omega)]; exact ⟨h0, h3⟩
def FsOk (np : Nat) (ps : List Int) (pre : List Fn) : Prop := ∀ j, j < pre.length → FnOk np (pre.getD j Fn.z) ∧ (pre.getD j Fn.z).params = ps.getD j 0
theorem FsOk.snoc {np : Nat} {ps : List Int} {pre : List Fn} (h : FsOk np ps pre) {f : Fn} (hf : FnOk np f) (he : f.params = ps.getD pre.length 0) : FsOk np ps (pre ++ [f]) := fun j hj => by
 rw [List.length_append] at hj
 rcases Nat.lt_or_ge j pre.length with hlt | hge
 · have e : (pre ++ [f]).getD j Fn.z = pre.getD j Fn.z := by rw [List.getD_eq_getElem?_getD, List.getD_eq_getElem?_getD, List.getElem?_append_left hlt]
   rw [e]; exact h j hlt
 · obtain rfl : j = pre.length := by simp at hj; omega
   have e : (pre ++ [f]).getD pre.length Fn.z = f := by simp
   rw [e]; exact ⟨hf, he⟩
theorem pr_ok {most : Nat} {ps : List Int} {pre : List Fn} (h : FsOk ps.length ps pre) (hl : pre.length = ps.length) (hp : PsOk ps) (hm : ps.length ≤ most) : PrOk most pre := by
 refine ⟨by rw [hl]; exact hp.1, by rw [hl]; exact hm, ?_, fun f hf => ?_⟩
 · rw [(h 0 (by rw [hl]; exact hp.1)).2]; exact hp.2.1
 · obtain ⟨j, hj, rfl⟩ := List.mem_iff_getElem.1 hf
   have := (h j hj).1
   rw [List.getD_eq_getElem?_getD, List.getElem?_eq_getElem hj] at this
   rw [hl]
   simpa using this
theorem program_d (B cb : Nat) (A : Option Addr) (n c : Nat) (l : List Nat) (p : Nat) (funcs most : Nat) (w : World) (h : CodesAt w B cb A n c l p) (hf1 : 1 ≤ funcs) (hf : funcs ≤ 100) (hmost : most ≤ 12) :
 Calls Tryz.prog 22 #[.pointer (some ⟨cb, 0, none⟩), .int .i64 (funcs : Int), .int .i64 (most : Int)] w (PrgD B cb A n c l funcs w) := by
 obtain ⟨i0, hi0, hz0, hz1, hz2⟩ := info_parts info_int
 obtain ⟨i1, hi1, hy0, hy1, hy2⟩ := info_parts info_fn
 have hlt := h.1.lt
 have hB := h.2.2.2.1
 have HC := hQ h
 have hfi : (funcs : Int) ≤ 100 := by omega
 have hmi : (most : Int) ≤ 12 := by omega
 have nw : ¬ (w.heap.size = cb) := by omega
 clear h
 go_enter Tryz.func22, Tryz.ntmps22
 go_wp2_with fail
 have HKR : Hid (Blk ((w.alloc (.cells #[.slice none 0 0] 78)).alloc (.cells #[.int .i64 0] 3)) w.heap.size 78 #[.slice none 0 0]) := hQ ((Blk.new w _ _).alloc _)
 have HOW : Hid (((w.alloc (.cells #[.slice none 0 0] 78)).alloc (.cells #[.int .i64 0] 3)).ownsRow w.heap.size 3 1 (.slice (some ⟨(w.alloc (.cells #[.slice none 0 0] 78)).heap.size, 0, none⟩) 1 1) 1 [.int .i64 0]) := hQ (World.ownsRow_lit (base := w.heap.size) (e := 3) (size := 1) (w.alloc (.cells #[.slice none 0 0] 78)) #[.int .i64 0] 1 (by simp) (by unfold maxLen; omega) rfl)
 refine (next_d _ _ _ _ _ _ _ (funcs : Int) _ ((HC.out.alloc _).alloc _) (by omega) (by omega)).mono ?_
 rintro e w1 ⟨t, p1, ht, rfl, c1, g1⟩
 have HC1 := hQ c1
 have HG1 : Hid (w.grownBy w1 (some cb)) := hQ (grownBy_trans (grownBy_al (grownBy_al (World.grownBy.refl _ _) _) _) g1)
 have HKR1 := hQ (HKR.out.grown g1 (some_ne nw))
 have HOW1 : Hid (w1.ownsRow w.heap.size 3 1 (.slice (some ⟨w.heap.size + 1, 0, none⟩) 1 1) 1 ([(0 : Int)].map (Value.int .i64))) := hQ (by have := own_draw HOW.out g1 hlt; simpa using this)
 have htf : t < funcs := by omega
 clear c1 g1 HKR HOW HC ht
 go_wp2
 go_loopw [7, 8] (fun o x wr => ∃ (k p1 : Nat) (ps : List Int), x = .int .i64 k ∧ k ≤ 100 ∧ Hid (ps.length + k ≤ funcs) ∧ Hid (PsOk ps) ∧ wr.ownsRow w.heap.size 3 1 o ps.length (ps.map (Value.int .i64)) ∧ Hid (CodesAt wr B cb A n c l p1) ∧ Hid (w.grownBy wr (some cb)) ∧ Hid (Blk wr w.heap.size 78 #[.slice none 0 0])) (fun _ x _ => (intOf x).toNat)
 case atStart => exact ⟨t, p1, [0], rfl, by omega, hQ (by simp; omega), hQ PsOk.one, HOW1.out, HC1, HG1, HKR1⟩
 case round =>
  clear HC1 HG1 HKR1 HOW1
  obtain ⟨k, p2, ps, rfl, hk, HL, HP, own, HCW, HGW, HKW⟩ := hrel
  have hpl : ps.length ≤ 100 := by have := HL.out; omega
  have hk0 : (0 : Int) ≤ (k : Int) := by omega
  have hk1 : (k : Int) ≤ 100 := by omega
  have hszw : w.heap.size ≤ wr.heap.size := HGW.out.size
  rcases Nat.eq_zero_or_pos k with hkz | hpos
  · have hkle : ¬ (0 < k) := by omega
    have HLE : Hid (ps.length ≤ funcs) := hQ (by have := HL.out; omega)
    have hp1 : 1 ≤ ps.length := HP.out.1
    obtain ⟨pg, pc, hform, hpb, hpgl⟩ := own.form (by omega)
    subst hform
    have HOP := hQ own
    have hpli : (ps.length : Int) ≤ 100 := by omega
    have hltw : cb < wr.heap.size := by omega
    obtain ⟨W1, hW1⟩ : ∃ W1, W1 = wr := ⟨_, rfl⟩
    subst hW1
    have nW1 : ¬ (W1.heap.size = cb) := by omega
    obtain ⟨np, hnp⟩ : ∃ np, np = ps.length := ⟨_, rfl⟩
    have HNP := hQ hnp
    rw [← hnp] at HOP hp1 hpli
    rw [← hnp]
    clear own HL hpl hk hk0 hk1 hnp hkz
    go_wp2
    go_loopw [10] (fun x wr => ∃ (k p1 : Nat) (pre : List Fn) (Af : Option Addr) (cf : Nat) (vs : List Value), x = .int .i64 k ∧ k ≤ np ∧ Hid (pre.length = k) ∧ Hid (Blk wr W1.heap.size 78 #[.slice Af k cf]) ∧ Hid (wr.ownsRow W1.heap.size 97 3 (.slice Af k cf) k vs) ∧ Hid (Vx wr (W1.heap.size + 1) wr.heap.size vs pre) ∧ Hid (FsOk np ps pre) ∧ Hid (CodesAt wr B cb A n c l p1) ∧ Hid (W1.grownBy wr (some cb))) (fun x _ => np - (intOf x).toNat)
    case atStart => exact ⟨0, p2, [], none, 0, [], rfl, by omega, hQ rfl, hQ (Blk.new _ _ _), hQ (World.ownsRow_nil _ _ _ _), hQ (Vx.nil _ _ _), hQ (fun j hj => by simp at hj), hQ (HCW.out.alloc _), hQ (grownBy_al (World.grownBy.refl _ _) _)⟩
    case round =>
     obtain ⟨k, p3, pre, Af, cf, vs, rfl, hk, HPL, HKP, HOF, HVX, HFS, HCw, HGw⟩ := hrel
     have hk0 : (0 : Int) ≤ (k : Int) := by omega
     have hszr : W1.heap.size ≤ wr.heap.size := HGw.out.size
     obtain ⟨q0, q1, q2⟩ := Blk.one HKP.out
     by_cases hkl : k < np
     · have hki : (k : Int) < (np : Int) := by omega
       have HVL : Hid (vs.length = pre.length * 3) := hQ (by rw [HPL.out]; exact HOF.out.1)
       have HV1 : Hid (∀ u ∈ vs, u.oneCell' = true) := hQ (Vx.one HVX.out HVL.out)
       have HNB : Hid (Value.ownBlock (.slice Af k cf) ≠ some W1.heap.size) := hQ (own_blk_ne HOF.out HKP.out (by decide))
       go_wp2_with (at_builtin; refine wpList_append_any _ rfl (.const (.slice none 0 0)) (.tmp 32) _ rfl W1.heap.size 97 i1 _ 3 56 Tryz.underlying76 hi1 hy0 hy1 hy2 rfl (by omega) _ 0 [] rfl (World.ownsRow_nil _ _ _ _) wr.heap.size Af k cf vs rfl (Reads.of_own HOF.out) HV1.out (by unfold maxLen; omega) (by omega) hszr ?_; intro v3 w3 own3 hg3 hat3)
       have HG3 : Hid (wr.grownBy w3 none) := hQ hg3
       have HO3 : Hid (w3.ownsRow W1.heap.size 97 3 v3 k vs) := hQ (by simpa using own3)
       have HK3 := hQ (HKP.out.grown HG3.out (by simp))
       have HC3 : Hid (CodesAt w3 B cb A n c l p3) := hQ (HCw.out.grown' HG3.out (by simp) (fun j e => by cases e))
       have HGG3 : Hid (W1.grownBy w3 (some cb)) := hQ (grownBy_step HGw.out HG3.out (fun j e => by cases e))
       have HVX3 : Hid (Vx w3 (W1.heap.size + 1) wr.heap.size vs pre) := hQ (HVX.out.keep (Kp.of_grownR HG3.out nL (fun j e => by cases e)))
       have HAT3 : Hid (∀ j, v3.ownBlock = some j → wr.heap.size ≤ j ∧ j < w3.heap.size) := hQ (fun j e => ⟨by rcases hat3 with h1 | h1 <;> rw [h1] at e <;> cases e <;> simp, (own3.lt j e).2⟩)
       have hsz3 : wr.heap.size ≤ w3.heap.size := hg3.size
       have hcb3 : cb < w3.heap.size := by omega
       have HOP3 : Hid (w3.ownsRow w.heap.size 3 1 (.slice (some ⟨pg, 0, none⟩) np pc) np (ps.map (Value.int .i64))) := hQ (by have := own_draw2 HOP.out HGG3.out hlt; exact this)
       clear own3 hg3 hat3 HG3 HCw HGw HKP HOF HVX q0 q1
       go_wp2_with fail
       refine (function_d B cb A n c l p3 k most (some ⟨pg, 0, none⟩) np pc ps w3 w.heap.size hlt HC3.out HOP3.out (by omega) hkl (by have := HP.out.2.2; rw [← HNP.out] at this; exact this) hmost).mono ?_
       rintro e w4 ⟨f, As, cs, Ai, ci, p4, rfl, hfp, hfo, os4, oi4, c4, g4⟩
       have HFS4 : Hid (FsOk np ps (pre ++ [f])) := hQ (HFS.out.snoc hfo (by rw [HPL.out]; exact hfp))
       have HK4 := hQ (HK3.out.grown g4 (some_ne nW1))
       have HC4 := hQ c4
       have HGG4 := hQ (grownBy_trans HGG3.out g4)
       have HO4 : Hid (w4.ownsRow W1.heap.size 97 3 v3 k vs) := hQ (own_draw2 HO3.out g4 hltw)
       have HSC := hQ (own_cap os4)
       have HIC := hQ (own_cap oi4)
       have HOS4 := hQ os4
       have HOI4 := hQ oi4
       have hsz4 : w3.heap.size ≤ w4.heap.size := g4.size
       have hwl : W1.heap.size < wr.heap.size := q2
       have HVX4 : Hid (Vx w4 (W1.heap.size + 1) wr.heap.size vs pre) := hQ (HVX3.out.keep (Kp.of_grown g4 hsz3 (.inl (by omega))))
       have hprm : f.params = ps.getD k 0 := hfp
       rw [← hprm]
       clear c4 g4 os4 oi4 hfp hfo HFS HO3 HC3 HGG3 HK3 HVX3 hprm HOP3
       go_upto_region 11 with (at_builtin; refine wpList_append_any _ rfl (.tmp 33) (.tmp 39) _ rfl W1.heap.size 97 i1 _ 3 56 Tryz.underlying76 hi1 hy0 hy1 hy2 rfl (by omega) _ k vs rfl (HO4.out.alloc _) (w4.heap.size + 1) (some ⟨w4.heap.size, 0, none⟩) 1 1 [.int .i64 f.params, .slice As f.slots.length cs, .slice Ai f.code.length ci] rfl (reads_new rfl) (by simp [Value.oneCell']) (by unfold maxLen; omega) (by omega) (by simp; omega) ?_; intro v5 w5 own5 hg5 hat5; obtain ⟨A5, c5, rfl, -⟩ := own_form own5)
       have HO5 := hQ own5
       have hn5 : ∀ j, v3.ownBlock = some j → wr.heap.size ≤ j := fun j e => (HAT3.out j e).1
       have HK5 : Hid (Blk w5 W1.heap.size 78 #[.slice Af k cf]) := hQ ((HK4.out.alloc _).grown hg5 (fun e => by have := hn5 _ e.symm; omega))
       have HC5 : Hid (CodesAt w5 B cb A n c l p4) := hQ ((HC4.out.alloc _).grown' hg5 (fun e => by have := hn5 _ e; omega) (fun j e => by have := hn5 _ e; omega))
       have HGG5 : Hid (W1.grownBy w5 (some cb)) := hQ (grownBy_step (grownBy_al HGG4.out _) hg5 (fun j e => .inl (by have := hn5 _ e; omega)))
       have hsz5 : w4.heap.size < w5.heap.size := by have := hg5.size; simp at this; omega
       have HVX5 : Hid (Vx w5 (W1.heap.size + 1) wr.heap.size vs pre) := hQ (HVX4.out.keep ((Kp.alloc (Kp.refl _ _ _) (by omega) _).trans (Kp.of_grownR hg5 (by simp; omega) (fun j e => .inr (hn5 _ e)))))
       have HS5 : Hid (Sx w5 (W1.heap.size + 1) w5.heap.size As f.slots) := hQ ((Rx.of_own ((HOS4.out.alloc _).kept hg5 (own_two' HOS4.out HO4.out (by decide)))).more (by omega) nL)
       have HI5 : Hid (Nx w5 (W1.heap.size + 1) w5.heap.size Ai f.code) := hQ ((Rx.of_own ((HOI4.out.alloc _).kept hg5 (own_two' HOI4.out HO4.out (by decide)))).more (by omega) nL)
       have HVS : Hid (Vx w5 (W1.heap.size + 1) w5.heap.size (vs ++ [.int .i64 f.params, .slice As f.slots.length cs, .slice Ai f.code.length ci]) (pre ++ [f])) := hQ (Vx.snoc (HVX5.out.more nL (by omega)) HVL.out HS5.out HI5.out HSC.out HIC.out)
       obtain ⟨q0, q1, q2'⟩ := Blk.one HK5.out
       have HNB5 : Hid (∀ j, (Value.slice A5 (k + 1) c5).ownBlock = some j → j ≠ W1.heap.size) := hQ (fun j e => by have := own_blk_ne HO5.out HK5.out (by decide); intro e2; rw [e2] at e; exact this e)
       clear own5 hg5 hat5 HK4 HC4 HGG4 HVX4 HOS4 HOI4 HVX5 HS5 HI5 HSC HIC HO4 hn5 HAT3
       go_wp2
       go_roundw
       case rel => exact ⟨k + 1, p4, pre ++ [f], A5, c5, vs ++ [.int .i64 f.params, .slice As f.slots.length cs, .slice Ai f.code.length ci], by go_num, by omega, hQ (by rw [List.length_append, HPL.out]; rfl), hQ (Blk.set_ HK5.out 0 _), hQ (own_miss HO5.out _ HNB5.out _), hQ ((HVS.out.keep (Kp.set (Kp.refl _ _ _) (p := ⟨W1.heap.size, 0, none⟩) (.inl (Nat.lt_succ_self _)) _)).more nL (by simp)), HFS4, hQ (HC5.out.set (show cb ≠ W1.heap.size by omega) (show B ≤ W1.heap.size by omega) _), hQ (grownBy_set HGG5.out nL _)⟩
       case measure => simp [intOf]; omega
     · obtain rfl : k = np := by omega
       have HKR := hQ (HKW.out.grown HGw.out (some_ne nw))
       obtain ⟨r0, r1, r2⟩ := Blk.one HKR.out
       have hw1 : w.heap.size < W1.heap.size := HKW.out.lt
       have HPR : Hid (PrOk funcs pre) := hQ (pr_ok (by rw [← HNP.out]; exact HFS.out) (by rw [HPL.out, HNP.out]) HP.out HLE.out)
       have HFX : Hid (Fx wr W1.heap.size wr.heap.size Af pre) := hQ ⟨vs, by rw [HPL.out]; exact Rx.of_own HOF.out, HVX.out.more (Nat.le_succ _) nL⟩
       go_wp2
       refine bodyPost_ret (v := .agg #[.slice Af k cf]) (by simp [results, Tryz.results22, go_sem, r0]) rfl ?_
       refine ⟨pre, Af, cf, p3, ?_, HPR.out, ?_, ?_, ?_, ?_⟩
       · rw [HPL.out]
       · rw [HPL.out]; exact (own_cap HOF.out).2
       · exact (HFX.out.keep (Kp.set (Kp.refl _ _ _) (p := ⟨w.heap.size, 0, none⟩) (.inl hw1) _)).more (by omega) (by simp)
       · exact HCw.out.set (show cb ≠ w.heap.size by omega) (show B ≤ w.heap.size by omega) _
       · exact grownBy_set (grownBy_trans HGW.out HGw.out) nL _
  · have hpi : (0 : Int) < (k : Int) := by omega
    go_wp2_with fail
    refine (next_d _ _ _ _ _ _ _ (4 : Int) _ HCW.out (by omega) (by omega)).mono ?_
    rintro e w3 ⟨v, p3, hv, rfl, c3, g3⟩
    have HC3 := hQ c3
    have HG3 := hQ (grownBy_trans HGW.out g3)
    have own3 := own_draw own g3 hlt
    have HK3 := hQ (HKW.out.grown g3 (some_ne nw))
    have hsz3 : w.heap.size ≤ w3.heap.size := HG3.out.size
    have HP3 : Hid (PsOk (ps ++ [(v : Int)])) := hQ (HP.out.snoc (by omega) (by omega))
    have HLT3 := hQ (fun j (e : Value.ownBlock _ = some j) => ((own3.alloc (.cells #[Value.int .i64 (v : Int)] 3)).lt j e).1)
    clear c3 g3 own HCW HGW HKW HP hv
    go_wp2_with (at_builtin; refine wpList_append_any _ rfl (.tmp 20) (.tmp 23) _ rfl w.heap.size 3 i0 _ 1 8 Tryz.underlying86 hi0 hz0 hz1 hz2 rfl (by omega) _ ps.length (ps.map (Value.int .i64)) rfl (own3.alloc _) (w3.heap.size + 1) (some ⟨w3.heap.size, 0, none⟩) 1 1 [Value.int .i64 (v : Int)] rfl (reads_new rfl) (by simp [Value.oneCell']) (by unfold maxLen; omega) (by omega) (by simp; omega) ?_; intro v4 w4 own4 hg4 hat4)
    have HN4 := hQ (own_ne_codes (own3.alloc (.cells #[Value.int .i64 (v : Int)] 3)) hlt)
    have HNK := hQ (own_blk_ne (own3.alloc (.cells #[Value.int .i64 (v : Int)] 3)) (HK3.out.alloc _) (by decide))
    go_roundw
    case rel => exact ⟨k - 1, p3, ps ++ [(v : Int)], (by congr 1; omega), by omega, hQ (by have := HL.out; simp; omega), HP3, by rw [List.length_append, List.map_append]; exact own4, hQ ((HC3.out.alloc _).grown' hg4 HN4.out (fun j e => by have := HLT3.out j e; omega)), hQ (grownBy_step (grownBy_al HG3.out _) hg4 (fun j e => .inl (HLT3.out j e))), hQ ((HK3.out.alloc _).grown hg4 (Ne.symm HNK.out))⟩
    case measure => simp [intOf]; omega
end Go.Proofs.YtcnndoefgjbmiaaGreat.pm
