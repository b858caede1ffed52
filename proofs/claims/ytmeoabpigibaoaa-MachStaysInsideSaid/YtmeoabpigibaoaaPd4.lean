/- The draw function: a function of a program. -/
import Derived.Test.YtmeoabpigibaoaaPd3
namespace Go.Proofs.Ytmeoabpigibaoaa.pm
open Go.RowKit
set_option linter.unusedVariables false
set_option maxRecDepth 10000
attribute [local go_sem ↓] Go.wp_at_zero Go.wp_at_succ

theorem flat_set {α : Type} {f : α → List Value} {d : Nat} (hf : ∀ x, (f x).length = d) {j : Nat} {v : Value} {g : α → α} (hj : j < d) (hg : ∀ x, (f x).set j v = f (g x)) (z : α) : ∀ (l : List α) (k : Nat), k < l.length → (l.flatMap f).set (k * d + j) v = (l.set k (g (l.getD k z))).flatMap f
  | [], k, h => by simp at h
  | x :: r, 0, _ => by
    rw [List.flatMap_cons, show 0 * d + j = j by omega, List.set_append_left _ _ (by rw [hf]; exact hj), hg]
    simp
  | x :: r, k + 1, h => by
    rw [List.flatMap_cons, List.set_append_right _ _ (by rw [hf, Nat.succ_mul]; omega), hf, show (k + 1) * d + j - d = k * d + j by rw [Nat.succ_mul]; omega, flat_set hf hj hg z r k (by simpa using h)]
    simp
def setA (tg : Int) (x : Ins) : Ins := ⟨x.op, tg, x.b, x.c, x.imm⟩
def setB (tg : Int) (x : Ins) : Ins := ⟨x.op, x.a, tg, x.c, x.imm⟩
theorem inV_setA (l : List Ins) (k : Nat) (tg : Int) (h : k < l.length) : (inV l).set (k * 5 + 1) (.int .i64 tg) = inV (l.set k (setA tg (l.getD k Ins.z))) := flat_set (g := setA tg) icells_len (by omega) (fun x => rfl) Ins.z l k h
theorem inV_setB (l : List Ins) (k : Nat) (tg : Int) (h : k < l.length) : (inV l).set (k * 5 + 2) (.int .i64 tg) = inV (l.set k (setB tg (l.getD k Ins.z))) := flat_set (g := setB tg) icells_len (by omega) (fun x => rfl) Ins.z l k h
theorem vi0_op {nf : Nat} {prm : Int} {sl : List (Int × Int)} {x : Ins} (h : Vi0 nf prm sl x) : x.op ≠ 20 ∧ x.op ≠ 21 ∧ (0 ≤ x.op ∧ x.op < 25) := by
  cases h <;> simp <;> omega
/-- code before the targets are drawn -/
theorem viP_fix {nf : Nat} {prm : Int} {sl : List (Int × Int)} {x : Ins} {nc : Nat} {tg : Int} (h : ViP nf prm sl x) (t0 : 0 ≤ tg) (t1 : tg < nc) :
    (x.op = 20 → x.a < 0 → Vi nf prm sl nc (setA tg x)) ∧ (x.op = 20 → x.a < 0) ∧ (x.op = 21 → x.b < 0 → Vi nf prm sl nc (setB tg x)) ∧ (x.op = 21 → x.b < 0) ∧ (x.op ≠ 20 → x.op ≠ 21 → Vi nf prm sl nc x) := by
  rcases h with ⟨_, h⟩ | _ | ⟨a, h0, h1⟩
  · have := vi0_op h
    exact ⟨fun e => absurd e this.1, fun e => absurd e this.1, fun e => absurd e this.2.1, fun e => absurd e this.2.1, fun _ _ => .plain _ h⟩
  · exact ⟨fun _ _ => .jump _ t0 t1, fun _ => (by show (-1 : Int) < 0; omega), fun e => (by cases e), fun e => (by cases e), fun e => absurd rfl e⟩
  · exact ⟨fun e => (by cases e), fun e => (by cases e), fun _ _ => .branch _ _ h0 h1 t0 t1, fun _ => (by show (-1 : Int) < 0; omega), fun _ e => absurd rfl e⟩
/-- what an append of one instruction leaves -/
theorem app_code {W1 W w' : World} {cb B n c p : Nat} {A : Option Addr} {l : List Nat} {o v : Value} {pre : List Ins} {x : Ins} (own : W.ownsRow W1.heap.size 42 5 o pre.length (inV pre)) (hc : CodesAt W B cb A n c l p) (hg : W1.grownBy W (some cb)) (hlt : cb < W1.heap.size) (hB : B ≤ cb)
    (own' : w'.ownsRow W1.heap.size 42 5 v (pre.length + 1) (inV pre ++ icells x)) (hg' : (W.alloc (.cells #[Value.int .i64 x.op, Value.int .i64 x.a, Value.int .i64 x.b, Value.int .i64 x.c, Value.int .u64 x.imm] 42)).grownBy w' o.ownBlock) :
    w'.ownsRow W1.heap.size 42 5 v (pre ++ [x]).length (inV (pre ++ [x])) ∧ CodesAt w' B cb A n c l p ∧ W1.grownBy w' (some cb) := by
  have hl := fun j (e : o.ownBlock = some j) => (own.lt j e).1
  refine ⟨by rw [inV_app, List.length_append]; exact own', (hc.alloc _).grown' hg' (fun e => by have := hl cb e; omega) (fun j e => by have := hl j e; omega), grownBy_step (grownBy_al hg _) hg' (fun j e => .inl (hl j e))⟩
/-- what an append of instructions that were drawn leaves -/
theorem app_body {W1 W w' : World} {cb B n c p : Nat} {A : Option Addr} {l : List Nat} {o v : Value} {pre xs : List Ins} (own : W.ownsRow W1.heap.size 42 5 o pre.length (inV pre)) (hc : CodesAt W B cb A n c l p) (hg : W1.grownBy W (some cb)) (hlt : cb < W1.heap.size) (hB : B ≤ cb)
    (own' : w'.ownsRow W1.heap.size 42 5 v (pre.length + xs.length) (inV pre ++ inV xs)) (hg' : W.grownBy w' o.ownBlock) :
    w'.ownsRow W1.heap.size 42 5 v (pre ++ xs).length (inV (pre ++ xs)) ∧ CodesAt w' B cb A n c l p ∧ W1.grownBy w' (some cb) := by
  have hl := fun j (e : o.ownBlock = some j) => (own.lt j e).1
  exact ⟨by rw [inV_app, List.length_append]; exact own', hc.grown' hg' (fun e => by have := hl cb e; omega) (fun j e => by have := hl j e; omega), grownBy_step hg hg' (fun j e => .inl (hl j e))⟩
theorem own_far {w : World} {base n c : Nat} {e : TypeId} {size : Nat} {A : Option Addr} {xs : List Value} (h : w.ownsRow base e size (.slice A n c) n xs) (p : Addr) (hp : p.block < base) (u : Value) : (w.setCell p u).ownsRow base e size (.slice A n c) n xs := by
  refine ⟨h.1, ?_⟩
  rcases h.2 with h1 | ⟨g, cap, cur, h1, h2, h3, r⟩
  · exact .inl h1
  · refine .inr ⟨g, cap, cur, h1, h2, ?_, r⟩
    exact (Below.heap_setCell w p u g (by omega)).trans h3
theorem all_snoc {α : Type} {P : α → Prop} {l : List α} {x : α} (h : ∀ y ∈ l, P y) (hx : P x) : ∀ y ∈ l ++ [x], P y := fun y hy => by
  rcases List.mem_append.1 hy with h1 | h1
  · exact h y h1
  · simp at h1; subst h1; exact hx
theorem all_app {α : Type} {P : α → Prop} {l m : List α} (h : ∀ y ∈ l, P y) (hx : ∀ y ∈ m, P y) : ∀ y ∈ l ++ m, P y := fun y hy => by
  rcases List.mem_append.1 hy with h1 | h1
  · exact h y h1
  · exact hx y h1
theorem own_miss {w : World} {base n : Nat} {e : TypeId} {size : Nat} {v : Value} {xs : List Value} (h : w.ownsRow base e size v n xs) (p : Addr) (hp : ∀ j, v.ownBlock = some j → j ≠ p.block) (u : Value) : (w.setCell p u).ownsRow base e size v n xs := by
  refine ⟨h.1, ?_⟩
  rcases h.2 with h1 | ⟨g, cap, cur, rfl, h2, h3, r⟩
  · exact .inl h1
  · refine .inr ⟨g, cap, cur, rfl, h2, ?_, r⟩
    exact (Below.heap_setCell w p u g (hp g rfl)).trans h3
theorem own_ins_at {w : World} {base g N cap : Nat} {cur : List Ins} {k : Nat} (h : w.ownsRow base 42 5 (.slice (some ⟨g, 0, none⟩) N cap) N (inV cur)) (hk : k < N) :
    w.cell? ⟨g, k * 5, none⟩ = some (.int .i64 (cur.getD k Ins.z).op) ∧ w.cell? ⟨g, k * 5 + 1, none⟩ = some (.int .i64 (cur.getD k Ins.z).a) ∧ w.cell? ⟨g, k * 5 + 2, none⟩ = some (.int .i64 (cur.getD k Ins.z).b) := by
  have hl : cur.length = N := by have := h.1; rw [inV_len] at this; omega
  have g0 : ∀ j, j < 5 → (inV cur)[k * 5 + j]? = (icells (cur.getD k Ins.z))[j]? := fun j hj => flat_get icells_len Ins.z cur k j (by omega) hj
  exact ⟨(h.cellAt (k * 5) (by omega)).trans (by simpa [icells] using g0 0 (by omega)), (h.cellAt (k * 5 + 1) (by omega)).trans (by simpa [icells] using g0 1 (by omega)), (h.cellAt (k * 5 + 2) (by omega)).trans (by simpa [icells] using g0 2 (by omega))⟩
theorem getD_set_same {cur : List Ins} {k : Nat} {y : Ins} (h : k < cur.length) : (cur.set k y).getD k Ins.z = y := by simp [List.getD_eq_getElem?_getD, h]
theorem getD_set_ne {cur : List Ins} {k j : Nat} {y : Ins} (h : j ≠ k) : (cur.set k y).getD j Ins.z = cur.getD j Ins.z := by
  rw [List.getD_eq_getElem?_getD, List.getD_eq_getElem?_getD, List.getElem?_set_ne (Ne.symm h)]
/-- one instruction is mended -/
theorem set_round {P Q : Ins → Prop} {cur : List Ins} {k N : Nat} {y : Ins} (hl : cur.length = N) (hk : k < N) (hd : ∀ j, j < k → P (cur.getD j Ins.z)) (ht : ∀ j, k ≤ j → j < N → Q (cur.getD j Ins.z)) (hy : P y)
    (hz : (cur.getD (N - 1) Ins.z).op ∈ [(23 : Int), 24]) (hne : (cur.getD k Ins.z).op ∉ [(23 : Int), 24]) :
    (cur.set k y).length = N ∧ (∀ j, j < k + 1 → P ((cur.set k y).getD j Ins.z)) ∧ (∀ j, k + 1 ≤ j → j < N → Q ((cur.set k y).getD j Ins.z)) ∧ ((cur.set k y).getD (N - 1) Ins.z).op ∈ [(23 : Int), 24] := by
  refine ⟨by simpa using hl, fun j hj => ?_, fun j h1 h2 => ?_, ?_⟩
  · by_cases e : j = k
    · subst e; rw [getD_set_same (by omega)]; exact hy
    · rw [getD_set_ne e]; exact hd j (by omega)
  · rw [getD_set_ne (by omega)]; exact ht j (by omega) h2
  · by_cases e : N - 1 = k
    · rw [e] at hz; exact absurd hz hne
    · rw [getD_set_ne e]; exact hz
theorem fn_ok {nf : Nat} {prm : Int} {sl : List (Int × Int)} {cur : List Ins} {N : Nat} (r0 : 0 ≤ prm) (r1 : prm ≤ 3) (hs : sl.length ≤ 6 ∧ ∀ s ∈ sl, SlotOk s) (h1 : 1 ≤ N) (h2 : (N : Int) ≤ 101) (hl : cur.length = N) (hd : ∀ j, j < N → Vi nf prm sl N (cur.getD j Ins.z)) (hz : (cur.getD (N - 1) Ins.z).op ∈ [(23 : Int), 24]) :
    FnOk nf ⟨prm, sl, cur⟩ := by
  subst hl
  refine ⟨r0, r1, hs.1, hs.2, h1, (by show cur.length ≤ 200; omega), fun x hx => ?_, hz⟩
  obtain ⟨j, hj, rfl⟩ := List.mem_iff_getElem.1 hx
  have := hd j hj
  rw [List.getD_eq_getElem?_getD, List.getElem?_eq_getElem hj] at this
  simpa using this
/-- what function draws -/
def FnD (B cb : Nat) (A : Option Addr) (n c : Nat) (l : List Nat) (nf : Nat) (prm : Int) (w : World) (e : Ending) (w' : World) : Prop :=
  ∃ (f : Fn) (As : Option Addr) (cs : Nat) (Ai : Option Addr) (ci p' : Nat), e = .returned (.agg #[.int .i64 prm, .slice As f.slots.length cs, .slice Ai f.code.length ci]) ∧ f.params = prm ∧ FnOk nf f ∧
    w'.ownsRow w.heap.size 88 2 (.slice As f.slots.length cs) f.slots.length (slV f.slots) ∧ w'.ownsRow w.heap.size 42 5 (.slice Ai f.code.length ci) f.code.length (inV f.code) ∧ CodesAt w' B cb A n c l p' ∧ w.grownBy w' (some cb)
set_option maxHeartbeats 8000000 in
theorem function_d (B cb : Nat) (A : Option Addr) (n c : Nat) (l : List Nat) (p : Nat) (i most : Nat) (Ap : Option Addr) (np cp : Nat) (ps : List Int) (w : World) (b0 : Nat) (hb0 : cb < b0) (h : CodesAt w B cb A n c l p) (hp : w.ownsRow b0 3 1 (.slice Ap np cp) np (ps.map (Value.int .i64))) (hnp : np ≤ 100) (hin : i < np) (hps : ∀ k, k < np → 0 ≤ ps.getD k 0 ∧ ps.getD k 0 ≤ 3) (hmost : most ≤ 12) :
    Calls Try.prog 27 #[.pointer (some ⟨cb, 0, none⟩), .int .i64 (i : Int), .slice Ap np cp, .int .i64 (most : Int)] w (FnD B cb A n c l np (ps.getD i 0) w) := by
  obtain ⟨i0, hi0, hz0, hz1, hz2⟩ := info_parts info_ins
  have hlt := h.1.lt
  have hB := h.2.2.2.1
  obtain ⟨pb, cpp, hpf, -, hpb⟩ := hp.form (by omega)
  obtain ⟨rfl, rfl⟩ : Ap = some ⟨pb, 0, none⟩ ∧ cp = cpp := by injection hpf; exact ⟨by assumption, by assumption⟩
  have hprm := hps i hin
  have HPS := Lib.hid hps
  have hcell := own_int_at hp hin
  have HPO : Hid (∀ W, w.grownBy W (some cb) → W.ownsRow b0 3 1 (.slice (some ⟨pb, 0, none⟩) np cp) np (ps.map (Value.int .i64))) := Lib.hid (fun W hg => own_draw2 hp hg hb0)
  have npc : ¬ (pb = cb) := by have := (hp.lt pb rfl).1; omega
  have HC := Lib.hid h
  have hii : (i : Int) < (np : Int) := by omega
  have hi00 : (0 : Int) ≤ (i : Int) := by omega
  have hmi : (most : Int) ≤ 12 := by omega
  obtain ⟨prm, hpm⟩ : ∃ prm, prm = ps.getD i 0 := ⟨_, rfl⟩
  rw [← hpm] at hcell hprm ⊢
  obtain ⟨r0, r1⟩ := hprm
  clear h hp hps hpf hpm
  have nw : ¬ (w.heap.size = cb) := by omega
  have nw2 : ¬ (w.heap.size + 1 = cb) := by omega
  go_enter Try.func27, Try.ntmps27
  go_upto_region 1 with (fail)
  go_cut [9] (fun s9 wx => ∃ (gf : Nat) (As : Option Addr) (cs : Nat) (sl : List (Int × Int)) (p1 : Nat), s9 = .pointer (some ⟨gf, 0, none⟩) ∧ Hid (w.heap.size < gf) ∧ Hid (Blk wx w.heap.size 70 #[.int .i64 0, .slice none 0 0, .slice none 0 0]) ∧ Hid (Blk wx gf 70 #[.int .i64 prm, .slice As sl.length cs, .slice none 0 0]) ∧ Hid (wx.ownsRow w.heap.size 88 2 (.slice As sl.length cs) sl.length (slV sl)) ∧ Hid (sl.length ≤ 6 ∧ ∀ s ∈ sl, SlotOk s) ∧ Hid (CodesAt wx B cb A n c l p1) ∧ Hid (w.grownBy wx (some cb)))
  case first =>
    go_region_with (first
      | (go_at_call 41; refine Calls.mono (slots_d B cb A n c l p 6 _ ?_ (by omega)) ?_; (with_reducible first | exact CodesAt.dr (CodesAt.alloc HC.out _) | exact CodesAt.dr (CodesAt.alloc (CodesAt.alloc HC.out _) _)); rintro e w3 ⟨rs, sl, p3, rfl, hsl, hso, own3, c3, g3⟩; obtain ⟨hc3, hf3⟩ := gcell g3; have zz3 := g3.size; (try simp at zz3); have HSL := Lib.hid (And.intro hsl hso); have HC3 := Lib.hid c3; obtain ⟨As, cs, rfl, -⟩ := own_form own3; have OWN3 : Hid (w3.ownsRow w.heap.size 88 2 (.slice As sl.length cs) sl.length (slV sl)) := Lib.hid (own_base own3 (by simp; try omega)); have HG3 : Hid (w.grownBy w3 (some cb)) := Lib.hid (by with_reducible first | exact grownBy_trans (grownBy_dr (grownBy_al (World.grownBy.refl _ _) _)) g3 | exact grownBy_trans (grownBy_dr (grownBy_al (grownBy_al (World.grownBy.refl _ _) _) _)) g3); have KR3 : Hid (Blk w3 w.heap.size 70 #[.int .i64 0, .slice none 0 0, .slice none 0 0]) := Lib.hid (by with_reducible first | exact Blk.grown (Blk.drew (Blk.new w _ _)) g3 (some_ne nw) | exact Blk.grown (Blk.drew (Blk.alloc (Blk.new w _ _) _)) g3 (some_ne nw)); have hz3 : w.heap.size < w3.heap.size := (by omega); have hpb3 : pb < w3.heap.size := (by omega); (first | have KB3 : Hid (Blk w3 (w.heap.size + 1) 70 #[.int .i64 0, .slice none 0 0, .slice none 0 0] ∧ w3.ownsRow (w.heap.size + 2) 88 2 (.slice As sl.length cs) sl.length (slV sl)) := Lib.hid ⟨by with_reducible exact Blk.grown (Blk.drew (Blk.newAt (w := w.alloc _) (by simp))) g3 (some_ne nw2), own_base own3 (by simp)⟩ | skip); clear hsl hso own3 c3))
    all_goals go_wp2_with fail
    all_goals go_meet
    all_goals
      first
      | exact ⟨_, As, cs, sl, p3, rfl, Lib.hid (by omega), Lib.hid (KR3.out.alloc _), Lib.hid (Blk.new w3 _ _), Lib.hid (OWN3.out.alloc _), HSL, Lib.hid (HC3.out.alloc _), Lib.hid (grownBy_al HG3.out _)⟩
      | (obtain ⟨kb, ob⟩ := KB3
         have kb' := Blk.set_ (Blk.set_ (Blk.set_ kb 0 (.int .i64 prm)) 1 (.slice As sl.length cs)) 2 (.slice none 0 0)
         have lt3 : w.heap.size + 1 < w3.heap.size := kb.lt
         refine ⟨_, As, cs, sl, p3, rfl, Lib.hid (by omega), Lib.hid (((KR3.out.far ?_ _).far ?_ _).far ?_ _), Lib.hid kb', Lib.hid (own_base (own_far (own_far (own_far ob _ ?_ _) _ ?_ _) _ ?_ _) (by omega)), HSL, Lib.hid (((HC3.out.set ?_ ?_ _).set ?_ ?_ _).set ?_ ?_ _), Lib.hid (grownBy_set (grownBy_set (grownBy_set HG3.out ?_ _) ?_ _) ?_ _)⟩
         all_goals first | omega | (simp; done) | (simp; omega) | (show ¬ _; omega))
  case rest =>
    obtain ⟨gf, As, cs, sl, p1, rfl, HGF, KR, KF, OWNS, HSL, HC1, HG1⟩ := hcut
    obtain ⟨W1, hW1⟩ : ∃ W1, W1 = wc := ⟨_, rfl⟩
    subst hW1
    have hgf := HGF.out
    have hlt1 : cb < W1.heap.size := by have := HG1.out.size; omega
    have hgl : gf < W1.heap.size := KF.out.lt
    have hsl6 := HSL.out.1
    have ngf : ¬ gf = cb := by omega
    have hBc := hB
    have HSW : Hid (∀ W, W1.grownBy W (some cb) → W.ownsRow (cb + 1) 88 2 (.slice As sl.length cs) sl.length (slV sl)) := Lib.hid (fun W hg => own_base (own_draw2 OWNS.out hg hlt) (by omega))
    have HPW : Hid (∀ W, W1.grownBy W (some cb) → W.ownsRow (cb + 1) 3 1 (.slice (some ⟨pb, 0, none⟩) np cp) np (ps.map (Value.int .i64))) := Lib.hid (fun W hg => own_base (HPO.out W (grownBy_trans HG1.out hg)) (by omega))
    have HKF : Hid (∀ W, W1.grownBy W (some cb) → Blk W gf 70 #[.int .i64 prm, .slice As sl.length cs, .slice none 0 0]) := Lib.hid (fun W hg => KF.out.grown hg (some_ne ngf))
    clear HPO HC hcell
    go_wp2
    go_loopw [10, 11] (fun o x wr => ∃ (k p1 : Nat) (pre : List Ins), x = .int .i64 k ∧ k ≤ sl.length ∧ pre.length ≤ k ∧ Hid (∀ x ∈ pre, ViP np prm sl x) ∧ wr.ownsRow W1.heap.size 42 5 o pre.length (inV pre) ∧ Hid (CodesAt wr B cb A n c l p1) ∧ Hid (W1.grownBy wr (some cb))) (fun _ x _ => sl.length - (intOf x).toNat)
    case atStart => exact ⟨0, p1, [], rfl, by omega, by simp, Lib.hid (fun x hx => by simp at hx), World.ownsRow_nil _ _ _ _, HC1, Lib.hid (World.grownBy.refl _ _)⟩
    case round =>
      obtain ⟨k, p2, pre, rfl, hk, hpl, HP, own, HCw, HGw⟩ := hrel
      have hk0 : (0 : Int) ≤ (k : Int) := by omega
      have hszw : W1.heap.size ≤ wr.heap.size := HGw.out.size
      obtain ⟨b0', b1', b2', -, -, -, bz⟩ := (HKF.out wr HGw.out).c3
      by_cases hkl : k < sl.length
      · have hki : (k : Int) < (sl.length : Int) := by omega
        go_wp2_with fail
        refine (next_d _ _ _ _ _ _ _ (4) _ HCw.out (by omega) (by omega)).mono ?_
        rintro e w5 ⟨v, p5, hv, rfl, c5, g5⟩
        have HC5 := Lib.hid c5
        have HG5 := Lib.hid (grownBy_trans HGw.out g5)
        have own5 := own_draw own g5 hlt1
        have hv0 : (0 : Int) ≤ (v : Int) := by omega
        have hv1 : (v : Int) < max (4) 1 := by omega
        have hsz5 : W1.heap.size ≤ w5.heap.size := HG5.out.size
        clear c5 g5 own HCw HGw
        by_cases hv3 : (v : Int) < 3
        · go_wp2_with fail
          refine (next_d _ _ _ _ _ _ _ (4) _ HC5.out (by omega) (by omega)).mono ?_
          rintro e w6 ⟨u, p6, hu, rfl, c6, g6⟩
          have HC6 := Lib.hid c6
          have HG6 := Lib.hid (grownBy_trans HG5.out g6)
          have own6 := own_draw own5 g6 hlt1
          have hu0 : (0 : Int) ≤ (u : Int) := by omega
          have hu1 : (u : Int) < max (4) 1 := by omega
          have hsz6 : W1.heap.size ≤ w6.heap.size := HG6.out.size
          clear c6 g6 own5 HC5 HG5
          have HVI : Hid (ViP np prm sl ⟨16, (k : Int), (u : Int), 0, 0⟩) := Lib.hid (.plain _ (Vi0.store _ _ (by omega) (by omega) (by omega) (by omega)))
          go_wp2_with (at_builtin; refine wpList_append_any _ rfl (.tmp 33) (.tmp 38) _ rfl W1.heap.size 42 i0 _ 5 40 Try.underlying33 hi0 hz0 hz1 hz2 rfl (by omega) _ (pre).length (inV pre) rfl (own6.alloc _) (w6.heap.size + 1) (some ⟨w6.heap.size, 0, none⟩) 1 1 [Value.int .i64 16, Value.int .i64 (k : Int), Value.int .i64 (u : Int), Value.int .i64 0, Value.int .u64 0] rfl (reads_new rfl) (by simp [Value.oneCell']) (by unfold maxLen; omega) (by omega) (by simp; omega) ?_; intro v7 w7 own7 hg7 hat7; have AP7 := Lib.hid (app_code (x := ⟨16, (k : Int), (u : Int), 0, 0⟩) own6 HC6.out HG6.out hlt1 hBc own7 hg7); clear own7 hg7 hat7)
          go_roundw
          case rel => exact ⟨k + 1, p6, pre ++ [⟨16, (k : Int), (u : Int), 0, 0⟩], by go_num, by omega, by simp; omega, Lib.hid (all_snoc HP.out HVI.out), AP7.out.1, Lib.hid AP7.out.2.1, Lib.hid AP7.out.2.2⟩
          case measure => simp [intOf]; omega
        · go_wp2
          go_roundw
          case rel => exact ⟨k + 1, p5, pre, by go_num, by omega, by omega, HP, own5, HC5, HG5⟩
          case measure => simp [intOf]; omega
      · go_wp2_with fail
        refine (next_d _ _ _ _ _ _ _ ((most : Int) + 1) _ HCw.out (by omega) (by omega)).mono ?_
        rintro e w5 ⟨t, p5, ht, rfl, c5, g5⟩
        have HC5 := Lib.hid c5
        have HG5 := Lib.hid (grownBy_trans HGw.out g5)
        have own5 := own_draw own g5 hlt1
        have ht0 : (0 : Int) ≤ (t : Int) := by omega
        have ht1 : (t : Int) < max ((most : Int) + 1) 1 := by omega
        have hsz5 : W1.heap.size ≤ w5.heap.size := HG5.out.size
        clear c5 g5 own HCw HGw
        have htm : t ≤ 12 := by omega
        have hpl6 : pre.length ≤ 6 := by omega
        clear b0' b1' b2' bz
        go_wp2
        go_loopw [10, 12] (fun o x wr => ∃ (k p1 : Nat) (pre : List Ins), x = .int .i64 k ∧ k ≤ 12 ∧ pre.length + 6 * k ≤ 100 ∧ Hid (∀ x ∈ pre, ViP np prm sl x) ∧ wr.ownsRow W1.heap.size 42 5 o pre.length (inV pre) ∧ Hid (CodesAt wr B cb A n c l p1) ∧ Hid (W1.grownBy wr (some cb))) (fun _ x _ => (intOf x).toNat)
        case atStart => exact ⟨t, p5, pre, rfl, by omega, by omega, HP, own5, HC5, HG5⟩
        case round =>
          clear own5 HC5 HG5 hsz5 HP hpl hpl6 hk hk0 hkl htm ht ht0 ht1 hszw
          obtain ⟨m, p6, qre, rfl, hm12, hql, HQ, own, HCw, HGw⟩ := hrel
          have hszw := HGw.out.size
          have hm0 : (0 : Int) ≤ (m : Int) := by omega
          rcases Nat.eq_zero_or_pos m with rfl | hmp
          · have hql2 : qre.length ≤ 100 := by omega
            have HLW := Lib.hid own.lt
            have nec : ¬ wr.heap.size = cb := by omega
            go_wp2_with fail
            have HKE : Hid (Blk (wr.alloc (.cells #[.int .i64 23, .int .i64 0, .int .i64 0, .int .i64 0, .int .u64 0] 42)) wr.heap.size 42 #[.int .i64 23, .int .i64 0, .int .i64 0, .int .i64 0, .int .u64 0]) := Lib.hid (Blk.new wr _ _)
            refine (next_d _ _ _ _ _ _ _ 12 _ (HCw.out.alloc _) (by omega) (by omega)).mono ?_
            rintro e w5 ⟨u, p5, hu, rfl, c5, g5⟩
            have HC5 := Lib.hid c5
            have HG5 := Lib.hid (grownBy_trans (grownBy_al HGw.out _) g5)
            have OWN5 := Lib.hid (own_draw (own.alloc _) g5 hlt1)
            have HKE5 := Lib.hid (HKE.out.grown g5 (some_ne nec))
            have hsz5 : wr.heap.size < w5.heap.size := HKE5.out.lt
            have hu0 : (0 : Int) ≤ (u : Int) := by omega
            have HLN : Hid (∀ j, Value.ownBlock _ = some j → j ≠ wr.heap.size) := Lib.hid (fun j e => Nat.ne_of_lt (HLW.out j e).2)
            clear c5 g5 own HCw HGw HKE
            go_upto_if 77 with (fail)
            go_cut [] (fun wx => ∃ (op8 im8 : Int) (p8 : Nat), Hid (op8 ∈ [(23 : Int), 24]) ∧ Hid (ViP np prm sl ⟨op8, 0, 0, 0, im8⟩) ∧ Hid (Blk wx wr.heap.size 42 #[.int .i64 op8, .int .i64 0, .int .i64 0, .int .i64 0, .int .u64 im8]) ∧ Hid (∀ v, w5.ownsRow W1.heap.size 42 5 v qre.length (inV qre) → (∀ j, v.ownBlock = some j → j ≠ wr.heap.size) → wx.ownsRow W1.heap.size 42 5 v qre.length (inV qre)) ∧ Hid (CodesAt wx B cb A n c l p8) ∧ Hid (W1.grownBy wx (some cb)))
            case first =>
              by_cases hu11 : (u : Int) = 11
              · have hb11 : ((u : Int) == 11) = true := by simpa using hu11
                go_wp2_with fail
                refine (word_d _ _ _ _ _ _ _ _ HC5.out).mono ?_
                rintro e w6 ⟨im, p6', him, rfl, c6, g6⟩
                have HC6 := Lib.hid c6
                have HG6 := Lib.hid (grownBy_trans HG5.out g6)
                have HD6 := Lib.hid (fun v (hv : w5.ownsRow W1.heap.size 42 5 v qre.length (inV qre)) => own_draw hv g6 hlt1)
                have HKE6 := Lib.hid (HKE5.out.grown g6 (some_ne nec))
                have hsz6 : wr.heap.size < w6.heap.size := HKE6.out.lt
                obtain ⟨e0, e1, e2, e3, e4, f0, f1, f2, f3, f4, ez⟩ := HKE6.out.c5
                clear c6 g6
                go_wp2_with fail
                go_meet
                refine ⟨24, (im : Int), p6', Lib.hid (by simp), Lib.hid (.plain _ (.trap _ (by omega) (by omega))), Lib.hid (Blk.set_ (Blk.set_ (Blk.set_ (Blk.set_ (Blk.set_ HKE6.out 0 _) 1 _) 2 _) 3 _) 4 _), Lib.hid (fun v hv hne => own_miss (own_miss (own_miss (own_miss (own_miss (HD6.out v hv) _ hne _) _ hne _) _ hne _) _ hne _) _ hne _), Lib.hid (((((HC6.out.set (Ne.symm nec) (by show B ≤ wr.heap.size; omega) _).set (Ne.symm nec) (by show B ≤ wr.heap.size; omega) _).set (Ne.symm nec) (by show B ≤ wr.heap.size; omega) _).set (Ne.symm nec) (by show B ≤ wr.heap.size; omega) _).set (Ne.symm nec) (by show B ≤ wr.heap.size; omega) _), Lib.hid (grownBy_set (grownBy_set (grownBy_set (grownBy_set (grownBy_set HG6.out hszw _) hszw _) hszw _) hszw _) hszw _)⟩
              · have hb11 : ((u : Int) == 11) = false := by simpa using hu11
                go_wp2_with fail
                go_meet
                exact ⟨23, 0, p5, Lib.hid (by simp), Lib.hid (.plain _ .ret), HKE5, Lib.hid (fun v hv _ => hv), HC5, HG5⟩
            case rest =>
              obtain ⟨op8, im8, p8, HOP8, HV8, HK8, HOWN8, HC8, HG8⟩ := hcut
              have own8 := HOWN8.out _ OWN5.out HLN.out
              have hsz8 : W1.heap.size ≤ wc.heap.size := HG8.out.size
              obtain ⟨e0, e1, e2, e3, e4, f0, f1, f2, f3, f4, ez⟩ := HK8.out.c5
              clear HOWN8 OWN5 HC5 HG5 HKE5 HLN HLW hu hu0
              obtain ⟨w8, hw8⟩ : ∃ w8, w8 = wc := ⟨_, rfl⟩
              subst hw8
              go_wp2_with (at_builtin; refine wpList_append_any _ rfl (.tmp 81) (.tmp 83) _ rfl W1.heap.size 42 i0 _ 5 40 Try.underlying33 hi0 hz0 hz1 hz2 rfl (by omega) _ (qre).length (inV qre) rfl (own8.alloc _) (w8.heap.size + 1) (some ⟨w8.heap.size, 0, none⟩) 1 1 [Value.int .i64 op8, Value.int .i64 0, Value.int .i64 0, Value.int .i64 0, Value.int .u64 im8] rfl (reads_new rfl) (by simp [Value.oneCell']) (by unfold maxLen; omega) (by omega) (by simp; omega) ?_; intro v9 w9 own9 hg9 hat9; have AP9 := Lib.hid (app_code (x := ⟨op8, 0, 0, 0, im8⟩) own8 HC8.out HG8.out hlt1 hBc own9 hg9); clear own9 hg9 hat9)
              obtain ⟨q, hq⟩ : ∃ q, q = qre ++ [(⟨op8, 0, 0, 0, im8⟩ : Ins)] := ⟨_, rfl⟩
              rw [← hq] at AP9
              obtain ⟨own9, c9, g9⟩ := AP9.out
              have HC9 := Lib.hid c9
              have HG9 := Lib.hid g9
              have HQ9 : Hid (∀ x ∈ q, ViP np prm sl x) := Lib.hid (by rw [hq]; exact all_snoc HQ.out HV8.out)
              have hqN : 1 ≤ q.length ∧ q.length ≤ 101 := by rw [hq]; simp; omega
              have hlast : Hid ((q.getD (q.length - 1) Ins.z).op ∈ [(23 : Int), 24]) := Lib.hid (by rw [hq]; simpa using HOP8.out)
              obtain ⟨hq1, hq2⟩ := hqN
              obtain ⟨qg, qc, hform, hqb, -⟩ := own9.form hq1
              subst hform
              have HO9 := Lib.hid own9
              have hqi : (q.length : Int) ≤ 101 := by omega
              have hqj : (1 : Int) ≤ (q.length : Int) := by omega
              clear c9 g9 AP9 hq HQ HV8 HOP8 HK8 HC8 HG8 own8 own9 e0 e1 e2 e3 e4 f0 f1 f2 f3 f4 ez hql2 hql hsz8 hsz5 hszw nec
              obtain ⟨N, hN⟩ : ∃ N, N = q.length := ⟨_, rfl⟩
              rw [← hN] at HO9 hqi hqj hlast hq1 hq2
              have HN := Lib.hid hN
              clear hN
              rw [← HN.out]
              go_wp2
              go_loopw [14] (fun x wr => ∃ (k p1 : Nat) (cur : List Ins), x = .int .i64 k ∧ k ≤ N ∧ Hid (cur.length = N) ∧ Hid (∀ j, j < k → Vi np prm sl N (cur.getD j Ins.z)) ∧ Hid (∀ j, k ≤ j → j < N → ViP np prm sl (cur.getD j Ins.z)) ∧ Hid ((cur.getD (N - 1) Ins.z).op ∈ [(23 : Int), 24]) ∧ Hid (wr.ownsRow W1.heap.size 42 5 (.slice (some ⟨qg, 0, none⟩) N qc) N (inV cur)) ∧ Hid (CodesAt wr B cb A n c l p1) ∧ Hid (W1.grownBy wr (some cb))) (fun x _ => N - (intOf x).toNat)
              case atStart => exact ⟨0, _, q, rfl, by omega, Lib.hid HN.out.symm, Lib.hid (fun j h => by omega), Lib.hid (fun j _ h => HQ9.out _ (by rw [List.getD_eq_getElem?_getD, List.getElem?_eq_getElem (by have := HN.out; omega)]; simp)), hlast, HO9, HC9, HG9⟩
              case round =>
                clear HO9 HC9 HG9 HQ9 hlast
                obtain ⟨k, p2, cur, rfl, hk, HLEN, HDONE, HTODO, HLAST, HO, HCw, HGw⟩ := hrel
                have hk0 : (0 : Int) ≤ (k : Int) := by omega
                have hszw := HGw.out.size
                by_cases hkl : k < N
                · have hki : (k : Int) < (N : Int) := by omega
                  go_wp2_with fail
                  refine (next_d _ _ _ _ _ _ _ (8) _ HCw.out (by omega) (by omega)).mono ?_
                  rintro e w5 ⟨v, p5, hv, rfl, c5, g5⟩
                  have HC5 := Lib.hid c5
                  have HG5 := Lib.hid (grownBy_trans HGw.out g5)
                  have HO5 := Lib.hid (own_draw HO.out g5 hlt1)
                  have hv0 : (0 : Int) ≤ (v : Int) := by omega
                  have hv1 : (v : Int) < 8 := by omega
                  clear c5 g5 HCw HGw HO hv hszw
                  go_upto_region 26 with (fail)
                  go_cut [103] (fun s103 wx => s103 = .bool (decide ((k : Int) + (v : Int) - 2 < 0 ∨ (N : Int) ≤ (k : Int) + (v : Int) - 2)) ∧ w5 = wx)
                  case first =>
                    by_cases h1 : (k : Int) + (v : Int) - 2 < 0
                    · go_wp2
                      go_meet
                      exact ⟨by rw [decide_eq_true (.inl h1)], rfl⟩
                    · by_cases h2 : (N : Int) ≤ (k : Int) + (v : Int) - 2
                      · go_wp2
                        go_meet
                        exact ⟨by rw [decide_eq_true (.inr h2)], rfl⟩
                      · go_wp2
                        go_meet
                        exact ⟨by rw [decide_eq_false (by omega)], rfl⟩
                  case rest =>
                    obtain ⟨rfl, rfl⟩ := hcut
                    obtain ⟨bb, hbb⟩ : ∃ bb : Bool, bb = decide ((k : Int) + (v : Int) - 2 < 0 ∨ (N : Int) ≤ (k : Int) + (v : Int) - 2) := ⟨_, rfl⟩
                    rw [← hbb]
                    have HBB := Lib.hid hbb
                    clear hbb
                    go_upto_if 103 with (fail)
                    go_cut [15] (fun s15 wx => ∃ tg : Int, s15 = .int .i64 tg ∧ 0 ≤ tg ∧ tg < (N : Int) ∧ w5 = wx)
                    case first =>
                      cases bb
                      · have h1 := of_decide_eq_false HBB.out.symm
                        clear HBB
                        go_wp2
                        go_meet
                        exact ⟨_, rfl, by omega, by omega, rfl⟩
                      · clear HBB
                        go_wp2
                        go_meet
                        exact ⟨_, rfl, by omega, by omega, rfl⟩
                    case rest =>
                    obtain ⟨tg, rfl, ht0, ht1, rfl⟩ := hcut
                    clear HBB
                    obtain ⟨i0', i1', i2'⟩ := own_ins_at HO5.out hkl
                    have z1 := HO5.out.frozenAt (k * 5 + 1)
                    have z2 := HO5.out.frozenAt (k * 5 + 2)
                    have hfix := viP_fix (nc := N) (HTODO.out k (Nat.le_refl _) hkl) ht0 ht1
                    obtain ⟨xo, hxo⟩ : ∃ xo, xo = (cur.getD k Ins.z).op := ⟨_, rfl⟩
                    obtain ⟨xa, hxa⟩ : ∃ xa, xa = (cur.getD k Ins.z).a := ⟨_, rfl⟩
                    obtain ⟨xb, hxb⟩ : ∃ xb, xb = (cur.getD k Ins.z).b := ⟨_, rfl⟩
                    rw [← hxo] at i0'
                    rw [← hxa] at i1'
                    rw [← hxb] at i2'
                    by_cases o20 : xo = 20
                    · have hop : (cur.getD k Ins.z).op = 20 := hxo.symm.trans o20
                      have hlt0 := hfix.2.1 hop
                      have HNL : Hid ((cur.getD k Ins.z).op ∉ [(23 : Int), 24]) := Lib.hid (by rw [hop]; simp)
                      have HST : Hid (∀ V : Int, (w5.setCell ⟨qg, k * 5 + 1, none⟩ (.int .i64 V)).ownsRow W1.heap.size 42 5 (.slice (some ⟨qg, 0, none⟩) N qc) N (inV (cur.set k (setA V (cur.getD k Ins.z))))) := Lib.hid (fun V => by have h := HO5.out.stored (k * 5 + 1) (.int .i64 V); rw [inV_setA _ _ _ (by have := HLEN.out; omega)] at h; exact h.1)
                      have HV := Lib.hid (hfix.1 hop hlt0)
                      have HSR := Lib.hid (set_round HLEN.out hkl HDONE.out HTODO.out HV.out HLAST.out HNL.out)
                      rw [← hxa] at hlt0
                      subst o20
                      clear hfix HV HDONE HTODO HLAST HNL hop hxo hxa hxb
                      go_wp2
                      go_roundw
                      case rel => exact ⟨k + 1, p5, _, by go_num, by omega, Lib.hid HSR.out.1, Lib.hid HSR.out.2.1, Lib.hid HSR.out.2.2.1, Lib.hid HSR.out.2.2.2, Lib.hid (HST.out _), Lib.hid (HC5.out.set (q := ⟨qg, k * 5 + 1, none⟩) (show cb ≠ qg by omega) (show B ≤ qg by omega) _), Lib.hid (grownBy_set HG5.out (p := ⟨qg, k * 5 + 1, none⟩) hqb _)⟩
                      case measure => simp [intOf]; omega
                    · by_cases o21 : xo = 21
                      · have hop : (cur.getD k Ins.z).op = 21 := hxo.symm.trans o21
                        have hlt0 := hfix.2.2.2.1 hop
                        have HNL : Hid ((cur.getD k Ins.z).op ∉ [(23 : Int), 24]) := Lib.hid (by rw [hop]; simp)
                        have HST : Hid (∀ V : Int, (w5.setCell ⟨qg, k * 5 + 2, none⟩ (.int .i64 V)).ownsRow W1.heap.size 42 5 (.slice (some ⟨qg, 0, none⟩) N qc) N (inV (cur.set k (setB V (cur.getD k Ins.z))))) := Lib.hid (fun V => by have h := HO5.out.stored (k * 5 + 2) (.int .i64 V); rw [inV_setB _ _ _ (by have := HLEN.out; omega)] at h; exact h.1)
                        have HV := Lib.hid (hfix.2.2.1 hop hlt0)
                        have HSR := Lib.hid (set_round HLEN.out hkl HDONE.out HTODO.out HV.out HLAST.out HNL.out)
                        rw [← hxb] at hlt0
                        subst o21
                        clear hfix HV HDONE HTODO HLAST HNL hop hxo hxa hxb
                        go_wp2
                        go_roundw
                        case rel => exact ⟨k + 1, p5, _, by go_num, by omega, Lib.hid HSR.out.1, Lib.hid HSR.out.2.1, Lib.hid HSR.out.2.2.1, Lib.hid HSR.out.2.2.2, Lib.hid (HST.out _), Lib.hid (HC5.out.set (q := ⟨qg, k * 5 + 2, none⟩) (show cb ≠ qg by omega) (show B ≤ qg by omega) _), Lib.hid (grownBy_set HG5.out (p := ⟨qg, k * 5 + 2, none⟩) hqb _)⟩
                        case measure => simp [intOf]; omega
                      · have HV : Hid (Vi np prm sl N (cur.getD k Ins.z)) := Lib.hid (hfix.2.2.2.2 (by rw [← hxo]; exact o20) (by rw [← hxo]; exact o21))
                        have b20 : (xo == 20) = false := by simpa using o20
                        have b21 : (xo == 21) = false := by simpa using o21
                        have HD2 : Hid (∀ j, j < k + 1 → Vi np prm sl N (cur.getD j Ins.z)) := Lib.hid (fun j hj => by
                          by_cases e : j = k
                          · subst e; exact HV.out
                          · exact HDONE.out j (by omega))
                        have HT2 : Hid (∀ j, k + 1 ≤ j → j < N → ViP np prm sl (cur.getD j Ins.z)) := Lib.hid (fun j h1 h2 => HTODO.out j (by omega) h2)
                        clear hfix HV HDONE HTODO o20 o21 hxo hxa hxb
                        go_wp2
                        go_roundw
                        case rel => exact ⟨k + 1, p5, cur, by go_num, by omega, HLEN, HD2, HT2, HLAST, HO5, HC5, HG5⟩
                        case measure => simp [intOf]; omega
                · obtain rfl : k = N := by omega
                  have HFN : Hid (FnOk np ⟨prm, sl, cur⟩) := Lib.hid (fn_ok r0 r1 HSL.out hq1 hqi HLEN.out HDONE.out HLAST.out)
                  have HKR := Lib.hid (KR.out.grown HGw.out (some_ne nw))
                  have HKG := Lib.hid (HKF.out wr HGw.out)
                  have HOS : Hid (wr.ownsRow w.heap.size 88 2 (.slice As sl.length cs) sl.length (slV sl)) := Lib.hid (own_draw2 OWNS.out HGw.out hlt)
                  have NS1 : Hid (∀ j, (Value.slice As sl.length cs).ownBlock = some j → j ≠ gf) := Lib.hid (fun j e1 e2 => own_blk_ne HOS.out HKG.out (by decide) (e2 ▸ e1))
                  have NS2 : Hid (∀ j, (Value.slice As sl.length cs).ownBlock = some j → j ≠ w.heap.size) := Lib.hid (fun j e1 e2 => own_blk_ne HOS.out HKR.out (by decide) (e2 ▸ e1))
                  obtain ⟨b0', b1', b2', f0', f1', f2', bz⟩ := HKG.out.c3
                  obtain ⟨d0', d1', d2', y0', y1', y2', dz⟩ := HKR.out.c3
                  have nwg : ¬ (w.heap.size = gf) := by omega
                  have ngw : ¬ (gf = w.heap.size) := by omega
                  have hlw : w.heap.size < W1.heap.size := by omega
                  have hNp : sl.length ≤ maxLen := by unfold maxLen; omega
                  go_wp2
                  refine bodyPost_ret (v := .agg #[.int .i64 prm, .slice As sl.length cs, .slice (some ⟨qg, 0, none⟩) k qc]) (by simp [results, Try.results27, go_sem, d0', d1', d2']) rfl ?_
                  refine ⟨⟨prm, sl, cur⟩, As, cs, some ⟨qg, 0, none⟩, qc, p2, ?_, rfl, HFN.out, ?_, ?_, ?_, ?_⟩
                  · have e : cur.length = k := HLEN.out
                    show Ending.returned _ = Ending.returned (.agg #[.int .i64 prm, .slice As sl.length cs, .slice (some ⟨qg, 0, none⟩) cur.length qc])
                    rw [e]
                  · exact own_miss (own_miss (own_miss (own_miss HOS.out _ NS1.out _) _ NS2.out _) _ NS2.out _) _ NS2.out _
                  · have e : cur.length = k := HLEN.out
                    show World.ownsRow _ w.heap.size 42 5 (.slice (some ⟨qg, 0, none⟩) cur.length qc) cur.length (inV cur)
                    rw [e]
                    exact own_base (own_far (own_far (own_far (own_far HO.out _ hgl _) _ hlw _) _ hlw _) _ hlw _) (by omega)
                  · exact (((HCw.out.set (show cb ≠ gf by omega) (show B ≤ gf by omega) _).set (show cb ≠ w.heap.size by omega) (show B ≤ w.heap.size by omega) _).set (show cb ≠ w.heap.size by omega) (show B ≤ w.heap.size by omega) _).set (show cb ≠ w.heap.size by omega) (show B ≤ w.heap.size by omega) _
                  · exact grownBy_set (grownBy_set (grownBy_set (grownBy_set (grownBy_trans HG1.out HGw.out) (show w.heap.size ≤ gf by omega) _) (Nat.le_refl _) _) (Nat.le_refl _) _) (Nat.le_refl _) _
              
          · have hmi : (0 : Int) < (m : Int) := by omega
            obtain ⟨b0', b1', b2', -, -, -, bz⟩ := (HKF.out _ HGw.out).c3
            go_wp2_with fail
            refine (body_d B cb A n c l p6 prm As sl.length cs none 0 0 sl i (some ⟨pb, 0, none⟩) np cp ps _ (cb + 1) (by omega) HCw.out (HSW.out _ HGw.out) (by omega) (HPW.out _ HGw.out) hnp hin HPS.out ⟨r0, r1⟩).mono ?_
            rintro e w5 ⟨r, xs, p5, rfl, hxl, hxs, ownr, c5, g5⟩
            obtain ⟨Ar, cr, rfl, -⟩ := own_form ownr
            have HR : Hid (Reads w5 w5.heap.size 5 Ar xs.length (inV xs)) := Lib.hid (Reads.of_own ownr)
            have HC5 := Lib.hid c5
            have HG5 := Lib.hid (grownBy_trans HGw.out g5)
            have own5 := own_draw own g5 hlt1
            have HXS : Hid (∀ x ∈ xs, ViP np prm sl x) := Lib.hid (fun x hx => .plain _ (hxs x hx))
            have hsz5 : W1.heap.size ≤ w5.heap.size := HG5.out.size
            clear c5 g5 own HCw HGw ownr hxs b0' b1' b2' bz
            go_wp2_with (at_builtin; refine wpList_append_any _ rfl (.tmp 48) (.tmp 53) _ rfl W1.heap.size 42 i0 _ 5 40 Try.underlying33 hi0 hz0 hz1 hz2 rfl (by omega) _ qre.length (inV qre) rfl own5 w5.heap.size Ar xs.length cr (inV xs) rfl HR.out (inV_one xs) (by unfold maxLen; omega) (by omega) (by omega) ?_; intro v7 w7 own7 hg7 hat7; have AP7 := Lib.hid (app_body own5 HC5.out HG5.out hlt1 hBc own7 hg7); clear own7 hg7 hat7)
            obtain ⟨q, hq⟩ : ∃ q, q = qre ++ xs := ⟨_, rfl⟩
            rw [← hq] at AP7
            have HQ7 : Hid (∀ x ∈ q, ViP np prm sl x) := Lib.hid (by rw [hq]; exact all_app HQ.out HXS.out)
            have hql7 : q.length + 6 * (m - 1) ≤ 99 := by
              have : q.length = qre.length + xs.length := by rw [hq, List.length_append]
              omega
            obtain ⟨own7, c7, g7⟩ := AP7.out
            have HC7 := Lib.hid c7
            have HG7 := Lib.hid g7
            clear c7 g7 AP7 hq HR HXS HQ hxl hql own5 HC5 HG5 hsz5 hszw
            go_wp2_with fail
            refine (next_d _ _ _ _ _ _ _ (9) _ HC7.out (by omega) (by omega)).mono ?_
            rintro e w8 ⟨d, p8, hd, rfl, c8, g8⟩
            have HC8 := Lib.hid c8
            have HG8 := Lib.hid (grownBy_trans HG7.out g8)
            have own8 := own_draw own7 g8 hlt1
            have hd0 : (0 : Int) ≤ (d : Int) := by omega
            have hd1 : (d : Int) < max (9) 1 := by omega
            have hsz8 : W1.heap.size ≤ w8.heap.size := HG8.out.size
            clear c8 g8 own7 HC7 HG7
            by_cases hd7 : (d : Int) = 7
            · have hb7 : ((d : Int) == 7) = true := by simpa using hd7
              go_wp2_with fail
              refine (next_d _ _ _ _ _ _ _ (4) _ HC8.out (by omega) (by omega)).mono ?_
              rintro e w9 ⟨u, p9, hu, rfl, c9, g9⟩
              have HC9 := Lib.hid c9
              have HG9 := Lib.hid (grownBy_trans HG8.out g9)
              have own9 := own_draw own8 g9 hlt1
              have hu0 : (0 : Int) ≤ (u : Int) := by omega
              have hu1 : (u : Int) < max (4) 1 := by omega
              have hsz9 : W1.heap.size ≤ w9.heap.size := HG9.out.size
              clear c9 g9 own8 HC8 HG8
              have HVI : Hid (ViP np prm sl ⟨21, (u : Int), -1, 0, 0⟩) := Lib.hid (.branch _ (by omega) (by omega))
              go_wp2_with (at_builtin; refine wpList_append_any _ rfl (.tmp 59) (.tmp 63) _ rfl W1.heap.size 42 i0 _ 5 40 Try.underlying33 hi0 hz0 hz1 hz2 rfl (by omega) _ (q).length (inV q) rfl (own9.alloc _) (w9.heap.size + 1) (some ⟨w9.heap.size, 0, none⟩) 1 1 [Value.int .i64 21, Value.int .i64 (u : Int), Value.int .i64 (-1), Value.int .i64 0, Value.int .u64 0] rfl (reads_new rfl) (by simp [Value.oneCell']) (by unfold maxLen; omega) (by omega) (by simp; omega) ?_; intro v10 w10 own10 hg10 hat10; have AP10 := Lib.hid (app_code (x := ⟨21, (u : Int), (-1), 0, 0⟩) own9 HC9.out HG9.out hlt1 hBc own10 hg10); clear own10 hg10 hat10)
              go_roundw
              case rel => exact ⟨m - 1, p9, q ++ [⟨21, (u : Int), -1, 0, 0⟩], (by congr 1; omega), by omega, by simp; omega, Lib.hid (all_snoc HQ7.out HVI.out), AP10.out.1, Lib.hid AP10.out.2.1, Lib.hid AP10.out.2.2⟩
              case measure => simp [intOf]; omega
            · have hb7 : ((d : Int) == 7) = false := by simpa using hd7
              by_cases hd8 : (d : Int) = 8
              · have hb8 : ((d : Int) == 8) = true := by simpa using hd8
                go_wp2_with fail
                refine (next_d _ _ _ _ _ _ _ (3) _ HC8.out (by omega) (by omega)).mono ?_
                rintro e w9 ⟨u, p9, hu, rfl, c9, g9⟩
                have HC9 := Lib.hid c9
                have HG9 := Lib.hid (grownBy_trans HG8.out g9)
                have own9 := own_draw own8 g9 hlt1
                have hu0 : (0 : Int) ≤ (u : Int) := by omega
                have hu1 : (u : Int) < max (3) 1 := by omega
                have hsz9 : W1.heap.size ≤ w9.heap.size := HG9.out.size
                clear c9 g9 own8 HC8 HG8
                by_cases hu2 : (u : Int) = 2
                · have hb2 : ((u : Int) == 2) = true := by simpa using hu2
                  have HVI : Hid (ViP np prm sl ⟨20, -1, 0, 0, 0⟩) := Lib.hid .jump
                  go_wp2_with (at_builtin; refine wpList_append_any _ rfl (.tmp 70) (.tmp 72) _ rfl W1.heap.size 42 i0 _ 5 40 Try.underlying33 hi0 hz0 hz1 hz2 rfl (by omega) _ (q).length (inV q) rfl (own9.alloc _) (w9.heap.size + 1) (some ⟨w9.heap.size, 0, none⟩) 1 1 [Value.int .i64 20, Value.int .i64 (-1), Value.int .i64 0, Value.int .i64 0, Value.int .u64 0] rfl (reads_new rfl) (by simp [Value.oneCell']) (by unfold maxLen; omega) (by omega) (by simp; omega) ?_; intro v10 w10 own10 hg10 hat10; have AP10 := Lib.hid (app_code (x := ⟨20, (-1), 0, 0, 0⟩) own9 HC9.out HG9.out hlt1 hBc own10 hg10); clear own10 hg10 hat10)
                  go_roundw
                  case rel => exact ⟨m - 1, p9, q ++ [⟨20, -1, 0, 0, 0⟩], (by congr 1; omega), by omega, by simp; omega, Lib.hid (all_snoc HQ7.out HVI.out), AP10.out.1, Lib.hid AP10.out.2.1, Lib.hid AP10.out.2.2⟩
                  case measure => simp [intOf]; omega
                · have hb2 : ((u : Int) == 2) = false := by simpa using hu2
                  go_wp2
                  go_roundw
                  case rel => exact ⟨m - 1, p9, q, (by congr 1; omega), by omega, by omega, HQ7, own9, HC9, HG9⟩
                  case measure => simp [intOf]; omega
              · have hb8 : ((d : Int) == 8) = false := by simpa using hd8
                go_wp2
                go_roundw
                case rel => exact ⟨m - 1, p8, q, (by congr 1; omega), by omega, by omega, HQ7, own8, HC8, HG8⟩
                case measure => simp [intOf]; omega

end Go.Proofs.Ytmeoabpigibaoaa.pm
