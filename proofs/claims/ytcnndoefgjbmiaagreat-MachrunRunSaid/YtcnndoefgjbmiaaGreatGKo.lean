/- The draw Int with its range; the draw Odd: a program with one thing changed. -/
import Derived.Deep.RegionLaw
import Derived.Test.YtcnndoefgjbmiaaGreatKti
set_option linter.unusedVariables false
set_option maxRecDepth 100000
set_option maxHeartbeats 8000000
namespace Go.Proofs.YtcnndoefgjbmiaaGreat.pm
open Go.RowKit
attribute [local go_sem ↓] Go.wp_at_zero Go.wp_at_succ
theorem ten_ex' (k : Nat) (hk : k < 10) : ∃ x : Int, (#[Value.int .i64 9223372036854775807, Value.int .i64 (-9223372036854775808), Value.int .i64 2147483648, Value.int .i64 2147483647, Value.int .i64 (-1), Value.int .i64 16777216, Value.int .i64 33554432, Value.int .i64 1048577, Value.int .i64 512, Value.int .i64 80] : Array Value)[k]? = some (.int .i64 x) ∧ (-9223372036854775808 ≤ x ∧ x ≤ 9223372036854775807) := by
 have h : k = 0 ∨ k = 1 ∨ k = 2 ∨ k = 3 ∨ k = 4 ∨ k = 5 ∨ k = 6 ∨ k = 7 ∨ k = 8 ∨ k = 9 := by omega
 rcases h with rfl | rfl | rfl | rfl | rfl | rfl | rfl | rfl | rfl | rfl <;> exact ⟨_, rfl, by omega⟩
theorem int_r (B g : Nat) (A : Option Addr) (n c : Nat) (l : List Nat) (p : Nat) (w : World) (h : CodesAt w B g A n c l p) :
 Calls Tryz.prog 16 #[.pointer (some ⟨g, 0, none⟩)] w fun e w' => ∃ (x : Int) (p' : Nat), (-9223372036854775808 ≤ x ∧ x ≤ 9223372036854775807) ∧ e = .returned (.int .i64 x) ∧ CodesAt w' B g A n c l p' ∧ w.grownBy w' (some g) := by
 have HC := hQ h
 clear h
 go_enter Tryz.func16, Tryz.ntmps16
 go_wp2_with fail
 refine (next_d _ _ _ _ _ _ _ 12 _ HC.out (by omega) (by omega)).mono ?_
 rintro e w1 ⟨k, p1, hk, rfl, c1, g1⟩
 have HC1 := hQ c1
 have HG1 := hQ g1
 have hgl := c1.1.lt
 clear HC c1 g1
 by_cases h11 : k = 11
 · subst h11
   go_wp2_with fail
   refine (next_d _ _ _ _ _ _ _ 10 _ (HC1.out.alloc _) (by omega) (by omega)).mono ?_
   rintro e w2 ⟨v, p2, hv, rfl, c2, g2⟩
   obtain ⟨x, hx, hxr⟩ := ten_ex' v (by omega)
   have HXR := hQ hxr
   clear hxr
   have hb := ((Blk.new w1 3 #[Value.int .i64 9223372036854775807, Value.int .i64 (-9223372036854775808), Value.int .i64 2147483648, Value.int .i64 2147483647, Value.int .i64 (-1), Value.int .i64 16777216, Value.int .i64 33554432, Value.int .i64 1048577, Value.int .i64 512, Value.int .i64 80]).grown g2 (by intro e; injection e; omega))
   have hcell := (Blk.cell hb v).trans hx
   have HC2 := hQ c2
   have HG2 := hQ (grownBy_trans (grownBy_al HG1.out _) g2)
   have hv0 : (0 : Int) ≤ (v : Int) := by omega
   have hv1 : (v : Int) < 10 := by omega
   clear hx hb c2 g2 hv
   go_wp2
   go_ret
   exact ⟨x, p2, HXR.out, rfl, HC2.out, HG2.out⟩
 · have hk11 : ¬ ((k : Int) = 11) := by omega
   have hk0 : (0 : Int) ≤ (k : Int) := by omega
   have hk1 : (k : Int) < 12 := by omega
   clear hk
   go_wp2_with fail
   refine (next_d _ _ _ _ _ _ _ 256 _ HC1.out (by omega) (by omega)).mono ?_
   rintro e w2 ⟨v, p2, hv, rfl, c2, g2⟩
   have HC2 := hQ c2
   have HG2 := hQ (grownBy_trans HG1.out g2)
   have hv0 : (0 : Int) ≤ (v : Int) := by omega
   have hv1 : (v : Int) < 256 := by omega
   clear c2 g2 hv
   go_wp2_with fail
   refine (next_d _ _ _ _ _ _ _ 7 _ HC2.out (by omega) (by omega)).mono ?_
   rintro e w3 ⟨u, p3, hu, rfl, c3, g3⟩
   have HC3 := hQ c3
   have HG3 := hQ (grownBy_trans HG2.out g3)
   have hu0 : (0 : Int) ≤ (u : Int) := by omega
   have hu1 : (u : Int) < 7 := by omega
   have hu2 : u < 7 := by omega
   clear c3 g3 hu
   go_wp2
   go_ret
   refine ⟨_, p3, ?_, rfl, HC3.out, HG3.out⟩
   unfold wrap64; omega
theorem inVs0 (l : List Ins) (k : Nat) (v : Int) (h : k < l.length) : (inV l).set (k * 5) (.int .i64 v) = inV (l.set k ((fun x => ⟨v, x.a, x.b, x.c, x.imm⟩ : Ins → Ins) (l.getD k Ins.z))) := flat_set (j := 0) (g := (fun x => ⟨v, x.a, x.b, x.c, x.imm⟩ : Ins → Ins)) icells_len (by omega) (fun x => rfl) Ins.z l k h
theorem inVs1 (l : List Ins) (k : Nat) (v : Int) (h : k < l.length) : (inV l).set (k * 5 + 1) (.int .i64 v) = inV (l.set k ((fun x => ⟨x.op, v, x.b, x.c, x.imm⟩ : Ins → Ins) (l.getD k Ins.z))) := flat_set (j := 1) (g := (fun x => ⟨x.op, v, x.b, x.c, x.imm⟩ : Ins → Ins)) icells_len (by omega) (fun x => rfl) Ins.z l k h
theorem inVs2 (l : List Ins) (k : Nat) (v : Int) (h : k < l.length) : (inV l).set (k * 5 + 2) (.int .i64 v) = inV (l.set k ((fun x => ⟨x.op, x.a, v, x.c, x.imm⟩ : Ins → Ins) (l.getD k Ins.z))) := flat_set (j := 2) (g := (fun x => ⟨x.op, x.a, v, x.c, x.imm⟩ : Ins → Ins)) icells_len (by omega) (fun x => rfl) Ins.z l k h
theorem inVs3 (l : List Ins) (k : Nat) (v : Int) (h : k < l.length) : (inV l).set (k * 5 + 3) (.int .i64 v) = inV (l.set k ((fun x => ⟨x.op, x.a, x.b, v, x.imm⟩ : Ins → Ins) (l.getD k Ins.z))) := flat_set (j := 3) (g := (fun x => ⟨x.op, x.a, x.b, v, x.imm⟩ : Ins → Ins)) icells_len (by omega) (fun x => rfl) Ins.z l k h
theorem inVs4 (l : List Ins) (k : Nat) (v : Int) (h : k < l.length) : (inV l).set (k * 5 + 4) (.int .u64 v) = inV (l.set k ((fun x => ⟨x.op, x.a, x.b, x.c, v⟩ : Ins → Ins) (l.getD k Ins.z))) := flat_set (j := 4) (g := (fun x => ⟨x.op, x.a, x.b, x.c, v⟩ : Ins → Ins)) icells_len (by omega) (fun x => rfl) Ins.z l k h
theorem inV_take (l : List Ins) (k : Nat) : inV (l.take k) = (inV l).take (k * 5) := by
 induction k generalizing l with
 | zero => simp [inV]
 | succ k ih =>
  rcases l with _ | ⟨x, r⟩
  · simp [inV]
  · unfold inV at ih ⊢
    rw [List.take_succ_cons, List.flatMap_cons, List.flatMap_cons, ih r, show (k + 1) * 5 = (icells x).length + k * 5 by rw [icells_len]; omega, List.take_length_add_append]
theorem Nx.take {w : World} {lo hi : Nat} {A : Option Addr} {l : List Ins} (h : Nx w lo hi A l) (k : Nat) (hk : k ≤ l.length) : Nx w lo hi A (l.take k) := by
 have hl : (l.take k).length = k := by rw [List.length_take]; omega
 unfold Nx
 rw [hl]
 refine ⟨⟨by rw [inV_len, hl], fun hp => ?_⟩, fun ad e hp => h.2 ad e (by omega)⟩
 obtain ⟨ad, e, hb, hc⟩ := h.1.2 (by omega)
 refine ⟨ad, e, hb, fun j u hu => hc j u ?_⟩
 rw [inV_take, List.getElem?_take] at hu
 split at hu
 · exact hu
 · cases hu
end Go.Proofs.YtcnndoefgjbmiaaGreat.pm
namespace Go.Proofs.YtcnndoefgjbmiaaGreat.pm
open Go.RowKit
def FrS (f : Fr) : Prop := I64 f.params ∧ I64 f.size ∧ f.code.length ≤ 200 ∧ ∀ x ∈ f.code, InR x ∧ 0 ≤ x.imm ∧ x.imm < 18446744073709551616
def TgS (al : Int) (t : List Fr) : Prop := I64 al ∧ ∀ f ∈ t, FrS f
theorem FrS.of {al : Int} {ps : List Int} {f : Fr} (h : FrP al ps f) : FrS f := by
 obtain ⟨a0, a1, a2, a3, a4, a5, a6, a7, a8⟩ := h
 exact ⟨by unfold I64; omega, by unfold I64; omega, a6, fun x hx => ⟨(a7 x hx).1.2.1, (a7 x hx).1.2.2.1, (a7 x hx).1.2.2.2⟩⟩
theorem TgS.of {m : Nat} {al : Int} {t : List Fr} (h : TgP m al t) : TgS al t :=
 ⟨by rcases h.1 with e | e | e <;> rw [e] <;> unfold I64 <;> omega, fun f hf => FrS.of (h.2.2.2.2 f hf)⟩
theorem TgS.tgr {al : Int} {t : List Fr} (h : TgS al t) : TgR al t := ⟨h.1, fun f hf => ⟨(h.2 f hf).1, (h.2 f hf).2.1, fun x hx => ((h.2 f hf).2.2.2 x hx).1⟩⟩
theorem FrS.setc {f : Fr} (h : FrS f) {k : Nat} {x : Ins} (hx : InR x ∧ 0 ≤ x.imm ∧ x.imm < 18446744073709551616) : FrS ⟨f.params, f.size, f.code.set k x⟩ := by
 refine ⟨h.1, h.2.1, by show (f.code.set k x).length ≤ 200; rw [List.length_set]; exact h.2.2.1, fun y hy => ?_⟩
 rcases List.mem_or_eq_of_mem_set hy with h' | rfl
 · exact h.2.2.2 y h'
 · exact hx
theorem TgS.set {al : Int} {t : List Fr} (h : TgS al t) {j : Nat} {f : Fr} (hf : FrS f) : TgS al (t.set j f) := ⟨h.1, fun y hy => by
 rcases List.mem_or_eq_of_mem_set hy with h' | rfl
 · exact h.2 y h'
 · exact hf⟩
theorem Wx.setFr {w : World} {lo hi : Nat} {vs : List Value} {t : List Fr} {j : Nat} (h : Wx w lo hi vs t) (hl : vs.length = t.length * 3) (hj : j < t.length) {g : Fr} {Ac : Option Addr} {cc : Nat} (hn : Nx w lo hi Ac g.code) (hm : g.code.length ≤ maxLen) (hcc : g.code.length ≤ cc) :
 Wx w lo hi (((vs.set (j * 3) (.int .i64 g.params)).set (j * 3 + 1) (.int .i64 g.size)).set (j * 3 + 2) (.slice Ac g.code.length cc)) (t.set j g) := fun i hi => by
 rw [List.length_set] at hi
 by_cases hij : i = j
 · subst hij
   have e : (t.set i g).getD i Fr.z = g := by rw [List.getD_eq_getElem?_getD, List.getElem?_set_self hi]; rfl
   rw [e]
   refine ⟨Ac, cc, ?_, ?_, ?_, hn, hm, hcc⟩
   · rw [List.getElem?_set_ne (by omega), List.getElem?_set_ne (by omega), List.getElem?_set_self (by omega)]
   · rw [List.getElem?_set_ne (by omega), List.getElem?_set_self (by rw [List.length_set]; omega)]
   · rw [List.getElem?_set_self (by rw [List.length_set, List.length_set]; omega)]
 · obtain ⟨Ai, ci, h1, h2, h3, h5, h6⟩ := h i hi
   have e : (t.set j g).getD i Fr.z = t.getD i Fr.z := by
    rw [List.getD_eq_getElem?_getD, List.getElem?_set_ne (fun e => hij e.symm), ← List.getD_eq_getElem?_getD]
   rw [e]
   refine ⟨Ai, ci, ?_, ?_, ?_, h5, h6⟩
   · rw [List.getElem?_set_ne (by omega), List.getElem?_set_ne (by omega), List.getElem?_set_ne (by omega)]; exact h1
   · rw [List.getElem?_set_ne (by omega), List.getElem?_set_ne (by omega), List.getElem?_set_ne (by omega)]; exact h2
   · rw [List.getElem?_set_ne (by omega), List.getElem?_set_ne (by omega), List.getElem?_set_ne (by omega)]; exact h3
theorem grownBy_refl' (w : World) (r : Option Nat) : w.grownBy w r := ⟨rfl, rfl, rfl, Nat.le_refl _, fun _ _ _ => rfl⟩
theorem next_i (B g : Nat) (A : Option Addr) (n c : Nat) (l : List Nat) (p : Nat) (w : World) (h : CodesAt w B g A n c l p) :
 Calls Tryz.prog 7 #[.pointer (some ⟨g, 0, none⟩), .int .i64 4] w fun e w' => ∃ (x : Int) (p' : Nat), (0 ≤ x ∧ x ≤ 3) ∧ e = .returned (.int .i64 x) ∧ CodesAt w' B g A n c l p' ∧ w.grownBy w' (some g) :=
 (next_d B g A n c l p 4 w h (by omega) (by omega)).mono fun e w' hh => by
  obtain ⟨v, p', hv, rfl, hc, hg⟩ := hh
  exact ⟨v, p', by omega, rfl, hc, hg⟩
def OddT (B cb lo : Nat) (A : Option Addr) (n c : Nat) (l : List Nat) (N : Nat) (w : World) (e : Ending) (w' : World) : Prop :=
 ∃ (al : Int) (t : List Fr) (At : Option Addr) (ct p' : Nat), e = .returned (.agg #[.int .i64 al, .slice At t.length ct]) ∧ TgS al t ∧ t.length = N ∧ Gx w' lo w'.heap.size At t ∧ t.length ≤ ct ∧ CodesAt w' B cb A n c l p' ∧ w.grownBy w' (some cb)
theorem oddtarget_d (B cb : Nat) (A : Option Addr) (n c : Nat) (l : List Nat) (p m : Nat) (al : Int) (t : List Fr) (At : Option Addr) (ct lo hi : Nat) (w : World) (h : CodesAt w B cb A n c l p) (htp : TgP m al t) (hm80 : m ≤ 80) (hgt : GT w lo hi At t) (hh : hi ≤ w.heap.size) (hlo : cb < lo) (hlw : lo ≤ w.heap.size) :
 Calls Tryz.prog 6 #[.pointer (some ⟨cb, 0, none⟩), .agg #[.int .i64 al, .slice At t.length ct]] w (OddT B cb lo A n c l t.length w) := by
 obtain ⟨i1, hi1, hy0, hy1, hy2⟩ := info_parts info_frm
 obtain ⟨i2, hi2, hw0, hw1, hw2⟩ := info_parts info_ins
 have hcbw := h.1.lt
 have hBcb := h.2.2.2.1
 obtain ⟨W1, hW1⟩ : ∃ W1, W1 = (w.alloc (.cells #[.int .i64 al, .slice At t.length ct] 26)).alloc (.cells #[.int .i64 0, .slice none 0 0] 26) := ⟨_, rfl⟩
 have hB1 : Below w.heap.size w W1 := by rw [hW1]; exact Below.al (Below.al bR _) _
 have HT1 : Hid (Blk W1 w.heap.size 26 #[.int .i64 al, .slice At t.length ct]) := hQ (by rw [hW1]; exact (Blk.new _ _ _).alloc _)
 have HR1 : Hid (Blk W1 (w.heap.size + 1) 26 #[.int .i64 0, .slice none 0 0]) := hQ (by rw [hW1]; exact Blk.newAt (by simp))
 have HG1 : Hid (w.grownBy W1 (some cb)) := hQ (grownBy_of_below hB1 _)
 have HC1 := hQ (h.after hB1)
 have hz1 : w.heap.size + 1 < W1.heap.size := HR1.out.lt
 obtain ⟨vs0, hrx, hwx, htx⟩ := hgt
 have hN1 : 1 ≤ t.length := htp.2.1
 have hN2 : t.length ≤ 80 := Nat.le_trans htp.2.2.1 hm80
 have hvl0 : vs0.length = t.length * 3 := hrx.1.1
 have hone0 : ∀ u ∈ vs0, u.oneCell' = true := by
  intro u hu
  obtain ⟨j, hj, rfl⟩ := List.mem_iff_getElem.1 hu
  obtain ⟨Ai, ci, h1, h2, h3, _⟩ := hwx (j / 3) (by omega)
  have hj3 : j = j / 3 * 3 ∨ j = j / 3 * 3 + 1 ∨ j = j / 3 * 3 + 2 := by omega
  have e : vs0[j]? = some vs0[j] := List.getElem?_eq_getElem hj
  generalize vs0[j] = u at e ⊢
  rcases hj3 with h0 | h0 | h0 <;> rw [h0] at e
  · rw [h1] at e; injection e with e; rw [← e]; rfl
  · rw [h2] at e; injection e with e; rw [← e]; rfl
  · rw [h3] at e; injection e with e; rw [← e]; rfl
 have HWX := hQ hwx
 have HRX := hQ (hrx.keep (Kp.of_below hB1 hh))
 have HONE := hQ hone0
 have HTP := hQ htp
 have HW1 := hQ hW1
 obtain ⟨N, hN⟩ : ∃ N, N = t.length := ⟨_, rfl⟩
 have HTN : Hid (t.length = N) := hQ hN.symm
 have hNi : (N : Int) ≤ 80 := by omega
 have hN0 : 1 ≤ N := by omega
 rw [← hN] at HT1 HW1 HRX hvl0 ⊢
 clear hrx hwx htx hone0 htp h hW1 hB1 hN hN1 hN2
 obtain ⟨x0, x1, -, -, xz⟩ := HT1.out.c2
 go_enter Tryz.func6, Tryz.ntmps6
 go_upto_region 1 with (fail)
 rw [← HW1.out]
 clear HW1
 have hrd : Reads W1 W1.heap.size 3 At N vs0 := Reads.more HRX.out.1 (by omega)
 go_upto_region 2 with (at_builtin
                        refine wpList_append_any _ rfl (.const (.slice none 0 0)) (.tmp 10) _ rfl W1.heap.size 53 i1 _ 3 40 Tryz.underlying24 hi1 hy0 hy1 hy2 rfl (by omega) (.slice none 0 0) 0 [] rfl (World.ownsRow_nil _ _ _ _) W1.heap.size At N ct vs0 rfl hrd HONE.out (by unfold maxLen; omega) (by omega) nL ?_
                        intro vF w2 own2 hg2 hat2
                        have K2 : Hid (Kp 0 W1.heap.size W1 w2) := hQ (Kp.of_grownR hg2 nL (fun j hj => by simp [Value.ownBlock] at hj))
                        have HG2 : Hid (w.grownBy w2 (some cb)) := hQ (grownBy_step HG1.out hg2 (fun j e => by simp [Value.ownBlock] at e))
                        have HC2 := hQ (HC1.out.grown' hg2 (by simp [Value.ownBlock]) (fun k e => by simp [Value.ownBlock] at e))
                        have own2b := own2
                        rw [Nat.zero_add] at own2b
                        obtain ⟨Al, cl, rfl, -⟩ := own_form own2b)
 have HL2 : Hid (w2.ownsRow W1.heap.size 53 3 (.slice Al N cl) N vs0) := hQ own2b
 have HT2 : Hid (Blk w2 w.heap.size 26 #[.int .i64 al, .slice At N ct]) := hQ (Blk.kp HT1.out K2.out (Nat.zero_le _) (by omega))
 have HR2 : Hid (Blk w2 (w.heap.size + 1) 26 #[.int .i64 0, .slice none 0 0]) := hQ (Blk.kp HR1.out K2.out (Nat.zero_le _) hz1)
 clear own2 own2b hg2 hat2 x0 x1 xz hrd HT1 HR1 HG1 HC1 K2
 have HN2 := hQ (next_d B cb A n c l p (N : Int) w2 HC2.out (by omega) (by omega))
 go_wp2_with fail
 refine HN2.out.mono ?_
 rintro e w3 ⟨i, p3, hv3, rfl, hc3, hg3⟩
 have hiN : i < N := by omega
 have HG3 : Hid (w.grownBy w3 (some cb)) := hQ (grownBy_trans HG2.out hg3)
 have HC3 := hQ hc3
 have HL3 := hQ (own_farR HL2.out hg3 (by omega))
 have HT3 : Hid (Blk w3 w.heap.size 26 #[.int .i64 al, .slice At N ct]) := hQ (HT2.out.grown hg3 (by intro e; injection e; omega))
 have HR3 : Hid (Blk w3 (w.heap.size + 1) 26 #[.int .i64 0, .slice none 0 0]) := hQ (HR2.out.grown hg3 (by intro e; injection e; omega))
 clear hc3 hg3 hv3 HN2 HG2 HC2 HL2 HT2 HR2
 have hAl : ∃ gl, Al = some ⟨gl, 0, none⟩ ∧ W1.heap.size ≤ gl ∧ gl < w3.heap.size := by
  obtain ⟨gl, cap, hve, hgb, hgl⟩ := HL3.out.form (by omega)
  exact ⟨gl, by injection hve, hgb, hgl⟩
 obtain ⟨gl, hAl, hgl1, hgl2⟩ := hAl
 subst hAl
 have hi0 : (0 : Int) ≤ (i : Int) := by omega
 have hi1' : (i : Int) < (N : Int) := by omega
 have hit : i < t.length := by rw [HTN.out]; exact hiN
 obtain ⟨Ai, ci, h1, h2, h3, hnx, hml, hcl⟩ := HWX.out i hit
 have hfp := HTP.out.2.2.2.2 _ (getD_mem' (z := Fr.z) hit)
 obtain ⟨f, hfe⟩ : ∃ f, f = t.getD i Fr.z := ⟨_, rfl⟩
 rw [← hfe] at h1 h2 h3 hnx hml hcl hfp
 have HFS := hQ (FrS.of hfp)
 have hsz0 := hfp.2.2.1
 have hsz1 := hfp.2.2.2.1
 have hL1 := hfp.2.2.2.2.2.1
 have hL2 := hfp.2.2.2.2.2.2.1
 obtain ⟨prm, sz, code⟩ := f
 simp only at h1 h2 h3 hnx hml hcl hsz0 hsz1 hL1 hL2
 obtain ⟨L, hL⟩ : ∃ L, L = code.length := ⟨_, rfl⟩
 have HLE : Hid (code.length = L) := hQ hL.symm
 rw [← hL] at h3 hml hcl hL1 hL2
 have HNX := hQ hnx
 have c0 := own_cell HL3.out h1
 have c1 := own_cell HL3.out h2
 have c2 := own_cell HL3.out h3
 clear h1 h2 h3 hnx hfp hfe hL
 go_upto_region 4 with (fail)
 clear c0 c1 c2
 obtain ⟨W4, hW4⟩ : ∃ W4, W4 = w3.alloc (.cells #[.int .i64 prm, .int .i64 sz, .slice Ai L ci] 53) := ⟨_, rfl⟩
 rw [← hW4]
 have HF4 : Hid (Blk W4 w3.heap.size 53 #[.int .i64 prm, .int .i64 sz, .slice Ai L ci]) := hQ (by rw [hW4]; exact Blk.new _ _ _)
 have HG4 : Hid (w.grownBy W4 (some cb)) := hQ (by rw [hW4]; exact grownBy_al HG3.out _)
 have HC4 : Hid (CodesAt W4 B cb A n c l p3) := hQ (by rw [hW4]; exact HC3.out.alloc _)
 have HL4 : Hid (W4.ownsRow W1.heap.size 53 3 (.slice (some ⟨gl, 0, none⟩) N cl) N vs0) := hQ (by rw [hW4]; exact HL3.out.alloc _)
 have HT4 : Hid (Blk W4 w.heap.size 26 #[.int .i64 al, .slice At N ct]) := hQ (by rw [hW4]; exact HT3.out.alloc _)
 have HR4 : Hid (Blk W4 (w.heap.size + 1) 26 #[.int .i64 0, .slice none 0 0]) := hQ (by rw [hW4]; exact HR3.out.alloc _)
 have hz4 : w3.heap.size < W4.heap.size := HF4.out.lt
 clear hW4 HG3 HC3 HL3 HT3 HR3
 generalize w3.heap.size = g7 at *
 have HNX4 : Hid (Nx W4 lo hi Ai code) := hQ (HNX.out.keep (Kp.of_grown HG4.out hh (.inl hlo)))
 have hLb : ((L : Int) == 0) = false := by rw [beq_eq_false_iff_ne]; omega
 have hrd : Reads W4 W4.heap.size 5 Ai L (inV code) := by have := Reads.more HNX4.out.1 (show hi ≤ W4.heap.size by have := HG4.out.size; omega); rwa [HLE.out] at this
 obtain ⟨f0, f1, f2, fr0, fr1, fr2, fz⟩ := HF4.out.c3
 have hWW : W1.heap.size ≤ W4.heap.size := by omega
 go_upto_region 6 with (fail)
 go_upto_region 7 with (at_builtin
                        refine wpList_append_any _ rfl (.const (.slice none 0 0)) (.tmp 26) _ rfl W1.heap.size 50 i2 _ 5 40 Tryz.underlying51 hi2 hw0 hw1 hw2 rfl (by omega) (.slice none 0 0) 0 [] rfl (World.ownsRow_nil _ _ _ _) W4.heap.size Ai L ci (inV code) rfl hrd (inV_one code) (by unfold maxLen; omega) (by omega) hWW ?_
                        intro vC w5 own5 hg5 hat5
                        have K5 : Hid (Kp 0 W4.heap.size W4 w5) := hQ (Kp.of_grownR hg5 nL (fun j hj => by simp [Value.ownBlock] at hj))
                        have HG5 : Hid (w.grownBy w5 (some cb)) := hQ (grownBy_step HG4.out hg5 (fun j e => by simp [Value.ownBlock] at e))
                        have HC5 := hQ (HC4.out.grown' hg5 (by simp [Value.ownBlock]) (fun k e => by simp [Value.ownBlock] at e))
                        have HL5 := hQ (HL4.out.kept hg5 (.inr (by simp [Value.ownBlock])))
                        have hzc : W4.heap.size ≤ w5.heap.size := hg5.size
                        have own5b := own5
                        rw [Nat.zero_add] at own5b
                        obtain ⟨Ac, cc, rfl, -⟩ := own_form own5b
                        have HF5 : Hid (Blk w5 g7 53 #[.int .i64 prm, .int .i64 sz, .slice Ai L ci]) := hQ (Blk.kp HF4.out K5.out (Nat.zero_le _) hz4)
                        have hgc : ∃ gc, Ac = some ⟨gc, 0, none⟩ ∧ W4.heap.size ≤ gc := by
                         rcases hat5 with e | e
                         · obtain ⟨gq, cap, hve, hgb, hgl⟩ := own5b.form (by omega)
                           rw [hve] at e
                           simp [Value.ownBlock] at e
                         · obtain ⟨gq, cap, hve, hgb, hgl⟩ := own5b.form (by omega)
                           rw [hve] at e
                           have : gq = W4.heap.size := by simpa [Value.ownBlock] using e
                           exact ⟨gq, by injection hve, by omega⟩
                        obtain ⟨gc, hgc, hgc4⟩ := hgc
                        subst hgc
                        obtain ⟨v0, v1, v2, vr0, vr1, vr2, vz⟩ := HF5.out.c3)
 obtain ⟨W6, hW6⟩ : ∃ W6, W6 = w5.setCell ⟨g7, 2, none⟩ (.slice (some ⟨gc, 0, none⟩) L cc) := ⟨_, rfl⟩
 rw [← hW6]
 have h7gl : g7 ≠ gl := by omega
 have h7gc : g7 ≠ gc := by omega
 have hglc : gl ≠ gc := by omega
 have HF6 : Hid (Blk W6 g7 53 #[.int .i64 prm, .int .i64 sz, .slice (some ⟨gc, 0, none⟩) L cc]) := hQ (by rw [hW6]; have := HF5.out.set_ 2 (.slice (some ⟨gc, 0, none⟩) L cc); simpa using this)
 have HC6 : Hid (CodesAt W6 B cb A n c l p3) := hQ (by rw [hW6]; exact CodesAt.set HC5.out (q := ⟨g7, 2, none⟩) (show cb ≠ g7 by omega) (show B ≤ g7 by omega) _)
 have HG6 : Hid (w.grownBy W6 (some cb)) := hQ (by rw [hW6]; exact grownBy_set HG5.out (p := ⟨g7, 2, none⟩) (show w.heap.size ≤ g7 by omega) _)
 have HL6 : Hid (W6.ownsRow W1.heap.size 53 3 (.slice (some ⟨gl, 0, none⟩) N cl) N vs0) := hQ (by rw [hW6]; exact own_miss HL5.out ⟨g7, 2, none⟩ (fun j e => by have e' : gl = j := (by simpa [Value.ownBlock] using e); show j ≠ g7; omega) _)
 have OC6 : Hid (W6.ownsRow W1.heap.size 50 5 (.slice (some ⟨gc, 0, none⟩) L cc) L (inV code)) := hQ (by rw [hW6]; exact own_miss own5b ⟨g7, 2, none⟩ (fun j e => by have e' : gc = j := (by simpa [Value.ownBlock] using e); show j ≠ g7; omega) _)
 have HT6 : Hid (Blk W6 w.heap.size 26 #[.int .i64 al, .slice At N ct]) := hQ (by rw [hW6]; exact Blk.far (Blk.kp HT4.out K5.out (Nat.zero_le _) (by omega)) (show w.heap.size ≠ g7 by omega) _)
 have HR6 : Hid (Blk W6 (w.heap.size + 1) 26 #[.int .i64 0, .slice none 0 0]) := hQ (by rw [hW6]; exact Blk.far (Blk.kp HR4.out K5.out (Nat.zero_le _) (by omega)) (show w.heap.size + 1 ≠ g7 by omega) _)
 have hgcl : gc < W6.heap.size := (OC6.out.lt gc rfl).2
 have hCI : L ≤ cc := (own_cap own5b).2
 clear hW6 own5 own5b hg5 hat5 HF5 HG5 HC5 HL5 HF4 HG4 HC4 HL4 HT4 HR4 HNX4 K5 f0 f1 f2 fr0 fr1 fr2 fz v0 v1 v2 vr0 vr1 vr2 vz hrd
 obtain ⟨f0, f1, f2, -, -, -, fz⟩ := HF6.out.c3
 have HN6 := hQ (next_d B cb A n c l p3 (L : Int) W6 HC6.out (by omega) (by omega))
 go_wp2_with fail
 refine HN6.out.mono ?_
 rintro e w7 ⟨k, p7, hv7, rfl, hc7, hg7⟩
 have hkL : k < L := by omega
 clear hv7 f0 f1 f2 fz
 have HC7 := hQ hc7
 have HG7 : Hid (w.grownBy w7 (some cb)) := hQ (grownBy_trans HG6.out hg7)
 have HL7 := hQ (own_farR HL6.out hg7 (by omega))
 have OC7 := hQ (own_farR OC6.out hg7 (by omega))
 have HF7 := hQ (Blk.grown HF6.out hg7 (by intro e; injection e; omega))
 have HT7 := hQ (Blk.grown HT6.out hg7 (by intro e; injection e; omega))
 have HR7 := hQ (Blk.grown HR6.out hg7 (by intro e; injection e; omega))
 clear hc7 hg7 HC6 HG6 HL6 OC6 HF6 HT6 HR6
 have HN7 := hQ (next_d B cb A n c l p7 9 w7 HC7.out (by omega) (by omega))
 go_wp2_with fail
 refine HN7.out.mono ?_
 rintro e w8 ⟨z, p8, hv8, rfl, hc8, hg8⟩
 have HC8 := hQ hc8
 have HG8 : Hid (w.grownBy w8 (some cb)) := hQ (grownBy_trans HG7.out hg8)
 have HL8 := hQ (own_farR HL7.out hg8 (by omega))
 have OC8 := hQ (own_farR OC7.out hg8 (by omega))
 have HF8 := hQ (Blk.grown HF7.out hg8 (by intro e; injection e; omega))
 have HT8 := hQ (Blk.grown HT7.out hg8 (by intro e; injection e; omega))
 have HR8 := hQ (Blk.grown HR7.out hg8 (by intro e; injection e; omega))
 clear hc8 hg8 HC7 HG7 HL7 OC7 HF7 HT7 HR7
 have hk0 : (0 : Int) ≤ (k : Int) := by omega
 have hk1 : (k : Int) < (L : Int) := by omega
 have hkc : k < code.length := by rw [HLE.out]; exact hkL
 have hLi : (L : Int) ≤ 200 := by omega
 obtain ⟨f0, f1, f2, fr0, fr1, fr2, fz⟩ := HF8.out.c3
 clear HN6 HN7
 go_upto_block 0 with (fail)
 go_cut [] (fun wx => ∃ (g : Fr) (A2 : Option Addr) (c2 p8 : Nat), Hid (Blk wx g7 53 #[.int .i64 g.params, .int .i64 g.size, .slice A2 g.code.length c2]) ∧ Hid (Nx wx (g7 + 1) wx.heap.size A2 g.code) ∧ Hid (FrS g ∧ g.code.length ≤ c2) ∧ Hid (CodesAt wx B cb A n c l p8) ∧ Hid (w.grownBy wx (some cb)) ∧ Hid (wx.ownsRow W1.heap.size 53 3 (.slice (some ⟨gl, 0, none⟩) N cl) N vs0) ∧ Hid (Blk wx w.heap.size 26 #[.int .i64 al, .slice At N ct]) ∧ Hid (Blk wx (w.heap.size + 1) 26 #[.int .i64 0, .slice none 0 0]))
 case first =>
  have hz' : z = 0 ∨ z = 1 ∨ z = 2 ∨ z = 3 ∨ z = 4 ∨ z = 5 ∨ z = 6 ∨ z = 7 ∨ z = 8 := by omega
  clear hv8
  rcases hz' with hz | hz | hz | hz | hz | hz | hz | hz | hz
  · subst hz
    obtain ⟨X, hX⟩ : ∃ X, X = code.getD k Ins.z := ⟨_, rfl⟩
    have hXr := HFS.out.2.2.2 _ (getD_mem' (z := Ins.z) hkc)
    rw [← hX] at hXr
    have HXR := hQ hXr
    have HX := hQ hX
    have HND := hQ (next_d B cb A n c l p8 28 w8.drew HC8.out (by omega) (by omega))
    have HS12 : Hid (w8.drew.cell? ⟨g7, 2, none⟩ = some (.slice (some ⟨gc, 0, none⟩) L cc)) := hQ f2
    clear hX hXr
    go_wp2_with fail
    go_region_held3 (fun W => W.cell? ⟨g7, 2, none⟩ = some (.slice (some ⟨gc, 0, none⟩) L cc))
     (with_reducible first | exact HS12.out | exact HS13.out | exact HS14.out _)
     ((go_at_call 7
       (with_reducible refine HND.out.mono ?_)
       rintro e w13 ⟨x, p13, hx, rfl, hc13, hg13⟩
       have HG13 : Hid (w.grownBy w13 (some cb)) := hQ (grownBy_trans (grownBy_trans HG8.out (show w8.grownBy w8.drew (some cb) from grownBy_drewN' w8 1 _)) hg13)
       have OC13 := hQ (own_farR (w := w8.drew) OC8.out hg13 (by omega))
       have HL13 := hQ (own_farR (w := w8.drew) HL8.out hg13 (by omega))
       have HF13 := hQ (Blk.grown (w := w8.drew) HF8.out hg13 (by intro e; injection e; omega))
       have HT13 := hQ (Blk.grown (w := w8.drew) HT8.out hg13 (by intro e; injection e; omega))
       have HR13 := hQ (Blk.grown (w := w8.drew) HR8.out hg13 (by intro e; injection e; omega))
       have HC13 := hQ hc13
       have HVX := hQ hx
       have hwr : IntKind.i64.wrap ((x : Int) - 1) = (x : Int) - 1 := IntWalk.i64_in _ (by omega)
       obtain ⟨-, -, ff2, -, -, -, -⟩ := HF13.out.c3
       have HS13 : Hid (w13.cell? ⟨g7, 2, none⟩ = some (.slice (some ⟨gc, 0, none⟩) L cc)) := hQ ff2
       have HS14 : Hid (∀ v, (w13.setCell ⟨gc, k * 5, none⟩ v).cell? ⟨g7, 2, none⟩ = some (.slice (some ⟨gc, 0, none⟩) L cc)) := hQ (fun v => (World.cell?_setCell_other w13 _ _ v (fun e => by injection e; omega)).trans ff2)
       obtain ⟨y0, y1, y2, y3, y4⟩ := own_ins OC13.out hkc
       have yf := OC13.out.frozenAt (k * 5)
       clear hc13 hg13 hx ff2))
    have hst := (OC13.out.stored (k * 5) (.int .i64 ((x : Int) - 1))).1
    rw [inVs0 _ _ _ hkc, ← HX.out] at hst
    have HOS := hQ hst
    clear hst y0 y1 y2 y3 y4 yf HS12 HS13 HS14 f0 f1 f2 fr0 fr1 fr2 fz
    go_wp2_with fail
    go_meet
    exact ⟨⟨prm, sz, code.set k ⟨((x : Int) - 1), X.a, X.b, X.c, X.imm⟩⟩, some ⟨gc, 0, none⟩, cc, p13, hQ (by
     have h1 := Blk.far HF13.out (p := ⟨gc, k * 5, none⟩) (show g7 ≠ gc by omega) (.int .i64 ((x : Int) - 1))
     show Blk _ g7 _ #[_, _, .slice _ (code.set k _).length cc]
     rw [List.length_set, HLE.out]
     exact h1), hQ (by
     have h1 := Rx.of_own HOS.out
     show Nx _ _ _ _ (code.set k _)
     unfold Nx
     rw [List.length_set, HLE.out]
     exact ⟨h1.1, fun ad e _ => by injection e with e; rw [← e]; show g7 + 1 ≤ gc; omega⟩), hQ ⟨FrS.setc HFS.out (by first | (exact ⟨⟨HXR.out.1.1, HXR.out.1.2.1, HXR.out.1.2.2.1, HXR.out.1.2.2.2⟩, (by show (0 : Int) ≤ (x : Int); omega), (by have := HVX.out; show (x : Int) < _; omega)⟩) | (refine ⟨?_, HXR.out.2⟩; have q1 := HXR.out.1; have q2 := HVX.out; unfold InR I64 at *; refine ⟨?_, ?_, ?_, ?_⟩ <;> simp only <;> omega)), by show (code.set k _).length ≤ cc; rw [List.length_set, HLE.out]; exact hCI⟩,
     hQ (CodesAt.set HC13.out (q := ⟨gc, k * 5, none⟩) (show cb ≠ gc by omega) (show B ≤ gc by omega) _), hQ (grownBy_set HG13.out (p := ⟨gc, k * 5, none⟩) (show w.heap.size ≤ gc by omega) _),
     hQ (own_miss HL13.out ⟨gc, k * 5, none⟩ (fun j e => by have e' : gl = j := (by simpa [Value.ownBlock] using e); show j ≠ gc; omega) _), hQ (Blk.far HT13.out (p := ⟨gc, k * 5, none⟩) (show w.heap.size ≠ gc by omega) _), hQ (Blk.far HR13.out (p := ⟨gc, k * 5, none⟩) (show w.heap.size + 1 ≠ gc by omega) _)⟩
  · subst hz
    obtain ⟨X, hX⟩ : ∃ X, X = code.getD k Ins.z := ⟨_, rfl⟩
    have hXr := HFS.out.2.2.2 _ (getD_mem' (z := Ins.z) hkc)
    rw [← hX] at hXr
    have HXR := hQ hXr
    have HX := hQ hX
    have HND := hQ (int_r B cb A n c l p8 w8.drew HC8.out)
    have HS12 : Hid (w8.drew.cell? ⟨g7, 2, none⟩ = some (.slice (some ⟨gc, 0, none⟩) L cc)) := hQ f2
    clear hX hXr
    go_wp2_with fail
    go_region_held3 (fun W => W.cell? ⟨g7, 2, none⟩ = some (.slice (some ⟨gc, 0, none⟩) L cc))
     (with_reducible first | exact HS12.out | exact HS13.out | exact HS14.out _)
     ((go_at_call 16
       (with_reducible refine HND.out.mono ?_)
       rintro e w13 ⟨x, p13, hx, rfl, hc13, hg13⟩
       have HG13 : Hid (w.grownBy w13 (some cb)) := hQ (grownBy_trans (grownBy_trans HG8.out (show w8.grownBy w8.drew (some cb) from grownBy_drewN' w8 1 _)) hg13)
       have OC13 := hQ (own_farR (w := w8.drew) OC8.out hg13 (by omega))
       have HL13 := hQ (own_farR (w := w8.drew) HL8.out hg13 (by omega))
       have HF13 := hQ (Blk.grown (w := w8.drew) HF8.out hg13 (by intro e; injection e; omega))
       have HT13 := hQ (Blk.grown (w := w8.drew) HT8.out hg13 (by intro e; injection e; omega))
       have HR13 := hQ (Blk.grown (w := w8.drew) HR8.out hg13 (by intro e; injection e; omega))
       have HC13 := hQ hc13
       have HVX := hQ hx
       skip
       obtain ⟨-, -, ff2, -, -, -, -⟩ := HF13.out.c3
       have HS13 : Hid (w13.cell? ⟨g7, 2, none⟩ = some (.slice (some ⟨gc, 0, none⟩) L cc)) := hQ ff2
       have HS14 : Hid (∀ v, (w13.setCell ⟨gc, k * 5 + 1, none⟩ v).cell? ⟨g7, 2, none⟩ = some (.slice (some ⟨gc, 0, none⟩) L cc)) := hQ (fun v => (World.cell?_setCell_other w13 _ _ v (fun e => by injection e; omega)).trans ff2)
       obtain ⟨y0, y1, y2, y3, y4⟩ := own_ins OC13.out hkc
       have yf := OC13.out.frozenAt (k * 5 + 1)
       clear hc13 hg13 hx ff2))
    have hst := (OC13.out.stored (k * 5 + 1) (.int .i64 x)).1
    rw [inVs1 _ _ _ hkc, ← HX.out] at hst
    have HOS := hQ hst
    clear hst y0 y1 y2 y3 y4 yf HS12 HS13 HS14 f0 f1 f2 fr0 fr1 fr2 fz
    go_wp2_with fail
    go_meet
    exact ⟨⟨prm, sz, code.set k ⟨X.op, x, X.b, X.c, X.imm⟩⟩, some ⟨gc, 0, none⟩, cc, p13, hQ (by
     have h1 := Blk.far HF13.out (p := ⟨gc, k * 5 + 1, none⟩) (show g7 ≠ gc by omega) (.int .i64 x)
     show Blk _ g7 _ #[_, _, .slice _ (code.set k _).length cc]
     rw [List.length_set, HLE.out]
     exact h1), hQ (by
     have h1 := Rx.of_own HOS.out
     show Nx _ _ _ _ (code.set k _)
     unfold Nx
     rw [List.length_set, HLE.out]
     exact ⟨h1.1, fun ad e _ => by injection e with e; rw [← e]; show g7 + 1 ≤ gc; omega⟩), hQ ⟨FrS.setc HFS.out (by first | (exact ⟨⟨HXR.out.1.1, HXR.out.1.2.1, HXR.out.1.2.2.1, HXR.out.1.2.2.2⟩, (by show (0 : Int) ≤ (x : Int); omega), (by have := HVX.out; show (x : Int) < _; omega)⟩) | (refine ⟨?_, HXR.out.2⟩; have q1 := HXR.out.1; have q2 := HVX.out; unfold InR I64 at *; refine ⟨?_, ?_, ?_, ?_⟩ <;> simp only <;> omega)), by show (code.set k _).length ≤ cc; rw [List.length_set, HLE.out]; exact hCI⟩,
     hQ (CodesAt.set HC13.out (q := ⟨gc, k * 5 + 1, none⟩) (show cb ≠ gc by omega) (show B ≤ gc by omega) _), hQ (grownBy_set HG13.out (p := ⟨gc, k * 5 + 1, none⟩) (show w.heap.size ≤ gc by omega) _),
     hQ (own_miss HL13.out ⟨gc, k * 5 + 1, none⟩ (fun j e => by have e' : gl = j := (by simpa [Value.ownBlock] using e); show j ≠ gc; omega) _), hQ (Blk.far HT13.out (p := ⟨gc, k * 5 + 1, none⟩) (show w.heap.size ≠ gc by omega) _), hQ (Blk.far HR13.out (p := ⟨gc, k * 5 + 1, none⟩) (show w.heap.size + 1 ≠ gc by omega) _)⟩
  · subst hz
    obtain ⟨X, hX⟩ : ∃ X, X = code.getD k Ins.z := ⟨_, rfl⟩
    have hXr := HFS.out.2.2.2 _ (getD_mem' (z := Ins.z) hkc)
    rw [← hX] at hXr
    have HXR := hQ hXr
    have HX := hQ hX
    have HND := hQ (int_r B cb A n c l p8 w8.drew HC8.out)
    have HS12 : Hid (w8.drew.cell? ⟨g7, 2, none⟩ = some (.slice (some ⟨gc, 0, none⟩) L cc)) := hQ f2
    clear hX hXr
    go_wp2_with fail
    go_region_held3 (fun W => W.cell? ⟨g7, 2, none⟩ = some (.slice (some ⟨gc, 0, none⟩) L cc))
     (with_reducible first | exact HS12.out | exact HS13.out | exact HS14.out _)
     ((go_at_call 16
       (with_reducible refine HND.out.mono ?_)
       rintro e w13 ⟨x, p13, hx, rfl, hc13, hg13⟩
       have HG13 : Hid (w.grownBy w13 (some cb)) := hQ (grownBy_trans (grownBy_trans HG8.out (show w8.grownBy w8.drew (some cb) from grownBy_drewN' w8 1 _)) hg13)
       have OC13 := hQ (own_farR (w := w8.drew) OC8.out hg13 (by omega))
       have HL13 := hQ (own_farR (w := w8.drew) HL8.out hg13 (by omega))
       have HF13 := hQ (Blk.grown (w := w8.drew) HF8.out hg13 (by intro e; injection e; omega))
       have HT13 := hQ (Blk.grown (w := w8.drew) HT8.out hg13 (by intro e; injection e; omega))
       have HR13 := hQ (Blk.grown (w := w8.drew) HR8.out hg13 (by intro e; injection e; omega))
       have HC13 := hQ hc13
       have HVX := hQ hx
       skip
       obtain ⟨-, -, ff2, -, -, -, -⟩ := HF13.out.c3
       have HS13 : Hid (w13.cell? ⟨g7, 2, none⟩ = some (.slice (some ⟨gc, 0, none⟩) L cc)) := hQ ff2
       have HS14 : Hid (∀ v, (w13.setCell ⟨gc, k * 5 + 2, none⟩ v).cell? ⟨g7, 2, none⟩ = some (.slice (some ⟨gc, 0, none⟩) L cc)) := hQ (fun v => (World.cell?_setCell_other w13 _ _ v (fun e => by injection e; omega)).trans ff2)
       obtain ⟨y0, y1, y2, y3, y4⟩ := own_ins OC13.out hkc
       have yf := OC13.out.frozenAt (k * 5 + 2)
       clear hc13 hg13 hx ff2))
    have hst := (OC13.out.stored (k * 5 + 2) (.int .i64 x)).1
    rw [inVs2 _ _ _ hkc, ← HX.out] at hst
    have HOS := hQ hst
    clear hst y0 y1 y2 y3 y4 yf HS12 HS13 HS14 f0 f1 f2 fr0 fr1 fr2 fz
    go_wp2_with fail
    go_meet
    exact ⟨⟨prm, sz, code.set k ⟨X.op, X.a, x, X.c, X.imm⟩⟩, some ⟨gc, 0, none⟩, cc, p13, hQ (by
     have h1 := Blk.far HF13.out (p := ⟨gc, k * 5 + 2, none⟩) (show g7 ≠ gc by omega) (.int .i64 x)
     show Blk _ g7 _ #[_, _, .slice _ (code.set k _).length cc]
     rw [List.length_set, HLE.out]
     exact h1), hQ (by
     have h1 := Rx.of_own HOS.out
     show Nx _ _ _ _ (code.set k _)
     unfold Nx
     rw [List.length_set, HLE.out]
     exact ⟨h1.1, fun ad e _ => by injection e with e; rw [← e]; show g7 + 1 ≤ gc; omega⟩), hQ ⟨FrS.setc HFS.out (by first | (exact ⟨⟨HXR.out.1.1, HXR.out.1.2.1, HXR.out.1.2.2.1, HXR.out.1.2.2.2⟩, (by show (0 : Int) ≤ (x : Int); omega), (by have := HVX.out; show (x : Int) < _; omega)⟩) | (refine ⟨?_, HXR.out.2⟩; have q1 := HXR.out.1; have q2 := HVX.out; unfold InR I64 at *; refine ⟨?_, ?_, ?_, ?_⟩ <;> simp only <;> omega)), by show (code.set k _).length ≤ cc; rw [List.length_set, HLE.out]; exact hCI⟩,
     hQ (CodesAt.set HC13.out (q := ⟨gc, k * 5 + 2, none⟩) (show cb ≠ gc by omega) (show B ≤ gc by omega) _), hQ (grownBy_set HG13.out (p := ⟨gc, k * 5 + 2, none⟩) (show w.heap.size ≤ gc by omega) _),
     hQ (own_miss HL13.out ⟨gc, k * 5 + 2, none⟩ (fun j e => by have e' : gl = j := (by simpa [Value.ownBlock] using e); show j ≠ gc; omega) _), hQ (Blk.far HT13.out (p := ⟨gc, k * 5 + 2, none⟩) (show w.heap.size ≠ gc by omega) _), hQ (Blk.far HR13.out (p := ⟨gc, k * 5 + 2, none⟩) (show w.heap.size + 1 ≠ gc by omega) _)⟩
  · subst hz
    obtain ⟨X, hX⟩ : ∃ X, X = code.getD k Ins.z := ⟨_, rfl⟩
    have hXr := HFS.out.2.2.2 _ (getD_mem' (z := Ins.z) hkc)
    rw [← hX] at hXr
    have HXR := hQ hXr
    have HX := hQ hX
    have HND := hQ (int_r B cb A n c l p8 w8.drew HC8.out)
    have HS12 : Hid (w8.drew.cell? ⟨g7, 2, none⟩ = some (.slice (some ⟨gc, 0, none⟩) L cc)) := hQ f2
    clear hX hXr
    go_wp2_with fail
    go_region_held3 (fun W => W.cell? ⟨g7, 2, none⟩ = some (.slice (some ⟨gc, 0, none⟩) L cc))
     (with_reducible first | exact HS12.out | exact HS13.out | exact HS14.out _)
     ((go_at_call 16
       (with_reducible refine HND.out.mono ?_)
       rintro e w13 ⟨x, p13, hx, rfl, hc13, hg13⟩
       have HG13 : Hid (w.grownBy w13 (some cb)) := hQ (grownBy_trans (grownBy_trans HG8.out (show w8.grownBy w8.drew (some cb) from grownBy_drewN' w8 1 _)) hg13)
       have OC13 := hQ (own_farR (w := w8.drew) OC8.out hg13 (by omega))
       have HL13 := hQ (own_farR (w := w8.drew) HL8.out hg13 (by omega))
       have HF13 := hQ (Blk.grown (w := w8.drew) HF8.out hg13 (by intro e; injection e; omega))
       have HT13 := hQ (Blk.grown (w := w8.drew) HT8.out hg13 (by intro e; injection e; omega))
       have HR13 := hQ (Blk.grown (w := w8.drew) HR8.out hg13 (by intro e; injection e; omega))
       have HC13 := hQ hc13
       have HVX := hQ hx
       skip
       obtain ⟨-, -, ff2, -, -, -, -⟩ := HF13.out.c3
       have HS13 : Hid (w13.cell? ⟨g7, 2, none⟩ = some (.slice (some ⟨gc, 0, none⟩) L cc)) := hQ ff2
       have HS14 : Hid (∀ v, (w13.setCell ⟨gc, k * 5 + 3, none⟩ v).cell? ⟨g7, 2, none⟩ = some (.slice (some ⟨gc, 0, none⟩) L cc)) := hQ (fun v => (World.cell?_setCell_other w13 _ _ v (fun e => by injection e; omega)).trans ff2)
       obtain ⟨y0, y1, y2, y3, y4⟩ := own_ins OC13.out hkc
       have yf := OC13.out.frozenAt (k * 5 + 3)
       clear hc13 hg13 hx ff2))
    have hst := (OC13.out.stored (k * 5 + 3) (.int .i64 x)).1
    rw [inVs3 _ _ _ hkc, ← HX.out] at hst
    have HOS := hQ hst
    clear hst y0 y1 y2 y3 y4 yf HS12 HS13 HS14 f0 f1 f2 fr0 fr1 fr2 fz
    go_wp2_with fail
    go_meet
    exact ⟨⟨prm, sz, code.set k ⟨X.op, X.a, X.b, x, X.imm⟩⟩, some ⟨gc, 0, none⟩, cc, p13, hQ (by
     have h1 := Blk.far HF13.out (p := ⟨gc, k * 5 + 3, none⟩) (show g7 ≠ gc by omega) (.int .i64 x)
     show Blk _ g7 _ #[_, _, .slice _ (code.set k _).length cc]
     rw [List.length_set, HLE.out]
     exact h1), hQ (by
     have h1 := Rx.of_own HOS.out
     show Nx _ _ _ _ (code.set k _)
     unfold Nx
     rw [List.length_set, HLE.out]
     exact ⟨h1.1, fun ad e _ => by injection e with e; rw [← e]; show g7 + 1 ≤ gc; omega⟩), hQ ⟨FrS.setc HFS.out (by first | (exact ⟨⟨HXR.out.1.1, HXR.out.1.2.1, HXR.out.1.2.2.1, HXR.out.1.2.2.2⟩, (by show (0 : Int) ≤ (x : Int); omega), (by have := HVX.out; show (x : Int) < _; omega)⟩) | (refine ⟨?_, HXR.out.2⟩; have q1 := HXR.out.1; have q2 := HVX.out; unfold InR I64 at *; refine ⟨?_, ?_, ?_, ?_⟩ <;> simp only <;> omega)), by show (code.set k _).length ≤ cc; rw [List.length_set, HLE.out]; exact hCI⟩,
     hQ (CodesAt.set HC13.out (q := ⟨gc, k * 5 + 3, none⟩) (show cb ≠ gc by omega) (show B ≤ gc by omega) _), hQ (grownBy_set HG13.out (p := ⟨gc, k * 5 + 3, none⟩) (show w.heap.size ≤ gc by omega) _),
     hQ (own_miss HL13.out ⟨gc, k * 5 + 3, none⟩ (fun j e => by have e' : gl = j := (by simpa [Value.ownBlock] using e); show j ≠ gc; omega) _), hQ (Blk.far HT13.out (p := ⟨gc, k * 5 + 3, none⟩) (show w.heap.size ≠ gc by omega) _), hQ (Blk.far HR13.out (p := ⟨gc, k * 5 + 3, none⟩) (show w.heap.size + 1 ≠ gc by omega) _)⟩
  · subst hz
    obtain ⟨X, hX⟩ : ∃ X, X = code.getD k Ins.z := ⟨_, rfl⟩
    have hXr := HFS.out.2.2.2 _ (getD_mem' (z := Ins.z) hkc)
    rw [← hX] at hXr
    have HXR := hQ hXr
    have HX := hQ hX
    have HND := hQ (word_d B cb A n c l p8 w8.drew HC8.out)
    have HS12 : Hid (w8.drew.cell? ⟨g7, 2, none⟩ = some (.slice (some ⟨gc, 0, none⟩) L cc)) := hQ f2
    clear hX hXr
    go_wp2_with fail
    go_region_held3 (fun W => W.cell? ⟨g7, 2, none⟩ = some (.slice (some ⟨gc, 0, none⟩) L cc))
     (with_reducible first | exact HS12.out | exact HS13.out | exact HS14.out _)
     ((go_at_call 17
       (with_reducible refine HND.out.mono ?_)
       rintro e w13 ⟨x, p13, hx, rfl, hc13, hg13⟩
       have HG13 : Hid (w.grownBy w13 (some cb)) := hQ (grownBy_trans (grownBy_trans HG8.out (show w8.grownBy w8.drew (some cb) from grownBy_drewN' w8 1 _)) hg13)
       have OC13 := hQ (own_farR (w := w8.drew) OC8.out hg13 (by omega))
       have HL13 := hQ (own_farR (w := w8.drew) HL8.out hg13 (by omega))
       have HF13 := hQ (Blk.grown (w := w8.drew) HF8.out hg13 (by intro e; injection e; omega))
       have HT13 := hQ (Blk.grown (w := w8.drew) HT8.out hg13 (by intro e; injection e; omega))
       have HR13 := hQ (Blk.grown (w := w8.drew) HR8.out hg13 (by intro e; injection e; omega))
       have HC13 := hQ hc13
       have HVX := hQ hx
       skip
       obtain ⟨-, -, ff2, -, -, -, -⟩ := HF13.out.c3
       have HS13 : Hid (w13.cell? ⟨g7, 2, none⟩ = some (.slice (some ⟨gc, 0, none⟩) L cc)) := hQ ff2
       have HS14 : Hid (∀ v, (w13.setCell ⟨gc, k * 5 + 4, none⟩ v).cell? ⟨g7, 2, none⟩ = some (.slice (some ⟨gc, 0, none⟩) L cc)) := hQ (fun v => (World.cell?_setCell_other w13 _ _ v (fun e => by injection e; omega)).trans ff2)
       obtain ⟨y0, y1, y2, y3, y4⟩ := own_ins OC13.out hkc
       have yf := OC13.out.frozenAt (k * 5 + 4)
       clear hc13 hg13 hx ff2))
    have hst := (OC13.out.stored (k * 5 + 4) (.int .u64 (x : Int))).1
    rw [inVs4 _ _ _ hkc, ← HX.out] at hst
    have HOS := hQ hst
    clear hst y0 y1 y2 y3 y4 yf HS12 HS13 HS14 f0 f1 f2 fr0 fr1 fr2 fz
    go_wp2_with fail
    go_meet
    exact ⟨⟨prm, sz, code.set k ⟨X.op, X.a, X.b, X.c, (x : Int)⟩⟩, some ⟨gc, 0, none⟩, cc, p13, hQ (by
     have h1 := Blk.far HF13.out (p := ⟨gc, k * 5 + 4, none⟩) (show g7 ≠ gc by omega) (.int .u64 (x : Int))
     show Blk _ g7 _ #[_, _, .slice _ (code.set k _).length cc]
     rw [List.length_set, HLE.out]
     exact h1), hQ (by
     have h1 := Rx.of_own HOS.out
     show Nx _ _ _ _ (code.set k _)
     unfold Nx
     rw [List.length_set, HLE.out]
     exact ⟨h1.1, fun ad e _ => by injection e with e; rw [← e]; show g7 + 1 ≤ gc; omega⟩), hQ ⟨FrS.setc HFS.out (by first | (exact ⟨⟨HXR.out.1.1, HXR.out.1.2.1, HXR.out.1.2.2.1, HXR.out.1.2.2.2⟩, (by show (0 : Int) ≤ (x : Int); omega), (by have := HVX.out; show (x : Int) < _; omega)⟩) | (refine ⟨?_, HXR.out.2⟩; have q1 := HXR.out.1; have q2 := HVX.out; unfold InR I64 at *; refine ⟨?_, ?_, ?_, ?_⟩ <;> simp only <;> omega)), by show (code.set k _).length ≤ cc; rw [List.length_set, HLE.out]; exact hCI⟩,
     hQ (CodesAt.set HC13.out (q := ⟨gc, k * 5 + 4, none⟩) (show cb ≠ gc by omega) (show B ≤ gc by omega) _), hQ (grownBy_set HG13.out (p := ⟨gc, k * 5 + 4, none⟩) (show w.heap.size ≤ gc by omega) _),
     hQ (own_miss HL13.out ⟨gc, k * 5 + 4, none⟩ (fun j e => by have e' : gl = j := (by simpa [Value.ownBlock] using e); show j ≠ gc; omega) _), hQ (Blk.far HT13.out (p := ⟨gc, k * 5 + 4, none⟩) (show w.heap.size ≠ gc by omega) _), hQ (Blk.far HR13.out (p := ⟨gc, k * 5 + 4, none⟩) (show w.heap.size + 1 ≠ gc by omega) _)⟩
  · subst hz
    have HND := hQ (int_r B cb A n c l p8 w8 HC8.out)
    go_wp2_with fail
    (with_reducible refine HND.out.mono ?_)
    rintro e w13 ⟨x, p13, hx, rfl, hc13, hg13⟩
    have HG13 : Hid (w.grownBy w13 (some cb)) := hQ (grownBy_trans HG8.out hg13)
    have OC13 := hQ (own_farR  OC8.out hg13 (by omega))
    have HL13 := hQ (own_farR  HL8.out hg13 (by omega))
    have HF13 := hQ (Blk.grown  HF8.out hg13 (by intro e; injection e; omega))
    have HT13 := hQ (Blk.grown  HT8.out hg13 (by intro e; injection e; omega))
    have HR13 := hQ (Blk.grown  HR8.out hg13 (by intro e; injection e; omega))
    have HC13 := hQ hc13
    have HVX := hQ hx
    obtain ⟨ff0, ff1, ff2, fe0, fe1, fe2, fez⟩ := HF13.out.c3
    clear hc13 hg13 hx
    clear f0 f1 f2 fr0 fr1 fr2 fz
    go_wp2_with fail
    go_meet
    exact ⟨⟨x, sz, code⟩, some ⟨gc, 0, none⟩, cc, p13, hQ (by
     have h1 := HF13.out.set_ 0 (.int .i64 x)
     show Blk _ g7 _ #[_, _, .slice _ code.length cc]
     rw [HLE.out]
     simpa using h1), hQ (by
     have h1 : Nx w13 (g7 + 1) w13.heap.size (some ⟨gc, 0, none⟩) code := by
      have h2 := Rx.of_own OC13.out
      unfold Nx
      rw [HLE.out]
      exact ⟨h2.1, fun ad e _ => by injection e with e; rw [← e]; show g7 + 1 ≤ gc; omega⟩
     have h3 := Nx.keep h1 ((Kp.refl (g7 + 1) w13.heap.size w13).set (p := ⟨g7, 0, none⟩) (.inl (Nat.lt_succ_self _)) (.int .i64 x))
     exact Nx.more h3 (by omega) (by simp)), hQ ⟨⟨HVX.out, HFS.out.2.1, HFS.out.2.2⟩, by show code.length ≤ cc; rw [HLE.out]; exact hCI⟩,
     hQ (CodesAt.set HC13.out (q := ⟨g7, 0, none⟩) (show cb ≠ g7 by omega) (show B ≤ g7 by omega) _), hQ (grownBy_set HG13.out (p := ⟨g7, 0, none⟩) (show w.heap.size ≤ g7 by omega) _),
     hQ (own_miss HL13.out ⟨g7, 0, none⟩ (fun j e => by have e' : gl = j := (by simpa [Value.ownBlock] using e); show j ≠ g7; omega) _), hQ (Blk.far HT13.out (p := ⟨g7, 0, none⟩) (show w.heap.size ≠ g7 by omega) _), hQ (Blk.far HR13.out (p := ⟨g7, 0, none⟩) (show w.heap.size + 1 ≠ g7 by omega) _)⟩
  · subst hz
    go_wp2_with fail
    simp only [Int.cast_ofNat_Int]
    clear f0 f1 f2 fr0 fr1 fr2 fz
    refine wp_region_rg (fun (X : Nat → Prop) (j : Nat) (u : Nat → Value) (w : World) => match j with
     | 0 => u 0 = .pointer (some ⟨g7, 1, none⟩)
     | 1 => u 1 = .int .i64 sz
     | 2 => u 2 = .pointer (some ⟨cb, 0, none⟩)
     | 3 => ∃ x : Int, (0 ≤ x ∧ x ≤ 3) ∧ u 3 = .int .i64 x
     | 4 => ∃ x : Int, (0 ≤ x ∧ x ≤ 3) ∧ u 4 = .int .i64 (x - 2)
     | 5 => ∃ x : Int, (0 ≤ x ∧ x ≤ 3) ∧ u 5 = .int .i64 (16 * (x - 2))
     | 6 => ∃ x : Int, (0 ≤ x ∧ x ≤ 3) ∧ u 6 = .int .i64 (sz + 16 * (x - 2))
     | 7 => u 7 = .pointer (some ⟨g7, 1, none⟩)
     | 8 => True
     | _ => True)
     (fun X W => (¬ X 3 → W = w8.drew) ∧ (¬ X 8 → (∃ p' : Nat, CodesAt W B cb A n c l p') ∧ w8.drew.grownBy W (some cb)) ∧ (X 8 → ∃ (V : World) (p' : Nat) (x : Int), (0 ≤ x ∧ x ≤ 3) ∧ CodesAt V B cb A n c l p' ∧ w8.drew.grownBy V (some cb) ∧ W = V.setCell ⟨g7, 1, none⟩ (.int .i64 (sz + 16 * (x - 2))))) (fun w w' => w' = w) [3, 8] [0, 1, 0, 4, 12, 28, 63, 127, 255]
     [[], [(0, 89)], [], [(2, 91)], [(3, 92)], [(4, 93)], [(1, 90), (5, 94)], [], [(6, 95), (7, 96)]]
     [(0, 89), (1, 90), (2, 91), (3, 92), (4, 93), (5, 94), (6, 95), (7, 96)] (by kernel_rfl) (by kernel_rfl) ?hsG ?hsT ?h0 ?hs ?he
    case hsG =>
     intro i X w w' hsp hR hG
     refine ⟨fun h => by rw [hR]; exact hG.1 (fun hk => h (.inr hk)), fun h => by rw [hR]; exact hG.2.1 (fun hk => h (.inr hk)), fun h => by rw [hR]; exact hG.2.2 (h.resolve_left (by rintro rfl; exact absurd hsp (by decide)))⟩
    case hsT =>
     intro i X j u u' w w' hsp hij hni hXj hR hu h
     match j, hij, hni, hXj, hu, h with
     | 0, hij, hni, hXj, hu, h => exact (hu 0 (.inl rfl)).trans h
     | 1, hij, hni, hXj, hu, h => exact (hu 1 (.inl rfl)).trans h
     | 2, hij, hni, hXj, hu, h => exact (hu 2 (.inl rfl)).trans h
     | 3, hij, hni, hXj, hu, h => exact (by have h1 := h; simp only [← hu 3 (.inl rfl)] at h1; exact h1)
     | 4, hij, hni, hXj, hu, h => exact (by have h1 := h; simp only [← hu 4 (.inl rfl)] at h1; exact h1)
     | 5, hij, hni, hXj, hu, h => exact (by have h1 := h; simp only [← hu 5 (.inl rfl)] at h1; exact h1)
     | 6, hij, hni, hXj, hu, h => exact (by have h1 := h; simp only [← hu 6 (.inl rfl)] at h1; exact h1)
     | 7, hij, hni, hXj, hu, h => exact (hu 7 (.inl rfl)).trans h
     | 8, hij, hni, hXj, hu, h => exact trivial
     | _ + 9, _, _, _, _, h => exact trivial
    case h0 => exact ⟨fun _ => rfl, fun _ => ⟨⟨p8, HC8.out⟩, (grownBy_refl' _ _)⟩, fun h => h.elim⟩
    case hs =>
     refine RgAll.cons [] rfl (by decide) ?_ ?_
     · intro u w X hi hA hF hG hT K hK
       simp only [lay, Act.put, sA, sZ, sS] at hK ⊢
       clear hi hA hF hG hT
       go_simp
       exact hK _ _ (rfl) (updV_self _ _ _)
     refine RgAll.cons [(0, 89)] rfl (by decide) ?_ ?_
     · intro u w X hi hA hF hG hT K hK
       have t0 : u 0 = .pointer (some ⟨g7, 1, none⟩) := hT 0 (hA 0 rfl)
       simp only [lay, Act.put, sA, sZ, sS, t0] at hK ⊢
       have hbk : Blk w g7 53 #[.int .i64 prm, .int .i64 sz, .slice (some ⟨gc, 0, none⟩) L cc] := Blk.grown (w := w8.drew) HF8.out (hG.2.1 (hF 8 rfl)).2 (by intro e; injection e; omega)
       obtain ⟨k0, k1, k2, -, -, -, kz⟩ := hbk.c3
       clear hi hA hF hG hT
       go_simp
       exact hK _ _ (rfl) (updV_self _ _ _)
     refine RgAll.cons [] rfl (by decide) ?_ ?_
     · intro u w X hi hA hF hG hT K hK
       simp only [lay, Act.put, sA, sZ, sS] at hK ⊢
       clear hi hA hF hG hT
       go_simp
       exact hK _ _ (rfl) (updV_self _ _ _)
     refine RgAll.consS [(2, 91)] rfl ?_ ?_
     · intro u w X hi hA hF hG hT K hK
       have t2 : u 2 = .pointer (some ⟨cb, 0, none⟩) := hT 2 (hA 2 rfl)
       simp only [lay, Act.put, sA, sZ, sS, t2] at hK ⊢
       obtain rfl := hG.1 hi
       go_simp
       refine Calls.mono (next_i B cb A n c l p8 _ (show CodesAt _ B cb A n c l p8 from HC8.out)) ?_
       rintro e w13 ⟨x, p13, hx, rfl, hc, hg⟩
       refine hK (.int .i64 x) w13 ⟨fun h => absurd (by simp) h, fun _ => ⟨⟨p13, hc⟩, hg⟩, fun h => absurd (h.resolve_left (by decide)) (hF 8 rfl)⟩ ?_
       intro j hj
       match j, hj with
        | 0, hj => exact (updV_ne _ _ (by decide)).trans (hT 0 (hj.resolve_left (by decide)))
        | 1, hj => exact (updV_ne _ _ (by decide)).trans (hT 1 (hj.resolve_left (by decide)))
        | 2, hj => exact (updV_ne _ _ (by decide)).trans (hT 2 (hj.resolve_left (by decide)))
        | 3, hj => exact ⟨x, hx, updV_self _ _ _⟩
        | 4, hj => exact (by have h1 := hT 4 (hj.resolve_left (by decide)); simpa [updV] using h1)
        | 5, hj => exact (by have h1 := hT 5 (hj.resolve_left (by decide)); simpa [updV] using h1)
        | 6, hj => exact (by have h1 := hT 6 (hj.resolve_left (by decide)); simpa [updV] using h1)
        | 7, hj => exact (updV_ne _ _ (by decide)).trans (hT 7 (hj.resolve_left (by decide)))
        | 8, hj => exact trivial
        | _ + 9, hj => exact trivial
     refine RgAll.cons [(3, 92)] rfl (by decide) ?_ ?_
     · intro u w X hi hA hF hG hT K hK
       have t3 : ∃ x : Int, (0 ≤ x ∧ x ≤ 3) ∧ u 3 = .int .i64 x := hT 3 (hA 3 rfl)
       simp only [lay, Act.put, sA, sZ, sS] at hK ⊢
       obtain ⟨x, ⟨hx0, hx3⟩, hu3⟩ := t3
       clear hi hA hF hT
       have hwr : IntKind.i64.wrap (x - 2) = x - 2 := IntWalk.i64_in _ (by omega)
       simp only [hu3] at hK ⊢
       go_simp
       exact hK _ _ rfl ⟨x, ⟨hx0, hx3⟩, updV_self _ _ _⟩
     refine RgAll.cons [(4, 93)] rfl (by decide) ?_ ?_
     · intro u w X hi hA hF hG hT K hK
       have t4 : ∃ x : Int, (0 ≤ x ∧ x ≤ 3) ∧ u 4 = .int .i64 (x - 2) := hT 4 (hA 4 rfl)
       simp only [lay, Act.put, sA, sZ, sS] at hK ⊢
       obtain ⟨x, ⟨hx0, hx3⟩, hu4⟩ := t4
       clear hi hA hF hT
       have hwr : IntKind.i64.wrap (16 * (x - 2)) = 16 * (x - 2) := IntWalk.i64_in _ (by omega)
       simp only [hu4] at hK ⊢
       go_simp
       exact hK _ _ rfl ⟨x, ⟨hx0, hx3⟩, updV_self _ _ _⟩
     refine RgAll.cons [(1, 90), (5, 94)] rfl (by decide) ?_ ?_
     · intro u w X hi hA hF hG hT K hK
       have t1 : u 1 = .int .i64 sz := hT 1 (hA 1 rfl)
       have t5 : ∃ x : Int, (0 ≤ x ∧ x ≤ 3) ∧ u 5 = .int .i64 (16 * (x - 2)) := hT 5 (hA 5 rfl)
       simp only [lay, Act.put, sA, sZ, sS, t1] at hK ⊢
       obtain ⟨x, ⟨hx0, hx3⟩, hu5⟩ := t5
       clear hi hA hF hT
       have hwr : IntKind.i64.wrap (sz + 16 * (x - 2)) = sz + 16 * (x - 2) := IntWalk.i64_in _ (by omega)
       simp only [hu5] at hK ⊢
       go_simp
       exact hK _ _ rfl ⟨x, ⟨hx0, hx3⟩, updV_self _ _ _⟩
     refine RgAll.cons [] rfl (by decide) ?_ ?_
     · intro u w X hi hA hF hG hT K hK
       simp only [lay, Act.put, sA, sZ, sS] at hK ⊢
       clear hi hA hF hG hT
       go_simp
       exact hK _ _ (rfl) (updV_self _ _ _)
     refine RgAll.consS [(6, 95), (7, 96)] rfl ?_ ?_
     · intro u w X hi hA hF hG hT K hK
       have t6 : ∃ x : Int, (0 ≤ x ∧ x ≤ 3) ∧ u 6 = .int .i64 (sz + 16 * (x - 2)) := hT 6 (hA 6 rfl)
       have t7 : u 7 = .pointer (some ⟨g7, 1, none⟩) := hT 7 (hA 7 rfl)
       simp only [lay, Act.put, sA, sZ, sS, t7] at hK ⊢
       obtain ⟨x, ⟨hx0, hx3⟩, hu6⟩ := t6
       obtain ⟨⟨p13, hc⟩, hg⟩ := hG.2.1 hi
       have hbk : Blk w g7 53 #[.int .i64 prm, .int .i64 sz, .slice (some ⟨gc, 0, none⟩) L cc] := Blk.grown (w := w8.drew) HF8.out hg (by intro e; injection e; omega)
       obtain ⟨k0, k1, k2, q0, q1, q2, kz⟩ := hbk.c3
       have hX3 : X 3 := hA 3 rfl
       clear hi hF
       simp only [hu6] at hK ⊢
       go_simp
       refine hK undef _ ⟨fun h => absurd (.inr hX3) h, fun h => absurd (by simp) h, fun _ => ⟨w, p13, x, ⟨hx0, hx3⟩, hc, hg, rfl⟩⟩ ?_
       intro j hj
       match j, hj with
        | 0, hj => exact (updV_ne _ _ (by decide)).trans (hT 0 (hj.resolve_left (by decide)))
        | 1, hj => exact (updV_ne _ _ (by decide)).trans (hT 1 (hj.resolve_left (by decide)))
        | 2, hj => exact (updV_ne _ _ (by decide)).trans (hT 2 (hj.resolve_left (by decide)))
        | 3, hj => exact (by have h1 := hT 3 (hj.resolve_left (by decide)); simpa [updV] using h1)
        | 4, hj => exact (by have h1 := hT 4 (hj.resolve_left (by decide)); simpa [updV] using h1)
        | 5, hj => exact (by have h1 := hT 5 (hj.resolve_left (by decide)); simpa [updV] using h1)
        | 6, hj => exact (by have h1 := hT 6 (hj.resolve_left (by decide)); simpa [updV] using h1)
        | 7, hj => exact (updV_ne _ _ (by decide)).trans (hT 7 (hj.resolve_left (by decide)))
        | 8, hj => exact trivial
        | _ + 9, hj => exact trivial
     exact RgAll.nil
    intro u w X hX hG hT
    have t0 : u 0 = .pointer (some ⟨g7, 1, none⟩) := hT 0 (by simp)
    have t1 : u 1 = .int .i64 sz := hT 1 (by simp)
    have t2 : u 2 = .pointer (some ⟨cb, 0, none⟩) := hT 2 (by simp)
    have t3 : ∃ x : Int, (0 ≤ x ∧ x ≤ 3) ∧ u 3 = .int .i64 x := hT 3 (by simp)
    have t4 : ∃ x : Int, (0 ≤ x ∧ x ≤ 3) ∧ u 4 = .int .i64 (x - 2) := hT 4 (by simp)
    have t5 : ∃ x : Int, (0 ≤ x ∧ x ≤ 3) ∧ u 5 = .int .i64 (16 * (x - 2)) := hT 5 (by simp)
    have t6 : ∃ x : Int, (0 ≤ x ∧ x ≤ 3) ∧ u 6 = .int .i64 (sz + 16 * (x - 2)) := hT 6 (by simp)
    have t7 : u 7 = .pointer (some ⟨g7, 1, none⟩) := hT 7 (by simp)
    simp only [lay, Act.put, sA, sZ, sS, t0, t1, t2, t7]
    clear hT t0 t1 t2 t7
    obtain ⟨w13, p13, x, hx, hc13, hg13, rfl⟩ := hG.2.2 (hX 8 (by simp))
    have HG13 : Hid (w.grownBy w13 (some cb)) := hQ (grownBy_trans (grownBy_trans HG8.out (show w8.grownBy w8.drew (some cb) from grownBy_drewN' w8 1 _)) hg13)
    have OC13 := hQ (own_farR (w := w8.drew) OC8.out hg13 (by omega))
    have HL13 := hQ (own_farR (w := w8.drew) HL8.out hg13 (by omega))
    have HF13 := hQ (Blk.grown (w := w8.drew) HF8.out hg13 (by intro e; injection e; omega))
    have HT13 := hQ (Blk.grown (w := w8.drew) HT8.out hg13 (by intro e; injection e; omega))
    have HR13 := hQ (Blk.grown (w := w8.drew) HR8.out hg13 (by intro e; injection e; omega))
    have HC13 := hQ hc13
    have HVX := hQ hx
    obtain ⟨ff0, ff1, ff2, fe0, fe1, fe2, fez⟩ := HF13.out.c3
    clear hc13 hg13 hx
    clear hG hX
    obtain ⟨hx0, hx3⟩ := HVX.out
    go_wp2_with fail
    go_meet
    exact ⟨⟨prm, sz + 16 * (x - 2), code⟩, some ⟨gc, 0, none⟩, cc, p13, hQ (by
     have h1 := HF13.out.set_ 1 (.int .i64 (sz + 16 * (x - 2)))
     show Blk _ g7 _ #[_, _, .slice _ code.length cc]
     rw [HLE.out]
     simpa using h1), hQ (by
     have h1 : Nx w13 (g7 + 1) w13.heap.size (some ⟨gc, 0, none⟩) code := by
      have h2 := Rx.of_own OC13.out
      unfold Nx
      rw [HLE.out]
      exact ⟨h2.1, fun ad e _ => by injection e with e; rw [← e]; show g7 + 1 ≤ gc; omega⟩
     have h3 := Nx.keep h1 ((Kp.refl (g7 + 1) w13.heap.size w13).set (p := ⟨g7, 1, none⟩) (.inl (Nat.lt_succ_self _)) (.int .i64 (sz + 16 * (x - 2))))
     exact Nx.more h3 (by omega) (by simp)), hQ ⟨⟨HFS.out.1, (by show I64 (sz + 16 * (x - 2)); unfold I64; omega), HFS.out.2.2⟩, by show code.length ≤ cc; rw [HLE.out]; exact hCI⟩,
     hQ (CodesAt.set HC13.out (q := ⟨g7, 1, none⟩) (show cb ≠ g7 by omega) (show B ≤ g7 by omega) _), hQ (grownBy_set HG13.out (p := ⟨g7, 1, none⟩) (show w.heap.size ≤ g7 by omega) _),
     hQ (own_miss HL13.out ⟨g7, 1, none⟩ (fun j e => by have e' : gl = j := (by simpa [Value.ownBlock] using e); show j ≠ g7; omega) _), hQ (Blk.far HT13.out (p := ⟨g7, 1, none⟩) (show w.heap.size ≠ g7 by omega) _), hQ (Blk.far HR13.out (p := ⟨g7, 1, none⟩) (show w.heap.size + 1 ≠ g7 by omega) _)⟩
  · subst hz
    have hkl' : (k : Int) ≤ (cc : Int) := by omega
    have htl : (code.take k).length = k := by rw [List.length_take]; omega
    have HTL := hQ htl
    clear htl
    go_wp2_with fail
    go_meet
    exact ⟨⟨prm, sz, code.take k⟩, some ⟨gc, 0, none⟩, cc, p8, hQ (by
     have h1 := HF8.out.set_ 2 (.slice (some ⟨gc, 0, none⟩) k cc)
     show Blk _ g7 _ #[_, _, .slice _ (code.take k).length cc]
     rw [HTL.out]
     simpa using h1), hQ (by
     have h1 : Nx w8 (g7 + 1) w8.heap.size (some ⟨gc, 0, none⟩) code := by
      have h2 := Rx.of_own OC8.out
      unfold Nx
      rw [HLE.out]
      exact ⟨h2.1, fun ad e _ => by injection e with e; rw [← e]; show g7 + 1 ≤ gc; omega⟩
     have h3 := Nx.keep (Nx.take h1 k (by omega)) ((Kp.refl (g7 + 1) w8.heap.size w8).set (p := ⟨g7, 2, none⟩) (.inl (Nat.lt_succ_self _)) (.slice (some ⟨gc, 0, none⟩) k cc))
     exact Nx.more h3 (by omega) (by simp)), hQ ⟨⟨HFS.out.1, HFS.out.2.1, by show (code.take k).length ≤ 200; rw [HTL.out]; omega, fun x hx => HFS.out.2.2.2 x (List.mem_of_mem_take hx)⟩, by show (code.take k).length ≤ cc; rw [HTL.out]; omega⟩,
     hQ (CodesAt.set HC8.out (q := ⟨g7, 2, none⟩) (show cb ≠ g7 by omega) (show B ≤ g7 by omega) _), hQ (grownBy_set HG8.out (p := ⟨g7, 2, none⟩) (show w.heap.size ≤ g7 by omega) _),
     hQ (own_miss HL8.out ⟨g7, 2, none⟩ (fun j e => by have e' : gl = j := (by simpa [Value.ownBlock] using e); show j ≠ g7; omega) _), hQ (Blk.far HT8.out (p := ⟨g7, 2, none⟩) (show w.heap.size ≠ g7 by omega) _), hQ (Blk.far HR8.out (p := ⟨g7, 2, none⟩) (show w.heap.size + 1 ≠ g7 by omega) _)⟩
  · subst hz
    have HND := hQ (int_r B cb A n c l p8 w8 HC8.out)
    go_wp2_with fail
    (with_reducible refine HND.out.mono ?_)
    rintro e w13 ⟨x, p13, hx, rfl, hc13, hg13⟩
    have HG13 : Hid (w.grownBy w13 (some cb)) := hQ (grownBy_trans HG8.out hg13)
    have OC13 := hQ (own_farR  OC8.out hg13 (by omega))
    have HL13 := hQ (own_farR  HL8.out hg13 (by omega))
    have HF13 := hQ (Blk.grown  HF8.out hg13 (by intro e; injection e; omega))
    have HT13 := hQ (Blk.grown  HT8.out hg13 (by intro e; injection e; omega))
    have HR13 := hQ (Blk.grown  HR8.out hg13 (by intro e; injection e; omega))
    have HC13 := hQ hc13
    have HVX := hQ hx
    obtain ⟨ff0, ff1, ff2, fe0, fe1, fe2, fez⟩ := HF13.out.c3
    clear hc13 hg13 hx
    clear f0 f1 f2 fr0 fr1 fr2 fz
    go_wp2_with fail
    go_meet
    exact ⟨⟨prm, x, code⟩, some ⟨gc, 0, none⟩, cc, p13, hQ (by
     have h1 := HF13.out.set_ 1 (.int .i64 x)
     show Blk _ g7 _ #[_, _, .slice _ code.length cc]
     rw [HLE.out]
     simpa using h1), hQ (by
     have h1 : Nx w13 (g7 + 1) w13.heap.size (some ⟨gc, 0, none⟩) code := by
      have h2 := Rx.of_own OC13.out
      unfold Nx
      rw [HLE.out]
      exact ⟨h2.1, fun ad e _ => by injection e with e; rw [← e]; show g7 + 1 ≤ gc; omega⟩
     have h3 := Nx.keep h1 ((Kp.refl (g7 + 1) w13.heap.size w13).set (p := ⟨g7, 1, none⟩) (.inl (Nat.lt_succ_self _)) (.int .i64 x))
     exact Nx.more h3 (by omega) (by simp)), hQ ⟨⟨HFS.out.1, HVX.out, HFS.out.2.2⟩, by show code.length ≤ cc; rw [HLE.out]; exact hCI⟩,
     hQ (CodesAt.set HC13.out (q := ⟨g7, 1, none⟩) (show cb ≠ g7 by omega) (show B ≤ g7 by omega) _), hQ (grownBy_set HG13.out (p := ⟨g7, 1, none⟩) (show w.heap.size ≤ g7 by omega) _),
     hQ (own_miss HL13.out ⟨g7, 1, none⟩ (fun j e => by have e' : gl = j := (by simpa [Value.ownBlock] using e); show j ≠ g7; omega) _), hQ (Blk.far HT13.out (p := ⟨g7, 1, none⟩) (show w.heap.size ≠ g7 by omega) _), hQ (Blk.far HR13.out (p := ⟨g7, 1, none⟩) (show w.heap.size + 1 ≠ g7 by omega) _)⟩
 case rest =>
  obtain ⟨g, A2, c2, p9, HF9, HN9, HFG, HC9, HG9, HL9, HT9, HR9⟩ := hcut
  obtain ⟨W9, hW9⟩ : ∃ W9, W9 = wc := ⟨_, rfl⟩
  subst hW9
  have e0 := HL9.out.cellAt (i * 3) (by omega)
  have e1 := HL9.out.cellAt (i * 3 + 1) (by omega)
  have e2 := HL9.out.cellAt (i * 3 + 2) (by omega)
  have z0 := HL9.out.frozenAt (i * 3)
  have z1 := HL9.out.frozenAt (i * 3 + 1)
  have z2 := HL9.out.frozenAt (i * 3 + 2)
  obtain ⟨Ai9, ci9, v0, v1, v2, -⟩ := HWX.out i hit
  rw [v0] at e0
  rw [v1] at e1
  rw [v2] at e2
  clear v0 v1 v2
  obtain ⟨L9, hL9⟩ : ∃ L9, L9 = (t.getD i Fr.z).code.length := ⟨_, rfl⟩
  rw [← hL9] at e2
  clear hL9
  generalize (t.getD i Fr.z).params = pr9 at e0
  generalize (t.getD i Fr.z).size = sz9 at e1
  have hgt9 : w.heap.size + 1 < W9.heap.size := HR9.out.lt
  have hgl9 : gl < W9.heap.size := (HL9.out.lt gl rfl).2
  have h79 : g7 < W9.heap.size := HF9.out.lt
  obtain ⟨x0, x1, x2, y0, y1, y2, xz⟩ := HF9.out.c3
  go_upto_region 28 with (fail)
  obtain ⟨W10, hW10⟩ : ∃ W10, W10 = (((W9.setCell ⟨gl, i * 3, none⟩ (.int .i64 g.params)).setCell ⟨gl, i * 3 + 1, none⟩ (.int .i64 g.size)).setCell ⟨gl, i * 3 + 2, none⟩ (.slice A2 g.code.length c2)) := ⟨_, rfl⟩
  rw [← hW10]
  have hnT : w.heap.size ≠ gl := by omega
  have hnR : w.heap.size + 1 ≠ gl := by omega
  have hvs : vs0.length = N * 3 := hvl0
  obtain ⟨vs1, hvs1⟩ : ∃ vs1, vs1 = (((vs0.set (i * 3) (.int .i64 g.params)).set (i * 3 + 1) (.int .i64 g.size)).set (i * 3 + 2) (.slice A2 g.code.length c2)) := ⟨_, rfl⟩
  have HL10 : Hid (W10.ownsRow W1.heap.size 53 3 (.slice (some ⟨gl, 0, none⟩) N cl) N vs1) := hQ (by rw [hW10, hvs1]; exact ((HL9.out.stored (i * 3) (.int .i64 g.params)).1.stored (i * 3 + 1) (.int .i64 g.size)).1.stored (i * 3 + 2) (.slice A2 g.code.length c2) |>.1)
  have HK10 : Hid (Kp (g7 + 1) W9.heap.size W9 W10) := hQ (by rw [hW10]; exact ((((Kp.refl _ _ _).set (.inl (by show gl < g7 + 1; omega)) _).set (.inl (by show gl < g7 + 1; omega)) _).set (.inl (by show gl < g7 + 1; omega)) _))
  have HC10 : Hid (CodesAt W10 B cb A n c l p9) := hQ (by rw [hW10]; exact ((HC9.out.set (show cb ≠ gl by omega) (show B ≤ gl by omega) _).set (show cb ≠ gl by omega) (show B ≤ gl by omega) _).set (show cb ≠ gl by omega) (show B ≤ gl by omega) _)
  have HG10 : Hid (w.grownBy W10 (some cb)) := hQ (by rw [hW10]; exact grownBy_set (grownBy_set (grownBy_set HG9.out (show w.heap.size ≤ gl by omega) _) (show w.heap.size ≤ gl by omega) _) (show w.heap.size ≤ gl by omega) _)
  have HT10 : Hid (Blk W10 w.heap.size 26 #[.int .i64 al, .slice At N ct]) := hQ (by rw [hW10]; exact Blk.far (Blk.far (Blk.far HT9.out hnT _) hnT _) hnT _)
  have HR10 : Hid (Blk W10 (w.heap.size + 1) 26 #[.int .i64 0, .slice none 0 0]) := hQ (by rw [hW10]; exact Blk.far (Blk.far (Blk.far HR9.out hnR _) hnR _) hnR _)
  have hz10 : W10.heap.size = W9.heap.size := by rw [hW10]; simp [World.setCell]
  have hit' : i < t.length := hit
  have HVN := hQ hvs
  have HVS := hQ hvs1
  clear hW10 hvs1 hvs e0 e1 e2 z0 z1 z2 x0 x1 x2 y0 y1 y2 xz HF9 HC9 HG9 HL9 HT9 HR9 HF8 HT8 HR8 HL8 OC8 HC8 HG8
  have FIN : Hid (∀ (al' : Int) (wx : World) (p' : Nat), I64 al' → Kp (g7 + 1) W9.heap.size W9 wx → wx.ownsRow W1.heap.size 53 3 (.slice (some ⟨gl, 0, none⟩) N cl) N vs1 → CodesAt wx B cb A n c l p' → w.grownBy wx (some cb) → W9.heap.size ≤ wx.heap.size → OddT B cb lo A n c l N w (.returned (.agg #[.int .i64 al', .slice (some ⟨gl, 0, none⟩) N cl])) ((wx.setCell ⟨w.heap.size + 1, 0, none⟩ (.int .i64 al')).setCell ⟨w.heap.size + 1, 1, none⟩ (.slice (some ⟨gl, 0, none⟩) N cl))) := hQ (by
   intro al' wx p' hal hK hL hC hG hs
   obtain ⟨wf, hwf⟩ : ∃ wf, wf = ((wx.setCell ⟨w.heap.size + 1, 0, none⟩ (.int .i64 al')).setCell ⟨w.heap.size + 1, 1, none⟩ (.slice (some ⟨gl, 0, none⟩) N cl)) := ⟨_, rfl⟩
   rw [← hwf]
   have hmiss : ∀ j, (Value.slice (some ⟨gl, 0, none⟩) N cl).ownBlock = some j → j ≠ w.heap.size + 1 := fun j e => by
    have e' : gl = j := (by simpa [Value.ownBlock] using e)
    omega
   have hLf : wf.ownsRow W1.heap.size 53 3 (.slice (some ⟨gl, 0, none⟩) N cl) N vs1 := by
    rw [hwf]
    exact own_miss (own_miss hL ⟨w.heap.size + 1, 0, none⟩ hmiss _) ⟨w.heap.size + 1, 1, none⟩ hmiss _
   have hKf : Kp (g7 + 1) W9.heap.size W9 wf := by
    rw [hwf]
    exact (hK.set (.inl (by show w.heap.size + 1 < g7 + 1; omega)) _).set (.inl (by show w.heap.size + 1 < g7 + 1; omega)) _
   have hCf : CodesAt wf B cb A n c l p' := by
    rw [hwf]
    exact (hC.set (show cb ≠ w.heap.size + 1 by omega) (show B ≤ w.heap.size + 1 by omega) _).set (show cb ≠ w.heap.size + 1 by omega) (show B ≤ w.heap.size + 1 by omega) _
   have hGf : w.grownBy wf (some cb) := by
    rw [hwf]
    exact grownBy_set (grownBy_set hG (Nat.le_succ _) _) (Nat.le_succ _) _
   have hsf : W9.heap.size ≤ wf.heap.size := by
    rw [hwf]
    simpa [World.setCell] using hs
   have hlen : (t.set i g).length = N := by rw [List.length_set]; exact HTN.out
   have hWf := (HWX.out.keep (Kp.of_grown hGf hh (.inl hlo))).more (Nat.le_refl lo) (show hi ≤ wf.heap.size by omega)
   have hNf := (HN9.out.keep hKf).more (show lo ≤ g7 + 1 by omega) hsf
   have hgm : g.code.length ≤ maxLen := by have := HFG.out.1.2.2.1; unfold maxLen; omega
   have hWs := Wx.setFr (j := i) hWf (by rw [HVN.out, HTN.out]) hit' hNf hgm HFG.out.2
   rw [← HVS.out] at hWs
   refine ⟨al', t.set i g, some ⟨gl, 0, none⟩, cl, p', by rw [hlen], ⟨hal, (TgS.set (TgS.of HTP.out) HFG.out.1).2⟩, hlen, ⟨vs1, by rw [hlen]; exact (Rx.of_own hLf).more (by omega) nL, hWs⟩, by rw [hlen]; exact (own_cap hLf).2, hCf, hGf⟩)
  have HN10 := hQ (next_d B cb A n c l p9 10 W10 HC10.out (by omega) (by omega))
  have HAL : Hid (I64 al) := hQ (TgS.of HTP.out).1
  clear HWX HVN HVS HTP HFG HN9 HTN
  clear HFS HLE HNX HONE
  obtain ⟨t0, t1, -, -, tz⟩ := HT10.out.c2
  go_wp2_with fail
  refine HN10.out.mono ?_
  rintro e w11 ⟨r, p11, hv11, rfl, hc11, hg11⟩
  have HC11 := hQ hc11
  have HG11 : Hid (w.grownBy w11 (some cb)) := hQ (grownBy_trans HG10.out hg11)
  have HL11 := hQ (own_farR HL10.out hg11 (by omega))
  have HK11 : Hid (Kp (g7 + 1) W9.heap.size W9 w11) := hQ (HK10.out.trans (Kp.of_grown hg11 (by omega) (.inl (by omega))))
  have HT11 := hQ (Blk.grown HT10.out hg11 (by intro e; injection e; omega))
  have HR11 := hQ (Blk.grown HR10.out hg11 (by intro e; injection e; omega))
  have hz11 : W10.heap.size ≤ w11.heap.size := hg11.size
  clear hc11 hg11 t0 t1 tz HN10
  by_cases hr : (r : Int) = 9
  · have hrb : ((r : Int) == 9) = true := by rw [hr]; rfl
    have HI11 := hQ (int_r B cb A n c l p11 w11 HC11.out)
    go_wp2_with fail
    refine HI11.out.mono ?_
    rintro e w12 ⟨y, p12, hy, rfl, hc12, hg12⟩
    have HC12 := hQ hc12
    have HG12 : Hid (w.grownBy w12 (some cb)) := hQ (grownBy_trans HG11.out hg12)
    have HL12 := hQ (own_farR HL11.out hg12 (by omega))
    have HK12 : Hid (Kp (g7 + 1) W9.heap.size W9 w12) := hQ (HK11.out.trans (Kp.of_grown hg12 (by omega) (.inl (by omega))))
    have HT12 := hQ (Blk.grown HT11.out hg12 (by intro e; injection e; omega))
    have HR12 := hQ (Blk.grown HR11.out hg12 (by intro e; injection e; omega))
    have hz12 : w11.heap.size ≤ w12.heap.size := hg12.size
    clear hc12 hg12 HI11
    obtain ⟨t0, t1, tf0, tf1, tz⟩ := HT12.out.c2
    obtain ⟨q0, q1, qf0, qf1, qz⟩ := HR12.out.c2
    have hne1 : w.heap.size ≠ w.heap.size + 1 := by omega
    go_wp2_with fail
    obtain ⟨k0, k1, -⟩ := (Blk.put2 (Blk.far HR12.out (p := ⟨w.heap.size, 0, none⟩) (show w.heap.size + 1 ≠ w.heap.size by omega) (.int .i64 y)) (.int .i64 y) (.slice (some ⟨gl, 0, none⟩) N cl)).c2
    refine bodyPost_ret (v := .agg #[.int .i64 y, .slice (some ⟨gl, 0, none⟩) N cl]) (by simp only [results, Tryz.results6]; simp [go_sem, k0, k1]) rfl ?_
    exact FIN.out y (w12.setCell ⟨w.heap.size, 0, none⟩ (.int .i64 y)) p12 (by unfold I64; omega) (HK12.out.set (.inl (by show w.heap.size < g7 + 1; omega)) _) (own_miss HL12.out ⟨w.heap.size, 0, none⟩ (fun j e => by have e' : gl = j := (by simpa [Value.ownBlock] using e); show j ≠ w.heap.size; omega) _) (HC12.out.set (show cb ≠ w.heap.size by omega) (show B ≤ w.heap.size by omega) _) (grownBy_set HG12.out nL _) (by simp [World.setCell]; omega)
  · have hrb : ((r : Int) == 9) = false := beq_eq_false_iff_ne.2 hr
    obtain ⟨t0, t1, tf0, tf1, tz⟩ := HT11.out.c2
    obtain ⟨q0, q1, qf0, qf1, qz⟩ := HR11.out.c2
    go_wp2_with fail
    obtain ⟨k0, k1, -⟩ := (Blk.put2 HR11.out (.int .i64 al) (.slice (some ⟨gl, 0, none⟩) N cl)).c2
    refine bodyPost_ret (v := .agg #[.int .i64 al, .slice (some ⟨gl, 0, none⟩) N cl]) (by simp only [results, Tryz.results6]; simp [go_sem, k0, k1]) rfl ?_
    exact FIN.out al w11 p11 HAL.out HK11.out HL11.out HC11.out HG11.out (by omega)
end Go.Proofs.YtcnndoefgjbmiaaGreat.pm
