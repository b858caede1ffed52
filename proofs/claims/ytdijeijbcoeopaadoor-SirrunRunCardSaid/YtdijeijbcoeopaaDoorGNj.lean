/- The draws Input; jump targets shifted by one. -/
import Derived.Test.YtdijeijbcoeopaaDoorGPe
import Derived.Test.YtdijeijbcoeopaaDoorGMt
import Derived.Deep.RegionLaw
set_option linter.unusedVariables false
set_option maxRecDepth 10000
set_option maxHeartbeats 8000000
namespace Go.Proofs.YtdijeijbcoeopaaDoor.pm
open Go.RowKit
theorem info_word : (Tryd.prog.info? 35).map (fun i => (i.zero, i.size, i.bytes)) = some (some (.int .u64 0), 1, 8) := by kernel_rfl
def InpD (B cb : Nat) (A : Option Addr) (n c : Nat) (l : List Nat) (w : World) (e : Ending) (w' : World) : Prop :=
 ∃ (r : Value) (inp : List Nat) (p' : Nat), e = .returned r ∧ inp.length ≤ 4 ∧ (∀ v ∈ inp, v < 18446744073709551616) ∧ w'.ownsRow w.heap.size 35 1 r inp.length (inV8 inp) ∧ CodesAt w' B cb A n c l p' ∧ w.grownBy w' (some cb)
theorem inV8_app (a : List Nat) (v : Nat) : inV8 (a ++ [v]) = inV8 a ++ [.int .u64 (v : Int)] := by unfold inV8; rw [List.map_append]; rfl
theorem input_d (B cb : Nat) (A : Option Addr) (n c : Nat) (l : List Nat) (p : Nat) (w : World) (h : CodesAt w B cb A n c l p) :
 Calls Tryd.prog 18 #[.pointer (some ⟨cb, 0, none⟩)] w (InpD B cb A n c l w) := by
 obtain ⟨i0, hi0, hz0, hz1, hz2⟩ := info_parts info_word
 have hlt := h.1.lt
 have hB := h.2.2.2.1
 have HC := hQ h
 clear h
 go_enter Tryd.func18, Tryd.ntmps18
 go_wp2_with fail
 refine (next_d _ _ _ _ _ _ _ 4 _ HC.out (by omega) (by omega)).mono ?_
 rintro e w1 ⟨t, p1, ht, rfl, c1, g1⟩
 have htm : t ≤ 4 := by omega
 have HC1 := hQ c1
 have HG1 := hQ g1
 clear ht c1 g1 HC
 go_wp2
 go_loopw [3, 4] (fun o x wr => ∃ (k p1 : Nat) (pre : List Nat), x = .int .i64 k ∧ k ≤ 4 ∧ Hid (pre.length + k ≤ 4) ∧ Hid (∀ s ∈ pre, s < 18446744073709551616) ∧ wr.ownsRow w.heap.size 35 1 o pre.length (inV8 pre) ∧ Hid (CodesAt wr B cb A n c l p1) ∧ Hid (w.grownBy wr (some cb))) (fun _ x _ => (intOf x).toNat)
 case atStart => exact ⟨t, p1, [], rfl, by omega, hQ (by simpa using htm), hQ (fun s hs => by simp at hs), World.ownsRow_nil _ _ _ _, HC1, HG1⟩
 case round =>
  obtain ⟨k, p2, pre, rfl, hk, HL, HP, own, HCW, HG⟩ := hrel
  have hpl : pre.length ≤ 4 := by have := HL.out; omega
  have hk0 : (0 : Int) ≤ (k : Int) := by omega
  have hk1 : (k : Int) ≤ 4 := by omega
  clear HC1 HG1
  rcases Nat.eq_zero_or_pos k with rfl | hpos
  · have HE : Hid (pre.length ≤ 4) := hQ (by have := HL.out; omega)
    go_wp2
    go_ret
    exact ⟨_, pre, p2, rfl, HE.out, HP.out, own, HCW.out, HG.out⟩
  · have hpi : (0 : Int) < (k : Int) := by omega
    go_wp2_with fail
    refine (word_d _ _ _ _ _ _ _ _ HCW.out).mono ?_
    rintro e w3 ⟨s, p3, hso, rfl, c3, g3⟩
    have HSO := hQ hso
    have HC3 := hQ c3
    have HG3 := hQ (grownBy_trans HG.out g3)
    have own3 := own_draw own g3 hlt
    have hsz3 : w.heap.size ≤ w3.heap.size := HG3.out.size
    clear hso c3 g3 own HCW HG
    go_wp2_with (at_builtin; refine wpList_append_any _ rfl (.tmp 11) (.tmp 14) _ rfl w.heap.size 35 i0 _ 1 8 Tryd.underlying27 hi0 hz0 hz1 hz2 rfl (by omega) _ (pre).length (inV8 pre) rfl (own3.alloc _) (w3.heap.size + 1) (some ⟨w3.heap.size, 0, none⟩) 1 1 [Value.int .u64 s] rfl (reads_new rfl) (by simp [Value.oneCell']) (by unfold maxLen; omega) (by omega) (by simp; omega) ?_; intro v4 w4 own4 hg4 hat4)
    have HN4 := hQ (own_ne_codes (own3.alloc (.cells #[Value.int .u64 s] 35)) hlt)
    have HLT4 := hQ (fun j (e : _ = some j) => ((own3.alloc (.cells #[Value.int .u64 s] 35)).lt j e).1)
    go_roundw
    case rel =>
     refine ⟨k - 1, p3, pre ++ [s], (by congr 1; omega), by omega, hQ (by have := HL.out; simp; omega), hQ (fun q hq => ?_), ?_, hQ ((HC3.out.alloc _).grown' hg4 HN4.out (fun j e => by have := HLT4.out j e; omega)), hQ (grownBy_step (grownBy_al HG3.out _) hg4 (fun j e => .inl (HLT4.out j e)))⟩
     · rcases List.mem_append.1 hq with h1 | h1
       · exact HP.out q h1
       · simp at h1; subst h1; exact HSO.out
     · rw [inV8_app, List.length_append]; exact own4
    case measure => simp [intOf]; omega
def shI (x : Ins) : Ins := if x.op = 20 then { x with a := x.a + 1 } else if x.op = 21 then { x with b := x.b + 1 } else x
def ShD (w : World) (B : Nat) (code : List Ins) (e : Ending) (w' : World) : Prop :=
 ∃ r, e = .returned r ∧ w'.ownsRow B 50 5 r code.length (inV (code.map shI)) ∧ Below B w w'
theorem inV_step (done rest : List Ins) (x y : Ins) (h : (inV (done ++ x :: rest)).length = (done ++ x :: rest).length * 5) {j : Nat} (hj : j < 5) {u : Value} (e : (icells x).set j u = icells y) :
 (inV (done ++ x :: rest)).set (done.length * 5 + j) u = inV (done ++ y :: rest) := by
 have hd : (inV done).length = done.length * 5 := flat_len icells_len done
 unfold inV at hd ⊢
 rw [List.flatMap_append, List.flatMap_append, List.flatMap_cons, List.flatMap_cons, List.set_append_right _ _ (by omega), hd, Nat.add_sub_cancel_left, List.set_append_left _ _ (by rw [icells_len]; exact hj), e]
def shP (code : List Ins) (k : Nat) : List Ins := (code.take k).map shI ++ code.drop k
theorem shP_len (code : List Ins) (k : Nat) : (shP code k).length = code.length := by
 unfold shP
 rw [List.length_append, List.length_map, List.length_take, List.length_drop]; omega
theorem shP_at {code : List Ins} {k : Nat} (h : k < code.length) : shP code k = (code.take k).map shI ++ code.getD k Ins.z :: code.drop (k + 1) ∧ shP code (k + 1) = (code.take k).map shI ++ shI (code.getD k Ins.z) :: code.drop (k + 1) := by
 unfold shP
 rw [List.getD_eq_getElem?_getD, List.getElem?_eq_getElem h, Option.getD_some]
 constructor
 · rw [List.drop_eq_getElem_cons h]
 · rw [List.take_succ_eq_append_getElem h, List.map_append]; simp
theorem shP_get {code : List Ins} {k : Nat} (h : k < code.length) : (shP code k).getD k Ins.z = code.getD k Ins.z := by
 rw [(shP_at h).1, List.getD_eq_getElem?_getD, List.getElem?_append_right (by simp; omega), List.length_map, List.length_take, Nat.min_eq_left (by omega), Nat.sub_self]
 rfl
theorem shP_set {code : List Ins} {k : Nat} (h : k < code.length) {j : Nat} (hj : j < 5) {u : Value} (e : (icells (code.getD k Ins.z)).set j u = icells (shI (code.getD k Ins.z))) : (inV (shP code k)).set (k * 5 + j) u = inV (shP code (k + 1)) := by
 have h1 := inV_step ((code.take k).map shI) (code.drop (k + 1)) (code.getD k Ins.z) (shI (code.getD k Ins.z)) (flat_len icells_len _) hj e
 rw [List.length_map, List.length_take, Nat.min_eq_left (by omega)] at h1
 rw [(shP_at h).1, (shP_at h).2]
 exact h1
theorem shifted_any (w : World) (A : Option Addr) (c : Nat) (code : List Ins) (h : Nx w 0 w.heap.size A code) (hl : code.length ≤ 10000) (hc : code.length ≤ c) (hr : ∀ x ∈ code, -1000000 ≤ x.a ∧ x.a ≤ 1000000 ∧ -1000000 ≤ x.b ∧ x.b ≤ 1000000) :
 Calls Tryd.prog 27 #[.slice A code.length c] w (ShD w w.heap.size code) := by
 obtain ⟨i0, hi0, hz0, hz1, hz2⟩ := info_parts info_ins
 have HN := hQ h
 have HR := hQ hr
 clear h hr
 obtain ⟨n, hn⟩ : ∃ n, n = code.length := ⟨_, rfl⟩
 rw [← hn] at hl hc ⊢
 have HL := hQ hn
 have HRD : Hid (Reads w w.heap.size 5 A n (inV code)) := hQ (by rw [hn]; exact HN.out.1)
 clear hn
 go_enter Tryd.func27, Tryd.ntmps27
 go_upto_region 2 with (at_builtin; refine wpList_append_any _ rfl (.const (.slice none 0 0)) (.tmp 5) _ rfl w.heap.size 50 i0 _ 5 40 Tryd.underlying51 hi0 hz0 hz1 hz2 rfl (by omega) _ 0 [] rfl (World.ownsRow_nil _ _ _ _) w.heap.size A n c (inV code) rfl HRD.out (inV_one _) (by unfold maxLen; omega) (by omega) nL ?_; intro v2 w2 own2 hg2 hat2; obtain ⟨A2, c2, rfl, -⟩ := own_form own2)
 have HO2 : Hid (w2.ownsRow w.heap.size 50 5 (.slice A2 n c2) n (inV code)) := hQ (by simpa using own2)
 have HB2 : Hid (Below w.heap.size w w2) := hQ (below_of_grownR hg2 (fun k hk => by cases hk) nL)
 clear own2 hg2 hat2
 go_wp2
 go_loopw [4] (fun x wr => ∃ (k : Nat), x = .int .i64 k ∧ k ≤ n ∧ Hid (wr.ownsRow w.heap.size 50 5 (.slice A2 n c2) n (inV (shP code k))) ∧ Hid (Below w.heap.size w wr)) (fun x _ => n - (intOf x).toNat)
 case atStart => exact ⟨0, rfl, by omega, HO2, HB2⟩
 case round =>
  obtain ⟨k, rfl, hk, HO, HB⟩ := hrel
  have hk0 : (0 : Int) ≤ (k : Int) := by omega
  have hk1 : (k : Int) ≤ (n : Int) := by omega
  have hn1 : (n : Int) ≤ 10000 := by omega
  clear HO2 HB2
  rcases Nat.lt_or_ge k n with hlt | hge
  · have hki : (k : Int) < (n : Int) := by omega
    obtain ⟨g, cg, hg0, hg1, hg2⟩ := HO.out.form (by omega)
    obtain ⟨rfl, rfl⟩ : A2 = some ⟨g, 0, none⟩ ∧ c2 = cg := by injection hg0; exact ⟨by assumption, by assumption⟩
    have hkc : k < code.length := by have := HL.out; omega
    obtain ⟨x, hx⟩ : ∃ x, x = code.getD k Ins.z := ⟨_, rfl⟩
    have hxr := HR.out x (by rw [hx]; exact getD_mem' hkc)
    have g0 : ∀ j, j < 5 → wr.cell? ⟨g, k * 5 + j, none⟩ = (icells x)[j]? := fun j hj => by
     rw [hx, ← shP_get hkc]
     exact (HO.out.cellAt (k * 5 + j) (by omega)).trans (flat_get icells_len Ins.z _ k j (by rw [shP_len]; exact hkc) hj)
    have y0 : wr.cell? ⟨g, k * 5, none⟩ = some (.int .i64 x.op) := by simpa [icells] using g0 0 (by omega)
    have y1 : wr.cell? ⟨g, k * 5 + 1, none⟩ = some (.int .i64 x.a) := by simpa [icells] using g0 1 (by omega)
    have y2 : wr.cell? ⟨g, k * 5 + 2, none⟩ = some (.int .i64 x.b) := by simpa [icells] using g0 2 (by omega)
    have z1 : wr.frozen? ⟨g, k * 5 + 1, none⟩ = false := HO.out.frozenAt _
    have z2 : wr.frozen? ⟨g, k * 5 + 2, none⟩ = false := HO.out.frozenAt _
    have HS : Hid (∀ (j : Nat) (hj : j < 5) (u : Value) (e : (icells x).set j u = icells (shI x)), (wr.setCell ⟨g, k * 5 + j, none⟩ u).ownsRow w.heap.size 50 5 (.slice (some ⟨g, 0, none⟩) n c2) n (inV (shP code (k + 1)))) := hQ (fun j hj u e => by
     have := (HO.out.stored (k * 5 + j) u).1
     rw [shP_set hkc hj (by rw [← hx]; exact e)] at this
     exact this)
    have HSN : Hid (x = shI x → wr.ownsRow w.heap.size 50 5 (.slice (some ⟨g, 0, none⟩) n c2) n (inV (shP code (k + 1)))) := hQ (fun e => by
     have e2 : shP code (k + 1) = shP code k := by
      rw [(shP_at hkc).1, (shP_at hkc).2, ← hx, ← e]
     rw [e2]; exact HO.out)
    clear hx g0 hg0
    by_cases h20 : x.op = 20
    · have e20 : (x.op == 20) = true := by rw [h20]; rfl
      have he : Hid (shI x = { x with a := x.a + 1 }) := hQ (by unfold shI; rw [if_pos h20])
      go_wp2
      go_roundw
      case rel => exact ⟨k + 1, by simp, by omega, hQ (HS.out _ (by omega) _ (by rw [he.out]; rfl)), hQ (HB.out.trans (below_set (p := ⟨g, k * 5 + 1, none⟩) hg1 _))⟩
      case measure => simp [intOf]; omega
    · have e20 : (x.op == 20) = false := by rw [beq_eq_false_iff_ne]; exact h20
      by_cases h21 : x.op = 21
      · have e21 : (x.op == 21) = true := by rw [h21]; rfl
        have he : Hid (shI x = { x with b := x.b + 1 }) := hQ (by unfold shI; rw [if_neg h20, if_pos h21])
        go_wp2
        go_roundw
        case rel => exact ⟨k + 1, by simp, by omega, hQ (HS.out _ (by omega) _ (by rw [he.out]; rfl)), hQ (HB.out.trans (below_set (p := ⟨g, k * 5 + 2, none⟩) hg1 _))⟩
        case measure => simp [intOf]; omega
      · have e21 : (x.op == 21) = false := by rw [beq_eq_false_iff_ne]; exact h21
        have he : Hid (x = shI x) := hQ (by unfold shI; rw [if_neg h20, if_neg h21])
        go_wp2
        go_roundw
        case rel => exact ⟨k + 1, by simp, by omega, hQ (HSN.out he.out), HB⟩
        case measure => simp [intOf]; omega
  · have hki : ¬ (k : Int) < (n : Int) := by omega
    have he : shP code k = code.map shI := by
     unfold shP
     have := HL.out
     rw [List.take_of_length_le (by omega), List.drop_eq_nil_of_le (by omega), List.append_nil]
    have HF : Hid (wr.ownsRow w.heap.size 50 5 (.slice A2 n c2) code.length (inV (code.map shI))) := hQ (by rw [← he, ← HL.out]; exact HO.out)
    go_wp2
    go_ret
    exact ⟨_, rfl, HF.out, HB.out⟩
theorem Vx.setF3 {w : World} {lo hi : Nat} {vs : List Value} {p : List Fn} {i : Nat} (h : Vx w lo hi vs p) (hl : vs.length = p.length * 3) (hi' : i < p.length) {g : Fn} {As Ai : Option Addr} {cs ci : Nat} (hs : Sx w lo hi As g.slots) (hn : Nx w lo hi Ai g.code) (h3 : g.slots.length ≤ maxLen ∧ g.slots.length ≤ cs) (h4 : g.code.length ≤ maxLen ∧ g.code.length ≤ ci) :
 Vx w lo hi (((vs.set (i * 3) (.int .i64 g.params)).set (i * 3 + 1) (.slice As g.slots.length cs)).set (i * 3 + 2) (.slice Ai g.code.length ci)) (p.set i g) := fun j hj => by
 rw [List.length_set] at hj
 by_cases e : j = i
 · subst e
   have e : (p.set j g).getD j Fn.z = g := by simp [List.getD_eq_getElem?_getD, hj]
   rw [e]
   refine ⟨As, cs, Ai, ci, ?_, ?_, ?_, hs, hn, h3, h4⟩
   · rw [List.getElem?_set_ne (by omega), List.getElem?_set_ne (by omega), List.getElem?_set_self (by omega)]
   · rw [List.getElem?_set_ne (by omega), List.getElem?_set_self (by simp; omega)]
   · rw [List.getElem?_set_self (by simp; omega)]
 · obtain ⟨As', cs', Ai', ci', q1, q2, q3, r⟩ := h j hj
   have e' : (p.set i g).getD j Fn.z = p.getD j Fn.z := by rw [List.getD_eq_getElem?_getD, List.getElem?_set_ne (Ne.symm e), ← List.getD_eq_getElem?_getD]
   rw [e']
   exact ⟨As', cs', Ai', ci', by rw [List.getElem?_set_ne (by omega), List.getElem?_set_ne (by omega), List.getElem?_set_ne (by omega)]; exact q1, by rw [List.getElem?_set_ne (by omega), List.getElem?_set_ne (by omega), List.getElem?_set_ne (by omega)]; exact q2, by rw [List.getElem?_set_ne (by omega), List.getElem?_set_ne (by omega), List.getElem?_set_ne (by omega)]; exact q3, r⟩
def set3 (vs : List Value) (i : Nat) (prm : Int) (u v : Value) : List Value := ((vs.set (i * 3) (.int .i64 prm)).set (i * 3 + 1) u).set (i * 3 + 2) v
def RepD (lo hi : Nat) (p : List Fn) (i : Nat) (prm : Int) (u v : Value) (w : World) (e : Ending) (w' : World) : Prop :=
 ∃ Aq cq vs, e = .returned (.agg #[.slice Aq p.length cq]) ∧ p.length ≤ cq ∧ vs.length = p.length * 3 ∧ Vx w lo hi vs p ∧ Rx w' w.heap.size w'.heap.size 3 Aq p.length (set3 vs i prm u v) ∧ Below w.heap.size w w'
theorem replace_any (w : World) (lo hi : Nat) (Ap : Option Addr) (p : List Fn) (cp i : Nat) (prm : Int) (As Ai : Option Addr) (ls lc cs ci : Nat) (hf : Fx w lo hi Ap p) (hh : hi ≤ w.heap.size) (hil : i < p.length) (hp : p.length ≤ 1000) :
 Calls Tryd.prog 39 #[.agg #[.slice Ap p.length cp], .int .i64 (i : Int), .agg #[.int .i64 prm, .slice As ls cs, .slice Ai lc ci]] w (RepD lo hi p i prm (.slice As ls cs) (.slice Ai lc ci) w) := by
 obtain ⟨i1, hi1, hy0, hy1, hy2⟩ := info_parts info_fn
 obtain ⟨W1, hW1⟩ : ∃ W1, W1 = ((w.alloc (.cells #[.slice Ap p.length cp] 26)).alloc (.cells #[.int .i64 prm, .slice As ls cs, .slice Ai lc ci] 54)).alloc (.cells #[.slice none 0 0] 26) := ⟨_, rfl⟩
 have hB1 : Below w.heap.size w W1 := by rw [hW1]; exact ((bR.alloc nL _).alloc (by simp) _).alloc (by simp; omega) _
 have HK1 : Hid (Blk W1 w.heap.size 26 #[.slice Ap p.length cp]) := hQ (by rw [hW1]; exact ((Blk.new _ _ _).alloc _).alloc _)
 have HK2 : Hid (Blk W1 (w.heap.size + 1) 54 #[.int .i64 prm, .slice As ls cs, .slice Ai lc ci]) := hQ (by rw [hW1]; exact (Blk.newAt (by simp)).alloc _)
 have HK3 : Hid (Blk W1 (w.heap.size + 1 + 1) 26 #[.slice none 0 0]) := hQ (by rw [hW1]; exact Blk.newAt (by simp))
 have hkp := Kp.of_below (lo := lo) hB1 hh
 obtain ⟨vs, hrx0, hvx0⟩ := hf
 have hrx := hrx0.keep hkp
 have hvx := hvx0.keep hkp
 have HV0 := hQ hvx0
 have HRX := hQ hrx
 have HVX := hQ hvx
 have HVL : Hid (vs.length = p.length * 3) := hQ hrx.1.1
 have HV1 := hQ (Vx.one hvx hrx.1.1)
 have hpi : (p.length : Int) ≤ 1000 := by omega
 have hii : (i : Int) < (p.length : Int) := by omega
 have hi0 : (0 : Int) ≤ (i : Int) := by omega
 have hsz : w.heap.size + 1 + 1 < W1.heap.size := HK3.out.lt
 have HB1 := hQ hB1
 have HW1 := hQ hW1
 clear hrx0 hvx0 hW1 hB1 hrx hvx hkp
 obtain ⟨q0, -, qz⟩ := Blk.one HK1.out
 go_enter Tryd.func39, Tryd.ntmps39
 go_upto_region 1 with (fail)
 rw [← HW1.out]
 go_upto_region 2 with (at_builtin; refine wpList_append_any _ rfl (.const (.slice none 0 0)) (.tmp 9) _ rfl W1.heap.size 54 i1 _ 3 56 Tryd.underlying24 hi1 hy0 hy1 hy2 rfl (by omega) _ 0 [] rfl (World.ownsRow_nil _ _ _ _) hi Ap p.length cp vs rfl HRX.out.1 HV1.out (by unfold maxLen; omega) (by omega) (by omega) ?_; intro v2 w2 own2 hg2 hat2; have hfo := own2.form (by omega); obtain ⟨gl, cl, rfl, hgl, hgl2⟩ := hfo)
 have HL2 : Hid (w2.ownsRow W1.heap.size 54 3 (.slice (some ⟨gl, 0, none⟩) p.length cl) p.length vs) := hQ (by simpa using own2)
 have HB2 : Hid (Below W1.heap.size W1 w2) := hQ (below_of_grownR hg2 (fun k hk => by cases hk) nL)
 clear own2 hg2 hat2 q0 qz
 obtain ⟨x0, x1, x2, -, -, -, -⟩ := (HK2.out.after HB2.out).c3
 have HK32 := hQ (HK3.out.after HB2.out)
 obtain ⟨p0, pf, pz⟩ := Blk.one HK32.out
 have c0 := HL2.out.cellAt (i * 3) (by omega)
 have c1 := HL2.out.cellAt (i * 3 + 1) (by omega)
 have c2 := HL2.out.cellAt (i * 3 + 2) (by omega)
 have z0 := HL2.out.frozenAt (i * 3)
 have z1 := HL2.out.frozenAt (i * 3 + 1)
 have z2 := HL2.out.frozenAt (i * 3 + 2)
 obtain ⟨As3, cs3, Ai3, ci3, v0, v1, v2, -⟩ := HVX.out i hil
 rw [v0] at c0
 rw [v1] at c1
 rw [v2] at c2
 have hglt : gl < w2.heap.size := (HL2.out.lt gl rfl).2
 have ngl : ¬ (w.heap.size + 1 + 1 = gl) := by omega
 have ngl' : ¬ (gl = w.heap.size + 1 + 1) := by omega
 clear v0 v1 v2
 generalize (p.getD i Fn.z).slots.length = sl3 at c1
 generalize (p.getD i Fn.z).code.length = cl3 at c2
 generalize (p.getD i Fn.z).params = pr3 at c0
 go_wp2
 obtain ⟨W5, hW5⟩ : ∃ W5, W5 = (((w2.setCell ⟨gl, i * 3, none⟩ (.int .i64 prm)).setCell ⟨gl, i * 3 + 1, none⟩ (.slice As ls cs)).setCell ⟨gl, i * 3 + 2, none⟩ (.slice Ai lc ci)).setCell ⟨w.heap.size + 1 + 1, 0, none⟩ (.slice (some ⟨gl, 0, none⟩) p.length cl) := ⟨_, rfl⟩
 rw [← hW5]
 have hL := ((((HL2.out.stored (i * 3) (.int .i64 prm)).1.stored (i * 3 + 1) (.slice As ls cs)).1.stored (i * 3 + 2) (.slice Ai lc ci)).1)
 have hLf := own_miss hL ⟨w.heap.size + 1 + 1, 0, none⟩ (fun j e => by have e' : gl = j := (by simpa [Value.ownBlock] using e); show j ≠ w.heap.size + 1 + 1; omega) (.slice (some ⟨gl, 0, none⟩) p.length cl)
 rw [← hW5] at hLf
 have hKr : Blk W5 (w.heap.size + 1 + 1) 26 #[.slice (some ⟨gl, 0, none⟩) p.length cl] := by
  rw [hW5]
  exact (((HK32.out.far (p := ⟨gl, i * 3, none⟩) ngl _).far (p := ⟨gl, i * 3 + 1, none⟩) ngl _).far (p := ⟨gl, i * 3 + 2, none⟩) ngl _).set_ 0 _
 obtain ⟨r0, -, -⟩ := Blk.one hKr
 have hB5 : Below w.heap.size W1 W5 := by
  rw [hW5]
  exact ((((HB2.out.mono (by omega)).setCell (by show w.heap.size ≤ gl; omega) _).setCell (by show w.heap.size ≤ gl; omega) _).setCell (by show w.heap.size ≤ gl; omega) _).setCell (by show w.heap.size ≤ w.heap.size + 1 + 1; omega) _
 have hs5 : w2.heap.size ≤ W5.heap.size := by rw [hW5]; simp [World.setCell]
 refine bodyPost_ret (v := .agg #[.slice (some ⟨gl, 0, none⟩) p.length cl]) (by simp [results, Tryd.results39, go_sem, r0]) rfl ?_
 exact ⟨some ⟨gl, 0, none⟩, cl, vs, rfl, (own_cap HL2.out).2, HVL.out, HV0.out, (Rx.of_own hLf).more (by omega) nL, HB1.out.trans hB5⟩
attribute [local go_sem ↓] Go.wp_at_zero Go.wp_at_succ
theorem only_any (w : World) (lo hi : Nat) (Ap : Option Addr) (p : List Fn) (cp i : Nat) (prm : Int) (As Ai : Option Addr) (ls lc cs ci : Nat) (hf : Fx w lo hi Ap p) (hh : hi ≤ w.heap.size) (hil : i < p.length) (hp : p.length ≤ 1000) :
 Calls Tryd.prog 28 #[.agg #[.slice Ap p.length cp], .int .i64 (i : Int), .agg #[.int .i64 prm, .slice As ls cs, .slice Ai lc ci]] w (RepD lo hi p i prm (.slice As ls cs) (.slice Ai lc ci) w) := by
 obtain ⟨W1, hW1⟩ : ∃ W1, W1 = ((w.alloc (.cells #[.slice Ap p.length cp] 26)).alloc (.cells #[.int .i64 prm, .slice As ls cs, .slice Ai lc ci] 54)).alloc (.cells #[.slice none 0 0] 26) := ⟨_, rfl⟩
 have hB1 : Below w.heap.size w W1 := by rw [hW1]; exact ((bR.alloc nL _).alloc (by simp) _).alloc (by simp; omega) _
 have HK1 : Hid (Blk W1 w.heap.size 26 #[.slice Ap p.length cp]) := hQ (by rw [hW1]; exact ((Blk.new _ _ _).alloc _).alloc _)
 have HK2 : Hid (Blk W1 (w.heap.size + 1) 54 #[.int .i64 prm, .slice As ls cs, .slice Ai lc ci]) := hQ (by rw [hW1]; exact (Blk.newAt (by simp)).alloc _)
 have HK3 : Hid (Blk W1 (w.heap.size + 1 + 1) 26 #[.slice none 0 0]) := hQ (by rw [hW1]; exact Blk.newAt (by simp))
 have hkp := Kp.of_below (lo := lo) hB1 hh
 have hs1 := hB1.size
 have HR := hQ (replace_any W1 lo hi Ap p cp i prm As Ai ls lc cs ci (hf.keep hkp) (Nat.le_trans hh hs1) hil hp)
 have HKW : Hid (Kp lo hi W1 w) := hQ (fun b h1 h2 => (hkp b h1 h2).symm)
 have HB1 := hQ hB1
 have HW1 := hQ hW1
 clear hf hW1 hB1 hkp
 obtain ⟨q0, -, qz⟩ := Blk.one HK1.out
 obtain ⟨x0, x1, x2, -, -, -, xz⟩ := HK2.out.c3
 have hsz : w.heap.size + 1 + 1 < W1.heap.size := HK3.out.lt
 go_enter Tryd.func28, Tryd.ntmps28
 go_upto_region 1 with (fail)
 rw [← HW1.out]
 go_wp2_with fail
 refine HR.out.mono ?_
 rintro e w2 ⟨Aq, cq, vs, rfl, hcq, hvl, hvq, hfq, hb2⟩
 have HVL := hQ hvl
 have HK32 := hQ (HK3.out.after hb2)
 have HFQ := hQ hfq
 have HVQ := hQ hvq
 have HB2 := hQ hb2
 have HCQ := hQ hcq
 clear hfq hvq hvl hb2 hcq q0 x0 x1 x2 HR
 obtain ⟨p0, pf, pz⟩ := Blk.one HK32.out
 go_wp2
 obtain ⟨W5, hW5⟩ : ∃ W5, W5 = w2.setCell ⟨w.heap.size + 1 + 1, 0, none⟩ (.slice Aq p.length cq) := ⟨_, rfl⟩
 rw [← hW5]
 have hKr : Blk W5 (w.heap.size + 1 + 1) 26 #[.slice Aq p.length cq] := by
  rw [hW5]; exact HK32.out.set_ 0 _
 obtain ⟨r0, -, -⟩ := Blk.one hKr
 refine bodyPost_ret (v := .agg #[.slice Aq p.length cq]) (by simp [results, Tryd.results28, go_sem, r0]) rfl ?_
 have hB5 : Below w.heap.size W1 W5 := by
  rw [hW5]
  exact (HB2.out.mono (by omega)).setCell (by show w.heap.size ≤ w.heap.size + 1 + 1; omega) _
 have hK1 : Kp W1.heap.size w2.heap.size w2 W5 := by
  rw [hW5]
  exact (Kp.refl _ _ _).set (.inl hsz) _
 have hs5 : W5.heap.size = w2.heap.size := by rw [hW5]; simp [World.setCell]
 exact ⟨Aq, cq, vs, rfl, HCQ.out, HVL.out, HVQ.out.keep HKW.out, by rw [hs5]; exact (Rx.keep HFQ.out hK1).more (by omega) nL, HB1.out.trans hB5⟩
end Go.Proofs.YtdijeijbcoeopaaDoor.pm
