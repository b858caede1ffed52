/- What sir.Check answers: plain mathematics. -/
import Derived.Test.YtdijeijbcoeopaaDoorGPm
import Derived.Test.YtdijeijbcoeopaaDoorGVa
import Derived.Deep.RegionHeld3
import Derived.BigQuiet
import Derived.Deep.QuietTactic
import Derived.Test.YtdijeijbcoeopaaDoorGBa
set_option linter.unusedVariables false
set_option maxRecDepth 10000
set_option maxHeartbeats 8000000
namespace Go.Proofs.YtdijeijbcoeopaaDoor.pm
def shps : List (Nat × Nat × Nat × Bool) :=
 [(1, 0, 0, true), (1, 1, 0, false), (1, 1, 1, false), (1, 1, 1, false), (1, 1, 1, false), (1, 1, 1, false), (1, 1, 1, false), (1, 1, 1, false), (1, 1, 1, false), (1, 1, 1, false), (1, 1, 1, false), (1, 1, 1, false), (1, 1, 0, false), (1, 0, 0, false), (1, 0, 0, false),
  (1, 2, 0, false), (2, 1, 0, false), (2, 2, 0, false), (4, 1, 0, false), (1, 5, 0, false), (6, 0, 0, false), (1, 6, 0, false), (3, 0, 0, false), (0, 0, 0, false), (0, 0, 0, true)]
def shp (op : Nat) : Nat × Nat × Nat × Bool := shps.getD op (0, 0, 0, false)
theorem shp_lt (op : Nat) : (shp op).1 < 7 ∧ (shp op).2.1 < 7 ∧ (shp op).2.2.1 < 7 := by
 by_cases h : op < 25
 · have h' : ∀ k, k < 25 → (shp k).1 < 7 ∧ (shp k).2.1 < 7 ∧ (shp k).2.2.1 < 7 := by decide
   exact h' op h
 · unfold shp
   rw [List.getD_eq_getElem?_getD, List.getElem?_eq_none (by simp [shps]; omega)]
   simp
def lims (nf : Nat) (prm : Int) (ns nc : Nat) : List Int := [1, 8, (ns : Int), (nf : Int), 8, prm, (nc : Int)]
def lim (nf : Nat) (prm : Int) (ns nc : Nat) (k : Nat) : Int := (lims nf prm ns nc).getD k 0
def inB (n l : Int) : Bool := decide (0 ≤ n ∧ n < l)
theorem inB_t {n l : Int} : inB n l = true ↔ 0 ≤ n ∧ n < l := by unfold inB; exact decide_eq_true_iff
theorem inB_f {n l : Int} : inB n l = false ↔ ¬ (0 ≤ n ∧ n < l) := by unfold inB; exact decide_eq_false_iff_not
def badK (k : Nat) (n : Int) : Bool := k == 0 && n != 0
def outK (nf : Nat) (prm : Int) (ns nc k : Nat) (n : Int) : Bool := !inB n (lim nf prm ns nc k) && k != 6
def tgtK (nf : Nat) (prm : Int) (ns nc k : Nat) (n : Int) : Bool := !inB n (lim nf prm ns nc k) && k == 6
def instrE (nf : Nat) (prm : Int) (sl : List (Int × Int)) (nc : Nat) (x : Ins) : Int :=
 if inB x.op 25 = false then 4 else
 if (badK (shp x.op.toNat).1 x.a || badK (shp x.op.toNat).2.1 x.b || badK (shp x.op.toNat).2.2.1 x.c) = true then 2 else
 if (!(shp x.op.toNat).2.2.2 && x.imm != 0) = true then 2 else
 if (outK nf prm sl.length nc (shp x.op.toNat).1 x.a || outK nf prm sl.length nc (shp x.op.toNat).2.1 x.b || outK nf prm sl.length nc (shp x.op.toNat).2.2.1 x.c) = true then 4 else
 if (x.op == 17 && (sl.getD x.a.toNat (0, 0)).1 != (sl.getD x.b.toNat (0, 0)).1) = true then 5 else
 if (tgtK nf prm sl.length nc (shp x.op.toNat).1 x.a || tgtK nf prm sl.length nc (shp x.op.toNat).2.1 x.b || tgtK nf prm sl.length nc (shp x.op.toNat).2.2.1 x.c) = true then 6 else 0
def slotsE (l : List (Int × Int)) : Int := if 512 < l.length then 3 else if l.all (fun s => sizeB s.1 && powB s.2) = true then 0 else 5
def termB (op : Int) : Bool := op == 20 || op == 23 || op == 24
def firstE (l : List Int) : Int := (l.find? (· != 0)).getD 0
def funcE (nf : Nat) (f : Fn) : Int :=
 if 1024 < f.code.length then 3 else
 if slotsE f.slots ≠ 0 then slotsE f.slots else
 if inB f.params 9 = false then 4 else
 if firstE (f.code.map (instrE nf f.params f.slots f.code.length)) ≠ 0 then firstE (f.code.map (instrE nf f.params f.slots f.code.length)) else
 if (f.code.length == 0 || !termB (f.code.getD (f.code.length - 1) Ins.z).op) = true then 6 else 0
def progE (p : List Fn) : Int :=
 if 80 < p.length then 3 else
 if p.length = 0 then 4 else
 if (p.getD 0 Fn.z).params ≠ 0 then 7 else
 firstE (p.map (funcE p.length))
theorem firstE_zero {l : List Int} (h : ∀ x ∈ l, x = 0) : firstE l = 0 := by
 unfold firstE
 rw [List.find?_eq_none.2 (fun x hx => by rw [h x hx]; simp)]
 rfl
theorem firstE_mem {l : List Int} (h : firstE l = 0) : ∀ x ∈ l, x = 0 := by
 intro x hx
 unfold firstE at h
 rcases hf : l.find? (· != 0) with _ | y
 · have := List.find?_eq_none.1 hf x hx
   simpa using this
 · rw [hf] at h
   have := List.find?_some hf
   simp at h this
   exact absurd h this
theorem firstE_take {α : Type} {f : α → Int} {l : List α} {k : Nat} {z : α} (hk : k < l.length) (h0 : ∀ j, j < k → f (l.getD j z) = 0) (h1 : f (l.getD k z) ≠ 0) : firstE (l.map f) = f (l.getD k z) := by
 induction l generalizing k with
 | nil => simp at hk
 | cons a r ih =>
  unfold firstE
  rcases k with _ | k
  · simp at h1 ⊢
    simp [h1]
  · have ha : f a = 0 := by simpa using h0 0 (by omega)
    have := ih (k := k) (by simpa using hk) (fun j hj => by simpa using h0 (j + 1) (by omega)) (by simpa using h1)
    unfold firstE at this
    simpa [ha] using this
theorem vi_ok {nf : Nat} {prm : Int} {sl : List (Int × Int)} {nc : Nat} {x : Ins} (h : Vi nf prm sl nc x) : instrE nf prm sl nc x = 0 := by
 rcases h with ⟨_, h⟩ | ⟨a, h0, h1⟩ | ⟨a, b, h0, h1, h2, h3⟩
 · cases h
   case arith op a b c o1 o2 a1 a2 b1 b2 c1 c2 =>
    have hop : op = 2 ∨ op = 3 ∨ op = 4 ∨ op = 5 ∨ op = 6 ∨ op = 7 ∨ op = 8 ∨ op = 9 ∨ op = 10 ∨ op = 11 := by omega
    rcases hop with rfl | rfl | rfl | rfl | rfl | rfl | rfl | rfl | rfl | rfl <;> simp [instrE, inB, shp, shps, badK, outK, tgtK, lim, lims, *]
   case move a b a1 a2 b1 b2 he =>
    have hl1 : a.toNat < sl.length := by omega
    have hl2 : b.toNat < sl.length := by omega
    rw [List.getD_eq_getElem?_getD, List.getD_eq_getElem?_getD, List.getElem?_eq_getElem hl1, List.getElem?_eq_getElem hl2, Option.getD_some, Option.getD_some] at he
    simp [instrE, inB, shp, shps, badK, outK, tgtK, lim, lims, *]
   all_goals simp [instrE, inB, shp, shps, badK, outK, tgtK, lim, lims, *]
 · simp [instrE, inB, shp, shps, badK, outK, tgtK, lim, lims, *]
 · simp [instrE, inB, shp, shps, badK, outK, tgtK, lim, lims, *]
theorem slot_ok {s : Int × Int} (h : SlotOk s) : (sizeB s.1 && powB s.2) = true := by
 obtain ⟨h1, h2⟩ := h
 rw [Bool.and_eq_true]
 refine ⟨(sizeB_iff _).2 (by omega), ?_⟩
 rcases h2 with h | h | h | h | h | h | h <;> rw [h] <;> decide
open Go.RowKit
attribute [local go_sem ↓] Go.wp_at_zero Go.wp_at_succ
theorem within_any (n l : Int) (w : World) :
 Calls Tryd.prog 49 #[.int .i64 n, .int .i64 l] w fun e w' => e = .returned (.bool (inB n l)) ∧ w = w' := by
 rcases hb : inB n l with _ | _
 · have h := inB_f.1 hb
   clear hb
   by_cases h0 : 0 ≤ n
   · have h1 : l ≤ n := by omega
     clear h
     go_enter Tryd.func49, Tryd.ntmps49
     go_wp2
     go_ret
     exact ⟨ret_bool (by simp; omega), rfl⟩
   · clear h
     go_enter Tryd.func49, Tryd.ntmps49
     go_wp2
     go_ret
     exact ⟨rfl, rfl⟩
 · obtain ⟨h0, h1⟩ := inB_t.1 hb
   clear hb
   go_enter Tryd.func49, Tryd.ntmps49
   go_wp2
   go_ret
   exact ⟨rfl, rfl⟩
theorem term_any (op : Int) (w : World) :
 Calls Tryd.prog 52 #[.int .i64 op] w fun e w' => e = .returned (.bool (termB op)) ∧ w = w' := by
 by_cases h1 : op = 20
 · subst h1
   go_enter Tryd.func52, Tryd.ntmps52
   go_wp2
   go_ret
   exact ⟨rfl, rfl⟩
 · by_cases h2 : op = 23
   · subst h2
     go_enter Tryd.func52, Tryd.ntmps52
     go_wp2
     go_ret
     exact ⟨rfl, rfl⟩
   · have b1 : (op == 20) = false := by simpa using h1
     have b2 : (op == 23) = false := by simpa using h2
     have HT : Hid (termB op = (op == 24)) := hQ (by unfold termB; rw [b1, b2]; simp)
     clear h1 h2
     go_enter Tryd.func52, Tryd.ntmps52
     go_wp2
     go_ret
     exact ⟨ret_bool (by rw [HT.out]), rfl⟩
theorem limits_any (Ap : Option Addr) (nf cp : Nat) (prm : Int) (As : Option Addr) (ns cs : Nat) (Ai : Option Addr) (nc ci : Nat) (w : World) :
 Calls Tryd.prog 71 #[.agg #[.slice Ap nf cp], .agg #[.int .i64 prm, .slice As ns cs, .slice Ai nc ci]] w fun e w' =>
  e = .returned (.agg #[.int .i64 1, .int .i64 8, .int .i64 (ns : Int), .int .i64 (nf : Int), .int .i64 8, .int .i64 prm, .int .i64 (nc : Int)]) ∧ Below w.heap.size w w' := by
 go_enter Tryd.func71, Tryd.ntmps71
 go_wp2
 refine bodyPost_ret (v := .agg #[.int .i64 1, .int .i64 8, .int .i64 (ns : Int), .int .i64 (nf : Int), .int .i64 8, .int .i64 prm, .int .i64 (nc : Int)]) (by simp [results, Tryd.results71, go_sem]) rfl ⟨rfl, ?_⟩
 exact ((bR.alloc nL _).alloc (by simp) _).alloc (by simp; omega) _
def Tb (w : World) : Prop := 0 < w.heap.size ∧ ∀ k, k < 25 → w.cell? ⟨0, k * 4, none⟩ = some (.int .i64 ((shp k).1 : Int)) ∧ w.cell? ⟨0, k * 4 + 1, none⟩ = some (.int .i64 ((shp k).2.1 : Int)) ∧ w.cell? ⟨0, k * 4 + 2, none⟩ = some (.int .i64 ((shp k).2.2.1 : Int)) ∧ w.cell? ⟨0, k * 4 + 3, none⟩ = some (.bool (shp k).2.2.2)
theorem Tb.keep {w w' : World} (h : Tb w) (hk : Kp 0 (0 + 1) w w') (hs : w.heap.size ≤ w'.heap.size) : Tb w' := ⟨by have := h.1; omega, fun k hk' => by
 have e : ∀ o, w'.cell? ⟨0, o, none⟩ = w.cell? ⟨0, o, none⟩ := fun o => World.cell?_of_block (a := ⟨0, o, none⟩) (hk 0 (Nat.zero_le _) (by omega))
 rw [e, e, e, e]
 exact h.2 k hk'⟩
theorem Tb.below {w w' : World} (h : Tb w) (hb : Below w.heap.size w w') : Tb w' := h.keep (Kp.of_below hb h.1) hb.size
def bads (j ka kb kc : Nat) (a b c : Int) : Bool := (decide (0 < j) && badK ka a) || (decide (1 < j) && badK kb b) || (decide (2 < j) && badK kc c)
def outs (nf : Nat) (prm : Int) (ns nc j ka kb kc : Nat) (a b c : Int) : Bool := (decide (0 < j) && outK nf prm ns nc ka a) || (decide (1 < j) && outK nf prm ns nc kb b) || (decide (2 < j) && outK nf prm ns nc kc c)
def tgts (nf : Nat) (prm : Int) (ns nc j ka kb kc : Nat) (a b c : Int) : Bool := (decide (0 < j) && tgtK nf prm ns nc ka a) || (decide (1 < j) && tgtK nf prm ns nc kb b) || (decide (2 < j) && tgtK nf prm ns nc kc c)
theorem bads_1 (ka kb kc : Nat) (a b c : Int) : bads 1 ka kb kc a b c = (bads 0 ka kb kc a b c || badK ka a) := by simp [bads]
theorem bads_2 (ka kb kc : Nat) (a b c : Int) : bads 2 ka kb kc a b c = (bads 1 ka kb kc a b c || badK kb b) := by simp [bads]
theorem bads_3 (ka kb kc : Nat) (a b c : Int) : bads 3 ka kb kc a b c = (bads 2 ka kb kc a b c || badK kc c) := by simp [bads]
theorem outs_1 (nf : Nat) (prm : Int) (ns nc ka kb kc : Nat) (a b c : Int) : outs nf prm ns nc 1 ka kb kc a b c = (outs nf prm ns nc 0 ka kb kc a b c || outK nf prm ns nc ka a) := by simp [outs]
theorem outs_2 (nf : Nat) (prm : Int) (ns nc ka kb kc : Nat) (a b c : Int) : outs nf prm ns nc 2 ka kb kc a b c = (outs nf prm ns nc 1 ka kb kc a b c || outK nf prm ns nc kb b) := by simp [outs]
theorem outs_3 (nf : Nat) (prm : Int) (ns nc ka kb kc : Nat) (a b c : Int) : outs nf prm ns nc 3 ka kb kc a b c = (outs nf prm ns nc 2 ka kb kc a b c || outK nf prm ns nc kc c) := by simp [outs]
theorem tgts_1 (nf : Nat) (prm : Int) (ns nc ka kb kc : Nat) (a b c : Int) : tgts nf prm ns nc 1 ka kb kc a b c = (tgts nf prm ns nc 0 ka kb kc a b c || tgtK nf prm ns nc ka a) := by simp [tgts]
theorem tgts_2 (nf : Nat) (prm : Int) (ns nc ka kb kc : Nat) (a b c : Int) : tgts nf prm ns nc 2 ka kb kc a b c = (tgts nf prm ns nc 1 ka kb kc a b c || tgtK nf prm ns nc kb b) := by simp [tgts]
theorem tgts_3 (nf : Nat) (prm : Int) (ns nc ka kb kc : Nat) (a b c : Int) : tgts nf prm ns nc 3 ka kb kc a b c = (tgts nf prm ns nc 2 ka kb kc a b c || tgtK nf prm ns nc kc c) := by simp [tgts]
theorem lim_cell (nf : Nat) (prm : Int) (ns nc k : Nat) (h : k < 7) : (#[Value.int .i64 1, .int .i64 8, .int .i64 (ns : Int), .int .i64 (nf : Int), .int .i64 8, .int .i64 prm, .int .i64 (nc : Int)] : Array Value)[k]? = some (.int .i64 (lim nf prm ns nc k)) := by
 have : k = 0 ∨ k = 1 ∨ k = 2 ∨ k = 3 ∨ k = 4 ∨ k = 5 ∨ k = 6 := by omega
 rcases this with rfl | rfl | rfl | rfl | rfl | rfl | rfl <;> rfl
section
variable {nf : Nat} {prm : Int} {sl : List (Int × Int)} {nc o : Nat} {a b c im : Int}
theorem instrE_bad (h : inB (o : Int) 25 = true) (h2 : (badK (shp o).1 a || badK (shp o).2.1 b || badK (shp o).2.2.1 c) = true) : instrE nf prm sl nc ⟨(o : Int), a, b, c, im⟩ = 2 := by
 simp only [instrE, Int.toNat_natCast]
 rw [if_neg (by rw [h]; simp), if_pos h2]
theorem instrE_imm (h : inB (o : Int) 25 = true) (h2 : (badK (shp o).1 a || badK (shp o).2.1 b || badK (shp o).2.2.1 c) = false) (h3 : (!(shp o).2.2.2 && im != 0) = true) : instrE nf prm sl nc ⟨(o : Int), a, b, c, im⟩ = 2 := by
 simp only [instrE, Int.toNat_natCast]
 rw [if_neg (by rw [h]; simp), if_neg (by rw [h2]; simp), if_pos h3]
theorem instrE_out (h : inB (o : Int) 25 = true) (h2 : (badK (shp o).1 a || badK (shp o).2.1 b || badK (shp o).2.2.1 c) = false) (h3 : (!(shp o).2.2.2 && im != 0) = false) (h4 : (outK nf prm sl.length nc (shp o).1 a || outK nf prm sl.length nc (shp o).2.1 b || outK nf prm sl.length nc (shp o).2.2.1 c) = true) : instrE nf prm sl nc ⟨(o : Int), a, b, c, im⟩ = 4 := by
 simp only [instrE, Int.toNat_natCast]
 rw [if_neg (by rw [h]; simp), if_neg (by rw [h2]; simp), if_neg (by rw [h3]; simp), if_pos h4]
theorem instrE_end (h : inB (o : Int) 25 = true) (h2 : (badK (shp o).1 a || badK (shp o).2.1 b || badK (shp o).2.2.1 c) = false) (h3 : (!(shp o).2.2.2 && im != 0) = false) (h4 : (outK nf prm sl.length nc (shp o).1 a || outK nf prm sl.length nc (shp o).2.1 b || outK nf prm sl.length nc (shp o).2.2.1 c) = false) :
 instrE nf prm sl nc ⟨(o : Int), a, b, c, im⟩ = if ((o : Int) == 17 && (sl.getD a.toNat (0, 0)).1 != (sl.getD b.toNat (0, 0)).1) = true then 5 else if (tgtK nf prm sl.length nc (shp o).1 a || tgtK nf prm sl.length nc (shp o).2.1 b || tgtK nf prm sl.length nc (shp o).2.2.1 c) = true then 6 else 0 := by
 simp only [instrE, Int.toNat_natCast]
 rw [if_neg (by rw [h]; simp), if_neg (by rw [h2]; simp), if_neg (by rw [h3]; simp), if_neg (by rw [h4]; simp)]
end
theorem quiet_left' {P : Program} {f : FuncId} {args : Array Value} {w : World} {n : Nat} {v : Value} (h : Calls P f args (w.drewN n) fun e w' => e = .returned v ∧ w.drewN n = w') : Calls P f args (w.drewN n) fun e w'' => e = .returned v ∧ ∃ m, w'' = w.drewN m :=
 h.mono fun _ _ ⟨he, hm⟩ => ⟨he, n, hm.symm⟩
theorem instr_any (Ap : Option Addr) (nf cp : Nat) (prm : Int) (As : Option Addr) (sl : List (Int × Int)) (cs : Nat) (Ai : Option Addr) (nc ci : Nat) (x : Ins) (w : World) (lo hi : Nat) (hT : Tb w) (hs : Sx w lo hi As sl) (hh : hi ≤ w.heap.size) (hcs : sl.length ≤ maxLen) :
 Calls Tryd.prog 51 #[.agg #[.slice Ap nf cp], .agg #[.int .i64 prm, .slice As sl.length cs, .slice Ai nc ci], insV x] w fun e w' =>
  e = .returned (.int .i64 (instrE nf prm sl nc x)) ∧ Below w.heap.size w w' := by
 obtain ⟨op, a, b, c, im⟩ := x
 unfold insV
 rcases ho : inB op 25 with _ | _
 · have HE : Hid (instrE nf prm sl nc ⟨op, a, b, c, im⟩ = 4) := hQ (by unfold instrE; rw [if_pos ho])
   have HO := hQ ho
   clear ho
   go_enter Tryd.func51, Tryd.ntmps51
   go_wp2_with fail
   refine (within_any _ _ _).mono ?_
   rintro e w1 ⟨rfl, rfl⟩
   rw [HO.out]
   go_wp2
   go_ret
   exact ⟨ret_int (by rw [HE.out]), (((bR.alloc nL _).alloc (by simp) _).alloc (by simp; omega) _)⟩
 · have hop := inB_t.1 ho
   obtain ⟨o, rfl⟩ := Int.eq_ofNat_of_zero_le hop.1
   have HO := hQ ho
   have ho25 : (o : Int) < 25 := hop.2
   have ho0 : (0 : Int) ≤ (o : Int) := by omega
   obtain ⟨hka, hkb, hkc⟩ := shp_lt o
   obtain ⟨t0, t1, t2, t3⟩ := hT.2 o (by omega)
   rcases hsh : shp o with ⟨ka, kb, kc, imu⟩
   rw [hsh] at hka hkb hkc t0 t1 t2 t3
   have HSH := hQ hsh
   have h00 := hT.1
   clear ho hop hsh
   simp only at hka hkb hkc t0 t1 t2 t3
   obtain ⟨W3, hW3⟩ : ∃ W3, W3 = ((w.alloc (.cells #[.slice Ap nf cp] 26)).alloc (.cells #[.int .i64 prm, .slice As sl.length cs, .slice Ai nc ci] 54)).alloc (.cells #[.int .i64 (o : Int), .int .i64 a, .int .i64 b, .int .i64 c, .int .u64 im] 50) := ⟨_, rfl⟩
   have HBN : Hid (Below w.heap.size w W3) := hQ (by rw [hW3]; exact (((bR.alloc nL _).alloc (by simp) _).alloc (by simp; omega) _))
   have HKF : Hid (Blk W3 (w.heap.size + 1) 54 #[.int .i64 prm, .slice As sl.length cs, .slice Ai nc ci]) := hQ (by rw [hW3]; exact (Blk.newAt (by simp)).alloc _)
   have HKX : Hid (Blk W3 (w.heap.size + 1 + 1) 50 #[.int .i64 (o : Int), .int .i64 a, .int .i64 b, .int .i64 c, .int .u64 im]) := hQ (by rw [hW3]; exact Blk.newAt (by simp))
   have HZ3 : Hid (W3.heap.size = w.heap.size + 3) := hQ (by rw [hW3]; simp)
   have HKP : Hid (Blk W3 w.heap.size 26 #[.slice Ap nf cp]) := hQ (by rw [hW3]; exact ((Blk.new w _ _).alloc _).alloc _)
   have HW3 := hQ hW3
   have HSX : Hid (∀ W, Below w.heap.size w W → Sx W lo hi As sl) := hQ (fun W hb => hs.keep (Kp.of_below hb hh))
   have T0 := hQ t0
   have T1 := hQ t1
   have T2 := hQ t2
   have T3 := hQ t3
   clear hT hs hW3 t0 t1 t2 t3
   go_enter Tryd.func51, Tryd.ntmps51
   go_wp2_with fail
   refine (within_any _ _ _).mono ?_
   rintro e w1 ⟨rfl, rfl⟩
   rw [HO.out]
   rw [← HW3.out]
   obtain ⟨x0, x1, x2, x3, x4, -, -, -, -, -, xz⟩ := HKX.out.c5
   obtain ⟨hc3, hf3⟩ := bcell HBN.out
   have s0 : W3.cell? ⟨0, o * 4, none⟩ = some (.int .i64 (ka : Int)) := by rw [hc3 _ _ h00]; exact T0.out
   have s1 : W3.cell? ⟨0, o * 4 + 1, none⟩ = some (.int .i64 (kb : Int)) := by rw [hc3 _ _ h00]; exact T1.out
   have s2 : W3.cell? ⟨0, o * 4 + 2, none⟩ = some (.int .i64 (kc : Int)) := by rw [hc3 _ _ h00]; exact T2.out
   have s3 : W3.cell? ⟨0, o * 4 + 3, none⟩ = some (.bool imu) := by rw [hc3 _ _ h00]; exact T3.out
   clear hc3 hf3
   go_upto_region 4 with (fail)
   obtain ⟨W4, hW4⟩ : ∃ W4, W4 = W3.alloc (.cells #[.int .i64 (ka : Int), .int .i64 (kb : Int), .int .i64 (kc : Int), .bool imu] 123) := ⟨_, rfl⟩
   rw [← hW4]
   have HB4 : Hid (Below W3.heap.size W3 W4) := hQ (by rw [hW4]; exact bR.alloc nL _)
   have HKS : Hid (Blk W4 W3.heap.size 123 #[.int .i64 (ka : Int), .int .i64 (kb : Int), .int .i64 (kc : Int), .bool imu]) := hQ (by rw [hW4]; exact Blk.new _ _ _)
   have HKX4 := hQ (HKX.out.after HB4.out)
   clear hW4 x0 x1 x2 x3 x4 xz s0 s1 s2 s3
   obtain ⟨x0, x1, x2, x3, x4, -, -, -, -, -, xz⟩ := HKX4.out.c5
   have y0 := Blk.cell HKS.out 0
   have y1 := Blk.cell HKS.out 1
   have y2 := Blk.cell HKS.out 2
   have yz := HKS.out.lt
   simp at y0 y1 y2
   go_cut [8, 9] (fun s8 s9 wx => ∃ g8 g9 : Nat, s8 = .pointer (some ⟨g8, 0, none⟩) ∧ s9 = .pointer (some ⟨g9, 0, none⟩) ∧ Hid (Blk wx g8 125 #[.int .i64 (ka : Int), .int .i64 (kb : Int), .int .i64 (kc : Int)]) ∧ Hid (Blk wx g9 126 #[.int .i64 a, .int .i64 b, .int .i64 c]) ∧ Hid (Below W4.heap.size W4 wx))
   case first =>
    go_region_held3 (fun W => W.cell? ⟨W3.heap.size, 0, none⟩ = some (.int .i64 (ka : Int)) ∧ W.cell? ⟨W3.heap.size, 1, none⟩ = some (.int .i64 (kb : Int)) ∧ W.cell? ⟨W3.heap.size, 2, none⟩ = some (.int .i64 (kc : Int)) ∧ W.cell? ⟨w.heap.size + 1 + 1, 1, none⟩ = some (.int .i64 a) ∧ W.cell? ⟨w.heap.size + 1 + 1, 2, none⟩ = some (.int .i64 b) ∧ W.cell? ⟨w.heap.size + 1 + 1, 3, none⟩ = some (.int .i64 c)) (go_keep) (fail)
    all_goals go_wp2_with fail
    all_goals go_meet
    all_goals
     first
     | exact ⟨_, _, rfl, rfl, hQ (Blk.drew ((Blk.new W4 _ _).alloc _)), hQ (Blk.drew (Blk.newAt (by simp))), hQ ((bR.alloc nL _).alloc (by simp) _).drew⟩
     | exact ⟨_, _, rfl, rfl, hQ (Blk.drew (Blk.newAt (by simp))), hQ (Blk.drew ((Blk.new W4 _ _).alloc _)), hQ ((bR.alloc nL _).alloc (by simp) _).drew⟩
   case rest =>
    obtain ⟨g8, g9, rfl, rfl, HK8, HK9, HB5⟩ := hcut
    obtain ⟨W5, hW5⟩ : ∃ W5, W5 = wc := ⟨_, rfl⟩
    subst hW5
    have HB35 : Hid (Below W3.heap.size W3 W5) := hQ (HB4.out.trans (HB5.out.mono HB4.out.size))
    have HBN5 : Hid (Below w.heap.size w W5) := hQ (HBN.out.trans (HB35.out.mono HBN.out.size))
    have HKX5 := hQ (HKX.out.after HB35.out)
    have HKF5 := hQ (HKF.out.after HB35.out)
    have HKP5 := hQ (HKP.out.after HB35.out)
    have HKS5 := hQ (HKS.out.after HB5.out)
    clear x0 x1 x2 x3 x4 xz y0 y1 y2 yz HKX HKF HKP HKX4 HKS HB4 HB5 HB35 HBN HZ3 HW3 T0 T1 T2 T3
    obtain ⟨z0, z1, z2, -, -, -, zz⟩ := HK8.out.c3
    obtain ⟨n0, n1, n2, -, -, -, nz⟩ := HK9.out.c3
    have HBN := HBN5
    have ix0 : ∀ W, (Instr.index 125 (.agg #[.int .i64 (ka : Int), .int .i64 (kb : Int), .int .i64 (kc : Int)]) (.int .i64 0)).run Tryd.prog W = .ok (.int .i64 (ka : Int)) W := fun _ => by kernel_rfl
    have ix1 : ∀ W, (Instr.index 125 (.agg #[.int .i64 (ka : Int), .int .i64 (kb : Int), .int .i64 (kc : Int)]) (.int .i64 1)).run Tryd.prog W = .ok (.int .i64 (kb : Int)) W := fun _ => by kernel_rfl
    have ix2 : ∀ W, (Instr.index 125 (.agg #[.int .i64 (ka : Int), .int .i64 (kb : Int), .int .i64 (kc : Int)]) (.int .i64 2)).run Tryd.prog W = .ok (.int .i64 (kc : Int)) W := fun _ => by kernel_rfl
    go_wp2
    go_loop [39] (fun v => ∃ j : Nat, j ≤ 3 ∧ v = .int .i64 j ∧ Hid (bads j ka kb kc a b c = false)) (fun v => 3 - (intOf v).toNat)
    case atStart => exact ⟨0, by omega, rfl, hQ (by simp [bads])⟩
    case round =>
     obtain ⟨j, hj, rfl, HBJ⟩ := hrel
     have hj4 : j = 0 ∨ j = 1 ∨ j = 2 ∨ j = 3 := by omega
     clear hj
     rcases hj4 with rfl | rfl | rfl | rfl
     ·
       by_cases hk : ka = 0
       · have e1 : ((ka : Int) == 0) = true := by simp [hk]
         by_cases hv : a = 0
         · have e2 : (a != 0) = false := by simp [hv]
           have e3 : (a == 0) = true := by simp [hv]
           have HB1 : Hid (bads 1 ka kb kc a b c = false) := hQ (by rw [bads_1, HBJ.out, Bool.false_or]; simp [badK, hv])
           clear hk hv HBJ
           go_wp2
           go_round
           case rel => exact ⟨1, by omega, by go_num, HB1⟩
           case measure => simp [intOf]
         · have e2 : (a != 0) = true := by simp [hv]
           have e3 : (a == 0) = false := by simp [hv]
           have HE : Hid (instrE nf prm sl nc ⟨(o : Int), a, b, c, im⟩ = 2) := hQ (instrE_bad HO.out (by rw [HSH.out]; simp [badK, hk, hv]))
           clear hk hv HBJ
           go_wp2
           go_ret
           exact ⟨ret_int (by rw [HE.out]), HBN.out⟩
       · have e1 : ((ka : Int) == 0) = false := by simp; omega
         have HB1 : Hid (bads 1 ka kb kc a b c = false) := hQ (by rw [bads_1, HBJ.out, Bool.false_or]; simp [badK, hk])
         clear hk HBJ
         go_wp2
         go_round
         case rel => exact ⟨1, by omega, by go_num, HB1⟩
         case measure => simp [intOf]
     ·
       by_cases hk : kb = 0
       · have e1 : ((kb : Int) == 0) = true := by simp [hk]
         by_cases hv : b = 0
         · have e2 : (b != 0) = false := by simp [hv]
           have e3 : (b == 0) = true := by simp [hv]
           have HB2 : Hid (bads 2 ka kb kc a b c = false) := hQ (by rw [bads_2, HBJ.out, Bool.false_or]; simp [badK, hv])
           clear hk hv HBJ
           go_wp2
           go_round
           case rel => exact ⟨2, by omega, by go_num, HB2⟩
           case measure => simp [intOf]
         · have e2 : (b != 0) = true := by simp [hv]
           have e3 : (b == 0) = false := by simp [hv]
           have HE : Hid (instrE nf prm sl nc ⟨(o : Int), a, b, c, im⟩ = 2) := hQ (instrE_bad HO.out (by rw [HSH.out]; simp [badK, hk, hv]))
           clear hk hv HBJ
           go_wp2
           go_ret
           exact ⟨ret_int (by rw [HE.out]), HBN.out⟩
       · have e1 : ((kb : Int) == 0) = false := by simp; omega
         have HB2 : Hid (bads 2 ka kb kc a b c = false) := hQ (by rw [bads_2, HBJ.out, Bool.false_or]; simp [badK, hk])
         clear hk HBJ
         go_wp2
         go_round
         case rel => exact ⟨2, by omega, by go_num, HB2⟩
         case measure => simp [intOf]
     ·
       by_cases hk : kc = 0
       · have e1 : ((kc : Int) == 0) = true := by simp [hk]
         by_cases hv : c = 0
         · have e2 : (c != 0) = false := by simp [hv]
           have e3 : (c == 0) = true := by simp [hv]
           have HB3 : Hid (bads 3 ka kb kc a b c = false) := hQ (by rw [bads_3, HBJ.out, Bool.false_or]; simp [badK, hv])
           clear hk hv HBJ
           go_wp2
           go_round
           case rel => exact ⟨3, by omega, by go_num, HB3⟩
           case measure => simp [intOf]
         · have e2 : (c != 0) = true := by simp [hv]
           have e3 : (c == 0) = false := by simp [hv]
           have HE : Hid (instrE nf prm sl nc ⟨(o : Int), a, b, c, im⟩ = 2) := hQ (instrE_bad HO.out (by rw [HSH.out]; simp [badK, hk, hv]))
           clear hk hv HBJ
           go_wp2
           go_ret
           exact ⟨ret_int (by rw [HE.out]), HBN.out⟩
       · have e1 : ((kc : Int) == 0) = false := by simp; omega
         have HB3 : Hid (bads 3 ka kb kc a b c = false) := hQ (by rw [bads_3, HBJ.out, Bool.false_or]; simp [badK, hk])
         clear hk HBJ
         go_wp2
         go_round
         case rel => exact ⟨3, by omega, by go_num, HB3⟩
         case measure => simp [intOf]
     ·
       have HB3 : Hid ((badK ka a || badK kb b || badK kc c) = false) := hQ (by have h := HBJ.out; simpa [bads] using h)
       obtain ⟨p0, p1, p2, p3, -, -, -, -, pz⟩ := HKS5.out.c4
       obtain ⟨x0, x1, x2, x3, x4, -, -, -, -, -, xz⟩ := HKX5.out.c5
       clear HBJ
       go_upto_region 11 with (fail)
       go_cut [59] (fun s59 wx => s59 = .bool (!imu && im != 0) ∧ W5 = wx)
       case first =>
        by_cases hi : im = 0
        · have e1 : (im != 0) = false := by simp [hi]
          have e2 : (im == 0) = true := by simp [hi]
          clear hi
          cases imu
          all_goals
           go_wp2
           go_meet
           exact ⟨by simp [e1], rfl⟩
        · have e1 : (im != 0) = true := by simp [hi]
          have e2 : (im == 0) = false := by simp [hi]
          clear hi
          cases imu
          all_goals
           go_wp2
           go_meet
           exact ⟨by simp [e1], rfl⟩
       case rest =>
        obtain ⟨rfl, rfl⟩ := hcut
        rcases him : (!imu && im != 0) with _ | _
        · have HIM : Hid ((!imu && im != 0) = false) := hQ him
          clear him
          obtain ⟨f0, f1, f2, -, -, -, fz⟩ := HKF5.out.c3
          have r0 := Blk.cell HKP5.out 0
          simp at r0
          go_wp2_with fail
          refine (limits_any _ _ _ _ _ _ _ _ _ _ _).mono ?_
          rintro e w6 ⟨rfl, bel6⟩
          obtain ⟨W7, hW7⟩ : ∃ W7, W7 = w6.alloc (.cells #[.int .i64 1, .int .i64 8, .int .i64 (sl.length : Int), .int .i64 (nf : Int), .int .i64 8, .int .i64 prm, .int .i64 (nc : Int)] 127) := ⟨_, rfl⟩
          obtain ⟨g12, hg12⟩ : ∃ g, g = w6.heap.size := ⟨_, rfl⟩
          have HB57 : Hid (Below W5.heap.size W5 W7) := hQ (by rw [hW7]; exact bel6.alloc bel6.size _)
          have HK12 : Hid (Blk W7 g12 127 #[.int .i64 1, .int .i64 8, .int .i64 (sl.length : Int), .int .i64 (nf : Int), .int .i64 8, .int .i64 prm, .int .i64 (nc : Int)]) := hQ (by rw [hW7, hg12]; exact Blk.new _ _ _)
          have HK8' := hQ (HK8.out.after HB57.out)
          have HK9' := hQ (HK9.out.after HB57.out)
          have HKX7 := hQ (HKX5.out.after HB57.out)
          have HKF7 := hQ (HKF5.out.after HB57.out)
          have HBN7 : Hid (Below w.heap.size w W7) := hQ (HBN.out.trans (HB57.out.mono HBN.out.size))
          have HSZ7 : Hid (w.heap.size ≤ W7.heap.size) := hQ HBN7.out.size
          have HW7 := hQ hW7
          have HG12 := hQ hg12
          clear hW7 hg12 bel6 x0 x1 x2 x3 x4 xz p0 p1 p2 p3 pz f0 f1 f2 fz r0 z0 z1 z2 zz n0 n1 n2 nz HK8 HK9 HKX5 HKF5 HKP5 HKS5 HB57
          go_upto_region 15 with (fail)
          rw [← HW7.out, ← HG12.out]
          obtain ⟨z0, z1, z2, -, -, -, zz⟩ := HK8'.out.c3
          go_wp2
          go_loopw [64, 13] (fun v u wr => ∃ (j : Nat) (wv : Int), j ≤ 3 ∧ v = .int .i64 j ∧ u = .int .i64 wv ∧ Hid (outs nf prm sl.length nc j ka kb kc a b c = false) ∧ Hid (wv = if tgts nf prm sl.length nc j ka kb kc a b c = true then 6 else (0 : Int)) ∧ Hid (Below W7.heap.size W7 wr)) (fun v _ _ => 3 - (intOf v).toNat)
          case atStart => exact ⟨0, 0, by omega, rfl, rfl, hQ (by simp [outs]), hQ (by simp [tgts]), hQ bR⟩
          case round =>
           clear z0 z1 z2 zz
           obtain ⟨j, wv, hj, rfl, rfl, HOJ, HWV, HBR⟩ := hrel
           have hj4 : j = 0 ∨ j = 1 ∨ j = 2 ∨ j = 3 := by omega
           obtain ⟨n0, n1, n2, -, -, -, nz⟩ := (HK9'.out.after HBR.out).c3
           clear hj
           rcases hj4 with rfl | rfl | rfl | rfl
           ·
             have hcl := lim_cell nf prm sl.length nc ka hka
             obtain ⟨lv, hlv⟩ : ∃ lv, lv = lim nf prm sl.length nc ka := ⟨_, rfl⟩
             rw [← hlv] at hcl
             have HLV := hQ hlv
             have q12 : wr.cell? ⟨g12, ka, none⟩ = some (.int .i64 lv) := (Blk.cell (HK12.out.after HBR.out) ka).trans hcl
             have k0 : (0 : Int) ≤ (ka : Int) := by omega
             have k7 : (ka : Int) < 7 := by omega
             clear hcl hlv
             go_wp2_with fail
             go_quiet ((go_at_call 49; exact quiet_left' (within_any _ _ _)))
             have HBR' : Hid (Below W7.heap.size W7 (wr.drewN nq)) := hQ (below_drewN HBR.out nq)
             rcases hb : inB a lv with _ | _
             · by_cases h6 : ka = 6
               · have e6 : ((ka : Int) != 6) = false := by simp; omega
                 have e6' : ((ka : Int) == 6) = true := by simp; omega
                 have HOU : Hid (outs nf prm sl.length nc 1 ka kb kc a b c = false) := hQ (by rw [outs_1, HOJ.out, Bool.false_or]; simp [outK, h6])
                 have HTG : Hid (6 = if tgts nf prm sl.length nc 1 ka kb kc a b c = true then 6 else (0 : Int)) := hQ (by rw [if_pos]; rw [tgts_1]; have ht : tgtK nf prm sl.length nc ka a = true := (by unfold tgtK; rw [← HLV.out, hb, h6]; rfl); rw [ht, Bool.or_true])
                 clear h6 HWV HOJ
                 go_wp2
                 go_roundw
                 case rel => exact ⟨1, 6, by omega, by go_num, rfl, HOU, HTG, HBR'⟩
                 case measure => simp [intOf]
               · have e6 : ((ka : Int) != 6) = true := by simp; omega
                 have e6' : ((ka : Int) == 6) = false := by simp; omega
                 have HE : Hid (instrE nf prm sl nc ⟨(o : Int), a, b, c, im⟩ = 4) := hQ (instrE_out HO.out (by rw [HSH.out]; exact HB3.out) (by rw [HSH.out]; exact HIM.out) (by rw [HSH.out]; simp [outK, ← HLV.out, hb, h6]))
                 clear h6
                 go_wp2
                 go_ret
                 exact ⟨ret_int (by rw [HE.out]), HBN7.out.trans (HBR'.out.mono HSZ7.out)⟩
             · have HOU : Hid (outs nf prm sl.length nc 1 ka kb kc a b c = false) := hQ (by rw [outs_1, HOJ.out, Bool.false_or]; simp [outK, ← HLV.out, hb])
               have HTG : Hid (wv = if tgts nf prm sl.length nc 1 ka kb kc a b c = true then 6 else (0 : Int)) := hQ (by rw [tgts_1, HWV.out]; simp [tgtK, ← HLV.out, hb])
               clear HWV HOJ
               go_wp2
               go_roundw
               case rel => exact ⟨1, wv, by omega, by go_num, rfl, HOU, HTG, HBR'⟩
               case measure => simp [intOf]
           ·
             have hcl := lim_cell nf prm sl.length nc kb hkb
             obtain ⟨lv, hlv⟩ : ∃ lv, lv = lim nf prm sl.length nc kb := ⟨_, rfl⟩
             rw [← hlv] at hcl
             have HLV := hQ hlv
             have q12 : wr.cell? ⟨g12, kb, none⟩ = some (.int .i64 lv) := (Blk.cell (HK12.out.after HBR.out) kb).trans hcl
             have k0 : (0 : Int) ≤ (kb : Int) := by omega
             have k7 : (kb : Int) < 7 := by omega
             clear hcl hlv
             go_wp2_with fail
             go_quiet ((go_at_call 49; exact quiet_left' (within_any _ _ _)))
             have HBR' : Hid (Below W7.heap.size W7 (wr.drewN nq)) := hQ (below_drewN HBR.out nq)
             rcases hb : inB b lv with _ | _
             · by_cases h6 : kb = 6
               · have e6 : ((kb : Int) != 6) = false := by simp; omega
                 have e6' : ((kb : Int) == 6) = true := by simp; omega
                 have HOU : Hid (outs nf prm sl.length nc 2 ka kb kc a b c = false) := hQ (by rw [outs_2, HOJ.out, Bool.false_or]; simp [outK, h6])
                 have HTG : Hid (6 = if tgts nf prm sl.length nc 2 ka kb kc a b c = true then 6 else (0 : Int)) := hQ (by rw [if_pos]; rw [tgts_2]; have ht : tgtK nf prm sl.length nc kb b = true := (by unfold tgtK; rw [← HLV.out, hb, h6]; rfl); rw [ht, Bool.or_true])
                 clear h6 HWV HOJ
                 go_wp2
                 go_roundw
                 case rel => exact ⟨2, 6, by omega, by go_num, rfl, HOU, HTG, HBR'⟩
                 case measure => simp [intOf]
               · have e6 : ((kb : Int) != 6) = true := by simp; omega
                 have e6' : ((kb : Int) == 6) = false := by simp; omega
                 have HE : Hid (instrE nf prm sl nc ⟨(o : Int), a, b, c, im⟩ = 4) := hQ (instrE_out HO.out (by rw [HSH.out]; exact HB3.out) (by rw [HSH.out]; exact HIM.out) (by rw [HSH.out]; simp [outK, ← HLV.out, hb, h6]))
                 clear h6
                 go_wp2
                 go_ret
                 exact ⟨ret_int (by rw [HE.out]), HBN7.out.trans (HBR'.out.mono HSZ7.out)⟩
             · have HOU : Hid (outs nf prm sl.length nc 2 ka kb kc a b c = false) := hQ (by rw [outs_2, HOJ.out, Bool.false_or]; simp [outK, ← HLV.out, hb])
               have HTG : Hid (wv = if tgts nf prm sl.length nc 2 ka kb kc a b c = true then 6 else (0 : Int)) := hQ (by rw [tgts_2, HWV.out]; simp [tgtK, ← HLV.out, hb])
               clear HWV HOJ
               go_wp2
               go_roundw
               case rel => exact ⟨2, wv, by omega, by go_num, rfl, HOU, HTG, HBR'⟩
               case measure => simp [intOf]
           ·
             have hcl := lim_cell nf prm sl.length nc kc hkc
             obtain ⟨lv, hlv⟩ : ∃ lv, lv = lim nf prm sl.length nc kc := ⟨_, rfl⟩
             rw [← hlv] at hcl
             have HLV := hQ hlv
             have q12 : wr.cell? ⟨g12, kc, none⟩ = some (.int .i64 lv) := (Blk.cell (HK12.out.after HBR.out) kc).trans hcl
             have k0 : (0 : Int) ≤ (kc : Int) := by omega
             have k7 : (kc : Int) < 7 := by omega
             clear hcl hlv
             go_wp2_with fail
             go_quiet ((go_at_call 49; exact quiet_left' (within_any _ _ _)))
             have HBR' : Hid (Below W7.heap.size W7 (wr.drewN nq)) := hQ (below_drewN HBR.out nq)
             rcases hb : inB c lv with _ | _
             · by_cases h6 : kc = 6
               · have e6 : ((kc : Int) != 6) = false := by simp; omega
                 have e6' : ((kc : Int) == 6) = true := by simp; omega
                 have HOU : Hid (outs nf prm sl.length nc 3 ka kb kc a b c = false) := hQ (by rw [outs_3, HOJ.out, Bool.false_or]; simp [outK, h6])
                 have HTG : Hid (6 = if tgts nf prm sl.length nc 3 ka kb kc a b c = true then 6 else (0 : Int)) := hQ (by rw [if_pos]; rw [tgts_3]; have ht : tgtK nf prm sl.length nc kc c = true := (by unfold tgtK; rw [← HLV.out, hb, h6]; rfl); rw [ht, Bool.or_true])
                 clear h6 HWV HOJ
                 go_wp2
                 go_roundw
                 case rel => exact ⟨3, 6, by omega, by go_num, rfl, HOU, HTG, HBR'⟩
                 case measure => simp [intOf]
               · have e6 : ((kc : Int) != 6) = true := by simp; omega
                 have e6' : ((kc : Int) == 6) = false := by simp; omega
                 have HE : Hid (instrE nf prm sl nc ⟨(o : Int), a, b, c, im⟩ = 4) := hQ (instrE_out HO.out (by rw [HSH.out]; exact HB3.out) (by rw [HSH.out]; exact HIM.out) (by rw [HSH.out]; simp [outK, ← HLV.out, hb, h6]))
                 clear h6
                 go_wp2
                 go_ret
                 exact ⟨ret_int (by rw [HE.out]), HBN7.out.trans (HBR'.out.mono HSZ7.out)⟩
             · have HOU : Hid (outs nf prm sl.length nc 3 ka kb kc a b c = false) := hQ (by rw [outs_3, HOJ.out, Bool.false_or]; simp [outK, ← HLV.out, hb])
               have HTG : Hid (wv = if tgts nf prm sl.length nc 3 ka kb kc a b c = true then 6 else (0 : Int)) := hQ (by rw [tgts_3, HWV.out]; simp [tgtK, ← HLV.out, hb])
               clear HWV HOJ
               go_wp2
               go_roundw
               case rel => exact ⟨3, wv, by omega, by go_num, rfl, HOU, HTG, HBR'⟩
               case measure => simp [intOf]
           ·
             have HOK : Hid ((outK nf prm sl.length nc ka a || outK nf prm sl.length nc kb b || outK nf prm sl.length nc kc c) = false) := hQ (by have h := HOJ.out; simpa [outs] using h)
             have HWV' : Hid (wv = if (tgtK nf prm sl.length nc ka a || tgtK nf prm sl.length nc kb b || tgtK nf prm sl.length nc kc c) = true then 6 else (0 : Int)) := hQ (by have h := HWV.out; simpa [tgts] using h)
             have HEND : Hid (instrE nf prm sl nc ⟨(o : Int), a, b, c, im⟩ = if ((o : Int) == 17 && (sl.getD a.toNat (0, 0)).1 != (sl.getD b.toNat (0, 0)).1) = true then 5 else wv) := hQ (by
              have h := instrE_end (nf := nf) (prm := prm) (sl := sl) (nc := nc) (o := o) (a := a) (b := b) (c := c) (im := im) HO.out (by rw [HSH.out]; exact HB3.out) (by rw [HSH.out]; exact HIM.out) (by rw [HSH.out]; exact HOK.out)
              rw [HSH.out] at h
              rw [HWV'.out]
              exact h)
             have HBRN : Hid (Below w.heap.size w wr) := hQ (HBN7.out.trans (HBR.out.mono HSZ7.out))
             obtain ⟨x0, x1, x2, x3, x4, -, -, -, -, -, xz⟩ := (HKX7.out.after HBR.out).c5
             obtain ⟨f0, f1, f2, -, -, -, fz⟩ := (HKF7.out.after HBR.out).c3
             clear HOJ HWV n0 n1 n2 nz
             by_cases h17 : o = 17
             · obtain ⟨hl1, hl2⟩ : inB a (sl.length : Int) = true ∧ inB b (sl.length : Int) = true := by
                have h := HOK.out
                have hs := HSH.out
                rw [h17] at hs
                have e : (2, 2, 0, false) = (ka, kb, kc, imu) := hs
                injection e with e1 e
                injection e with e2 e
                subst e1 e2
                simp [outK, lim, lims] at h
                exact ⟨h.1.1, h.1.2⟩
               have i1 := inB_t.1 hl1
               have i2 := inB_t.1 hl2
               obtain ⟨an, rfl⟩ := Int.eq_ofNat_of_zero_le i1.1
               obtain ⟨bn, rfl⟩ := Int.eq_ofNat_of_zero_le i2.1
               have han : an < sl.length := by omega
               have hbn : bn < sl.length := by omega
               obtain ⟨ad, rfl, hbl, c1', -⟩ := (HSX.out wr HBRN.out).at_ han
               obtain ⟨ad', e', -, c2', -⟩ := (HSX.out wr HBRN.out).at_ hbn
               obtain rfl : ad = ad' := by injection e'
               have b17 : ((o : Int) == 17) = true := by simp [h17]
               have HEQ := HEND.out
               rw [Int.toNat_natCast, Int.toNat_natCast, b17] at HEQ
               generalize (sl.getD an (0, 0)).1 = sx at *
               generalize (sl.getD bn (0, 0)).1 = sy at *
               have hai : (an : Int) < (sl.length : Int) := i1.2
               have hbi : (bn : Int) < (sl.length : Int) := i2.2
               have ha0 : (0 : Int) ≤ (an : Int) := by omega
               have hb0 : (0 : Int) ≤ (bn : Int) := by omega
               have hni : (sl.length : Int) ≤ 9223372036854775807 := by unfold maxLen at hcs; omega
               by_cases hxy : sx = sy
               · have HF := hQ (HEQ.trans (show (if (true && sx != sy) = true then (5 : Int) else wv) = wv by simp [hxy]))
                 have ne : (sx != sy) = false := by simp [hxy]
                 clear HEQ hl1 hl2 i1 i2 e' h17 hxy HEND HOK HWV'
                 go_wp2_with fail
                 go_quiet (fail)
                 go_wp2
                 go_ret
                 exact ⟨ret_int (by rw [HF.out]), below_drewN HBRN.out _⟩
               · have HF := hQ (HEQ.trans (show (if (true && sx != sy) = true then (5 : Int) else wv) = 5 by simp [hxy]))
                 have ne : (sx != sy) = true := by simp [hxy]
                 clear HEQ hl1 hl2 i1 i2 e' h17 hxy HEND HOK HWV'
                 go_wp2_with fail
                 go_quiet (fail)
                 go_wp2
                 go_ret
                 exact ⟨ret_int (by rw [HF.out]), below_drewN HBRN.out _⟩
             · have b17 : ((o : Int) == 17) = false := by simp; omega
               have HF : Hid (instrE nf prm sl nc ⟨(o : Int), a, b, c, im⟩ = wv) := hQ (HEND.out.trans (by simp [b17]))
               clear h17 HEND HOK HWV'
               go_wp2_with fail
               go_quiet (fail)
               go_wp2
               go_ret
               exact ⟨ret_int (by rw [HF.out]), below_drewN HBRN.out _⟩
        · have HE : Hid (instrE nf prm sl nc ⟨(o : Int), a, b, c, im⟩ = 2) := hQ (instrE_imm HO.out (by rw [HSH.out]; exact HB3.out) (by rw [HSH.out]; exact him))
          clear him
          go_wp2
          go_ret
          exact ⟨ret_int (by rw [HE.out]), HBN.out⟩
end Go.Proofs.YtdijeijbcoeopaaDoor.pm
namespace Go.Proofs.YtdijeijbcoeopaaDoor
open Go.RowKit
set_option maxRecDepth 10000 in
theorem power_any (x : Int) (h0 : -9223372036854775808 ≤ x) (h1 : x ≤ 9223372036854775807) (w : World) :
 Calls Tryd.prog 70 #[.int .i64 x] w fun e w' => e = .returned (.bool (powB x)) ∧ w = w' := by
 by_cases h : 1 ≤ x ∧ x ≤ 16777216
 · obtain ⟨h2, h3⟩ := h
   obtain ⟨n, rfl⟩ := Int.eq_ofNat_of_zero_le (show 0 ≤ x by omega)
   have hand := i64_and_nat n (n - 1) (by omega) (by omega)
   rw [show ((n - 1 : Nat) : Int) = (n : Int) - 1 by omega] at hand
   have HP := hQ (powB_and n (by omega) (by omega))
   go_enter Tryd.func70, Tryd.ntmps70
   go_wp2
   go_ret
   exact ⟨ret_bool (by rw [← HP.out, Bool.eq_iff_iff, beq_iff_eq, decide_eq_true_iff]; omega), rfl⟩
 · have hp : powB x = false := by
    rcases hb : powB x with _ | _
    · rfl
    · exact absurd (powB_range x hb) h
   have HP := hQ hp
   have hx : x < 1 ∨ (1 ≤ x ∧ 16777216 < x) := by omega
   clear hp h
   rcases hx with h | ⟨h, h'⟩
   all_goals
    go_enter Tryd.func70, Tryd.ntmps70
    go_wp2
    go_ret
    exact ⟨ret_bool (by rw [HP.out]), rfl⟩
set_option maxRecDepth 10000 in
theorem refpower_any (x : Int) (h0 : -9223372036854775808 ≤ x) (h1 : x ≤ 9223372036854775807) (w : World) :
 Calls Tryd.prog 79 #[.int .i64 x] w fun e w' => e = .returned (.bool (powB x)) ∧ w = w' := by
 go_enter Tryd.func79, Tryd.ntmps79
 go_wp2
 go_loop [3] (fun v => ∃ j p : Nat, j ≤ 25 ∧ v = .int .i64 p ∧ Hid (p = 2 ^ j) ∧ p ≤ 33554432 ∧ Hid (∀ i, i < j → x ≠ ((2 ^ i : Nat) : Int))) (fun v => 33554433 - (intOf v).toNat)
 case atStart => exact ⟨0, 1, by omega, rfl, hQ rfl, by omega, hQ (fun i h => absurd h (by omega))⟩
 case round =>
  obtain ⟨j, p, hj, rfl, HP, hp, HN⟩ := hrel
  by_cases hj24 : j ≤ 24
  · have hp24 : p ≤ 16777216 := by rw [HP.out]; exact (pow24 hj24).2
    have hp1 : 1 ≤ p := by rw [HP.out]; exact (pow24 hj24).1
    by_cases hx : x = p
    · have hb : powB x = true := (powB_iff x).2 ⟨j, hj24, by rw [hx, HP.out]⟩
      have HB := hQ hb
      have hbe : (x == (p : Int)) = true := by simpa using hx
      clear hb hx
      go_wp2
      go_ret
      exact ⟨ret_bool (by rw [HB.out]), rfl⟩
    · have hbe : (x == (p : Int)) = false := by simpa using hx
      have HX := hQ hx
      clear hx
      go_wp2
      go_round
      case rel =>
       refine ⟨j + 1, p * 2, by omega, by go_num, hQ (by rw [HP.out, Nat.pow_succ]), by omega, hQ fun i hi => ?_⟩
       rcases Nat.lt_or_ge i j with h | h
       · exact HN.out i h
       · have : i = j := by omega
         rw [this, ← HP.out]
         exact HX.out
      case measure => simp [intOf]; omega
  · have hj25 : j = 25 := by omega
    have hp25 : p = 33554432 := by rw [HP.out, hj25]
    have hb : powB x = false := by
     rcases hb : powB x with _ | _
     · rfl
     · obtain ⟨k, hk, hx⟩ := (powB_iff x).1 hb
       exact absurd hx (HN.out k (by omega))
    have HB := hQ hb
    have hp26 : 16777216 < p := by omega
    clear hb hj25 hp25
    go_wp2
    go_ret
    exact ⟨ret_bool (by rw [HB.out]), rfl⟩
end Go.Proofs.YtdijeijbcoeopaaDoor
namespace Go.Proofs.YtdijeijbcoeopaaDoor.pm
open Go.RowKit
def I64 (x : Int) : Prop := -9223372036854775808 ≤ x ∧ x ≤ 9223372036854775807
def badS (s : Int × Int) : Bool := !sizeB s.1 || !powB s.2
theorem slots1_any (a b : Int) (ha : I64 a) (hb : I64 b) (w : World) :
 Calls Tryd.prog 68 #[.agg #[.int .i64 a, .int .i64 b]] w fun e w' => e = .returned (.bool (badS (a, b))) ∧ Below w.heap.size w w' := by
 have HA := hQ ha
 have HB := hQ hb
 clear ha hb
 rcases hs : sizeB a with _ | _
 · have HS := hQ hs
   clear hs
   go_enter Tryd.func68, Tryd.ntmps68
   go_wp2_with fail
   refine (size_any _ HA.out.1 HA.out.2 _).mono ?_
   rintro e w1 ⟨rfl, rfl⟩
   rw [HS.out]
   go_wp2
   go_ret
   exact ⟨ret_bool (by unfold badS; rw [HS.out]; rfl), bR.alloc nL _⟩
 · have HS := hQ hs
   clear hs
   go_enter Tryd.func68, Tryd.ntmps68
   go_wp2_with fail
   refine (size_any _ HA.out.1 HA.out.2 _).mono ?_
   rintro e w1 ⟨rfl, rfl⟩
   rw [HS.out]
   go_wp2_with fail
   refine (power_any _ HB.out.1 HB.out.2 _).mono ?_
   rintro e w1 ⟨rfl, rfl⟩
   go_wp2
   go_ret
   exact ⟨ret_bool (by unfold badS; rw [HS.out]; simp), bR.alloc nL _⟩
def IdxD (sl : List (Int × Int)) (w : World) (e : Ending) (w' : World) : Prop := ∃ r : Int, e = .returned (.int .i64 r) ∧ (r < 0 → ∀ s ∈ sl, badS s = false) ∧ (0 ≤ r → ∃ s ∈ sl, badS s = true) ∧ Below w.heap.size w w'
theorem mem_getD {α : Type} {l : List α} {k : Nat} {z : α} (h : k < l.length) : l.getD k z ∈ l := by
 rw [List.getD_eq_getElem?_getD, List.getElem?_eq_getElem h]
 exact List.getElem_mem h
theorem index_any (As : Option Addr) (sl : List (Int × Int)) (cs : Nat) (w : World) (lo hi : Nat) (hs : Sx w lo hi As sl) (hh : hi ≤ w.heap.size) (hcs : sl.length ≤ maxLen) (hr : ∀ s ∈ sl, I64 s.1 ∧ I64 s.2) :
 Calls Tryd.prog 90 #[.slice As sl.length cs, .func (.func 68) #[] #[]] w (IdxD sl w) := by
 have HS := hQ hs
 have HR := hQ hr
 have hni : (sl.length : Int) ≤ 9223372036854775807 := by unfold maxLen at hcs; omega
 clear hs hr
 go_enter Tryd.func90, Tryd.ntmps90
 go_wp2
 go_loopw [8] (fun v wr => ∃ k : Nat, k ≤ sl.length ∧ v = .int .i64 k ∧ Hid (∀ j, j < k → badS (sl.getD j (0, 0)) = false) ∧ Hid (Below w.heap.size w wr)) (fun v _ => sl.length - (intOf v).toNat)
 case atStart => exact ⟨0, by omega, rfl, hQ (fun j hj => by omega), hQ bR⟩
 case round =>
  obtain ⟨k, hk, rfl, HN, HB⟩ := hrel
  have hk0 : (0 : Int) ≤ (k : Int) := by omega
  by_cases hlt : k < sl.length
  · have hki : (k : Int) < (sl.length : Int) := by omega
    obtain ⟨ad, rfl, hbl, c0, c1⟩ := (HS.out.keep (Kp.of_below HB.out hh)).whole hlt
    have HI : Hid (I64 (sl.getD k (0, 0)).1 ∧ I64 (sl.getD k (0, 0)).2) := hQ (HR.out _ (mem_getD hlt))
    obtain ⟨s, hs⟩ : ∃ s, s = sl.getD k (0, 0) := ⟨_, rfl⟩
    rw [← hs] at c0 c1 HI
    have HSS := hQ hs
    clear hs
    go_wp2_with fail
    refine (slots1_any _ _ HI.out.1 HI.out.2 _).mono ?_
    rintro e w3 ⟨rfl, bel3⟩
    have HB3 : Hid (Below w.heap.size w w3) := hQ (HB.out.trans (bel3.mono HB.out.size))
    clear bel3 HB c0 c1
    rcases hbd : badS (s.1, s.2) with _ | _
    · have HN' : Hid (∀ j, j < k + 1 → badS (sl.getD j (0, 0)) = false) := hQ (fun j hj => by
       rcases Nat.lt_or_ge j k with h | h
       · exact HN.out j h
       · obtain rfl : j = k := by omega
         rw [← HSS.out]; exact hbd)
      clear hbd HN HI HSS
      go_wp2
      go_roundw
      case rel => exact ⟨k + 1, by omega, by go_num, HN', HB3⟩
      case measure => simp [intOf]; omega
    · have HY : Hid (∃ s ∈ sl, badS s = true) := hQ ⟨_, mem_getD hlt, by rw [← HSS.out]; exact hbd⟩
      clear hbd HN HI HSS
      go_wp2
      go_ret
      exact ⟨_, rfl, fun h => by omega, fun _ => HY.out, HB3.out⟩
  · have HA : Hid (∀ s ∈ sl, badS s = false) := hQ (fun s hs => by
     obtain ⟨j, hj, rfl⟩ := List.mem_iff_getElem.1 hs
     have := HN.out j (by omega)
     rw [List.getD_eq_getElem?_getD, List.getElem?_eq_getElem hj] at this
     exact this)
    clear HN
    go_wp2
    go_ret
    exact ⟨-1, rfl, fun _ => HA.out, fun h => by omega, HB.out⟩
theorem slots_any (As : Option Addr) (sl : List (Int × Int)) (cs : Nat) (w : World) (lo hi : Nat) (hs : Sx w lo hi As sl) (hh : hi ≤ w.heap.size) (hcs : sl.length ≤ maxLen) (hr : ∀ s ∈ sl, I64 s.1 ∧ I64 s.2) :
 Calls Tryd.prog 50 #[.slice As sl.length cs] w fun e w' => e = .returned (.int .i64 (slotsE sl)) ∧ Below w.heap.size w w' := by
 have HCON : Hid (∀ W, Below w.heap.size w W → Calls Tryd.prog 67 #[.slice As sl.length cs, .func (.func 68) #[] #[]] W fun e w' => e = .returned (.bool (sl.any badS)) ∧ Below W.heap.size W w') := hQ (fun W hb => by
  have HI := hQ (index_any As sl cs W lo hi (hs.keep (Kp.of_below hb hh)) (by have := hb.size; omega) hcs hr)
  clear hs hb hr
  go_enter Tryd.func67, Tryd.ntmps67
  go_wp2_with fail
  refine HI.out.mono ?_
  rintro e w3 ⟨r, rfl, h1, h2, bel⟩
  by_cases hr0 : 0 ≤ r
  · have HE : Hid (sl.any badS = true) := hQ (List.any_eq_true.2 (h2 hr0))
    have HB := hQ bel
    clear h1 h2 bel
    go_wp2
    go_ret
    exact ⟨ret_bool (by rw [HE.out]), HB.out⟩
  · have HE : Hid (sl.any badS = false) := hQ (by
     rw [List.any_eq_false]
     intro s hs'
     rw [h1 (by omega) s hs']; simp)
    have HB := hQ bel
    have hr1 : r < 0 := by omega
    clear h1 h2 bel hr0
    go_wp2
    go_ret
    exact ⟨ret_bool (by rw [HE.out]; simp; omega), HB.out⟩)
 clear hs hr
 have hni : (sl.length : Int) ≤ 9223372036854775807 := by unfold maxLen at hcs; omega
 by_cases h5 : 512 < sl.length
 · have HE : Hid (slotsE sl = 3) := hQ (by unfold slotsE; rw [if_pos h5])
   have h5i : (512 : Int) < (sl.length : Int) := by omega
   clear h5
   go_enter Tryd.func50, Tryd.ntmps50
   go_wp2
   go_ret
   exact ⟨ret_int (by rw [HE.out]), Below.refl _ _⟩
 · have HE : Hid (slotsE sl = if sl.any badS = true then 5 else 0) := hQ (by
    unfold slotsE
    rw [if_neg h5]
    have e : sl.all (fun s => sizeB s.1 && powB s.2) = !sl.any badS := by
     clear HCON hni hcs h5
     induction sl with
     | nil => rfl
     | cons s r ih => rw [List.all_cons, List.any_cons, ih]; unfold badS; cases sizeB s.1 <;> cases powB s.2 <;> simp
    rw [e]
    rcases sl.any badS with _ | _ <;> rfl)
   have h5i : (sl.length : Int) ≤ 512 := by omega
   clear h5
   rcases hb : sl.any badS with _ | _
   · rw [hb] at HE HCON
     clear hb
     go_enter Tryd.func50, Tryd.ntmps50
     go_wp2_with fail
     refine (HCON.out _ bR).mono ?_
     rintro e w3 ⟨rfl, bel⟩
     go_wp2
     go_ret
     exact ⟨ret_int (by rw [HE.out]; rfl), bel⟩
   · rw [hb] at HE HCON
     clear hb
     go_enter Tryd.func50, Tryd.ntmps50
     go_wp2_with fail
     refine (HCON.out _ bR).mono ?_
     rintro e w3 ⟨rfl, bel⟩
     go_wp2
     go_ret
     exact ⟨ret_int (by rw [HE.out]; rfl), bel⟩
theorem blk_one {w : World} {g : Nat} {t : TypeId} {a : Value} (h : Blk w g t #[a]) : w.cell? ⟨g, 0, none⟩ = some a ∧ w.frozen? ⟨g, 0, none⟩ = false ∧ g < w.heap.size := ⟨Blk.cell h 0, Blk.frozen h 0, Blk.lt h⟩
def FnR (f : Fn) : Prop := ∀ s ∈ f.slots, I64 s.1 ∧ I64 s.2
section
variable {nf : Nat} {f : Fn}
theorem funcE_1 (h : 1024 < f.code.length) : funcE nf f = 3 := by unfold funcE; rw [if_pos h]
theorem funcE_2 (h : ¬ 1024 < f.code.length) (h2 : slotsE f.slots ≠ 0) : funcE nf f = slotsE f.slots := by unfold funcE; rw [if_neg h, if_pos h2]
theorem funcE_3 (h : ¬ 1024 < f.code.length) (h2 : slotsE f.slots = 0) (h3 : inB f.params 9 = false) : funcE nf f = 4 := by unfold funcE; rw [if_neg h, if_neg (by simpa using h2), if_pos h3]
theorem funcE_4 {k : Nat} (h : ¬ 1024 < f.code.length) (h2 : slotsE f.slots = 0) (h3 : inB f.params 9 = true) (hk : k < f.code.length) (h4 : ∀ j, j < k → instrE nf f.params f.slots f.code.length (f.code.getD j Ins.z) = 0) (h5 : instrE nf f.params f.slots f.code.length (f.code.getD k Ins.z) ≠ 0) :
 funcE nf f = instrE nf f.params f.slots f.code.length (f.code.getD k Ins.z) := by
 have e := firstE_take (f := instrE nf f.params f.slots f.code.length) hk h4 h5
 unfold funcE
 rw [if_neg h, if_neg (by simpa using h2), if_neg (by rw [h3]; simp), if_pos (by rw [e]; exact h5), e]
theorem funcE_5 (h : ¬ 1024 < f.code.length) (h2 : slotsE f.slots = 0) (h3 : inB f.params 9 = true) (h4 : ∀ j, j < f.code.length → instrE nf f.params f.slots f.code.length (f.code.getD j Ins.z) = 0) :
 funcE nf f = if (f.code.length == 0 || !termB (f.code.getD (f.code.length - 1) Ins.z).op) = true then 6 else 0 := by
 have e : firstE (f.code.map (instrE nf f.params f.slots f.code.length)) = 0 := firstE_zero (fun y hy => by
  obtain ⟨x, hx, rfl⟩ := List.mem_map.1 hy
  obtain ⟨j, hj, rfl⟩ := List.mem_iff_getElem.1 hx
  have := h4 j hj
  rw [List.getD_eq_getElem?_getD, List.getElem?_eq_getElem hj] at this
  exact this)
 unfold funcE
 rw [if_neg h, if_neg (by simpa using h2), if_neg (by rw [h3]; simp), if_neg (by simpa using e)]
end
theorem checkfunc_any (Ap : Option Addr) (p : List Fn) (cp i : Nat) (w : World) (lo hi : Nat) (hT : Tb w) (hf : Fx w lo hi Ap p) (hh : hi ≤ w.heap.size) (hm : p.length ≤ maxLen) (hi' : i < p.length) (hr : FnR (p.getD i Fn.z)) :
 Calls Tryd.prog 40 #[.agg #[.slice Ap p.length cp], .int .i64 (i : Int)] w fun e w' => e = .returned (.int .i64 (funcE p.length (p.getD i Fn.z))) ∧ Below w.heap.size w w' := by
 obtain ⟨W1, hW1⟩ : ∃ W1, W1 = w.alloc (.cells #[.slice Ap p.length cp] 26) := ⟨_, rfl⟩
 have hB1 : Below w.heap.size w W1 := by rw [hW1]; exact bR.alloc nL _
 have HKP : Hid (Blk W1 w.heap.size 26 #[.slice Ap p.length cp]) := hQ (by rw [hW1]; exact Blk.new _ _ _)
 have HT1 := hQ (hT.below hB1)
 obtain ⟨ad, As, cs, Ai, ci, rfl, hbl, c0, c1, c2, -, -, sx, nx, ⟨hs1, hs2⟩, hn1, hn2⟩ := (hf.keep (Kp.of_below hB1 hh)).whole hi'
 have HB1 := hQ hB1
 have HW1 := hQ hW1
 have hz1 : w.heap.size < W1.heap.size := HKP.out.lt
 obtain ⟨nf, hnf⟩ : ∃ nf, nf = p.length := ⟨_, rfl⟩
 rw [← hnf] at HKP hi' hm HW1 ⊢
 obtain ⟨f, hff⟩ : ∃ f, f = p.getD i Fn.z := ⟨_, rfl⟩
 rw [← hff] at c0 c1 c2 sx nx hs1 hs2 hn1 hn2 hr ⊢
 have HS1 := hQ sx
 have HN1 := hQ nx
 have HR := hQ hr
 clear hT hf hW1 hB1 hff hnf sx nx hr
 have hii : (i : Int) < (nf : Int) := by omega
 have hi0 : (0 : Int) ≤ (i : Int) := by omega
 have hmi : (nf : Int) ≤ 9223372036854775807 := by unfold maxLen at hm; omega
 have hbi : inB (i : Int) (nf : Int) = true := inB_t.2 ⟨hi0, hii⟩
 have HBI := hQ hbi
 obtain ⟨q0, -, -⟩ := blk_one HKP.out
 have hni : (f.code.length : Int) ≤ 9223372036854775807 := by unfold maxLen at hn1; omega
 have hh1 : hi ≤ W1.heap.size := by omega
 clear hbi
 go_enter Tryd.func40, Tryd.ntmps40
 go_upto_region 1 with (fail)
 rw [← HW1.out]
 go_wp2_with fail
 refine (within_any _ _ _).mono ?_
 rintro e w' ⟨rfl, rfl⟩
 rw [HBI.out]
 go_upto_region 4 with (fail)
 obtain ⟨W2, hW2⟩ : ∃ W2, W2 = W1.alloc (.cells #[.int .i64 f.params, .slice As f.slots.length cs, .slice Ai f.code.length ci] 54) := ⟨_, rfl⟩
 rw [← hW2]
 have HB2 : Hid (Below W1.heap.size W1 W2) := hQ (by rw [hW2]; exact bR.alloc nL _)
 have HKF : Hid (Blk W2 W1.heap.size 54 #[.int .i64 f.params, .slice As f.slots.length cs, .slice Ai f.code.length ci]) := hQ (by rw [hW2]; exact Blk.new _ _ _)
 have HKP2 := hQ (HKP.out.after HB2.out)
 have HT2 := hQ (HT1.out.below HB2.out)
 have HBN : Hid (Below w.heap.size w W2) := hQ (HB1.out.trans (HB2.out.mono HB1.out.size))
 have HS2 : Hid (Sx W2 lo hi As f.slots) := hQ (HS1.out.keep (Kp.of_below HB2.out hh1))
 have HN2 : Hid (Nx W2 lo hi Ai f.code) := hQ (HN1.out.keep (Kp.of_below HB2.out hh1))
 have hh2 : hi ≤ W2.heap.size := by have := HB2.out.size; omega
 clear hW2 c0 c1 c2 q0 HB2 HB1 HT1 HKP HS1 HN1 HW1 HBI
 obtain ⟨f0, f1, f2, -, -, -, fz⟩ := HKF.out.c3
 obtain ⟨g5, hg5⟩ : ∃ g5, g5 = W1.heap.size := ⟨_, rfl⟩
 rw [← hg5] at HKF f0 f1 f2 fz ⊢
 have HG5 := hQ hg5
 clear hg5
 by_cases h10 : 1024 < f.code.length
 · have HE : Hid (funcE nf f = 3) := hQ (funcE_1 h10)
   have h10i : (1024 : Int) < (f.code.length : Int) := by omega
   clear h10
   go_wp2
   go_ret
   exact ⟨ret_int (by rw [HE.out]), HBN.out⟩
 · have H10 := hQ h10
   have h10i : (f.code.length : Int) ≤ 1024 := by omega
   clear h10
   go_wp2_with fail
   refine (slots_any As f.slots cs _ lo hi HS2.out hh2 hs1 HR.out).mono ?_
   rintro e W3 ⟨rfl, bel3⟩
   have HB3 := hQ bel3
   have HKF3 := hQ (HKF.out.after HB3.out)
   have HKP3 := hQ (HKP2.out.after HB3.out)
   have HT3 := hQ (HT2.out.below HB3.out)
   have HS3 : Hid (Sx W3 lo hi As f.slots) := hQ (HS2.out.keep (Kp.of_below HB3.out hh2))
   have HN3 : Hid (Nx W3 lo hi Ai f.code) := hQ (HN2.out.keep (Kp.of_below HB3.out hh2))
   have hh3 : hi ≤ W3.heap.size := by have := HB3.out.size; omega
   have HBN3 : Hid (Below w.heap.size w W3) := hQ (HBN.out.trans (HB3.out.mono HBN.out.size))
   clear bel3 HB3 HKF HKP2 HT2 HS2 HN2 HBN f0 f1 f2 fz
   obtain ⟨f0, f1, f2, -, -, -, fz⟩ := HKF3.out.c3
   by_cases hse : slotsE f.slots = 0
   · have HSE := hQ hse
     have e0 : (slotsE f.slots != 0) = false := by simp [hse]
     clear hse
     go_wp2_with fail
     refine (within_any _ _ _).mono ?_
     rintro e w' ⟨rfl, rfl⟩
     rcases h9 : inB f.params 9 with _ | _
     · have HE : Hid (funcE nf f = 4) := hQ (funcE_3 H10.out HSE.out h9)
       clear h9
       go_wp2
       go_ret
       exact ⟨ret_int (by rw [HE.out]), HBN3.out⟩
     · have H9 := hQ h9
       clear h9
       go_wp2
       go_loopw [39] (fun v wr => ∃ k : Nat, k ≤ f.code.length ∧ v = .int .i64 k ∧ Hid (∀ j, j < k → instrE nf f.params f.slots f.code.length (f.code.getD j Ins.z) = 0) ∧ Hid (Below W3.heap.size W3 wr)) (fun v _ => f.code.length - (intOf v).toNat)
       case atStart => exact ⟨0, by omega, rfl, hQ (fun j hj => by omega), hQ bR⟩
       case round =>
        clear f0 f1 f2 fz
        obtain ⟨k, hk, rfl, HZ, HBR⟩ := hrel
        have hk0 : (0 : Int) ≤ (k : Int) := by omega
        have HKFr := hQ (HKF3.out.after HBR.out)
        have HKPr := hQ (HKP3.out.after HBR.out)
        obtain ⟨f0, f1, f2, -, -, -, fz⟩ := HKFr.out.c3
        obtain ⟨q0, -, qz⟩ := blk_one HKPr.out
        by_cases hlt : k < f.code.length
        · have hki : (k : Int) < (f.code.length : Int) := by omega
          obtain ⟨ad2, rfl, hbl2, i0, i1, i2, i3, i4⟩ := (HN3.out.keep (Kp.of_below HBR.out hh3)).whole hlt
          obtain ⟨x, hx⟩ : ∃ x, x = f.code.getD k Ins.z := ⟨_, rfl⟩
          rw [← hx] at i0 i1 i2 i3 i4
          have HX := hQ hx
          clear hx
          go_wp2_with fail
          refine (instr_any _ nf cp f.params As f.slots cs _ f.code.length ci x _ lo hi ((HT3.out.below HBR.out).below (bR.alloc nL _)) ((HS3.out.keep (Kp.of_below HBR.out hh3)).keep ((Kp.refl _ _ _).alloc (by have := HBR.out.size; omega) _)) (by have := HBR.out.size; simp; omega) hs1).mono ?_
          rintro e w5 ⟨rfl, bel5⟩
          have HB5 : Hid (Below W3.heap.size W3 w5) := hQ ((HBR.out.alloc HBR.out.size _).trans (bel5.mono (by have := HBR.out.size; simp; omega)))
          have HBN5 : Hid (Below w.heap.size w w5) := hQ (HBN3.out.trans (HB5.out.mono HBN3.out.size))
          clear bel5 i0 i1 i2 i3 i4 f0 f1 f2 fz q0 qz
          by_cases he : instrE nf f.params f.slots f.code.length x = 0
          · have HZ' : Hid (∀ j, j < k + 1 → instrE nf f.params f.slots f.code.length (f.code.getD j Ins.z) = 0) := hQ (fun j hj => by
             rcases Nat.lt_or_ge j k with h | h
             · exact HZ.out j h
             · obtain rfl : j = k := by omega
               rw [← HX.out]; exact he)
            have e1 : (instrE nf f.params f.slots f.code.length x != 0) = false := by simp [he]
            clear he HZ HX
            go_wp2
            go_roundw
            case rel => exact ⟨k + 1, by omega, by go_num, HZ', HB5⟩
            case measure => simp [intOf]; omega
          · have HE : Hid (funcE nf f = instrE nf f.params f.slots f.code.length x) := hQ (by rw [HX.out]; exact funcE_4 H10.out HSE.out H9.out hlt HZ.out (by rw [← HX.out]; exact he))
            have e1 : (instrE nf f.params f.slots f.code.length x != 0) = true := by simp [he]
            clear he HZ HX
            go_wp2
            go_ret
            exact ⟨ret_int (by rw [HE.out]), HBN5.out⟩
        · obtain rfl : k = f.code.length := by omega
          have HBNr : Hid (Below w.heap.size w wr) := hQ (HBN3.out.trans (HBR.out.mono HBN3.out.size))
          have HE : Hid (funcE nf f = if (f.code.length == 0 || !termB (f.code.getD (f.code.length - 1) Ins.z).op) = true then 6 else 0) := hQ (funcE_5 H10.out HSE.out H9.out HZ.out)
          by_cases h0 : f.code.length = 0
          · have HE' : Hid (funcE nf f = 6) := hQ (by rw [HE.out, h0]; rfl)
            have e0 : ((f.code.length : Int) == 0) = true := by simp [h0]
            clear HE HZ h0 hlt
            go_wp2
            go_ret
            exact ⟨ret_int (by rw [HE'.out]), HBNr.out⟩
          · have hpos : 0 < f.code.length := by omega
            have e0 : ((f.code.length : Int) == 0) = false := by rw [beq_eq_false_iff_ne]; omega
            obtain ⟨ad2, rfl, hbl2, i0, -⟩ := (HN3.out.keep (Kp.of_below HBR.out hh3)).whole (show f.code.length - 1 < f.code.length by omega)
            obtain ⟨lop, hlop⟩ : ∃ lop, lop = (f.code.getD (f.code.length - 1) Ins.z).op := ⟨_, rfl⟩
            rw [← hlop] at i0 HE
            clear hlop
            have htn : ((f.code.length : Int) - 1).toNat = f.code.length - 1 := by omega
            have hp1 : (1 : Int) ≤ (f.code.length : Int) := by omega
            rcases ht : termB lop with _ | _
            · have HE' : Hid (funcE nf f = 6) := hQ (by rw [HE.out, ht]; simp)
              have HTB := hQ ht
              clear HE HZ h0 hlt ht
              go_wp2_with fail
              refine (term_any _ _).mono ?_
              rintro e w' ⟨rfl, rfl⟩
              rw [HTB.out]
              go_wp2
              go_ret
              exact ⟨ret_int (by rw [HE'.out]), HBNr.out⟩
            · have HE' : Hid (funcE nf f = 0) := hQ (by rw [HE.out, ht, show (f.code.length == 0) = false by rw [beq_eq_false_iff_ne]; omega]; rfl)
              have HTB := hQ ht
              clear HE HZ h0 hlt ht
              go_wp2_with fail
              refine (term_any _ _).mono ?_
              rintro e w' ⟨rfl, rfl⟩
              rw [HTB.out]
              go_wp2
              go_ret
              exact ⟨ret_int (by rw [HE'.out]), HBNr.out⟩
   · have HE : Hid (funcE nf f = slotsE f.slots) := hQ (funcE_2 H10.out hse)
     have e0 : (slotsE f.slots != 0) = true := by simp [hse]
     clear hse
     go_wp2
     go_ret
     exact ⟨ret_int (by rw [HE.out]), HBN3.out⟩
theorem progE_4 {p : List Fn} {k : Nat} (h : ¬ 80 < p.length) (h2 : ¬ p.length = 0) (h3 : (p.getD 0 Fn.z).params = 0) (hk : k < p.length) (h4 : ∀ j, j < k → funcE p.length (p.getD j Fn.z) = 0) (h5 : funcE p.length (p.getD k Fn.z) ≠ 0) : progE p = funcE p.length (p.getD k Fn.z) := by
 unfold progE
 rw [if_neg h, if_neg h2, if_neg (by simpa using h3), firstE_take hk h4 h5]
theorem progE_5 {p : List Fn} (h : ¬ 80 < p.length) (h2 : ¬ p.length = 0) (h3 : (p.getD 0 Fn.z).params = 0) (h4 : ∀ j, j < p.length → funcE p.length (p.getD j Fn.z) = 0) : progE p = 0 := by
 unfold progE
 rw [if_neg h, if_neg h2, if_neg (by simpa using h3)]
 exact firstE_zero (fun y hy => by
  obtain ⟨x, hx, rfl⟩ := List.mem_map.1 hy
  obtain ⟨j, hj, rfl⟩ := List.mem_iff_getElem.1 hx
  have := h4 j hj
  rw [List.getD_eq_getElem?_getD, List.getElem?_eq_getElem hj] at this
  exact this)
theorem check_any (Ap : Option Addr) (p : List Fn) (cp : Nat) (w : World) (lo hi : Nat) (hT : Tb w) (hf : Fx w lo hi Ap p) (hh : hi ≤ w.heap.size) (hm : p.length ≤ maxLen) (hr : ∀ i, i < p.length → FnR (p.getD i Fn.z)) :
 Calls Tryd.prog 29 #[.agg #[.slice Ap p.length cp]] w fun e w' => e = .returned (.int .i64 (progE p)) ∧ Below w.heap.size w w' := by
 obtain ⟨W1, hW1⟩ : ∃ W1, W1 = w.alloc (.cells #[.slice Ap p.length cp] 26) := ⟨_, rfl⟩
 have hB1 : Below w.heap.size w W1 := by rw [hW1]; exact bR.alloc nL _
 have HKP : Hid (Blk W1 w.heap.size 26 #[.slice Ap p.length cp]) := hQ (by rw [hW1]; exact Blk.new _ _ _)
 have HT1 := hQ (hT.below hB1)
 have HF1 := hQ (hf.keep (Kp.of_below hB1 hh))
 have HB1 := hQ hB1
 have HW1 := hQ hW1
 have HR := hQ hr
 have hz1 : w.heap.size < W1.heap.size := HKP.out.lt
 have hh1 : hi ≤ W1.heap.size := by omega
 have hmi : (p.length : Int) ≤ 9223372036854775807 := by unfold maxLen at hm; omega
 clear hT hf hW1 hB1 hr
 obtain ⟨q0, -, -⟩ := blk_one HKP.out
 by_cases h80 : 80 < p.length
 · have HE : Hid (progE p = 3) := hQ (by unfold progE; rw [if_pos h80])
   have h80i : (80 : Int) < (p.length : Int) := by omega
   clear h80
   go_enter Tryd.func29, Tryd.ntmps29
   go_upto_region 1 with (fail)
   rw [← HW1.out]
   go_wp2
   go_ret
   exact ⟨ret_int (by rw [HE.out]), HB1.out⟩
 · have H80 := hQ h80
   have h80i : (p.length : Int) ≤ 80 := by omega
   clear h80
   by_cases h0 : p.length = 0
   · have HE : Hid (progE p = 4) := hQ (by unfold progE; rw [if_neg H80.out, if_pos h0])
     have e0 : ((p.length : Int) == 0) = true := by simp [h0]
     clear h0
     go_enter Tryd.func29, Tryd.ntmps29
     go_upto_region 1 with (fail)
     rw [← HW1.out]
     go_wp2
     go_ret
     exact ⟨ret_int (by rw [HE.out]), HB1.out⟩
   · have H0 := hQ h0
     have e0 : ((p.length : Int) == 0) = false := by rw [beq_eq_false_iff_ne]; omega
     have hpos : (0 : Int) < (p.length : Int) := by omega
     obtain ⟨ad, As, cs, Ai, ci, rfl, hbl, c0, -⟩ := HF1.out.whole (show 0 < p.length by omega)
     have c0' : W1.cell? ad = some (.int .i64 (p.getD 0 Fn.z).params) := by simpa [Addr.add] using c0
     obtain ⟨prm, hprm⟩ : ∃ prm, prm = (p.getD 0 Fn.z).params := ⟨_, rfl⟩
     rw [← hprm] at c0 c0'
     clear h0
     by_cases hp : prm = 0
     · have HP0 : Hid ((p.getD 0 Fn.z).params = 0) := hQ (by rw [← hprm]; exact hp)
       have ep : (prm != 0) = false := by simp [hp]
       clear hprm hp
       go_enter Tryd.func29, Tryd.ntmps29
       go_upto_region 1 with (fail)
       rw [← HW1.out]
       go_wp2
       go_loopw [25] (fun v wr => ∃ k : Nat, k ≤ p.length ∧ v = .int .i64 k ∧ Hid (∀ j, j < k → funcE p.length (p.getD j Fn.z) = 0) ∧ Hid (Below W1.heap.size W1 wr)) (fun v _ => p.length - (intOf v).toNat)
       case atStart => exact ⟨0, by omega, rfl, hQ (fun j hj => by omega), hQ bR⟩
       case round =>
        clear q0 c0 c0'
        obtain ⟨k, hk, rfl, HZ, HBR⟩ := hrel
        have hk0 : (0 : Int) ≤ (k : Int) := by omega
        obtain ⟨q0, -, qz⟩ := blk_one (HKP.out.after HBR.out)
        have HBNr : Hid (Below w.heap.size w wr) := hQ (HB1.out.trans (HBR.out.mono HB1.out.size))
        by_cases hlt : k < p.length
        · have hki : (k : Int) < (p.length : Int) := by omega
          go_wp2_with fail
          refine (checkfunc_any _ p cp k wr lo hi (HT1.out.below HBR.out) (HF1.out.keep (Kp.of_below HBR.out hh1)) (by have := HBR.out.size; omega) hm hlt (HR.out k hlt)).mono ?_
          rintro e w5 ⟨rfl, bel5⟩
          have HB5 : Hid (Below W1.heap.size W1 w5) := hQ (HBR.out.trans (bel5.mono HBR.out.size))
          have HBN5 : Hid (Below w.heap.size w w5) := hQ (HBNr.out.trans (bel5.mono HBNr.out.size))
          obtain ⟨ev, hev⟩ : ∃ ev, ev = funcE p.length (p.getD k Fn.z) := ⟨_, rfl⟩
          rw [← hev]
          have HEV := hQ hev
          clear bel5 q0 qz hev
          by_cases he : ev = 0
          · have HZ' : Hid (∀ j, j < k + 1 → funcE p.length (p.getD j Fn.z) = 0) := hQ (fun j hj => by
             rcases Nat.lt_or_ge j k with h | h
             · exact HZ.out j h
             · obtain rfl : j = k := by omega
               rw [← HEV.out]; exact he)
            have e1 : (ev != 0) = false := by simp [he]
            clear he HZ HEV
            go_wp2
            go_roundw
            case rel => exact ⟨k + 1, by omega, by go_num, HZ', HB5⟩
            case measure => simp [intOf]; omega
          · have HE : Hid (progE p = ev) := hQ (by rw [HEV.out]; exact progE_4 H80.out H0.out HP0.out hlt HZ.out (by rw [← HEV.out]; exact he))
            have e1 : (ev != 0) = true := by simp [he]
            clear he HZ HEV
            go_wp2
            go_ret
            exact ⟨ret_int (by rw [HE.out]), HBN5.out⟩
        · obtain rfl : k = p.length := by omega
          have HE : Hid (progE p = 0) := hQ (progE_5 H80.out H0.out HP0.out HZ.out)
          clear HZ
          go_wp2
          go_ret
          exact ⟨ret_int (by rw [HE.out]), HBNr.out⟩
     · have HE : Hid (progE p = 7) := hQ (by unfold progE; rw [if_neg H80.out, if_neg H0.out, if_pos (by rw [← hprm]; exact hp)])
       have ep : (prm != 0) = true := by simp [hp]
       clear hprm hp
       go_enter Tryd.func29, Tryd.ntmps29
       go_upto_region 1 with (fail)
       rw [← HW1.out]
       go_wp2
       go_ret
       exact ⟨ret_int (by rw [HE.out]), HB1.out⟩
end Go.Proofs.YtdijeijbcoeopaaDoor.pm
