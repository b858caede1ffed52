/- Targets as plain data, what mach.Check answers, and how a target lies in memory. -/
import Derived.Test.YtcnndoefgjbmiaaGreatGSc
set_option linter.unusedVariables false
set_option maxRecDepth 10000
namespace Go.Proofs.YtcnndoefgjbmiaaGreat.pm
open Go.RowKit
structure Fr where
 params : Int
 size : Int
 code : List Ins
def Fr.z : Fr := ⟨0, 0, []⟩
def memB (op : Int) : Bool := op == 15 || op == 16 || op == 17
def rdB (op : Int) : Bool := op == 15 || op == 17
def wrB (op : Int) : Bool := op == 16 || op == 17
def opN (op : Int) : Nat := if op = 15 ∨ op = 16 ∨ op = 17 ∨ (2 ≤ op ∧ op ≤ 11) then 3 else if op = 0 ∨ op = 13 ∨ op = 14 ∨ op = 20 ∨ op = 22 then 1 else if op = 23 ∨ op = 24 then 0 else 2
def unB (x : Ins) : Bool := (x.imm != 0 && !(x.op == 0 || x.op == 24)) || (decide (opN x.op < 3) && x.c != 0) || (decide (opN x.op < 2) && x.b != 0) || (decide (opN x.op < 1) && x.a != 0)
def regL (x : Ins) : List Int := if 2 ≤ x.op ∧ x.op ≤ 11 then [x.a, x.b, x.c] else if x.op = 1 ∨ x.op = 12 then [x.a, x.b] else if x.op = 0 ∨ x.op = 13 ∨ x.op = 14 ∨ x.op = 15 ∨ x.op = 21 then [x.a] else if x.op = 16 then [x.b] else []
def outB (l : List Int) : Bool := l.any (fun r => !inB r 8)
def bndB (n : Int) : Bool := inB n 2147483648
def insB (o s size : Int) : Bool := bndB o && bndB s && decide (o + s ≤ 2147483647) && decide (o + s ≤ size)
def wildB (prm sz : Int) (x : Ins) : Bool := (rdB x.op && !insB x.b x.c (sz + 16 * prm)) || (wrB x.op && !insB x.a x.c sz)
def tgtB (nc : Nat) (x : Ins) : Bool := (x.op == 20 && !inB x.a nc) || (x.op == 21 && !inB x.b nc)
def inE (nf : Nat) (prm sz : Int) (nc : Nat) (x : Ins) : Int :=
 if (!inB x.op 25 || x.op == 18 || x.op == 19) = true then 4 else
 if unB x = true then 2 else
 if (outB (regL x) || (x.op == 22 && !inB x.a nf)) = true then 4 else
 if (memB x.op && !sizeB x.c) = true then 5 else
 if wildB prm sz x = true then 4 else
 if tgtB nc x = true then 6 else 0
def shB (al : Int) (f : Fr) : Bool := powB al && inB f.params 9 && inB f.size 2147483520 && f.size % al == 0
def frE (nf : Nat) (al : Int) (f : Fr) : Int :=
 if shB al f = false then 4 else
 if 1024 < f.code.length then 3 else
 if firstE (f.code.map (inE nf f.params f.size f.code.length)) ≠ 0 then firstE (f.code.map (inE nf f.params f.size f.code.length)) else
 if (f.code.length == 0 || !termB (f.code.getD (f.code.length - 1) Ins.z).op) = true then 6 else 0
def roomB (t : List Fr) (sz : Int) (x : Ins) : Bool := !(x.op == 22 && decide (sz < 16 * (t.getD x.a.toNat Fr.z).params))
def tgE (al : Int) (t : List Fr) : Int :=
 if 80 < t.length then 3 else
 if t.length = 0 then 4 else
 if (!powB al || decide (al < 16)) = true then 5 else
 if (t.getD 0 Fr.z).params ≠ 0 then 7 else
 if firstE (t.map (frE t.length al)) ≠ 0 then firstE (t.map (frE t.length al)) else
 if t.all (fun f => f.code.all (roomB t f.size)) = true then 0 else 7
def Wx (w : World) (lo hi : Nat) (vs : List Value) (t : List Fr) : Prop :=
 ∀ i, i < t.length → ∃ Ai ci, vs[i * 3]? = some (.int .i64 (t.getD i Fr.z).params) ∧ vs[i * 3 + 1]? = some (.int .i64 (t.getD i Fr.z).size) ∧ vs[i * 3 + 2]? = some (.slice Ai (t.getD i Fr.z).code.length ci) ∧
  Nx w lo hi Ai (t.getD i Fr.z).code ∧ (t.getD i Fr.z).code.length ≤ maxLen ∧ (t.getD i Fr.z).code.length ≤ ci
def Gx (w : World) (lo hi : Nat) (A : Option Addr) (t : List Fr) : Prop := ∃ vs, Rx w lo hi 3 A t.length vs ∧ Wx w lo hi vs t
section
variable {lo hi lo' hi' : Nat} {w w' : World} {A : Option Addr} {k : Nat} {vs : List Value} {t : List Fr}
theorem Wx.keep (h : Wx w lo hi vs t) (hk : Kp lo hi w w') : Wx w' lo hi vs t := fun i hi => by
 obtain ⟨Ai, ci, h1, h2, h3, h5, h6⟩ := h i hi
 exact ⟨Ai, ci, h1, h2, h3, h5.keep hk, h6⟩
theorem Wx.more (h : Wx w lo hi vs t) (hl : lo' ≤ lo) (hh : hi ≤ hi') : Wx w lo' hi' vs t := fun i hi => by
 obtain ⟨Ai, ci, h1, h2, h3, h5, h6⟩ := h i hi
 exact ⟨Ai, ci, h1, h2, h3, h5.more hl hh, h6⟩
theorem Gx.keep (h : Gx w lo hi A t) (hk : Kp lo hi w w') : Gx w' lo hi A t := by
 obtain ⟨vs, h1, h2⟩ := h
 exact ⟨vs, h1.keep hk, h2.keep hk⟩
theorem Gx.more (h : Gx w lo hi A t) (hl : lo' ≤ lo) (hh : hi ≤ hi') : Gx w lo' hi' A t := by
 obtain ⟨vs, h1, h2⟩ := h
 exact ⟨vs, h1.more hl hh, h2.more hl hh⟩
theorem Wx.snoc (h : Wx w lo hi vs t) (hl : vs.length = t.length * 3) {f : Fr} {Ai : Option Addr} {ci : Nat} (h2 : Nx w lo hi Ai f.code) (h4 : f.code.length ≤ maxLen ∧ f.code.length ≤ ci) :
 Wx w lo hi (vs ++ [.int .i64 f.params, .int .i64 f.size, .slice Ai f.code.length ci]) (t ++ [f]) := fun i hi => by
 rw [List.length_append] at hi
 rcases Nat.lt_or_ge i t.length with hlt | hge
 · obtain ⟨Ai', ci', q1, q2, q3, q4⟩ := h i hlt
   have e : (t ++ [f]).getD i Fr.z = t.getD i Fr.z := by rw [List.getD_eq_getElem?_getD, List.getD_eq_getElem?_getD, List.getElem?_append_left hlt]
   rw [e]
   exact ⟨Ai', ci', by rw [List.getElem?_append_left (by omega)]; exact q1, by rw [List.getElem?_append_left (by omega)]; exact q2, by rw [List.getElem?_append_left (by omega)]; exact q3, q4⟩
 · obtain rfl : i = t.length := by simp at hi; omega
   have e : (t ++ [f]).getD t.length Fr.z = f := by simp
   rw [e]
   refine ⟨Ai, ci, ?_, ?_, ?_, h2, h4⟩
   · rw [List.getElem?_append_right (by omega), show t.length * 3 - vs.length = 0 by omega]; rfl
   · rw [List.getElem?_append_right (by omega), show t.length * 3 + 1 - vs.length = 1 by omega]; rfl
   · rw [List.getElem?_append_right (by omega), show t.length * 3 + 2 - vs.length = 2 by omega]; rfl
theorem Gx.whole (h : Gx w lo hi A t) (hk : k < t.length) : ∃ ad Ai ci, A = some ad ∧ ad.block < hi ∧ w.cell? (ad.add (k * 3)) = some (.int .i64 (t.getD k Fr.z).params) ∧ w.cell? ⟨(ad.add (k * 3)).block, (ad.add (k * 3)).off + 1, none⟩ = some (.int .i64 (t.getD k Fr.z).size) ∧ w.cell? ⟨(ad.add (k * 3)).block, (ad.add (k * 3)).off + 2, none⟩ = some (.slice Ai (t.getD k Fr.z).code.length ci) ∧
 w.cell? ((ad.add (k * 3)).add 1) = some (.int .i64 (t.getD k Fr.z).size) ∧ w.cell? ((ad.add (k * 3)).add 2) = some (.slice Ai (t.getD k Fr.z).code.length ci) ∧
 Nx w lo hi Ai (t.getD k Fr.z).code ∧ (t.getD k Fr.z).code.length ≤ maxLen ∧ (t.getD k Fr.z).code.length ≤ ci := by
 obtain ⟨vs, hr, hv⟩ := h
 obtain ⟨ad, e, hb, hc⟩ := hr.1.2 (by omega)
 obtain ⟨Ai, ci, h1, h2, h3, h4⟩ := hv k hk
 have c1 : w.cell? ((ad.add (k * 3)).add 1) = some (.int .i64 (t.getD k Fr.z).size) := by rw [add_of_add]; exact hc _ _ h2
 have c2 : w.cell? ((ad.add (k * 3)).add 2) = some (.slice Ai (t.getD k Fr.z).code.length ci) := by rw [add_of_add]; exact hc _ _ h3
 refine ⟨ad, Ai, ci, e, hb, hc _ _ h1, ?_, ?_, c1, c2, h4⟩
 · rw [← add_pos _ 1 (by omega)]; exact c1
 · rw [← add_pos _ 2 (by omega)]; exact c2
end
def InR (x : Ins) : Prop := I64 x.op ∧ I64 x.a ∧ I64 x.b ∧ I64 x.c
def FrR (f : Fr) : Prop := I64 f.params ∧ I64 f.size ∧ ∀ x ∈ f.code, InR x
def TgR (al : Int) (t : List Fr) : Prop := I64 al ∧ ∀ f ∈ t, FrR f
def upI (n al : Int) : Int := if n % al = 0 then n else n - n % al + al
theorem upI_ge (n al : Int) (h : 0 < al) : n ≤ upI n al := by
 unfold upI
 have := Int.emod_lt_of_pos n h
 split <;> omega
theorem upI_lt (n al : Int) (h : 0 < al) : upI n al < n + al := by
 unfold upI
 have := Int.emod_nonneg n (show al ≠ 0 by omega)
 split
 · omega
 · omega
theorem upI_mod (n al : Int) (h : 0 < al) : upI n al % al = 0 := by
 unfold upI
 split
 · assumption
 · rw [show n - n % al + al = al * (n / al) + al by have := Int.mul_ediv_add_emod n al; omega]
   simp
def offs : Int → List (Int × Int) → List Int
 | _, [] => []
 | e, s :: r => upI e s.2 :: offs (upI e s.2 + s.1) r
def endS : Int → List (Int × Int) → Int
 | e, [] => e
 | e, s :: r => endS (upI e s.2 + s.1) r
theorem offs_len : ∀ (l : List (Int × Int)) (e : Int), (offs e l).length = l.length
 | [], _ => rfl
 | s :: r, e => by simp [offs, offs_len r]
theorem offs_snoc (s : Int × Int) : ∀ (l : List (Int × Int)) (e : Int), offs e (l ++ [s]) = offs e l ++ [upI (endS e l) s.2]
 | [], _ => rfl
 | t :: r, e => by simp [offs, endS, offs_snoc s r]
theorem endS_snoc (s : Int × Int) : ∀ (l : List (Int × Int)) (e : Int), endS e (l ++ [s]) = upI (endS e l) s.2 + s.1
 | [], _ => rfl
 | t :: r, e => by simp [endS, endS_snoc s r]
theorem slot_nums {s : Int × Int} (h : SlotOk s) : 1 ≤ s.1 ∧ s.1 ≤ 16 ∧ 1 ≤ s.2 ∧ s.2 ≤ 64 := by
 obtain ⟨h1, h2⟩ := h
 omega
theorem slot_pow {s : Int × Int} (h : SlotOk s) : powB s.2 = true ∧ sizeB s.1 = true := by
 obtain ⟨h1, h2⟩ := h
 constructor
 · rcases h2 with h | h | h | h | h | h | h <;> rw [h] <;> decide
 · rcases h1 with h | h | h | h | h <;> rw [h] <;> decide
theorem endS_ge : ∀ (l : List (Int × Int)) (e : Int), (∀ s ∈ l, SlotOk s) → e ≤ endS e l
 | [], e, _ => Int.le_refl _
 | s :: r, e, h => by
  obtain ⟨h1, h2, h3, h4⟩ := slot_nums (h s (by simp))
  have := endS_ge r (upI e s.2 + s.1) (fun u hu => h u (by simp [hu]))
  have := upI_ge e s.2 (by omega)
  unfold endS
  omega
theorem endS_le : ∀ (l : List (Int × Int)) (e : Int), (∀ s ∈ l, SlotOk s) → endS e l ≤ e + 80 * l.length
 | [], e, _ => by simp [endS]
 | s :: r, e, h => by
  obtain ⟨h1, h2, h3, h4⟩ := slot_nums (h s (by simp))
  have := endS_le r (upI e s.2 + s.1) (fun u hu => h u (by simp [hu]))
  have := upI_lt e s.2 (by omega)
  unfold endS
  simp only [List.length_cons]
  omega
theorem offs_at : ∀ (l : List (Int × Int)) (e : Int) (k : Nat), (∀ s ∈ l, SlotOk s) → k < l.length →
 e ≤ (offs e l).getD k 0 ∧ (offs e l).getD k 0 + (l.getD k (0, 0)).1 ≤ endS e l ∧ (offs e l).getD k 0 % (l.getD k (0, 0)).2 = 0
 | [], e, k, _, h => by simp at h
 | s :: r, e, 0, h, _ => by
  obtain ⟨h1, h2, h3, h4⟩ := slot_nums (h s (by simp))
  have a := upI_ge e s.2 (by omega)
  have b := endS_ge r (upI e s.2 + s.1) (fun u hu => h u (by simp [hu]))
  have c := upI_mod e s.2 (by omega)
  simp only [offs, endS, List.getD_cons_zero]
  exact ⟨a, b, c⟩
 | s :: r, e, k + 1, h, hk => by
  obtain ⟨h1, h2, h3, h4⟩ := slot_nums (h s (by simp))
  have a := upI_ge e s.2 (by omega)
  obtain ⟨i, j, l⟩ := offs_at r (upI e s.2 + s.1) k (fun u hu => h u (by simp [hu])) (by simpa using hk)
  simp only [offs, endS, List.getD_cons_succ]
  exact ⟨by omega, j, l⟩
def mxN (g : Nat → Int) : Nat → Int
 | 0 => 0
 | k + 1 => max (mxN g k) (g k)
theorem mxN_ge (g : Nat → Int) : ∀ n k, k < n → g k ≤ mxN g n
 | 0, k, h => by omega
 | n + 1, k, h => by
  unfold mxN
  rcases Nat.lt_or_ge k n with hk | hk
  · have := mxN_ge g n k hk
    omega
  · obtain rfl : k = n := by omega
    omega
theorem mxN_le (g : Nat → Int) (m : Int) (h0 : 0 ≤ m) : ∀ n, (∀ k, k < n → g k ≤ m) → 0 ≤ mxN g n ∧ mxN g n ≤ m
 | 0, _ => ⟨Int.le_refl _, h0⟩
 | n + 1, h => by
  obtain ⟨a, b⟩ := mxN_le g m h0 n (fun k hk => h k (by omega))
  have := h n (by omega)
  unfold mxN
  omega
def argI (p : List Fn) (x : Ins) : Int := if x.op = 18 then x.a + 1 else if x.op = 22 then (p.getD x.a.toNat Fn.z).params else 0
def argM (p : List Fn) (c : List Ins) : Nat → Int := mxN (fun j => argI p (c.getD j Ins.z))
def argsI (p : List Fn) (f : Fn) : Int := argM p f.code f.code.length * 16
structure Lay where
 args : Int
 size : Int
 off : List Int
def Lay.z : Lay := ⟨0, 0, []⟩
def layF (p : List Fn) (al : Int) (f : Fn) : Lay := ⟨argsI p f, upI (endS (argsI p f) f.slots) al, offs (argsI p f) f.slots⟩
def lowI (sl : List (Int × Int)) (y : Lay) (x : Ins) : Ins :=
 if x.op = 15 then ⟨15, x.a, y.off.getD x.b.toNat 0, (sl.getD x.b.toNat (0, 0)).1, 0⟩ else
 if x.op = 16 then ⟨16, y.off.getD x.a.toNat 0, x.b, (sl.getD x.a.toNat (0, 0)).1, 0⟩ else
 if x.op = 17 then ⟨17, y.off.getD x.a.toNat 0, y.off.getD x.b.toNat 0, (sl.getD x.a.toNat (0, 0)).1, 0⟩ else
 if x.op = 18 then ⟨16, 16 * x.a, x.b, 16, 0⟩ else
 if x.op = 19 then ⟨15, x.a, y.size + 16 * x.b, 16, 0⟩ else x
def lowF (p : List Fn) (al : Int) (f : Fn) : Fr := ⟨f.params, (layF p al f).size, f.code.map (lowI f.slots (layF p al f))⟩
def AlOk (al : Int) : Prop := al = 16 ∨ al = 32 ∨ al = 64
section
variable {p : List Fn} {f : Fn} {al : Int} {x : Ins} {m : Nat}
theorem argI_le (hp : PrOk m p) (hv : Vi p.length f.params f.slots f.code.length x) : 0 ≤ argI p x ∧ argI p x ≤ 8 := by
 rcases hv with ⟨_, h⟩ | ⟨a, h0, h1⟩ | ⟨a, b, h0, h1, h2, h3⟩
 · cases h
   case call a h0 h1 =>
    have hl : a.toNat < p.length := by omega
    obtain ⟨q0, q1, _⟩ := hp.2.2.2 _ (getD_mem' (z := Fn.z) hl)
    exact ⟨q0, by show (p.getD a.toNat Fn.z).params ≤ 8; omega⟩
   case arg a b h0 h1 h2 h3 => exact ⟨by show 0 ≤ a + 1; omega, by show a + 1 ≤ 8; omega⟩
   case arith op a b c o1 o2 a1 a2 b1 b2 c1 c2 =>
    have e : argI p ⟨op, a, b, c, 0⟩ = 0 := by
     unfold argI
     rw [if_neg (by show ¬ op = 18; omega), if_neg (by show ¬ op = 22; omega)]
    rw [e]
    omega
   all_goals exact ⟨Int.le_refl 0, by show (0 : Int) ≤ 8; omega⟩
 · exact ⟨Int.le_refl 0, by show (0 : Int) ≤ 8; omega⟩
 · exact ⟨Int.le_refl 0, by show (0 : Int) ≤ 8; omega⟩
theorem args_le (hp : PrOk m p) (hf : FnOk p.length f) : 0 ≤ argsI p f ∧ argsI p f ≤ 128 := by
 have : ∀ k, k < f.code.length → argI p (f.code.getD k Ins.z) ≤ 8 := fun k hk => by
  refine (argI_le hp (hf.2.2.2.2.2.2.1 _ ?_)).2
  rw [List.getD_eq_getElem?_getD, List.getElem?_eq_getElem hk]
  exact List.getElem_mem hk
 obtain ⟨a, b⟩ := mxN_le _ 8 (by omega) _ this
 unfold argsI argM
 omega
theorem lay_nums (hp : PrOk m p) (hf : FnOk p.length f) (ha : AlOk al) : 0 ≤ argsI p f ∧ argsI p f ≤ 128 ∧ argsI p f ≤ endS (argsI p f) f.slots ∧ endS (argsI p f) f.slots ≤ 608 ∧ endS (argsI p f) f.slots ≤ (layF p al f).size ∧ (layF p al f).size ≤ 671 ∧ (layF p al f).size % al = 0 := by
 obtain ⟨a, b⟩ := args_le hp hf
 have c := endS_ge f.slots (argsI p f) hf.2.2.2.1
 have d := endS_le f.slots (argsI p f) hf.2.2.2.1
 have d' := hf.2.2.1
 have h0 : 0 < al := by unfold AlOk at ha; omega
 have e := upI_ge (endS (argsI p f) f.slots) al h0
 have g := upI_lt (endS (argsI p f) f.slots) al h0
 have i := upI_mod (endS (argsI p f) f.slots) al h0
 refine ⟨a, b, c, by omega, e, ?_, i⟩
 unfold AlOk at ha
 show upI _ _ ≤ 671
 omega
end
def TiOk (nf : Nat) (prm sz : Int) (nc : Nat) (x : Ins) : Prop := inE nf prm sz nc x = 0 ∧ InR x ∧ 0 ≤ x.imm ∧ x.imm < 18446744073709551616
def FrP (al : Int) (ps : List Int) (f : Fr) : Prop :=
 0 ≤ f.params ∧ f.params ≤ 3 ∧ 0 ≤ f.size ∧ f.size ≤ 671 ∧ f.size % al = 0 ∧ 1 ≤ f.code.length ∧ f.code.length ≤ 200 ∧ (∀ x ∈ f.code, TiOk ps.length f.params f.size f.code.length x ∧ (x.op = 22 → 16 * ps.getD x.a.toNat 0 ≤ f.size)) ∧
 (f.code.getD (f.code.length - 1) Ins.z).op ∈ [(23 : Int), 24]
def TgP (most : Nat) (al : Int) (t : List Fr) : Prop := AlOk al ∧ 1 ≤ t.length ∧ t.length ≤ most ∧ (t.getD 0 Fr.z).params = 0 ∧ ∀ f ∈ t, FrP al (t.map Fr.params) f
section
variable {p : List Fn} {f : Fn} {al : Int} {x : Ins} {m : Nat}
theorem insB_ok {o s size : Int} (h0 : 0 ≤ o) (h1 : 0 ≤ s) (h2 : o + s ≤ size) (h3 : size ≤ 2147483647) : insB o s size = true := by
 unfold insB bndB inB
 rw [decide_eq_true (by omega), decide_eq_true (by omega), decide_eq_true (by omega), decide_eq_true (by omega)]
 rfl
theorem low_ok (hm80 : m ≤ 80) (hp : PrOk m p) (hf : FnOk p.length f) (ha : AlOk al) (hx : x ∈ f.code) :
 TiOk p.length f.params (layF p al f).size f.code.length (lowI f.slots (layF p al f) x) ∧ ((lowI f.slots (layF p al f) x).op = 22 → 16 * (p.map Fn.params).getD (lowI f.slots (layF p al f) x).a.toNat 0 ≤ (layF p al f).size) := by
 have hv := hf.2.2.2.2.2.2.1 x hx
 obtain ⟨n0, n1, n2, n3, n4, n5, n6⟩ := lay_nums hp hf ha
 have hsl := hf.2.2.2.1
 have hat := fun k hk => offs_at f.slots (argsI p f) k hsl hk
 have hsn : ∀ k, k < f.slots.length → 1 ≤ (f.slots.getD k (0, 0)).1 ∧ (f.slots.getD k (0, 0)).1 ≤ 16 ∧ sizeB (f.slots.getD k (0, 0)).1 = true := fun k hk => by
  have := slot_nums (hsl _ (getD_mem' (z := (0, 0)) hk))
  exact ⟨this.1, this.2.1, (slot_pow (hsl _ (getD_mem' (z := (0, 0)) hk))).2⟩
 have harg : argI p x * 16 ≤ argsI p f := by
  obtain ⟨j, hj, rfl⟩ := List.mem_iff_getElem.1 hx
  have := mxN_ge (fun j => argI p (f.code.getD j Ins.z)) f.code.length j hj
  simp only [List.getD_eq_getElem?_getD, List.getElem?_eq_getElem hj, Option.getD_some] at this
  unfold argsI argM
  simp only [List.getD_eq_getElem?_getD]
  omega
 have hprm : f.params ≤ 3 := hf.2.1
 have hlc : f.code.length ≤ 200 := hf.2.2.2.2.2.1
 have hlp : p.length ≤ 80 := Nat.le_trans hp.2.1 hm80
 have hprm0 : 0 ≤ f.params := hf.1
 have hoff : (layF p al f).off = offs (argsI p f) f.slots := rfl
 have hgd : ∀ k, k < f.slots.length → (0 : Int) ≤ (layF p al f).off.getD k 0 ∧ (layF p al f).off.getD k 0 + (f.slots.getD k (0, 0)).1 ≤ (layF p al f).size ∧ (layF p al f).off.getD k 0 ≤ 671 := fun k hk => by
  obtain ⟨a, b, _⟩ := hat k hk
  obtain ⟨c, _, _⟩ := hsn k hk
  rw [hoff]
  refine ⟨by omega, by omega, by omega⟩
 generalize layF p al f = y at *
 clear hat hoff hp hf hsl hx
 obtain ⟨ya, ys, yo⟩ := y
 simp only at *
 rcases hv with ⟨_, h⟩ | ⟨a, h0, h1⟩ | ⟨a, b, h0, h1, h2, h3⟩
 · cases h
   case arith op a b c o1 o2 a1 a2 b1 b2 c1 c2 =>
    have hop : op = 2 ∨ op = 3 ∨ op = 4 ∨ op = 5 ∨ op = 6 ∨ op = 7 ∨ op = 8 ∨ op = 9 ∨ op = 10 ∨ op = 11 := by omega
    rcases hop with rfl | rfl | rfl | rfl | rfl | rfl | rfl | rfl | rfl | rfl <;> simp [lowI, TiOk, inE, inB, unB, opN, regL, outB, memB, wildB, rdB, wrB, tgtB, InR, I64, *] <;> omega
   case load a b a1 a2 b1 b2 =>
    have hlow : lowI f.slots ⟨ya, ys, yo⟩ ⟨15, a, b, 0, 0⟩ = ⟨15, a, yo.getD b.toNat 0, (f.slots.getD b.toNat (0, 0)).1, 0⟩ := rfl
    rw [hlow]
    clear hlow
    have hb : b.toNat < f.slots.length := by omega
    obtain ⟨q0, q1, q2⟩ := hgd _ hb
    obtain ⟨s0, s1, s2⟩ := hsn _ hb
    generalize yo.getD b.toNat 0 = o at *
    generalize (f.slots.getD b.toNat (0, 0)).1 = s at *
    have hi := insB_ok (size := ys + 16 * f.params) q0 (show (0 : Int) ≤ s by omega) (by omega) (by omega)
    simp [TiOk, inE, inB, unB, opN, regL, outB, memB, wildB, rdB, wrB, tgtB, InR, I64, *]
    omega
   case store a b a1 a2 b1 b2 =>
    have hlow : lowI f.slots ⟨ya, ys, yo⟩ ⟨16, a, b, 0, 0⟩ = ⟨16, yo.getD a.toNat 0, b, (f.slots.getD a.toNat (0, 0)).1, 0⟩ := rfl
    rw [hlow]
    clear hlow
    have hb : a.toNat < f.slots.length := by omega
    obtain ⟨q0, q1, q2⟩ := hgd _ hb
    obtain ⟨s0, s1, s2⟩ := hsn _ hb
    generalize yo.getD a.toNat 0 = o at *
    generalize (f.slots.getD a.toNat (0, 0)).1 = s at *
    have hi := insB_ok (size := ys) q0 (show (0 : Int) ≤ s by omega) (by omega) (by omega)
    simp [TiOk, inE, inB, unB, opN, regL, outB, memB, wildB, rdB, wrB, tgtB, InR, I64, *]
    omega
   case move a b a1 a2 b1 b2 he =>
    have hlow : lowI f.slots ⟨ya, ys, yo⟩ ⟨17, a, b, 0, 0⟩ = ⟨17, yo.getD a.toNat 0, yo.getD b.toNat 0, (f.slots.getD a.toNat (0, 0)).1, 0⟩ := rfl
    rw [hlow]
    clear hlow
    have hb : a.toNat < f.slots.length := by omega
    have hb' : b.toNat < f.slots.length := by omega
    obtain ⟨q0, q1, q2⟩ := hgd _ hb
    obtain ⟨s0, s1, s2⟩ := hsn _ hb
    obtain ⟨r0, r1, r2⟩ := hgd _ hb'
    rw [← he] at r1
    clear he
    generalize yo.getD a.toNat 0 = o at *
    generalize yo.getD b.toNat 0 = o' at *
    generalize (f.slots.getD a.toNat (0, 0)).1 = s at *
    have hi := insB_ok (size := ys) q0 (show (0 : Int) ≤ s by omega) (by omega) (by omega)
    have hi' := insB_ok (size := ys + 16 * f.params) r0 (show (0 : Int) ≤ s by omega) (by omega) (by omega)
    simp [TiOk, inE, inB, unB, opN, regL, outB, memB, wildB, rdB, wrB, tgtB, InR, I64, *]
    omega
   case arg a b a1 a2 b1 b2 =>
    have hlow : lowI f.slots ⟨ya, ys, yo⟩ ⟨18, a, b, 0, 0⟩ = ⟨16, 16 * a, b, 16, 0⟩ := rfl
    rw [hlow]
    clear hlow
    have he : argI p ⟨18, a, b, 0, 0⟩ = a + 1 := rfl
    rw [he] at harg
    have hi := insB_ok (o := 16 * a) (s := 16) (size := ys) (by omega) (by omega) (by omega) (by omega)
    simp [TiOk, inE, inB, unB, opN, regL, outB, memB, wildB, rdB, wrB, tgtB, InR, I64, sizeB, *]
    omega
   case param a b a1 a2 b1 b2 =>
    have hlow : lowI f.slots ⟨ya, ys, yo⟩ ⟨19, a, b, 0, 0⟩ = ⟨15, a, ys + 16 * b, 16, 0⟩ := rfl
    rw [hlow]
    clear hlow
    have hi := insB_ok (o := ys + 16 * b) (s := 16) (size := ys + 16 * f.params) (by omega) (by omega) (by omega) (by omega)
    simp [TiOk, inE, inB, unB, opN, regL, outB, memB, wildB, rdB, wrB, tgtB, InR, I64, sizeB, *]
    omega
   case call a a1 a2 =>
    have he : argI p ⟨22, a, 0, 0, 0⟩ = (p.getD a.toNat Fn.z).params := rfl
    rw [he] at harg
    have hl : a.toNat < p.length := by omega
    have hm : (p.map Fn.params).getD a.toNat 0 = (p.getD a.toNat Fn.z).params := by
     rw [List.getD_eq_getElem?_getD, List.getD_eq_getElem?_getD, List.getElem?_map, List.getElem?_eq_getElem hl]
     rfl
    simp only [lowI]
    refine ⟨?_, fun _ => by show 16 * (p.map Fn.params).getD a.toNat 0 ≤ ys; rw [hm]; omega⟩
    simp [TiOk, inE, inB, unB, opN, regL, outB, memB, wildB, rdB, wrB, tgtB, InR, I64, *]
    omega
   all_goals simp [lowI, TiOk, inE, inB, unB, opN, regL, outB, memB, wildB, rdB, wrB, tgtB, InR, I64, *]
   all_goals omega
 · simp [lowI, TiOk, inE, inB, unB, opN, regL, outB, memB, wildB, rdB, wrB, tgtB, InR, I64, *]
   omega
 · simp [lowI, TiOk, inE, inB, unB, opN, regL, outB, memB, wildB, rdB, wrB, tgtB, InR, I64, *]
   omega
theorem low_op (sl : List (Int × Int)) (y : Lay) (x : Ins) (h : x.op = 23 ∨ x.op = 24) : (lowI sl y x).op = x.op := by
 unfold lowI
 rw [if_neg (by omega), if_neg (by omega), if_neg (by omega), if_neg (by omega), if_neg (by omega)]
theorem lowF_ok (hm80 : m ≤ 80) (hp : PrOk m p) (hf : FnOk p.length f) (ha : AlOk al) : FrP al (p.map Fn.params) (lowF p al f) := by
 obtain ⟨n0, n1, n2, n3, n4, n5, n6⟩ := lay_nums hp hf ha
 refine ⟨hf.1, hf.2.1, by show 0 ≤ (layF p al f).size; omega, n5, n6, ?_, ?_, ?_, ?_⟩
 · show 1 ≤ (f.code.map _).length
   rw [List.length_map]
   exact hf.2.2.2.2.1
 · show (f.code.map _).length ≤ 200
   rw [List.length_map]
   exact hf.2.2.2.2.2.1
 · intro x hx
   obtain ⟨u, hu, rfl⟩ := List.mem_map.1 hx
   have := low_ok hm80 hp hf ha hu
   rw [List.length_map]
   show TiOk p.length f.params (layF p al f).size (f.code.map _).length _ ∧ _
   rw [List.length_map]
   exact this
 · have h0 := hf.2.2.2.2.1
   have h1 := hf.2.2.2.2.2.2.2
   show ((f.code.map _).getD ((f.code.map _).length - 1) Ins.z).op ∈ _
   rw [List.length_map]
   rw [List.getD_eq_getElem?_getD, List.getElem?_eq_getElem (by omega), Option.getD_some] at h1
   rw [List.getD_eq_getElem?_getD, List.getElem?_map, List.getElem?_eq_getElem (by omega), Option.map_some, Option.getD_some, low_op _ _ _ (by simpa using h1)]
   exact h1
theorem store_ok {nf nc : Nat} {prm sz : Int} (h : TiOk nf prm sz nc x) (ho : x.op = 16) {u : Int} (h0 : 0 ≤ u) (h1 : u + x.c ≤ sz) (h2 : sz ≤ 671) : TiOk nf prm sz nc { x with a := u } := by
 obtain ⟨op, a, b, c, im⟩ := x
 simp only at ho h1
 subst ho
 obtain ⟨e, ⟨r0, r1, r2, r3⟩, i0, i1⟩ := h
 simp only at r0 r1 r2 r3 i0 i1
 have him : im = 0 := Decidable.byContradiction (fun h => by simp [inE, inB, unB, opN, h] at e)
 subst him
 have hb : ¬ (b < 0 ∨ 8 ≤ b) := fun h => by simp [inE, inB, unB, opN, regL, outB, h] at e
 have hc : sizeB c = true := by
  rcases hs : sizeB c with _ | _
  · simp [inE, inB, unB, opN, regL, outB, memB, hs, hb] at e
  · rfl
 have hc' := (sizeB_iff c).1 hc
 have hi := insB_ok (o := u) (s := c) (size := sz) h0 (by omega) h1 (by omega)
 refine ⟨?_, ⟨r0, by unfold I64; show _ ≤ u ∧ u ≤ _; omega, r2, r3⟩, i0, i1⟩
 simp [inE, inB, unB, opN, regL, outB, memB, wildB, rdB, wrB, tgtB, hc, hi, hb]
end
end Go.Proofs.YtcnndoefgjbmiaaGreat.pm
