/- What sir.Check answers: plain mathematics. -/
import Derived.Test.YtmeoabpigibaoaaPx
import Derived.Test.YtmeoabpigibaoaaValPlain
namespace Go.Proofs.Ytmeoabpigibaoaa.pm
set_option linter.unusedVariables false

/-- the shapes of the operations: what the operands name, and whether the immediate is used -/
def shps : List (Nat × Nat × Nat × Bool) :=
  [(1, 0, 0, true), (1, 1, 0, false), (1, 1, 1, false), (1, 1, 1, false), (1, 1, 1, false), (1, 1, 1, false), (1, 1, 1, false), (1, 1, 1, false), (1, 1, 1, false), (1, 1, 1, false), (1, 1, 1, false), (1, 1, 1, false), (1, 1, 0, false), (1, 0, 0, false), (1, 0, 0, false),
   (1, 2, 0, false), (2, 1, 0, false), (2, 2, 0, false), (4, 1, 0, false), (1, 5, 0, false), (6, 0, 0, false), (1, 6, 0, false), (3, 0, 0, false), (0, 0, 0, false), (0, 0, 0, true)]
def shp (op : Nat) : Nat × Nat × Nat × Bool := shps.getD op (0, 0, 0, false)
theorem shp_lt (op : Nat) : (shp op).1 < 7 ∧ (shp op).2.1 < 7 ∧ (shp op).2.2.1 < 7 := by
  by_cases h : op < 25
  · have h' : ∀ k, k < 25 → (shp k).1 < 7 ∧ (shp k).2.1 < 7 ∧ (shp k).2.2.1 < 7 := by decide
    exact h' op h
  · unfold shp
    rw [List.getD_eq_getElem?_getD, List.getElem?_eq_none (by simp [shps]; omega)]
    simp
def lims (nf : Nat) (prm : Int) (ns nc : Nat) : List Int := [1, 8, (ns : Int), (nf : Int), 8, prm, (nc : Int)]
def lim (nf : Nat) (prm : Int) (ns nc : Nat) (k : Nat) : Int := (lims nf prm ns nc).getD k 0
def inB (n l : Int) : Bool := decide (0 ≤ n ∧ n < l)
theorem inB_t {n l : Int} : inB n l = true ↔ 0 ≤ n ∧ n < l := by unfold inB; exact decide_eq_true_iff
theorem inB_f {n l : Int} : inB n l = false ↔ ¬ (0 ≤ n ∧ n < l) := by unfold inB; exact decide_eq_false_iff_not
/-- an operand that is not used is not 0 -/
def badK (k : Nat) (n : Int) : Bool := k == 0 && n != 0
/-- an operand names what is not there -/
def outK (nf : Nat) (prm : Int) (ns nc k : Nat) (n : Int) : Bool := !inB n (lim nf prm ns nc k) && k != 6
/-- a target is none -/
def tgtK (nf : Nat) (prm : Int) (ns nc k : Nat) (n : Int) : Bool := !inB n (lim nf prm ns nc k) && k == 6
def instrE (nf : Nat) (prm : Int) (sl : List (Int × Int)) (nc : Nat) (x : Ins) : Int :=
  if inB x.op 25 = false then 4 else
  if (badK (shp x.op.toNat).1 x.a || badK (shp x.op.toNat).2.1 x.b || badK (shp x.op.toNat).2.2.1 x.c) = true then 2 else
  if (!(shp x.op.toNat).2.2.2 && x.imm != 0) = true then 2 else
  if (outK nf prm sl.length nc (shp x.op.toNat).1 x.a || outK nf prm sl.length nc (shp x.op.toNat).2.1 x.b || outK nf prm sl.length nc (shp x.op.toNat).2.2.1 x.c) = true then 4 else
  if (x.op == 17 && (sl.getD x.a.toNat (0, 0)).1 != (sl.getD x.b.toNat (0, 0)).1) = true then 5 else
  if (tgtK nf prm sl.length nc (shp x.op.toNat).1 x.a || tgtK nf prm sl.length nc (shp x.op.toNat).2.1 x.b || tgtK nf prm sl.length nc (shp x.op.toNat).2.2.1 x.c) = true then 6 else 0
def slotsE (l : List (Int × Int)) : Int := if 512 < l.length then 3 else if l.all (fun s => sizeB s.1 && powB s.2) = true then 0 else 5
def termB (op : Int) : Bool := op == 20 || op == 23 || op == 24
def firstE (l : List Int) : Int := (l.find? (· != 0)).getD 0
def funcE (nf : Nat) (f : Fn) : Int :=
  if 1024 < f.code.length then 3 else
  if slotsE f.slots ≠ 0 then slotsE f.slots else
  if inB f.params 9 = false then 4 else
  if firstE (f.code.map (instrE nf f.params f.slots f.code.length)) ≠ 0 then firstE (f.code.map (instrE nf f.params f.slots f.code.length)) else
  if (f.code.length == 0 || !termB (f.code.getD (f.code.length - 1) Ins.z).op) = true then 6 else 0
def progE (p : List Fn) : Int :=
  if 80 < p.length then 3 else
  if p.length = 0 then 4 else
  if (p.getD 0 Fn.z).params ≠ 0 then 7 else
  firstE (p.map (funcE p.length))
theorem firstE_zero {l : List Int} (h : ∀ x ∈ l, x = 0) : firstE l = 0 := by
  unfold firstE
  rw [List.find?_eq_none.2 (fun x hx => by rw [h x hx]; simp)]
  rfl
theorem firstE_mem {l : List Int} (h : firstE l = 0) : ∀ x ∈ l, x = 0 := by
  intro x hx
  unfold firstE at h
  rcases hf : l.find? (· != 0) with _ | y
  · have := List.find?_eq_none.1 hf x hx
    simpa using this
  · rw [hf] at h
    have := List.find?_some hf
    simp at h this
    exact absurd h this
theorem firstE_take {α : Type} {f : α → Int} {l : List α} {k : Nat} {z : α} (hk : k < l.length) (h0 : ∀ j, j < k → f (l.getD j z) = 0) (h1 : f (l.getD k z) ≠ 0) : firstE (l.map f) = f (l.getD k z) := by
  induction l generalizing k with
  | nil => simp at hk
  | cons a r ih =>
    unfold firstE
    rcases k with _ | k
    · simp at h1 ⊢
      simp [h1]
    · have ha : f a = 0 := by simpa using h0 0 (by omega)
      have := ih (k := k) (by simpa using hk) (fun j hj => by simpa using h0 (j + 1) (by omega)) (by simpa using h1)
      unfold firstE at this
      simpa [ha] using this
/-- an instruction that is right is right for the check -/
theorem vi_ok {nf : Nat} {prm : Int} {sl : List (Int × Int)} {nc : Nat} {x : Ins} (h : Vi nf prm sl nc x) : instrE nf prm sl nc x = 0 := by
  rcases h with ⟨_, h⟩ | ⟨a, h0, h1⟩ | ⟨a, b, h0, h1, h2, h3⟩
  · cases h
    case arith op a b c o1 o2 a1 a2 b1 b2 c1 c2 =>
      have hop : op = 2 ∨ op = 3 ∨ op = 4 ∨ op = 5 ∨ op = 6 ∨ op = 7 ∨ op = 8 ∨ op = 9 ∨ op = 10 ∨ op = 11 := by omega
      rcases hop with rfl | rfl | rfl | rfl | rfl | rfl | rfl | rfl | rfl | rfl <;> simp [instrE, inB, shp, shps, badK, outK, tgtK, lim, lims, *]
    case move a b a1 a2 b1 b2 he =>
      have hl1 : a.toNat < sl.length := by omega
      have hl2 : b.toNat < sl.length := by omega
      rw [List.getD_eq_getElem?_getD, List.getD_eq_getElem?_getD, List.getElem?_eq_getElem hl1, List.getElem?_eq_getElem hl2, Option.getD_some, Option.getD_some] at he
      simp [instrE, inB, shp, shps, badK, outK, tgtK, lim, lims, *]
    all_goals simp [instrE, inB, shp, shps, badK, outK, tgtK, lim, lims, *]
  · simp [instrE, inB, shp, shps, badK, outK, tgtK, lim, lims, *]
  · simp [instrE, inB, shp, shps, badK, outK, tgtK, lim, lims, *]
theorem slot_ok {s : Int × Int} (h : SlotOk s) : (sizeB s.1 && powB s.2) = true := by
  obtain ⟨h1, h2⟩ := h
  rw [Bool.and_eq_true]
  refine ⟨(sizeB_iff _).2 (by omega), ?_⟩
  rcases h2 with h | h | h | h | h | h | h <;> rw [h] <;> decide
theorem fn_okE {nf : Nat} {f : Fn} (h : FnOk nf f) : funcE nf f = 0 := by
  obtain ⟨h1, h2, h3, h4, h5, h6, h7, h8⟩ := h
  have hs : slotsE f.slots = 0 := by
    unfold slotsE
    rw [if_neg (by omega), if_pos (List.all_eq_true.2 (fun s hs => slot_ok (h4 s hs)))]
  have hc : firstE (f.code.map (instrE nf f.params f.slots f.code.length)) = 0 := firstE_zero (fun y hy => by
    obtain ⟨x, hx, rfl⟩ := List.mem_map.1 hy
    exact vi_ok (h7 x hx))
  have ht : termB (f.code.getD (f.code.length - 1) Ins.z).op = true := by
    simp only [List.mem_cons, List.not_mem_nil, or_false] at h8
    rcases h8 with h | h <;> rw [h] <;> rfl
  unfold funcE
  rw [if_neg (by omega), if_neg (by rw [hs]; simp), if_neg (by rw [inB_f]; omega), if_neg (by rw [hc]; simp), if_neg]
  rw [ht]
  have : (f.code.length == 0) = false := by simpa using (show f.code.length ≠ 0 by omega)
  rw [this]
  simp
theorem pr_okE {most : Nat} {p : List Fn} (h : PrOk most p) (hm : most ≤ 80) : progE p = 0 := by
  obtain ⟨h1, h2, h3, h4⟩ := h
  unfold progE
  rw [if_neg (by omega), if_neg (by omega), if_neg (by rw [h3]; simp)]
  exact firstE_zero (fun y hy => by
    obtain ⟨f, hf, rfl⟩ := List.mem_map.1 hy
    exact fn_okE (h4 f hf))
end Go.Proofs.Ytmeoabpigibaoaa.pm
