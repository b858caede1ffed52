/- Values as two words, their bytes, truncation: plain laws. -/
import Derived.Test.YtdpcpiejbhjgoaaDoorGBa
import Derived.Test.YtdpcpiejbhjgoaaDoorGPm
import Derived.Deep.RegionHeld3
import Derived.BigQuiet
import Derived.Deep.QuietTactic
namespace Go.Proofs.YtdpcpiejbhjgoaaDoor

def sizeB (x : Int) : Bool := x == 1 || x == 2 || x == 4 || x == 8 || x == 16
theorem sizeB_iff (x : Int) : sizeB x = true ↔ x = 1 ∨ x = 2 ∨ x = 4 ∨ x = 8 ∨ x = 16 := by simp only [sizeB, Bool.or_eq_true, beq_iff_eq]; omega
theorem sizeB_and (n : Nat) (h0 : 1 ≤ n) (h1 : n ≤ 16) : decide (n &&& (n - 1) = 0) = sizeB (n : Int) := by
  have h : ∀ n : Nat, n < 17 → 1 ≤ n → decide (n &&& (n - 1) = 0) = sizeB (n : Int) := by decide +kernel
  exact h n (by omega) h0
/-- little-endian -/
def le : List Nat → Nat
  | [] => 0
  | c :: r => c + 256 * le r
theorem le_snoc (l : List Nat) (c : Nat) : le (l ++ [c]) = le l + c * 256 ^ l.length := by
  induction l with
  | nil => simp [le]
  | cons x l ih =>
    simp only [List.cons_append, le, ih, List.length_cons, Nat.pow_succ]
    rw [Nat.mul_add, Nat.add_assoc, Nat.mul_comm 256 (c * _), Nat.mul_assoc]
theorem le_lt (l : List Nat) (h : ∀ x ∈ l, x < 256) : le l < 256 ^ l.length := by
  induction l with
  | nil => simp [le]
  | cons x l ih =>
    have h1 := ih fun y hy => h y (by simp [hy])
    have h2 := h x (by simp)
    simp only [le, List.length_cons, Nat.pow_succ]
    omega
def digs (a m : Nat) : List Nat := (List.range m).map fun k => a / 256 ^ k % 256
theorem digs_succ (a m : Nat) : digs a (m + 1) = digs a m ++ [a / 256 ^ m % 256] := by simp [digs, List.range_succ]
theorem digs_len (a m : Nat) : (digs a m).length = m := by simp [digs]
theorem digs_lt (a m : Nat) : ∀ x ∈ digs a m, x < 256 := by
  intro x hx
  obtain ⟨k, _, rfl⟩ := List.mem_map.1 hx
  exact Nat.mod_lt _ (by decide)
theorem le_digs (a m : Nat) : le (digs a m) = a % 256 ^ m := by
  induction m with
  | zero => simp [digs, le, Nat.mod_one]
  | succ m ih =>
    rw [digs_succ, le_snoc, ih, digs_len, Nat.pow_succ, Nat.mod_mul, Nat.mul_comm (256 ^ m)]
/-- byte k of a value -/
def byteV (a b k : Nat) : Nat := if k < 8 then a / 256 ^ k % 256 else b / 256 ^ (k - 8) % 256
def bytesV (a b n : Nat) : List Nat := (List.range n).map (byteV a b)
theorem bytesV_succ (a b n : Nat) : bytesV a b (n + 1) = bytesV a b n ++ [byteV a b n] := by simp [bytesV, List.range_succ]
theorem bytesV_len (a b n : Nat) : (bytesV a b n).length = n := by simp [bytesV]
theorem bytesV_lt (a b n : Nat) : ∀ x ∈ bytesV a b n, x < 256 := by
  intro x hx
  obtain ⟨k, _, rfl⟩ := List.mem_map.1 hx
  unfold byteV
  split <;> exact Nat.mod_lt _ (by decide)
theorem bytesV_take (a b n : Nat) : (bytesV a b n).take 8 = digs a (min n 8) := by
  apply List.ext_getElem?
  intro i
  simp only [bytesV, digs, List.getElem?_take, List.getElem?_map]
  by_cases h8 : i < 8
  · rw [if_pos h8]
    by_cases hn : i < n
    · rw [List.getElem?_range hn, List.getElem?_range (by omega)]
      simp [byteV, h8]
    · rw [List.getElem?_eq_none (by simp; omega), List.getElem?_eq_none (by simp; omega)]
      rfl
  · rw [if_neg h8, List.getElem?_eq_none (by simp; omega)]
    rfl
theorem bytesV_drop (a b n : Nat) (hn : n ≤ 16) : ((bytesV a b n).drop 8).take 8 = digs b (n - 8) := by
  apply List.ext_getElem?
  intro i
  simp only [bytesV, digs, List.getElem?_take, List.getElem?_drop, List.getElem?_map]
  by_cases h8 : i < n - 8
  · rw [if_pos (by omega), List.getElem?_range (by omega), List.getElem?_range h8]
    simp [byteV]
    intro h; omega
  · rw [List.getElem?_eq_none (l := List.range (n - 8)) (by simp; omega), List.getElem?_eq_none (l := List.range n) (by simp; omega)]
    split <;> rfl
/-- the two words of bytes -/
def loV (l : List Nat) : Nat := le (l.take 8)
def hiV (l : List Nat) : Nat := le ((l.drop 8).take 8)
theorem pow256_8 : 256 ^ 8 = 18446744073709551616 := by decide
theorem le8_lt (l : List Nat) (h : ∀ x ∈ l, x < 256) (hl : l.length ≤ 8) : le l < 18446744073709551616 := by
  have := le_lt l h
  have h2 : 256 ^ l.length ≤ 256 ^ 8 := Nat.pow_le_pow_right (by decide) hl
  rw [← pow256_8]
  omega
theorem loV_lt (l : List Nat) (h : ∀ x ∈ l, x < 256) : loV l < 18446744073709551616 := le8_lt _ (fun x hx => h x (List.mem_of_mem_take hx)) (by simp; omega)
theorem hiV_lt (l : List Nat) (h : ∀ x ∈ l, x < 256) : hiV l < 18446744073709551616 := le8_lt _ (fun x hx => h x (List.mem_of_mem_drop (List.mem_of_mem_take hx))) (by simp; omega)
theorem loV_snoc (l : List Nat) (c : Nat) (h : l.length < 8) : loV (l ++ [c]) = loV l + c * 256 ^ l.length := by
  unfold loV
  rw [List.take_of_length_le (by simp; omega), List.take_of_length_le (by omega), le_snoc]
theorem hiV_snoc_lo (l : List Nat) (c : Nat) (h : l.length < 8) : hiV (l ++ [c]) = hiV l := by
  unfold hiV
  rw [List.drop_of_length_le (by simp; omega), List.drop_of_length_le (by omega)]
theorem loV_snoc_hi (l : List Nat) (c : Nat) (h : 8 ≤ l.length) : loV (l ++ [c]) = loV l := by
  unfold loV
  rw [List.take_append_of_le_length h]
theorem hiV_snoc (l : List Nat) (c : Nat) (h : 8 ≤ l.length) (h' : l.length < 16) : hiV (l ++ [c]) = hiV l + c * 256 ^ (l.length - 8) := by
  unfold hiV
  rw [List.drop_append_of_le_length h, List.take_of_length_le (by simp; omega), List.take_of_length_le (by simp; omega), le_snoc, List.length_drop]
/-- what is kept of a value in n bytes -/
def truncV (a b n : Nat) : Nat × Nat := (a % 256 ^ (min n 8), b % 256 ^ (n - 8))
theorem loV_bytes (a b n : Nat) : loV (bytesV a b n) = (truncV a b n).1 := by unfold loV truncV; rw [bytesV_take, le_digs]
theorem hiV_bytes (a b n : Nat) (h : n ≤ 16) : hiV (bytesV a b n) = (truncV a b n).2 := by unfold hiV truncV; rw [bytesV_drop _ _ _ h, le_digs]
theorem truncV_16 (a b : Nat) (ha : a < 18446744073709551616) (hb : b < 18446744073709551616) : truncV a b 16 = (a, b) := by
  unfold truncV
  rw [show min 16 8 = 8 from rfl, show 16 - 8 = 8 from rfl, pow256_8, Nat.mod_eq_of_lt ha, Nat.mod_eq_of_lt hb]
theorem truncV_idem (a b n : Nat) : truncV (truncV a b n).1 (truncV a b n).2 n = truncV a b n := by unfold truncV; simp
theorem truncV_lt (a b n : Nat) (ha : a < 18446744073709551616) (hb : b < 18446744073709551616) : (truncV a b n).1 < 18446744073709551616 ∧ (truncV a b n).2 < 18446744073709551616 :=
  ⟨Nat.lt_of_le_of_lt (Nat.mod_le _ _) ha, Nat.lt_of_le_of_lt (Nat.mod_le _ _) hb⟩
theorem pow_256 (k : Nat) : 2 ^ (8 * k) = 256 ^ k := by rw [Nat.pow_mul]
theorem or_shift8 (u k c : Nat) (hu : u < 256 ^ k) (h : c * 256 ^ k < 18446744073709551616) (hu64 : u < 18446744073709551616) :
    bits .or .u64 (u : Int) (IntKind.u64.wrap ((c : Int) * 2 ^ (8 * k))) = ((u + c * 256 ^ k : Nat) : Int) := by
  have e : (c : Int) * 2 ^ (8 * k) = ((c * 256 ^ k : Nat) : Int) := by
    rw [← pow_256]
    simp
  have e2 : IntKind.u64.wrap ((c : Int) * 2 ^ (8 * k)) = ((c * 256 ^ k : Nat) : Int) := by
    rw [e, IntKind.wrap_u64]
    omega
  rw [e2, u64_or_nat _ _ hu64 h, Nat.or_comm, nat_join (8 * k) (c * 256 ^ k) u (by rw [pow_256]; simp) (by rw [pow_256]; exact hu)]
  congr 1
  omega
end Go.Proofs.YtdpcpiejbhjgoaaDoor
namespace Go.Proofs.YtdpcpiejbhjgoaaDoor.pm
set_option linter.unusedVariables false

/-- the shapes of the operations: what the operands name, and whether the immediate is used -/
def shps : List (Nat × Nat × Nat × Bool) :=
  [(1, 0, 0, true), (1, 1, 0, false), (1, 1, 1, false), (1, 1, 1, false), (1, 1, 1, false), (1, 1, 1, false), (1, 1, 1, false), (1, 1, 1, false), (1, 1, 1, false), (1, 1, 1, false), (1, 1, 1, false), (1, 1, 1, false), (1, 1, 0, false), (1, 0, 0, false), (1, 0, 0, false),
   (1, 2, 0, false), (2, 1, 0, false), (2, 2, 0, false), (4, 1, 0, false), (1, 5, 0, false), (6, 0, 0, false), (1, 6, 0, false), (3, 0, 0, false), (0, 0, 0, false), (0, 0, 0, true)]
def shp (op : Nat) : Nat × Nat × Nat × Bool := shps.getD op (0, 0, 0, false)
theorem shp_lt (op : Nat) : (shp op).1 < 7 ∧ (shp op).2.1 < 7 ∧ (shp op).2.2.1 < 7 := by
  by_cases h : op < 25
  · have h' : ∀ k, k < 25 → (shp k).1 < 7 ∧ (shp k).2.1 < 7 ∧ (shp k).2.2.1 < 7 := by decide
    exact h' op h
  · unfold shp
    rw [List.getD_eq_getElem?_getD, List.getElem?_eq_none (by simp [shps]; omega)]
    simp
def lims (nf : Nat) (prm : Int) (ns nc : Nat) : List Int := [1, 8, (ns : Int), (nf : Int), 8, prm, (nc : Int)]
def lim (nf : Nat) (prm : Int) (ns nc : Nat) (k : Nat) : Int := (lims nf prm ns nc).getD k 0
def inB (n l : Int) : Bool := decide (0 ≤ n ∧ n < l)
theorem inB_t {n l : Int} : inB n l = true ↔ 0 ≤ n ∧ n < l := by unfold inB; exact decide_eq_true_iff
theorem inB_f {n l : Int} : inB n l = false ↔ ¬ (0 ≤ n ∧ n < l) := by unfold inB; exact decide_eq_false_iff_not
/-- an operand that is not used is not 0 -/
def badK (k : Nat) (n : Int) : Bool := k == 0 && n != 0
/-- an operand names what is not there -/
def outK (nf : Nat) (prm : Int) (ns nc k : Nat) (n : Int) : Bool := !inB n (lim nf prm ns nc k) && k != 6
/-- a target is none -/
def tgtK (nf : Nat) (prm : Int) (ns nc k : Nat) (n : Int) : Bool := !inB n (lim nf prm ns nc k) && k == 6
def instrE (nf : Nat) (prm : Int) (sl : List (Int × Int)) (nc : Nat) (x : Ins) : Int :=
  if inB x.op 25 = false then 4 else
  if (badK (shp x.op.toNat).1 x.a || badK (shp x.op.toNat).2.1 x.b || badK (shp x.op.toNat).2.2.1 x.c) = true then 2 else
  if (!(shp x.op.toNat).2.2.2 && x.imm != 0) = true then 2 else
  if (outK nf prm sl.length nc (shp x.op.toNat).1 x.a || outK nf prm sl.length nc (shp x.op.toNat).2.1 x.b || outK nf prm sl.length nc (shp x.op.toNat).2.2.1 x.c) = true then 4 else
  if (x.op == 17 && (sl.getD x.a.toNat (0, 0)).1 != (sl.getD x.b.toNat (0, 0)).1) = true then 5 else
  if (tgtK nf prm sl.length nc (shp x.op.toNat).1 x.a || tgtK nf prm sl.length nc (shp x.op.toNat).2.1 x.b || tgtK nf prm sl.length nc (shp x.op.toNat).2.2.1 x.c) = true then 6 else 0
def slotsE (l : List (Int × Int)) : Int := if 512 < l.length then 3 else if l.all (fun s => sizeB s.1 && powB s.2) = true then 0 else 5
def termB (op : Int) : Bool := op == 20 || op == 23 || op == 24
def firstE (l : List Int) : Int := (l.find? (· != 0)).getD 0
def funcE (nf : Nat) (f : Fn) : Int :=
  if 1024 < f.code.length then 3 else
  if slotsE f.slots ≠ 0 then slotsE f.slots else
  if inB f.params 9 = false then 4 else
  if firstE (f.code.map (instrE nf f.params f.slots f.code.length)) ≠ 0 then firstE (f.code.map (instrE nf f.params f.slots f.code.length)) else
  if (f.code.length == 0 || !termB (f.code.getD (f.code.length - 1) Ins.z).op) = true then 6 else 0
def progE (p : List Fn) : Int :=
  if 80 < p.length then 3 else
  if p.length = 0 then 4 else
  if (p.getD 0 Fn.z).params ≠ 0 then 7 else
  firstE (p.map (funcE p.length))
theorem firstE_zero {l : List Int} (h : ∀ x ∈ l, x = 0) : firstE l = 0 := by
  unfold firstE
  rw [List.find?_eq_none.2 (fun x hx => by rw [h x hx]; simp)]
  rfl
theorem firstE_mem {l : List Int} (h : firstE l = 0) : ∀ x ∈ l, x = 0 := by
  intro x hx
  unfold firstE at h
  rcases hf : l.find? (· != 0) with _ | y
  · have := List.find?_eq_none.1 hf x hx
    simpa using this
  · rw [hf] at h
    have := List.find?_some hf
    simp at h this
    exact absurd h this
theorem firstE_take {α : Type} {f : α → Int} {l : List α} {k : Nat} {z : α} (hk : k < l.length) (h0 : ∀ j, j < k → f (l.getD j z) = 0) (h1 : f (l.getD k z) ≠ 0) : firstE (l.map f) = f (l.getD k z) := by
  induction l generalizing k with
  | nil => simp at hk
  | cons a r ih =>
    unfold firstE
    rcases k with _ | k
    · simp at h1 ⊢
      simp [h1]
    · have ha : f a = 0 := by simpa using h0 0 (by omega)
      have := ih (k := k) (by simpa using hk) (fun j hj => by simpa using h0 (j + 1) (by omega)) (by simpa using h1)
      unfold firstE at this
      simpa [ha] using this
/-- an instruction that is right is right for the check -/
theorem vi_ok {nf : Nat} {prm : Int} {sl : List (Int × Int)} {nc : Nat} {x : Ins} (h : Vi nf prm sl nc x) : instrE nf prm sl nc x = 0 := by
  rcases h with ⟨_, h⟩ | ⟨a, h0, h1⟩ | ⟨a, b, h0, h1, h2, h3⟩
  · cases h
    case arith op a b c o1 o2 a1 a2 b1 b2 c1 c2 =>
      have hop : op = 2 ∨ op = 3 ∨ op = 4 ∨ op = 5 ∨ op = 6 ∨ op = 7 ∨ op = 8 ∨ op = 9 ∨ op = 10 ∨ op = 11 := by omega
      rcases hop with rfl | rfl | rfl | rfl | rfl | rfl | rfl | rfl | rfl | rfl <;> simp [instrE, inB, shp, shps, badK, outK, tgtK, lim, lims, *]
    case move a b a1 a2 b1 b2 he =>
      have hl1 : a.toNat < sl.length := by omega
      have hl2 : b.toNat < sl.length := by omega
      rw [List.getD_eq_getElem?_getD, List.getD_eq_getElem?_getD, List.getElem?_eq_getElem hl1, List.getElem?_eq_getElem hl2, Option.getD_some, Option.getD_some] at he
      simp [instrE, inB, shp, shps, badK, outK, tgtK, lim, lims, *]
    all_goals simp [instrE, inB, shp, shps, badK, outK, tgtK, lim, lims, *]
  · simp [instrE, inB, shp, shps, badK, outK, tgtK, lim, lims, *]
  · simp [instrE, inB, shp, shps, badK, outK, tgtK, lim, lims, *]
theorem slot_ok {s : Int × Int} (h : SlotOk s) : (sizeB s.1 && powB s.2) = true := by
  obtain ⟨h1, h2⟩ := h
  rw [Bool.and_eq_true]
  refine ⟨(sizeB_iff _).2 (by omega), ?_⟩
  rcases h2 with h | h | h | h | h | h | h <;> rw [h] <;> decide
theorem fn_okE {nf : Nat} {f : Fn} (h : FnOk nf f) : funcE nf f = 0 := by
  obtain ⟨h1, h2, h3, h4, h5, h6, h7, h8⟩ := h
  have hs : slotsE f.slots = 0 := by
    unfold slotsE
    rw [if_neg (by omega), if_pos (List.all_eq_true.2 (fun s hs => slot_ok (h4 s hs)))]
  have hc : firstE (f.code.map (instrE nf f.params f.slots f.code.length)) = 0 := firstE_zero (fun y hy => by
    obtain ⟨x, hx, rfl⟩ := List.mem_map.1 hy
    exact vi_ok (h7 x hx))
  have ht : termB (f.code.getD (f.code.length - 1) Ins.z).op = true := by
    simp only [List.mem_cons, List.not_mem_nil, or_false] at h8
    rcases h8 with h | h <;> rw [h] <;> rfl
  unfold funcE
  rw [if_neg (by omega), if_neg (by rw [hs]; simp), if_neg (by rw [inB_f]; omega), if_neg (by rw [hc]; simp), if_neg]
  rw [ht]
  have : (f.code.length == 0) = false := by simpa using (show f.code.length ≠ 0 by omega)
  rw [this]
  simp
theorem pr_okE {most : Nat} {p : List Fn} (h : PrOk most p) (hm : most ≤ 80) : progE p = 0 := by
  obtain ⟨h1, h2, h3, h4⟩ := h
  unfold progE
  rw [if_neg (by omega), if_neg (by omega), if_neg (by rw [h3]; simp)]
  exact firstE_zero (fun y hy => by
    obtain ⟨f, hf, rfl⟩ := List.mem_map.1 hy
    exact fn_okE (h4 f hf))
end Go.Proofs.YtdpcpiejbhjgoaaDoor.pm
namespace Go.Proofs.YtdpcpiejbhjgoaaDoor.pm
open Go.RowKit
set_option linter.unusedVariables false
set_option maxRecDepth 10000
attribute [local go_sem ↓] Go.wp_at_zero Go.wp_at_succ

theorem term_any (op : Int) (w : World) :
    Calls Tryd.prog 74 #[.int .i64 op] w fun e w' => e = .returned (.bool (termB op)) ∧ w = w' := by
  by_cases h1 : op = 20
  · subst h1
    go_enter Tryd.func74, Tryd.ntmps74
    go_wp2
    go_ret
    exact ⟨rfl, rfl⟩
  · by_cases h2 : op = 23
    · subst h2
      go_enter Tryd.func74, Tryd.ntmps74
      go_wp2
      go_ret
      exact ⟨rfl, rfl⟩
    · have b1 : (op == 20) = false := by simpa using h1
      have b2 : (op == 23) = false := by simpa using h2
      have HT : Hid (termB op = (op == 24)) := Lib.hid (by unfold termB; rw [b1, b2]; simp)
      clear h1 h2
      go_enter Tryd.func74, Tryd.ntmps74
      go_wp2
      go_ret
      exact ⟨ret_bool (by rw [HT.out]), rfl⟩
/-- the table of the shapes lies in block 0 -/
def Tb (w : World) : Prop := 0 < w.heap.size ∧ ∀ k, k < 25 → w.cell? ⟨0, k * 4, none⟩ = some (.int .i64 ((shp k).1 : Int)) ∧ w.cell? ⟨0, k * 4 + 1, none⟩ = some (.int .i64 ((shp k).2.1 : Int)) ∧ w.cell? ⟨0, k * 4 + 2, none⟩ = some (.int .i64 ((shp k).2.2.1 : Int)) ∧ w.cell? ⟨0, k * 4 + 3, none⟩ = some (.bool (shp k).2.2.2)
theorem Tb.keep {w w' : World} (h : Tb w) (hk : Kp 0 1 w w') (hs : w.heap.size ≤ w'.heap.size) : Tb w' := ⟨by have := h.1; omega, fun k hk' => by
  have e : ∀ o, w'.cell? ⟨0, o, none⟩ = w.cell? ⟨0, o, none⟩ := fun o => World.cell?_of_block (a := ⟨0, o, none⟩) (hk 0 (Nat.le_refl _) (by omega))
  rw [e, e, e, e]
  exact h.2 k hk'⟩
theorem Tb.below {w w' : World} (h : Tb w) (hb : Below w.heap.size w w') : Tb w' := h.keep (Kp.of_below hb h.1) hb.size
def bads (j ka kb kc : Nat) (a b c : Int) : Bool := (decide (0 < j) && badK ka a) || (decide (1 < j) && badK kb b) || (decide (2 < j) && badK kc c)
def outs (nf : Nat) (prm : Int) (ns nc j ka kb kc : Nat) (a b c : Int) : Bool := (decide (0 < j) && outK nf prm ns nc ka a) || (decide (1 < j) && outK nf prm ns nc kb b) || (decide (2 < j) && outK nf prm ns nc kc c)
def tgts (nf : Nat) (prm : Int) (ns nc j ka kb kc : Nat) (a b c : Int) : Bool := (decide (0 < j) && tgtK nf prm ns nc ka a) || (decide (1 < j) && tgtK nf prm ns nc kb b) || (decide (2 < j) && tgtK nf prm ns nc kc c)
theorem bads_0 (ka kb kc : Nat) (a b c : Int) : bads 0 ka kb kc a b c = false := by simp [bads]
theorem bads_1 (ka kb kc : Nat) (a b c : Int) : bads 1 ka kb kc a b c = (bads 0 ka kb kc a b c || badK ka a) := by simp [bads]
theorem bads_2 (ka kb kc : Nat) (a b c : Int) : bads 2 ka kb kc a b c = (bads 1 ka kb kc a b c || badK kb b) := by simp [bads]
theorem bads_3 (ka kb kc : Nat) (a b c : Int) : bads 3 ka kb kc a b c = (bads 2 ka kb kc a b c || badK kc c) := by simp [bads]
theorem outs_1 (nf : Nat) (prm : Int) (ns nc ka kb kc : Nat) (a b c : Int) : outs nf prm ns nc 1 ka kb kc a b c = (outs nf prm ns nc 0 ka kb kc a b c || outK nf prm ns nc ka a) := by simp [outs]
theorem outs_2 (nf : Nat) (prm : Int) (ns nc ka kb kc : Nat) (a b c : Int) : outs nf prm ns nc 2 ka kb kc a b c = (outs nf prm ns nc 1 ka kb kc a b c || outK nf prm ns nc kb b) := by simp [outs]
theorem outs_3 (nf : Nat) (prm : Int) (ns nc ka kb kc : Nat) (a b c : Int) : outs nf prm ns nc 3 ka kb kc a b c = (outs nf prm ns nc 2 ka kb kc a b c || outK nf prm ns nc kc c) := by simp [outs]
theorem tgts_1 (nf : Nat) (prm : Int) (ns nc ka kb kc : Nat) (a b c : Int) : tgts nf prm ns nc 1 ka kb kc a b c = (tgts nf prm ns nc 0 ka kb kc a b c || tgtK nf prm ns nc ka a) := by simp [tgts]
theorem tgts_2 (nf : Nat) (prm : Int) (ns nc ka kb kc : Nat) (a b c : Int) : tgts nf prm ns nc 2 ka kb kc a b c = (tgts nf prm ns nc 1 ka kb kc a b c || tgtK nf prm ns nc kb b) := by simp [tgts]
theorem tgts_3 (nf : Nat) (prm : Int) (ns nc ka kb kc : Nat) (a b c : Int) : tgts nf prm ns nc 3 ka kb kc a b c = (tgts nf prm ns nc 2 ka kb kc a b c || tgtK nf prm ns nc kc c) := by simp [tgts]
theorem lim_cell (nf : Nat) (prm : Int) (ns nc k : Nat) (h : k < 7) : (#[Value.int .i64 1, .int .i64 8, .int .i64 (ns : Int), .int .i64 (nf : Int), .int .i64 8, .int .i64 prm, .int .i64 (nc : Int)] : Array Value)[k]? = some (.int .i64 (lim nf prm ns nc k)) := by
  have : k = 0 ∨ k = 1 ∨ k = 2 ∨ k = 3 ∨ k = 4 ∨ k = 5 ∨ k = 6 := by omega
  rcases this with rfl | rfl | rfl | rfl | rfl | rfl | rfl <;> rfl
section
variable {nf : Nat} {prm : Int} {sl : List (Int × Int)} {nc o : Nat} {a b c im : Int}
theorem instrE_bad (h : inB (o : Int) 25 = true) (h2 : (badK (shp o).1 a || badK (shp o).2.1 b || badK (shp o).2.2.1 c) = true) : instrE nf prm sl nc ⟨(o : Int), a, b, c, im⟩ = 2 := by
  simp only [instrE, Int.toNat_natCast]
  rw [if_neg (by rw [h]; simp), if_pos h2]
theorem instrE_imm (h : inB (o : Int) 25 = true) (h2 : (badK (shp o).1 a || badK (shp o).2.1 b || badK (shp o).2.2.1 c) = false) (h3 : (!(shp o).2.2.2 && im != 0) = true) : instrE nf prm sl nc ⟨(o : Int), a, b, c, im⟩ = 2 := by
  simp only [instrE, Int.toNat_natCast]
  rw [if_neg (by rw [h]; simp), if_neg (by rw [h2]; simp), if_pos h3]
theorem instrE_out (h : inB (o : Int) 25 = true) (h2 : (badK (shp o).1 a || badK (shp o).2.1 b || badK (shp o).2.2.1 c) = false) (h3 : (!(shp o).2.2.2 && im != 0) = false) (h4 : (outK nf prm sl.length nc (shp o).1 a || outK nf prm sl.length nc (shp o).2.1 b || outK nf prm sl.length nc (shp o).2.2.1 c) = true) : instrE nf prm sl nc ⟨(o : Int), a, b, c, im⟩ = 4 := by
  simp only [instrE, Int.toNat_natCast]
  rw [if_neg (by rw [h]; simp), if_neg (by rw [h2]; simp), if_neg (by rw [h3]; simp), if_pos h4]
theorem instrE_end (h : inB (o : Int) 25 = true) (h2 : (badK (shp o).1 a || badK (shp o).2.1 b || badK (shp o).2.2.1 c) = false) (h3 : (!(shp o).2.2.2 && im != 0) = false) (h4 : (outK nf prm sl.length nc (shp o).1 a || outK nf prm sl.length nc (shp o).2.1 b || outK nf prm sl.length nc (shp o).2.2.1 c) = false) :
    instrE nf prm sl nc ⟨(o : Int), a, b, c, im⟩ = if ((o : Int) == 17 && (sl.getD a.toNat (0, 0)).1 != (sl.getD b.toNat (0, 0)).1) = true then 5 else if (tgtK nf prm sl.length nc (shp o).1 a || tgtK nf prm sl.length nc (shp o).2.1 b || tgtK nf prm sl.length nc (shp o).2.2.1 c) = true then 6 else 0 := by
  simp only [instrE, Int.toNat_natCast]
  rw [if_neg (by rw [h]; simp), if_neg (by rw [h2]; simp), if_neg (by rw [h3]; simp), if_neg (by rw [h4]; simp)]
end
theorem quiet_left' {P : Program} {f : FuncId} {args : Array Value} {w : World} {n : Nat} {v : Value} (h : Calls P f args (w.drewN n) fun e w' => e = .returned v ∧ w.drewN n = w') : Calls P f args (w.drewN n) fun e w'' => e = .returned v ∧ ∃ m, w'' = w.drewN m :=
  h.mono fun _ _ ⟨he, hm⟩ => ⟨he, n, hm.symm⟩
end Go.Proofs.YtdpcpiejbhjgoaaDoor.pm
namespace Go.Proofs.YtdpcpiejbhjgoaaDoor
open Go.RowKit
set_option linter.unusedVariables false
set_option maxRecDepth 10000

set_option maxRecDepth 10000 in
theorem size_any (x : Int) (h0 : -9223372036854775808 ≤ x) (h1 : x ≤ 9223372036854775807) (w : World) :
    Calls Tryd.prog 93 #[.int .i64 x] w fun e w' => e = .returned (.bool (sizeB x)) ∧ w = w' := by
  by_cases h : 1 ≤ x ∧ x ≤ 16
  · obtain ⟨h2, h3⟩ := h
    obtain ⟨n, rfl⟩ := Int.eq_ofNat_of_zero_le (show 0 ≤ x by omega)
    have hand := i64_and_nat n (n - 1) (by omega) (by omega)
    rw [show ((n - 1 : Nat) : Int) = (n : Int) - 1 by omega] at hand
    have HP := Lib.hid (sizeB_and n (by omega) (by omega))
    go_enter Tryd.func93, Tryd.ntmps93
    go_wp2
    go_ret
    exact ⟨ret_bool (by rw [← HP.out, Bool.eq_iff_iff, beq_iff_eq, decide_eq_true_iff]; omega), rfl⟩
  · have hp : sizeB x = false := by
      rcases hb : sizeB x with _ | _
      · rfl
      · have := (sizeB_iff x).1 hb
        omega
    have HP := Lib.hid hp
    have hx : x < 1 ∨ (1 ≤ x ∧ 16 < x) := by omega
    clear hp h
    rcases hx with h | ⟨h, h'⟩
    all_goals
      go_enter Tryd.func93, Tryd.ntmps93
      go_wp2
      go_ret
      exact ⟨ret_bool (by rw [HP.out]), rfl⟩
theorem refsize_any (x : Int) (h0 : -9223372036854775808 ≤ x) (h1 : x ≤ 9223372036854775807) (w : World) :
    Calls Tryd.prog 86 #[.int .i64 x] w fun e w' => e = .returned (.bool (sizeB x)) ∧ w = w' := by
  have HP : Hid (sizeB x = true ↔ x = 1 ∨ x = 2 ∨ x = 4 ∨ x = 8 ∨ x = 16) := sizeB_iff x
  go_enter Tryd.func86, Tryd.ntmps86
  go_wp2
  all_goals
    go_ret
    refine ⟨ret_bool ?_, rfl⟩
    rw [Bool.eq_iff_iff, HP.out]
    simp
    try omega

end Go.Proofs.YtdpcpiejbhjgoaaDoor
namespace Go.Proofs.YtdpcpiejbhjgoaaDoor
open Go.RowKit
set_option linter.unusedVariables false

set_option maxRecDepth 10000 in
theorem power_any (x : Int) (h0 : -9223372036854775808 ≤ x) (h1 : x ≤ 9223372036854775807) (w : World) :
    Calls Tryd.prog 50 #[.int .i64 x] w fun e w' => e = .returned (.bool (powB x)) ∧ w = w' := by
  by_cases h : 1 ≤ x ∧ x ≤ 16777216
  · obtain ⟨h2, h3⟩ := h
    obtain ⟨n, rfl⟩ := Int.eq_ofNat_of_zero_le (show 0 ≤ x by omega)
    have hand := i64_and_nat n (n - 1) (by omega) (by omega)
    rw [show ((n - 1 : Nat) : Int) = (n : Int) - 1 by omega] at hand
    have HP := Lib.hid (powB_and n (by omega) (by omega))
    go_enter Tryd.func50, Tryd.ntmps50
    go_wp2
    go_ret
    exact ⟨ret_bool (by rw [← HP.out, Bool.eq_iff_iff, beq_iff_eq, decide_eq_true_iff]; omega), rfl⟩
  · have hp : powB x = false := by
      rcases hb : powB x with _ | _
      · rfl
      · exact absurd (powB_range x hb) h
    have HP := Lib.hid hp
    have hx : x < 1 ∨ (1 ≤ x ∧ 16777216 < x) := by omega
    clear hp h
    rcases hx with h | ⟨h, h'⟩
    all_goals
      go_enter Tryd.func50, Tryd.ntmps50
      go_wp2
      go_ret
      exact ⟨ret_bool (by rw [HP.out]), rfl⟩

set_option maxRecDepth 10000 in
theorem refpower_any (x : Int) (h0 : -9223372036854775808 ≤ x) (h1 : x ≤ 9223372036854775807) (w : World) :
    Calls Tryd.prog 57 #[.int .i64 x] w fun e w' => e = .returned (.bool (powB x)) ∧ w = w' := by
  go_enter Tryd.func57, Tryd.ntmps57
  go_wp2
  go_loop [3] (fun v => ∃ j p : Nat, j ≤ 25 ∧ v = .int .i64 p ∧ Hid (p = 2 ^ j) ∧ p ≤ 33554432 ∧ Hid (∀ i, i < j → x ≠ ((2 ^ i : Nat) : Int))) (fun v => 33554433 - (intOf v).toNat)
  case atStart => exact ⟨0, 1, by omega, rfl, Lib.hid rfl, by omega, Lib.hid (fun i h => absurd h (by omega))⟩
  case round =>
    obtain ⟨j, p, hj, rfl, HP, hp, HN⟩ := hrel
    by_cases hj24 : j ≤ 24
    · have hp24 : p ≤ 16777216 := by rw [HP.out]; exact (pow24 hj24).2
      have hp1 : 1 ≤ p := by rw [HP.out]; exact (pow24 hj24).1
      by_cases hx : x = p
      · have hb : powB x = true := (powB_iff x).2 ⟨j, hj24, by rw [hx, HP.out]⟩
        have HB := Lib.hid hb
        have hbe : (x == (p : Int)) = true := by simpa using hx
        clear hb hx
        go_wp2
        go_ret
        exact ⟨ret_bool (by rw [HB.out]), rfl⟩
      · have hbe : (x == (p : Int)) = false := by simpa using hx
        have HX := Lib.hid hx
        clear hx
        go_wp2
        go_round
        case rel =>
          refine ⟨j + 1, p * 2, by omega, by go_num, Lib.hid (by rw [HP.out, Nat.pow_succ]), by omega, Lib.hid fun i hi => ?_⟩
          rcases Nat.lt_or_ge i j with h | h
          · exact HN.out i h
          · have : i = j := by omega
            rw [this, ← HP.out]
            exact HX.out
        case measure => simp [intOf]; omega
    · have hj25 : j = 25 := by omega
      have hp25 : p = 33554432 := by rw [HP.out, hj25]
      have hb : powB x = false := by
        rcases hb : powB x with _ | _
        · rfl
        · obtain ⟨k, hk, hx⟩ := (powB_iff x).1 hb
          exact absurd hx (HN.out k (by omega))
      have HB := Lib.hid hb
      have hp26 : 16777216 < p := by omega
      clear hb hj25 hp25
      go_wp2
      go_ret
      exact ⟨ret_bool (by rw [HB.out]), rfl⟩
end Go.Proofs.YtdpcpiejbhjgoaaDoor
namespace Go.Proofs.YtdpcpiejbhjgoaaDoor.pm
open Go.RowKit
set_option linter.unusedVariables false
set_option maxRecDepth 10000

def I64 (x : Int) : Prop := -9223372036854775808 ≤ x ∧ x ≤ 9223372036854775807
def badS (s : Int × Int) : Bool := !sizeB s.1 || !powB s.2
def IdxD (sl : List (Int × Int)) (w : World) (e : Ending) (w' : World) : Prop := ∃ r : Int, e = .returned (.int .i64 r) ∧ (r < 0 → ∀ s ∈ sl, badS s = false) ∧ (0 ≤ r → ∃ s ∈ sl, badS s = true) ∧ Below w.heap.size w w'
theorem mem_getD {α : Type} {l : List α} {k : Nat} {z : α} (h : k < l.length) : l.getD k z ∈ l := by
  rw [List.getD_eq_getElem?_getD, List.getElem?_eq_getElem h]
  exact List.getElem_mem h
end Go.Proofs.YtdpcpiejbhjgoaaDoor.pm
namespace Go.Proofs.YtdpcpiejbhjgoaaDoor.pm
open Go.RowKit
set_option linter.unusedVariables false
set_option maxRecDepth 10000

theorem blk_one {w : World} {g : Nat} {t : TypeId} {a : Value} (h : Blk w g t #[a]) : w.cell? ⟨g, 0, none⟩ = some a ∧ w.frozen? ⟨g, 0, none⟩ = false ∧ g < w.heap.size := ⟨Blk.cell h 0, Blk.frozen h 0, Blk.lt h⟩
def FnR (f : Fn) : Prop := ∀ s ∈ f.slots, I64 s.1 ∧ I64 s.2
section
variable {nf : Nat} {f : Fn}
theorem funcE_1 (h : 1024 < f.code.length) : funcE nf f = 3 := by unfold funcE; rw [if_pos h]
theorem funcE_2 (h : ¬ 1024 < f.code.length) (h2 : slotsE f.slots ≠ 0) : funcE nf f = slotsE f.slots := by unfold funcE; rw [if_neg h, if_pos h2]
theorem funcE_3 (h : ¬ 1024 < f.code.length) (h2 : slotsE f.slots = 0) (h3 : inB f.params 9 = false) : funcE nf f = 4 := by unfold funcE; rw [if_neg h, if_neg (by simpa using h2), if_pos h3]
theorem funcE_4 {k : Nat} (h : ¬ 1024 < f.code.length) (h2 : slotsE f.slots = 0) (h3 : inB f.params 9 = true) (hk : k < f.code.length) (h4 : ∀ j, j < k → instrE nf f.params f.slots f.code.length (f.code.getD j Ins.z) = 0) (h5 : instrE nf f.params f.slots f.code.length (f.code.getD k Ins.z) ≠ 0) :
    funcE nf f = instrE nf f.params f.slots f.code.length (f.code.getD k Ins.z) := by
  have e := firstE_take (f := instrE nf f.params f.slots f.code.length) hk h4 h5
  unfold funcE
  rw [if_neg h, if_neg (by simpa using h2), if_neg (by rw [h3]; simp), if_pos (by rw [e]; exact h5), e]
theorem funcE_5 (h : ¬ 1024 < f.code.length) (h2 : slotsE f.slots = 0) (h3 : inB f.params 9 = true) (h4 : ∀ j, j < f.code.length → instrE nf f.params f.slots f.code.length (f.code.getD j Ins.z) = 0) :
    funcE nf f = if (f.code.length == 0 || !termB (f.code.getD (f.code.length - 1) Ins.z).op) = true then 6 else 0 := by
  have e : firstE (f.code.map (instrE nf f.params f.slots f.code.length)) = 0 := firstE_zero (fun y hy => by
    obtain ⟨x, hx, rfl⟩ := List.mem_map.1 hy
    obtain ⟨j, hj, rfl⟩ := List.mem_iff_getElem.1 hx
    have := h4 j hj
    rw [List.getD_eq_getElem?_getD, List.getElem?_eq_getElem hj] at this
    exact this)
  unfold funcE
  rw [if_neg h, if_neg (by simpa using h2), if_neg (by rw [h3]; simp), if_neg (by simpa using e)]
end
theorem progE_4 {p : List Fn} {k : Nat} (h : ¬ 80 < p.length) (h2 : ¬ p.length = 0) (h3 : (p.getD 0 Fn.z).params = 0) (hk : k < p.length) (h4 : ∀ j, j < k → funcE p.length (p.getD j Fn.z) = 0) (h5 : funcE p.length (p.getD k Fn.z) ≠ 0) : progE p = funcE p.length (p.getD k Fn.z) := by
  unfold progE
  rw [if_neg h, if_neg h2, if_neg (by simpa using h3), firstE_take hk h4 h5]
theorem progE_5 {p : List Fn} (h : ¬ 80 < p.length) (h2 : ¬ p.length = 0) (h3 : (p.getD 0 Fn.z).params = 0) (h4 : ∀ j, j < p.length → funcE p.length (p.getD j Fn.z) = 0) : progE p = 0 := by
  unfold progE
  rw [if_neg h, if_neg h2, if_neg (by simpa using h3)]
  exact firstE_zero (fun y hy => by
    obtain ⟨x, hx, rfl⟩ := List.mem_map.1 hy
    obtain ⟨j, hj, rfl⟩ := List.mem_iff_getElem.1 hx
    have := h4 j hj
    rw [List.getD_eq_getElem?_getD, List.getElem?_eq_getElem hj] at this
    exact this)
end Go.Proofs.YtdpcpiejbhjgoaaDoor.pm
