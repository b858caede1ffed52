/- SirLimits: plain mathematics, and rows of functions that are alike. -/
import Derived.Test.YtbnnkcndhljidaaDoorSc3
import Derived.Test.YtbnnkcndhljidaaDoorPd4
namespace Go.Proofs.YtbnnkcndhljidaaDoor.pm
open Go.RowKit
set_option linter.unusedVariables false
set_option maxRecDepth 10000

def rt : Ins := ⟨23, 0, 0, 0, 0⟩
def F0 : Fn := ⟨0, [], [rt]⟩
theorem rt_ok (nf : Nat) (prm : Int) (sl : List (Int × Int)) (nc : Nat) : instrE nf prm sl nc rt = 0 := by
  simp [rt, instrE, inB, shp, shps, badK, outK, tgtK, lim, lims]
theorem rts_ok (nf M : Nat) (q : Int) (h1 : 1 ≤ M) (h2 : M ≤ 1024) (hq : inB q 9 = true) : funcE nf ⟨q, [], List.replicate M rt⟩ = 0 := by
  have hl : (List.replicate M rt).length = M := List.length_replicate
  have e := funcE_5 (nf := nf) (f := ⟨q, [], List.replicate M rt⟩) (by show ¬ 1024 < (List.replicate M rt).length; rw [hl]; omega) rfl hq (fun j hj => by
    have : (List.replicate M rt).getD j Ins.z = rt := by
      have hj' : j < M := by have : j < (List.replicate M rt).length := hj; rwa [hl] at this
      rw [List.getD_eq_getElem?_getD, List.getElem?_replicate, if_pos hj']; rfl
    show instrE nf q [] _ ((List.replicate M rt).getD j Ins.z) = 0
    rw [this]; exact rt_ok _ _ _ _)
  rw [e]
  have h3 : (List.replicate M rt).getD ((List.replicate M rt).length - 1) Ins.z = rt := by
    rw [hl, List.getD_eq_getElem?_getD, List.getElem?_replicate, if_pos (by omega)]; rfl
  show (if ((List.replicate M rt).length == 0 || !termB ((List.replicate M rt).getD ((List.replicate M rt).length - 1) Ins.z).op) = true then (6 : Int) else 0) = 0
  rw [h3, hl, if_neg]
  have : (M == 0) = false := by rw [beq_eq_false_iff_ne]; omega
  rw [this]; decide
theorem F0_ok (nf : Nat) : funcE nf F0 = 0 := rts_ok nf 1 0 (by omega) (by omega) (by decide)
theorem lim_0 (m : Nat) (h : 1 ≤ m) : progE (List.replicate m F0) = if 80 < m then 3 else 0 := by
  have hl : (List.replicate m F0).length = m := List.length_replicate
  have hg : ∀ j, j < m → (List.replicate m F0).getD j Fn.z = F0 := fun j hj => by rw [List.getD_eq_getElem?_getD, List.getElem?_replicate, if_pos hj]; rfl
  by_cases h8 : 80 < m
  · rw [if_pos h8]; unfold progE; rw [if_pos (by rw [hl]; exact h8)]
  · rw [if_neg h8]
    exact progE_5 (by rw [hl]; exact h8) (by rw [hl]; omega) (by rw [hg 0 (by omega)]; rfl) (fun j hj => by rw [hl] at hj ⊢; rw [hg j hj]; exact F0_ok _)
theorem lim_1 (M : Nat) (h : 1 ≤ M) : progE [F0, ⟨0, [], List.replicate M rt⟩] = if 1024 < M then 3 else 0 := by
  by_cases h8 : 1024 < M
  · rw [if_pos h8]
    have h3 : funcE 2 ⟨0, [], List.replicate M rt⟩ = 3 := funcE_1 (by show 1024 < (List.replicate M rt).length; rw [List.length_replicate]; exact h8)
    have := progE_4 (p := [F0, ⟨0, [], List.replicate M rt⟩]) (k := 1) (by simp) (by simp) rfl (by simp) (fun j hj => by
      obtain rfl : j = 0 := by omega
      exact F0_ok 2) (by show funcE 2 ⟨0, [], List.replicate M rt⟩ ≠ 0; rw [h3]; omega)
    rw [this]; exact h3
  · rw [if_neg h8]
    refine progE_5 (by simp) (by simp) rfl (fun j hj => ?_)
    have hj' : j = 0 ∨ j = 1 := by simp at hj; omega
    rcases hj' with rfl | rfl
    · exact F0_ok 2
    · exact rts_ok 2 M 0 h (by omega) (by decide)
theorem lim_2 (q : Int) : progE [F0, ⟨q, [], [rt]⟩] = if inB q 9 = true then 0 else 4 := by
  rcases hq : inB q 9 with _ | _
  · rw [if_neg (by simp)]
    have h3 : funcE 2 ⟨q, [], [rt]⟩ = 4 := funcE_3 (by simp) rfl hq
    have := progE_4 (p := [F0, ⟨q, [], [rt]⟩]) (k := 1) (by simp) (by simp) rfl (by simp) (fun j hj => by
      obtain rfl : j = 0 := by omega
      exact F0_ok 2) (by show funcE 2 ⟨q, [], [rt]⟩ ≠ 0; rw [h3]; omega)
    rw [this]; exact h3
  · rw [if_pos rfl]
    refine progE_5 (by simp) (by simp) rfl (fun j hj => ?_)
    have hj' : j = 0 ∨ j = 1 := by simp at hj; omega
    rcases hj' with rfl | rfl
    · exact F0_ok 2
    · exact rts_ok 2 1 q (by omega) (by omega) hq
/-- a row of so many functions that are alike -/
def frow (A : Option Addr) (m : Nat) : List Value := (List.replicate m ()).flatMap fun _ => [.int .i64 0, .slice none 0 0, .slice A 1 1]
theorem frow_len (A : Option Addr) (m : Nat) : (frow A m).length = m * 3 := by
  unfold frow
  rw [flat_len (d := 3) (fun _ => rfl), List.length_replicate]
theorem frow_get (A : Option Addr) (m i j : Nat) (h : i < m) (hj : j < 3) : (frow A m)[i * 3 + j]? = ([.int .i64 0, .slice none 0 0, .slice A 1 1] : List Value)[j]? :=
  flat_get (f := fun _ : Unit => [Value.int .i64 0, .slice none 0 0, .slice A 1 1]) (d := 3) (fun _ => rfl) () (List.replicate m ()) i j (by simpa using h) hj
theorem frow_succ (A : Option Addr) (m : Nat) : frow A m ++ [.int .i64 0, .slice none 0 0, .slice A 1 1] = frow A (m + 1) := by
  unfold frow
  rw [List.replicate_succ', List.flatMap_append]; rfl
theorem frow_one (A : Option Addr) (m : Nat) : ∀ u ∈ frow A m, u.oneCell' = true := by
  intro u hu
  obtain ⟨x, _, h⟩ := List.mem_flatMap.1 hu
  simp at h
  rcases h with rfl | rfl | rfl <;> rfl
theorem frow_v {w : World} {lo hi : Nat} {A : Option Addr} (m : Nat) (hn : Nx w lo hi A [rt]) : Vx w lo hi (frow A m) (List.replicate m F0) := fun i hi => by
  rw [List.length_replicate] at hi
  have e : (List.replicate m F0).getD i Fn.z = F0 := by rw [List.getD_eq_getElem?_getD, List.getElem?_replicate, if_pos hi]; rfl
  rw [e]
  exact ⟨none, 0, A, 1, frow_get A m i 0 hi (by omega), frow_get A m i 1 hi (by omega), frow_get A m i 2 hi (by omega), Rx.nil _ _ _ _, hn, ⟨by simp [F0], by simp [F0]⟩, ⟨by simp [F0, maxLen], by simp [F0]⟩⟩
theorem inV_rep (l : List Ins) (k : Nat) (h : k < l.length) : (((((inV l).set (k * 5) (.int .i64 23)).set (k * 5 + 1) (.int .i64 0)).set (k * 5 + 2) (.int .i64 0)).set (k * 5 + 3) (.int .i64 0)).set (k * 5 + 4) (.int .u64 0) = inV (l.set k rt) := by
  have s0 := flat_set (j := 0) (v := .int .i64 23) (g := (fun x => ⟨23, x.a, x.b, x.c, x.imm⟩ : Ins → Ins)) icells_len (by omega) (fun x => rfl) Ins.z l k h
  have s1 := fun (m : List Ins) (hm : k < m.length) => flat_set (j := 1) (v := .int .i64 0) (g := (fun x => ⟨x.op, 0, x.b, x.c, x.imm⟩ : Ins → Ins)) icells_len (by omega) (fun x => rfl) Ins.z m k hm
  have s2 := fun (m : List Ins) (hm : k < m.length) => flat_set (j := 2) (v := .int .i64 0) (g := (fun x => ⟨x.op, x.a, 0, x.c, x.imm⟩ : Ins → Ins)) icells_len (by omega) (fun x => rfl) Ins.z m k hm
  have s3 := fun (m : List Ins) (hm : k < m.length) => flat_set (j := 3) (v := .int .i64 0) (g := (fun x => ⟨x.op, x.a, x.b, 0, x.imm⟩ : Ins → Ins)) icells_len (by omega) (fun x => rfl) Ins.z m k hm
  have s4 := fun (m : List Ins) (hm : k < m.length) => flat_set (j := 4) (v := .int .u64 0) (g := (fun x => ⟨x.op, x.a, x.b, x.c, 0⟩ : Ins → Ins)) icells_len (by omega) (fun x => rfl) Ins.z m k hm
  unfold inV
  rw [Nat.add_zero] at s0
  rw [s0, s1 _ (by simpa using h), s2 _ (by simpa using h), s3 _ (by simpa using h), s4 _ (by simpa using h)]
  rw [getD_set_same h]
  simp only [List.set_set]
  first | rfl | (simp only [getD_set_same h]; rfl)
theorem made_list (n : Nat) : (madeCells (Value.agg #[.int .i64 0, .int .i64 0, .int .i64 0, .int .i64 0, .int .u64 0]).cells (n * 5)).toList = inV (List.replicate n Ins.z) := by
  apply List.ext_getElem?
  intro j
  have hs : (Value.agg #[.int .i64 0, .int .i64 0, .int .i64 0, .int .i64 0, .int .u64 0]).cells.size = 5 := rfl
  by_cases hj : j < n * 5
  · have h1 := flat_get icells_len Ins.z (List.replicate n Ins.z) (j / 5) (j % 5) (by simp; omega) (Nat.mod_lt _ (by omega))
    rw [show j / 5 * 5 + j % 5 = j by omega] at h1
    unfold inV
    rw [h1, List.getD_eq_getElem?_getD, List.getElem?_replicate, if_pos (by omega)]
    simp [madeCells, hj, hs]
    have hm : j % 5 = 0 ∨ j % 5 = 1 ∨ j % 5 = 2 ∨ j % 5 = 3 ∨ j % 5 = 4 := by omega
    rcases hm with h | h | h | h | h <;> simp [h, icells, Ins.z, Value.cells]
  · have h2 : (inV (List.replicate n Ins.z)).length = n * 5 := by rw [inV_len, List.length_replicate]
    rw [List.getElem?_eq_none (by rw [Array.length_toList, size_madeCells]; omega), List.getElem?_eq_none (by rw [h2]; omega)]
theorem Vx.setCode {w : World} {lo hi : Nat} {vs : List Value} {p : List Fn} {i : Nat} (h : Vx w lo hi vs p) (hl : vs.length = p.length * 3) (hi' : i < p.length) {Ai : Option Addr} {ci : Nat} {code : List Ins} (hn : Nx w lo hi Ai code) (hc : code.length ≤ maxLen ∧ code.length ≤ ci) :
    Vx w lo hi (vs.set (i * 3 + 2) (.slice Ai code.length ci)) (p.set i ⟨(p.getD i Fn.z).params, (p.getD i Fn.z).slots, code⟩) := fun j hj => by
  rw [List.length_set] at hj
  by_cases e : j = i
  · subst e
    obtain ⟨As, cs, Ai', ci', h1, h2, h3, h4, h5, h6, h7⟩ := h j hj
    have e : (p.set j ⟨(p.getD j Fn.z).params, (p.getD j Fn.z).slots, code⟩).getD j Fn.z = ⟨(p.getD j Fn.z).params, (p.getD j Fn.z).slots, code⟩ := by simp [List.getD_eq_getElem?_getD, hj]
    rw [e]
    refine ⟨As, cs, Ai, ci, by rw [List.getElem?_set_ne (by omega)]; exact h1, by rw [List.getElem?_set_ne (by omega)]; exact h2, ?_, h4, hn, h6, hc⟩
    rw [List.getElem?_set_self (by omega)]
  · obtain ⟨As, cs, Ai', ci', h1, h2, h3, h4, h5, h6, h7⟩ := h j hj
    have e' : (p.set i ⟨(p.getD i Fn.z).params, (p.getD i Fn.z).slots, code⟩).getD j Fn.z = p.getD j Fn.z := by rw [List.getD_eq_getElem?_getD, List.getElem?_set_ne (Ne.symm e), ← List.getD_eq_getElem?_getD]
    rw [e']
    exact ⟨As, cs, Ai', ci', by rw [List.getElem?_set_ne (by omega)]; exact h1, by rw [List.getElem?_set_ne (by omega)]; exact h2, by rw [List.getElem?_set_ne (by omega)]; exact h3, h4, h5, h6, h7⟩
theorem rep_set (k M : Nat) (h : k < M) : (List.replicate k rt ++ List.replicate (M - k) Ins.z).set k rt = List.replicate (k + 1) rt ++ List.replicate (M - (k + 1)) Ins.z := by
  rw [List.set_append_right _ _ (by simp)]
  rw [show M - k = (M - (k + 1)) + 1 by omega, List.replicate_succ]
  simp [List.replicate_succ', List.append_assoc]
theorem rep_get (k M : Nat) (h : k < M) : (List.replicate k rt ++ List.replicate (M - k) Ins.z).getD k Ins.z = Ins.z := by
  rw [List.getD_eq_getElem?_getD, List.getElem?_append_right (by simp), List.length_replicate, Nat.sub_self, List.getElem?_replicate, if_pos (by omega)]
  rfl
theorem two_v {w : World} {lo hi : Nat} {A : Option Addr} {q : Int} (hn : Nx w lo hi A [rt]) : Vx w lo hi ((frow A 2).set 3 (.int .i64 q)) [F0, ⟨q, [], [rt]⟩] := fun i hi => by
  have hi2 : i = 0 ∨ i = 1 := by simp at hi; omega
  rcases hi2 with rfl | rfl
  · exact ⟨none, 0, A, 1, rfl, rfl, rfl, Rx.nil _ _ _ _, hn, ⟨by simp [F0], by simp [F0]⟩, ⟨by simp [F0, maxLen], by simp [F0]⟩⟩
  · exact ⟨none, 0, A, 1, rfl, rfl, rfl, Rx.nil _ _ _ _, hn, ⟨by simp, by simp⟩, ⟨by simp [maxLen], by simp⟩⟩
end Go.Proofs.YtbnnkcndhljidaaDoor.pm
