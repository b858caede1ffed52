/- Contracts: an instruction's check, whatever it is; mach.of, mach.CheckFrame. -/
import Derived.Test.YtmeoabpigibaoaaKci
import Derived.Test.YtmeoabpigibaoaaKcj
import Derived.Test.YtmeoabpigibaoaaKck
import Derived.Test.YtmeoabpigibaoaaKcl
import Derived.Test.YtmeoabpigibaoaaKd
import Derived.Deep.CutBlock
namespace Go.Proofs.Ytmeoabpigibaoaa.pm
open Go.RowKit
set_option linter.unusedVariables false
set_option maxRecDepth 10000

set_option maxHeartbeats 2000000 in
theorem instr_bad (fv : Array Value) (hfv : fv.size = 5) (nf nc : Nat) (prm sz : Int) (op a b c im : Int) (hop : inB op 25 = false ∨ op = 18 ∨ op = 19) (w : World) :
    Calls Try.prog 32 #[.agg fv, .agg #[.int .i64 op, .int .i64 a, .int .i64 b, .int .i64 c, .int .u64 im]] w fun e w' =>
      e = .returned (.int .i64 (inE nf prm sz nc ⟨op, a, b, c, im⟩)) ∧ Below w.heap.size w w' := by
  have HE : Hid (inE nf prm sz nc ⟨op, a, b, c, im⟩ = 4) := Lib.hid (by
    unfold inE
    rw [if_pos]
    rcases hop with h | rfl | rfl
    · show (!inB op 25 || _ || _) = true
      rw [h]; rfl
    · rfl
    · rfl)
  obtain ⟨f0, f1, f2, f3, f4, rfl⟩ : ∃ f0 f1 f2 f3 f4, fv = #[f0, f1, f2, f3, f4] := by
    rcases fv with ⟨l⟩
    match l, hfv with
    | [a, b, c, d, e], _ => exact ⟨a, b, c, d, e, rfl⟩
  obtain ⟨W2, hW2⟩ : ∃ W2, W2 = (w.alloc (.cells #[f0, f1, f2, f3, f4] 62)).alloc (.cells #[.int .i64 op, .int .i64 a, .int .i64 b, .int .i64 c, .int .u64 im] 42) := ⟨_, rfl⟩
  have HKX : Hid (Blk W2 (w.heap.size + 1) 42 #[.int .i64 op, .int .i64 a, .int .i64 b, .int .i64 c, .int .u64 im]) := Lib.hid (by rw [hW2]; exact Blk.newAt (by simp))
  have HB : Hid (Below w.heap.size w W2) := Lib.hid (by rw [hW2]; exact ((Below.refl _ _).alloc (Nat.le_refl _) _).alloc (by simp) _)
  have HW2 := Lib.hid hW2
  clear hW2
  rcases hop with h | h | h
  · have HI := Lib.hid h
    clear h
    go_enter Try.func32, Try.ntmps32
    go_upto_region 1 with (fail)
    rw [← HW2.out]
    clear HW2
    obtain ⟨x0, x1, x2, x3, x4, -, -, -, -, -, xz⟩ := HKX.out.c5
    go_wp2_with fail
    refine (mwithin_any _ _ _).mono ?_
    rintro e w1 ⟨rfl, rfl⟩
    rw [HI.out]
    go_wp2
    go_ret
    exact ⟨ret_int (by rw [HE.out]), HB.out⟩
  · subst h
    go_enter Try.func32, Try.ntmps32
    go_upto_region 1 with (fail)
    rw [← HW2.out]
    clear HW2
    obtain ⟨x0, x1, x2, x3, x4, -, -, -, -, -, xz⟩ := HKX.out.c5
    go_wp2_with fail
    refine (mwithin_any _ _ _).mono ?_
    rintro e w1 ⟨rfl, rfl⟩
    rw [show inB 18 25 = true from rfl]
    go_wp2
    go_ret
    exact ⟨ret_int (by rw [HE.out]), HB.out⟩
  · subst h
    go_enter Try.func32, Try.ntmps32
    go_upto_region 1 with (fail)
    rw [← HW2.out]
    clear HW2
    obtain ⟨x0, x1, x2, x3, x4, -, -, -, -, -, xz⟩ := HKX.out.c5
    go_wp2_with fail
    refine (mwithin_any _ _ _).mono ?_
    rintro e w1 ⟨rfl, rfl⟩
    rw [show inB 19 25 = true from rfl]
    go_wp2
    go_ret
    exact ⟨ret_int (by rw [HE.out]), HB.out⟩
theorem instr_any (prm sz al : Int) (nf nc ci : Nat) (Ai : Option Addr) (x : Ins) (p0 : 0 ≤ prm) (p1 : prm ≤ 8) (z0 : 0 ≤ sz) (z1 : sz < 2147483520) (hr : InR x) (hni : (nc : Int) ≤ 9223372036854775807) (w : World) :
    Calls Try.prog 32 #[.agg #[.int .i64 prm, .int .i64 sz, .slice Ai nc ci, .int .i64 al, .int .i64 (nf : Int)], .agg #[.int .i64 x.op, .int .i64 x.a, .int .i64 x.b, .int .i64 x.c, .int .u64 x.imm]] w fun e w' =>
      e = .returned (.int .i64 (inE nf prm sz nc x)) ∧ Below w.heap.size w w' := by
  obtain ⟨op, a, b, c, im⟩ := x
  by_cases h : inB op 25 = true
  · have h' := inB_t.1 h
    by_cases h15 : op = 15
    · exact instr_l15 prm sz al nf nc ci Ai op a b c im h15 p0 p1 z0 z1 hr hni w
    by_cases h16 : op = 16
    · exact instr_l16 prm sz al nf nc ci Ai op a b c im h16 p0 p1 z0 z1 hr hni w
    by_cases h17 : op = 17
    · exact instr_l17 prm sz al nf nc ci Ai op a b c im h17 p0 p1 z0 z1 hr hni w
    by_cases h18 : op = 18
    · exact instr_bad _ rfl nf nc prm sz op a b c im (.inr (.inl h18)) w
    by_cases h19 : op = 19
    · exact instr_bad _ rfl nf nc prm sz op a b c im (.inr (.inr h19)) w
    by_cases h20 : op = 20
    · exact instr_l20 prm sz al nf nc ci Ai op a b c im h20 p0 p1 z0 z1 hr hni w
    by_cases h21 : op = 21
    · exact instr_l21 prm sz al nf nc ci Ai op a b c im h21 p0 p1 z0 z1 hr hni w
    by_cases h22 : op = 22
    · exact instr_l22 prm sz al nf nc ci Ai op a b c im h22 p0 p1 z0 z1 hr hni w
    exact instr_other prm sz al nf nc ci Ai op a b c im ⟨h, by omega⟩ p0 p1 z0 z1 hr hni w
  · exact instr_bad _ rfl nf nc prm sz op a b c im (.inl (by simpa using h)) w
theorem powB_pos {al : Int} (h : powB al = true) : 1 ≤ al := by
  unfold powB at h
  obtain ⟨k, hk, he⟩ := List.any_eq_true.1 h
  have : al = ((2 ^ k : Nat) : Int) := by simpa using he
  have := Nat.pow_pos (n := k) (show 0 < 2 by decide)
  omega
theorem of_any (al prm sz : Int) (code : List Ins) (n ct k nc ci : Nat) (Ai : Option Addr) (ad : Addr) (h64 : I64 al) (hk : k < n) (hn : n ≤ maxLen) (w : World) (hb : ad.block < w.heap.size)
    (c0 : w.cell? (ad.add (k * 3)) = some (.int .i64 prm)) (c1 : w.cell? ⟨(ad.add (k * 3)).block, (ad.add (k * 3)).off + 1, none⟩ = some (.int .i64 sz)) (c2 : w.cell? ⟨(ad.add (k * 3)).block, (ad.add (k * 3)).off + 2, none⟩ = some (.slice Ai nc ci)) :
    Calls Try.prog 21 #[.agg #[.int .i64 al, .slice (some ad) n ct], .int .i64 (k : Int)] w fun e w' => e = .returned (.tuple #[.agg #[.int .i64 prm, .int .i64 sz, .slice Ai nc ci, .int .i64 al, .int .i64 (n : Int)], .bool (shB al ⟨prm, sz, code⟩)]) ∧ Below w.heap.size w w' := by
  rcases hp : powB al with _ | _
  · have : shB al ⟨prm, sz, code⟩ = false := by unfold shB; rw [hp]; rfl
    rw [this]
    exact of_p al prm sz n ct k nc ci Ai ad hp h64 hk hn w hb c0 c1 c2
  have hal := powB_pos hp
  rcases hq : inB prm 9 with _ | _
  · have : shB al ⟨prm, sz, code⟩ = false := by unfold shB; simp only; rw [hp, hq]; rfl
    rw [this]
    exact of_q al prm sz n ct k nc ci Ai ad hp hal hq h64 hk hn w hb c0 c1 c2
  rcases hs : inB sz 2147483520 with _ | _
  · have : shB al ⟨prm, sz, code⟩ = false := by unfold shB; simp only; rw [hp, hq, hs]; rfl
    rw [this]
    exact of_r al prm sz n ct k nc ci Ai ad hp hal hq hs h64 hk hn w hb c0 c1 c2
  · have s0 : 0 ≤ sz := (inB_t.1 hs).1
    have : shB al ⟨prm, sz, code⟩ = (sz.tmod al == 0) := by
      unfold shB; simp only; rw [hp, hq, hs, Int.tmod_eq_emod_of_nonneg s0]; rfl
    rw [this]
    exact of_ok al prm sz n ct k nc ci Ai ad hp hal hq hs s0 h64 hk hn w hb c0 c1 c2
end Go.Proofs.Ytmeoabpigibaoaa.pm
