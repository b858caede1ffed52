/- Contracts: mach.CheckFrame. -/
import Derived.Test.YtmeoabpigibaoaaKe
import Derived.Deep.CutBlock
namespace Go.Proofs.Ytmeoabpigibaoaa.pm
open Go.RowKit
set_option linter.unusedVariables false
set_option maxRecDepth 10000

theorem Gx.of_blk {w w' : World} {lo hi : Nat} {A : Option Addr} {t : List Fr} (h : Gx w lo hi A t) (hb : Below w.heap.size w w') (hh : hi ≤ w.heap.size) : Gx w' lo hi A t := h.keep (Kp.of_below hb hh)
set_option maxHeartbeats 1000000 in
theorem checkframe_out (al : Int) (A : Option Addr) (n ct : Nat) (i : Int) (hi : inB i n = false) (hn : n ≤ maxLen) (w : World) :
    Calls Try.prog 20 #[.agg #[.int .i64 al, .slice A n ct], .int .i64 i] w fun e w' => e = .returned (.int .i64 4) ∧ Below w.heap.size w w' := by
  go_enter Try.func20, Try.ntmps20
  go_wp2_with fail
  refine (of_out al A n ct i hi hn _).mono ?_
  rintro e w2 ⟨rfl, bel⟩
  have HB : Hid (Below w.heap.size w w2) := Lib.hid (((Below.refl w.heap.size w).alloc (Nat.le_refl _) _).trans (bel.mono (by simp)))
  clear bel
  go_wp2
  go_ret
  exact ⟨rfl, Below.al HB.out _⟩
set_option maxHeartbeats 4000000 in
theorem checkframe_in (al : Int) (t : List Fr) (A : Option Addr) (ct k : Nat) (hk : k < t.length) (h64 : I64 al) (w : World) (lo hi : Nat) (hg : Gx w lo hi A t) (hh : hi ≤ w.heap.size) (hm : t.length ≤ maxLen) (hr : FrR (t.getD k Fr.z)) :
    Calls Try.prog 20 #[.agg #[.int .i64 al, .slice A t.length ct], .int .i64 (k : Int)] w fun e w' => e = .returned (.int .i64 (frE t.length al (t.getD k Fr.z))) ∧ Below w.heap.size w w' := by
  obtain ⟨W1, hW1⟩ : ∃ W1, W1 = w.alloc (.cells #[.int .i64 al, .slice A t.length ct] 28) := ⟨_, rfl⟩
  have hB1 : Below w.heap.size w W1 := by rw [hW1]; exact (Below.refl _ _).alloc (Nat.le_refl _) _
  have HK1 : Hid (Blk W1 w.heap.size 28 #[.int .i64 al, .slice A t.length ct]) := Lib.hid (by rw [hW1]; exact Blk.new _ _ _)
  have hs1 := hB1.size
  obtain ⟨ad, Ai, ci, rfl, hb, c0, c1, c2, -, -, hnx, hml, hcl⟩ := (hg.of_blk hB1 hh).whole hk
  obtain ⟨f, hf⟩ : ∃ f, f = t.getD k Fr.z := ⟨_, rfl⟩
  rw [← hf] at c0 c1 c2 hnx hml hcl hr ⊢
  obtain ⟨prm, sz, code⟩ := f
  simp only at c0 c1 c2 hnx hml hcl
  obtain ⟨-, -, hrc⟩ := hr
  have HOF := Lib.hid (of_any al prm sz code t.length ct k code.length ci Ai ad h64 hk hm W1 (by omega) c0 c1 c2)
  have hni : (code.length : Int) ≤ 9223372036854775807 := by unfold maxLen at hml; omega
  have HNX := Lib.hid hnx
  have HRC := Lib.hid hrc
  have HB1 := Lib.hid hB1
  have HW1 := Lib.hid hW1
  clear c0 c1 c2 hnx hrc hB1 hW1 hg hf
  rcases hsh : shB al ⟨prm, sz, code⟩ with _ | _
  · have HE : Hid (frE t.length al ⟨prm, sz, code⟩ = 4) := Lib.hid (by unfold frE; rw [if_pos hsh])
    have HS := Lib.hid hsh
    clear hsh
    go_enter Try.func20, Try.ntmps20
    go_upto_region 1 with (fail)
    rw [← HW1.out]
    obtain ⟨x0, x1, -, -, xz⟩ := HK1.out.c2
    go_wp2_with fail
    refine HOF.out.mono ?_
    rintro e w2 ⟨rfl, bel⟩
    rw [HS.out]
    have HB : Hid (Below w.heap.size w w2) := Lib.hid (HB1.out.trans (bel.mono HB1.out.size))
    clear bel x0 x1 xz
    go_wp2
    go_ret
    exact ⟨ret_int (by rw [HE.out]), Below.al HB.out _⟩
  have HS := Lib.hid hsh
  by_cases hlen : 1024 < code.length
  · have HE : Hid (frE t.length al ⟨prm, sz, code⟩ = 3) := Lib.hid (by unfold frE; rw [if_neg (by rw [hsh]; simp), if_pos hlen])
    have hli : (1024 : Int) < (code.length : Int) := by omega
    clear hsh hlen
    go_enter Try.func20, Try.ntmps20
    go_upto_region 1 with (fail)
    rw [← HW1.out]
    obtain ⟨x0, x1, -, -, xz⟩ := HK1.out.c2
    go_wp2_with fail
    refine HOF.out.mono ?_
    rintro e w2 ⟨rfl, bel⟩
    rw [HS.out]
    have HB : Hid (Below w.heap.size w w2) := Lib.hid (HB1.out.trans (bel.mono HB1.out.size))
    clear bel x0 x1 xz
    go_wp2
    go_ret
    exact ⟨ret_int (by rw [HE.out]), Below.al HB.out _⟩
  have hli : (code.length : Int) ≤ 1024 := by omega
  obtain ⟨q0, q1⟩ : inB prm 9 = true ∧ inB sz 2147483520 = true := by
    unfold shB at hsh
    simp only [Bool.and_eq_true] at hsh
    exact ⟨hsh.1.1.2, hsh.1.2⟩
  obtain ⟨p0, p1⟩ := inB_t.1 q0
  obtain ⟨z0, z1⟩ := inB_t.1 q1
  have HE : Hid (frE t.length al ⟨prm, sz, code⟩ = if firstE (code.map (inE t.length prm sz code.length)) ≠ 0 then firstE (code.map (inE t.length prm sz code.length)) else
      if (code.length == 0 || !termB (code.getD (code.length - 1) Ins.z).op) = true then 6 else 0) := Lib.hid (by unfold frE; rw [if_neg (by rw [hsh]; simp), if_neg hlen])
  clear hsh hlen q0 q1
  go_enter Try.func20, Try.ntmps20
  go_upto_region 1 with (fail)
  rw [← HW1.out]
  obtain ⟨x0, x1, -, -, xz⟩ := HK1.out.c2
  go_wp2_with fail
  refine HOF.out.mono ?_
  rintro e w2 ⟨rfl, bel⟩
  rw [HS.out]
  have HB : Hid (Below w.heap.size w w2) := Lib.hid (HB1.out.trans (bel.mono HB1.out.size))
  have HN2 : Hid (Nx w2 lo hi Ai code) := Lib.hid (HNX.out.keep (Kp.of_below bel (by omega)))
  have hz2 : W1.heap.size ≤ w2.heap.size := bel.size
  clear bel x0 x1 xz HNX
  go_upto_region 2 with (fail)
  obtain ⟨W3, hW3⟩ : ∃ W3, W3 = w2.alloc (.cells #[.int .i64 prm, .int .i64 sz, .slice Ai code.length ci, .int .i64 al, .int .i64 (t.length : Int)] 62) := ⟨_, rfl⟩
  rw [← hW3]
  have HB3 : Hid (Below w.heap.size w W3) := Lib.hid (by rw [hW3]; exact Below.al HB.out _)
  have HN3 : Hid (Nx W3 lo hi Ai code) := Lib.hid (by rw [hW3]; exact HN2.out.keep (Kp.of_below ((Below.refl _ _).alloc (Nat.le_refl _) _) (by omega)))
  have HK3 : Hid (Blk W3 w2.heap.size 62 #[.int .i64 prm, .int .i64 sz, .slice Ai code.length ci, .int .i64 al, .int .i64 (t.length : Int)]) := Lib.hid (by rw [hW3]; exact Blk.new _ _ _)
  have hz3 : hi ≤ W3.heap.size := by rw [hW3]; simp; omega
  clear hW3 HB HN2 HK1 HW1 HOF hz2 hs1
  generalize w2.heap.size = gF at *
  obtain ⟨f0, f1, f2, f3, f4, -, -, -, -, -, fz⟩ := HK3.out.c5
  go_wp2
  go_loopw [30] (fun v wr => ∃ k : Nat, k ≤ code.length ∧ v = .int .i64 k ∧ Hid (∀ j, j < k → inE t.length prm sz code.length (code.getD j Ins.z) = 0) ∧ Hid (Below W3.heap.size W3 wr)) (fun v _ => code.length - (intOf v).toNat)
  case atStart => exact ⟨0, by omega, rfl, Lib.hid (fun j hj => by omega), Lib.hid (Below.refl _ _)⟩
  case round =>
    clear f0 f1 f2 f3 f4 fz
    obtain ⟨j, hj, rfl, HZ, HBr⟩ := hrel
    have hj0 : (0 : Int) ≤ (j : Int) := by omega
    obtain ⟨f0, f1, f2, f3, f4, -, -, -, -, -, fz⟩ := (HK3.out.after HBr.out).c5
    have hszr := HBr.out.size
    by_cases hlt : j < code.length
    · have hji : (j : Int) < (code.length : Int) := by omega
      obtain ⟨a1, rfl, hb1, y0, y1, y2, y3, y4⟩ := (HN3.out.keep (Kp.of_below HBr.out hz3)).whole hlt
      obtain ⟨x, hx⟩ : ∃ x, x = code.getD j Ins.z := ⟨_, rfl⟩
      have hxm : InR x := HRC.out x (by rw [hx]; exact getD_mem' hlt)
      rw [← hx] at y0 y1 y2 y3 y4
      have hb2 : (a1.add (j * 5)).block < wr.heap.size := by rw [block_of_add]; omega
      have HX := Lib.hid hx
      have HXM := Lib.hid hxm
      clear hx hxm
      obtain ⟨op, xa, xb, xc, im⟩ := x
      simp only at y0 y1 y2 y3 y4
      go_upto_region 9 with (fail)
      obtain ⟨W5, hW5⟩ : ∃ W5, W5 = wr.alloc (.cells #[.int .i64 op, .int .i64 xa, .int .i64 xb, .int .i64 xc, .int .u64 im] 42) := ⟨_, rfl⟩
      rw [← hW5]
      have HB5 : Hid (Below W3.heap.size W3 W5) := Lib.hid (by rw [hW5]; exact Below.al HBr.out _)
      have HK5 : Hid (Blk W5 wr.heap.size 42 #[.int .i64 op, .int .i64 xa, .int .i64 xb, .int .i64 xc, .int .u64 im]) := Lib.hid (by rw [hW5]; exact Blk.new _ _ _)
      clear hW5 f0 f1 f2 f3 f4 fz y0 y1 y2 y3 y4
      obtain ⟨f0, f1, f2, f3, f4, -, -, -, -, -, fz⟩ := (HK3.out.after HB5.out).c5
      obtain ⟨y0, y1, y2, y3, y4, -, -, -, -, -, yz⟩ := HK5.out.c5
      have HIN := Lib.hid (fun W => instr_any prm sz al t.length code.length ci (some a1) ⟨op, xa, xb, xc, im⟩ p0 (by omega) z0 z1 HXM.out hni W)
      go_wp2_with fail
      refine (HIN.out _).mono ?_
      rintro e w6 ⟨rfl, bel⟩
      have HB6 : Hid (Below W3.heap.size W3 w6) := Lib.hid (HB5.out.trans (bel.mono HB5.out.size))
      clear bel f0 f1 f2 f3 f4 fz y0 y1 y2 y3 y4 yz HB5 HK5
      by_cases hq : inE t.length prm sz code.length ⟨op, xa, xb, xc, im⟩ = 0
      · have HZ' : Hid (∀ i, i < j + 1 → inE t.length prm sz code.length (code.getD i Ins.z) = 0) := Lib.hid (fun i hi => by
          rcases Nat.lt_or_ge i j with h | h
          · exact HZ.out i h
          · obtain rfl : i = j := by omega
            rw [← HX.out]; exact hq)
        rw [hq]
        clear hq HZ
        go_wp2
        go_roundw
        case rel => exact ⟨j + 1, by omega, by go_num, HZ', HB6⟩
        case measure => simp [intOf]; omega
      · have HE' : Hid (frE t.length al ⟨prm, sz, code⟩ = inE t.length prm sz code.length ⟨op, xa, xb, xc, im⟩) := Lib.hid (by
          have h1 := firstE_take (f := inE t.length prm sz code.length) (z := Ins.z) hlt HZ.out (by rw [← HX.out]; exact hq)
          rw [← HX.out] at h1
          rw [HE.out, h1, if_pos hq])
        generalize inE t.length prm sz code.length ⟨op, xa, xb, xc, im⟩ = er at *
        have hne : (er != 0) = true := by simpa using hq
        go_wp2
        go_ret
        exact ⟨ret_int (by rw [HE'.out]), HB3.out.trans (HB6.out.mono HB3.out.size)⟩
    · obtain rfl : j = code.length := by omega
      have HZ0 : Hid (firstE (code.map (inE t.length prm sz code.length)) = 0) := Lib.hid (firstE_zero (fun y hy => by
        obtain ⟨u, hu, rfl⟩ := List.mem_map.1 hy
        obtain ⟨i, hi, rfl⟩ := List.mem_iff_getElem.1 hu
        have := HZ.out i hi
        rwa [List.getD_eq_getElem?_getD, List.getElem?_eq_getElem hi, Option.getD_some] at this))
      have HF : Hid (Below w.heap.size w wr) := Lib.hid (HB3.out.trans (HBr.out.mono HB3.out.size))
      clear HZ
      by_cases h0 : code.length = 0
      · have HE' : Hid (frE t.length al ⟨prm, sz, code⟩ = 6) := Lib.hid (by rw [HE.out, if_neg (by rw [HZ0.out]; simp), if_pos (by rw [h0]; rfl)])
        have hb0 : ((code.length : Int) == 0) = true := by simp [h0]
        clear h0
        go_wp2
        go_ret
        exact ⟨ret_int (by rw [HE'.out]), HF.out⟩
      · have hb0 : ((code.length : Int) == 0) = false := by rw [beq_eq_false_iff_ne]; omega
        have hlt : code.length - 1 < code.length := by omega
        have hlw : (code.length : Int) - 1 = ((code.length - 1 : Nat) : Int) := by omega
        obtain ⟨a1, rfl, hb1, y0, -⟩ := (HN3.out.keep (Kp.of_below HBr.out hz3)).whole hlt
        obtain ⟨lop, hlop⟩ : ∃ lop, lop = (code.getD (code.length - 1) Ins.z).op := ⟨_, rfl⟩
        rw [← hlop] at y0 HE
        clear hlop hlw
        have htn : ((code.length : Int) - 1).toNat = code.length - 1 := by omega
        have hp1 : (1 : Int) ≤ (code.length : Int) := by omega
        rcases ht : termB lop with _ | _
        · have HE' : Hid (frE t.length al ⟨prm, sz, code⟩ = 6) := Lib.hid (by rw [HE.out, if_neg (by rw [HZ0.out]; simp), ht]; simp)
          have HTB := Lib.hid ht
          clear HE h0 hlt ht
          go_wp2_with fail
          refine (term_any _ _).mono ?_
          rintro e w' ⟨rfl, rfl⟩
          rw [HTB.out]
          go_wp2
          go_ret
          exact ⟨ret_int (by rw [HE'.out]), HF.out⟩
        · have HE' : Hid (frE t.length al ⟨prm, sz, code⟩ = 0) := Lib.hid (by rw [HE.out, if_neg (by rw [HZ0.out]; simp), ht, show (code.length == 0) = false by rw [beq_eq_false_iff_ne]; omega]; rfl)
          have HTB := Lib.hid ht
          clear HE h0 hlt ht
          go_wp2_with fail
          refine (term_any _ _).mono ?_
          rintro e w' ⟨rfl, rfl⟩
          rw [HTB.out]
          go_wp2
          go_ret
          exact ⟨ret_int (by rw [HE'.out]), HF.out⟩
end Go.Proofs.Ytmeoabpigibaoaa.pm
