/- Contracts: an instruction's check, whatever it is; mach.of, mach.CheckFrame. -/
import Derived.Test.YtcnndoefgjbmiaaGreatKci
import Derived.Test.YtcnndoefgjbmiaaGreatKd
set_option linter.unusedVariables false
set_option maxRecDepth 10000
set_option maxHeartbeats 8000000
namespace Go.Proofs.YtcnndoefgjbmiaaGreat.pm
open Go.RowKit
theorem instr_bad (fv : Array Value) (hfv : fv.size = 5) (nf nc : Nat) (prm sz : Int) (op a b c im : Int) (hop : inB op 25 = false ∨ op = 18 ∨ op = 19) (w : World) :
 Calls Tryz.prog 64 #[.agg fv, .agg #[.int .i64 op, .int .i64 a, .int .i64 b, .int .i64 c, .int .u64 im]] w fun e w' =>
  e = .returned (.int .i64 (inE nf prm sz nc ⟨op, a, b, c, im⟩)) ∧ Below w.heap.size w w' := by
 have HE : Hid (inE nf prm sz nc ⟨op, a, b, c, im⟩ = 4) := hQ (by
  unfold inE
  rw [if_pos]
  rcases hop with h | rfl | rfl
  · show (!inB op 25 || _ || _) = true
    rw [h]; rfl
  · rfl
  · rfl)
 obtain ⟨f0, f1, f2, f3, f4, rfl⟩ : ∃ f0 f1 f2 f3 f4, fv = #[f0, f1, f2, f3, f4] := by
  rcases fv with ⟨l⟩
  match l, hfv with
  | [a, b, c, d, e], _ => exact ⟨a, b, c, d, e, rfl⟩
 obtain ⟨W2, hW2⟩ : ∃ W2, W2 = (w.alloc (.cells #[f0, f1, f2, f3, f4] 109)).alloc (.cells #[.int .i64 op, .int .i64 a, .int .i64 b, .int .i64 c, .int .u64 im] 50) := ⟨_, rfl⟩
 have HKX : Hid (Blk W2 (w.heap.size + 1) 50 #[.int .i64 op, .int .i64 a, .int .i64 b, .int .i64 c, .int .u64 im]) := hQ (by rw [hW2]; exact Blk.newAt (by simp))
 have HB : Hid (Below w.heap.size w W2) := hQ (by rw [hW2]; exact (bR.alloc nL _).alloc (by simp) _)
 have HW2 := hQ hW2
 clear hW2
 rcases hop with h | h | h
 · have HI := hQ h
   clear h
   go_enter Tryz.func64, Tryz.ntmps64
   go_upto_region 1 with (fail)
   rw [← HW2.out]
   clear HW2
   obtain ⟨x0, x1, x2, x3, x4, -, -, -, -, -, xz⟩ := HKX.out.c5
   go_wp2_with fail
   refine (mwithin_any _ _ _).mono ?_
   rintro e w1 ⟨rfl, rfl⟩
   rw [HI.out]
   go_wp2
   go_ret
   exact ⟨ret_int (by rw [HE.out]), HB.out⟩
 · subst h
   go_enter Tryz.func64, Tryz.ntmps64
   go_upto_region 1 with (fail)
   rw [← HW2.out]
   clear HW2
   obtain ⟨x0, x1, x2, x3, x4, -, -, -, -, -, xz⟩ := HKX.out.c5
   go_wp2_with fail
   refine (mwithin_any _ _ _).mono ?_
   rintro e w1 ⟨rfl, rfl⟩
   rw [show inB 18 25 = true from rfl]
   go_wp2
   go_ret
   exact ⟨ret_int (by rw [HE.out]), HB.out⟩
 · subst h
   go_enter Tryz.func64, Tryz.ntmps64
   go_upto_region 1 with (fail)
   rw [← HW2.out]
   clear HW2
   obtain ⟨x0, x1, x2, x3, x4, -, -, -, -, -, xz⟩ := HKX.out.c5
   go_wp2_with fail
   refine (mwithin_any _ _ _).mono ?_
   rintro e w1 ⟨rfl, rfl⟩
   rw [show inB 19 25 = true from rfl]
   go_wp2
   go_ret
   exact ⟨ret_int (by rw [HE.out]), HB.out⟩
theorem minstr_any (prm sz al : Int) (nf nc ci : Nat) (Ai : Option Addr) (x : Ins) (p0 : 0 ≤ prm) (p1 : prm ≤ 8) (z0 : 0 ≤ sz) (z1 : sz < 2147483520) (hr : InR x) (hni : (nc : Int) ≤ 9223372036854775807) (w : World) :
 Calls Tryz.prog 64 #[.agg #[.int .i64 prm, .int .i64 sz, .slice Ai nc ci, .int .i64 al, .int .i64 (nf : Int)], .agg #[.int .i64 x.op, .int .i64 x.a, .int .i64 x.b, .int .i64 x.c, .int .u64 x.imm]] w fun e w' =>
  e = .returned (.int .i64 (inE nf prm sz nc x)) ∧ Below w.heap.size w w' := by
 obtain ⟨op, a, b, c, im⟩ := x
 by_cases h : inB op 25 = true
 · by_cases h18 : op = 18
   · exact instr_bad _ rfl nf nc prm sz op a b c im (.inr (.inl h18)) w
   by_cases h19 : op = 19
   · exact instr_bad _ rfl nf nc prm sz op a b c im (.inr (.inr h19)) w
   exact instr_in prm sz al nf nc ci Ai op a b c im h (by simpa using h18) (by simpa using h19) p0 p1 z0 z1 hr hni w
 · exact instr_bad _ rfl nf nc prm sz op a b c im (.inl (by simpa using h)) w
theorem powB_pos {al : Int} (h : powB al = true) : 1 ≤ al := by
 unfold powB at h
 obtain ⟨k, hk, he⟩ := List.any_eq_true.1 h
 have : al = ((2 ^ k : Nat) : Int) := by simpa using he
 have := Nat.pow_pos (n := k) (show 0 < 2 by decide)
 omega
theorem of_any (al prm sz : Int) (code : List Ins) (n ct k nc ci : Nat) (Ai : Option Addr) (ad : Addr) (h64 : I64 al) (hk : k < n) (hn : n ≤ maxLen) (w : World) (hb : ad.block < w.heap.size)
 (c0 : w.cell? (ad.add (k * 3)) = some (.int .i64 prm)) (c1 : w.cell? ⟨(ad.add (k * 3)).block, (ad.add (k * 3)).off + 1, none⟩ = some (.int .i64 sz)) (c2 : w.cell? ⟨(ad.add (k * 3)).block, (ad.add (k * 3)).off + 2, none⟩ = some (.slice Ai nc ci)) :
 Calls Tryz.prog 43 #[.agg #[.int .i64 al, .slice (some ad) n ct], .int .i64 (k : Int)] w fun e w' => e = .returned (.tuple #[.agg #[.int .i64 prm, .int .i64 sz, .slice Ai nc ci, .int .i64 al, .int .i64 (n : Int)], .bool (shB al ⟨prm, sz, code⟩)]) ∧ Below w.heap.size w w' := by
 have e : shB al ⟨prm, sz, code⟩ = (powB al && inB prm 9 && inB sz 2147483520 && (sz.tmod al == 0)) := by
  unfold shB
  simp only
  rcases hs : inB sz 2147483520 with _ | _
  · simp
  · rw [Int.tmod_eq_emod_of_nonneg (inB_t.1 hs).1]
 rw [e]
 exact of_in al prm sz n ct k nc ci Ai ad _ _ _ rfl rfl rfl (fun h => by have := powB_pos h; omega) h64 hk hn w hb c0 c1 c2
theorem Gx.of_blk {w w' : World} {lo hi : Nat} {A : Option Addr} {t : List Fr} (h : Gx w lo hi A t) (hb : Below w.heap.size w w') (hh : hi ≤ w.heap.size) : Gx w' lo hi A t := h.keep (Kp.of_below hb hh)
theorem checkframe_in (al : Int) (t : List Fr) (A : Option Addr) (ct k : Nat) (hk : k < t.length) (h64 : I64 al) (w : World) (lo hi : Nat) (hg : Gx w lo hi A t) (hh : hi ≤ w.heap.size) (hm : t.length ≤ maxLen) (hr : FrR (t.getD k Fr.z)) :
 Calls Tryz.prog 42 #[.agg #[.int .i64 al, .slice A t.length ct], .int .i64 (k : Int)] w fun e w' => e = .returned (.int .i64 (frE t.length al (t.getD k Fr.z))) ∧ Below w.heap.size w w' := by
 obtain ⟨W1, hW1⟩ : ∃ W1, W1 = w.alloc (.cells #[.int .i64 al, .slice A t.length ct] 26) := ⟨_, rfl⟩
 have hB1 : Below w.heap.size w W1 := by rw [hW1]; exact bR.alloc nL _
 have HK1 : Hid (Blk W1 w.heap.size 26 #[.int .i64 al, .slice A t.length ct]) := hQ (by rw [hW1]; exact Blk.new _ _ _)
 have hs1 := hB1.size
 obtain ⟨ad, Ai, ci, rfl, hb, c0, c1, c2, -, -, hnx, hml, hcl⟩ := (hg.of_blk hB1 hh).whole hk
 obtain ⟨f, hf⟩ : ∃ f, f = t.getD k Fr.z := ⟨_, rfl⟩
 rw [← hf] at c0 c1 c2 hnx hml hcl hr ⊢
 obtain ⟨prm, sz, code⟩ := f
 simp only at c0 c1 c2 hnx hml hcl
 obtain ⟨-, -, hrc⟩ := hr
 have HOF := hQ (of_any al prm sz code t.length ct k code.length ci Ai ad h64 hk hm W1 (by omega) c0 c1 c2)
 have hni : (code.length : Int) ≤ 9223372036854775807 := by unfold maxLen at hml; omega
 have HNX := hQ hnx
 have HRC := hQ hrc
 have HB1 := hQ hB1
 have HW1 := hQ hW1
 clear c0 c1 c2 hnx hrc hB1 hW1 hg hf
 rcases hsh : shB al ⟨prm, sz, code⟩ with _ | _
 · have HE : Hid (frE t.length al ⟨prm, sz, code⟩ = 4) := hQ (by unfold frE; rw [if_pos hsh])
   have HS := hQ hsh
   clear hsh
   go_enter Tryz.func42, Tryz.ntmps42
   go_upto_region 1 with (fail)
   rw [← HW1.out]
   obtain ⟨x0, x1, -, -, xz⟩ := HK1.out.c2
   go_wp2_with fail
   refine HOF.out.mono ?_
   rintro e w2 ⟨rfl, bel⟩
   rw [HS.out]
   have HB : Hid (Below w.heap.size w w2) := hQ (HB1.out.trans (bel.mono HB1.out.size))
   clear bel x0 x1 xz
   go_wp2
   go_ret
   exact ⟨ret_int (by rw [HE.out]), Below.al HB.out _⟩
 have HS := hQ hsh
 by_cases hlen : 1024 < code.length
 · have HE : Hid (frE t.length al ⟨prm, sz, code⟩ = 3) := hQ (by unfold frE; rw [if_neg (by rw [hsh]; simp), if_pos hlen])
   have hli : (1024 : Int) < (code.length : Int) := by omega
   clear hsh hlen
   go_enter Tryz.func42, Tryz.ntmps42
   go_upto_region 1 with (fail)
   rw [← HW1.out]
   obtain ⟨x0, x1, -, -, xz⟩ := HK1.out.c2
   go_wp2_with fail
   refine HOF.out.mono ?_
   rintro e w2 ⟨rfl, bel⟩
   rw [HS.out]
   have HB : Hid (Below w.heap.size w w2) := hQ (HB1.out.trans (bel.mono HB1.out.size))
   clear bel x0 x1 xz
   go_wp2
   go_ret
   exact ⟨ret_int (by rw [HE.out]), Below.al HB.out _⟩
 have hli : (code.length : Int) ≤ 1024 := by omega
 obtain ⟨q0, q1⟩ : inB prm 9 = true ∧ inB sz 2147483520 = true := by
  unfold shB at hsh
  simp only [Bool.and_eq_true] at hsh
  exact ⟨hsh.1.1.2, hsh.1.2⟩
 obtain ⟨p0, p1⟩ := inB_t.1 q0
 obtain ⟨z0, z1⟩ := inB_t.1 q1
 have HE : Hid (frE t.length al ⟨prm, sz, code⟩ = if firstE (code.map (inE t.length prm sz code.length)) ≠ 0 then firstE (code.map (inE t.length prm sz code.length)) else
  if (code.length == 0 || !termB (code.getD (code.length - 1) Ins.z).op) = true then 6 else 0) := hQ (by unfold frE; rw [if_neg (by rw [hsh]; simp), if_neg hlen])
 clear hsh hlen q0 q1
 go_enter Tryz.func42, Tryz.ntmps42
 go_upto_region 1 with (fail)
 rw [← HW1.out]
 obtain ⟨x0, x1, -, -, xz⟩ := HK1.out.c2
 go_wp2_with fail
 refine HOF.out.mono ?_
 rintro e w2 ⟨rfl, bel⟩
 rw [HS.out]
 have HB : Hid (Below w.heap.size w w2) := hQ (HB1.out.trans (bel.mono HB1.out.size))
 have HN2 : Hid (Nx w2 lo hi Ai code) := hQ (HNX.out.keep (Kp.of_below bel (by omega)))
 have hz2 : W1.heap.size ≤ w2.heap.size := bel.size
 clear bel x0 x1 xz HNX
 go_upto_region 2 with (fail)
 obtain ⟨W3, hW3⟩ : ∃ W3, W3 = w2.alloc (.cells #[.int .i64 prm, .int .i64 sz, .slice Ai code.length ci, .int .i64 al, .int .i64 (t.length : Int)] 109) := ⟨_, rfl⟩
 rw [← hW3]
 have HB3 : Hid (Below w.heap.size w W3) := hQ (by rw [hW3]; exact Below.al HB.out _)
 have HN3 : Hid (Nx W3 lo hi Ai code) := hQ (by rw [hW3]; exact HN2.out.keep (Kp.of_below (bR.alloc nL _) (by omega)))
 have HK3 : Hid (Blk W3 w2.heap.size 109 #[.int .i64 prm, .int .i64 sz, .slice Ai code.length ci, .int .i64 al, .int .i64 (t.length : Int)]) := hQ (by rw [hW3]; exact Blk.new _ _ _)
 have hz3 : hi ≤ W3.heap.size := by rw [hW3]; simp; omega
 clear hW3 HB HN2 HK1 HW1 HOF hz2 hs1
 generalize w2.heap.size = gF at *
 obtain ⟨f0, f1, f2, f3, f4, -, -, -, -, -, fz⟩ := HK3.out.c5
 go_wp2
 go_loopw [30] (fun v wr => ∃ k : Nat, k ≤ code.length ∧ v = .int .i64 k ∧ Hid (∀ j, j < k → inE t.length prm sz code.length (code.getD j Ins.z) = 0) ∧ Hid (Below W3.heap.size W3 wr)) (fun v _ => code.length - (intOf v).toNat)
 case atStart => exact ⟨0, by omega, rfl, hQ (fun j hj => by omega), hQ bR⟩
 case round =>
  clear f0 f1 f2 f3 f4 fz
  obtain ⟨j, hj, rfl, HZ, HBr⟩ := hrel
  have hj0 : (0 : Int) ≤ (j : Int) := by omega
  obtain ⟨f0, f1, f2, f3, f4, -, -, -, -, -, fz⟩ := (HK3.out.after HBr.out).c5
  have hszr := HBr.out.size
  by_cases hlt : j < code.length
  · have hji : (j : Int) < (code.length : Int) := by omega
    obtain ⟨a1, rfl, hb1, y0, y1, y2, y3, y4⟩ := (HN3.out.keep (Kp.of_below HBr.out hz3)).whole hlt
    obtain ⟨x, hx⟩ : ∃ x, x = code.getD j Ins.z := ⟨_, rfl⟩
    have hxm : InR x := HRC.out x (by rw [hx]; exact getD_mem' hlt)
    rw [← hx] at y0 y1 y2 y3 y4
    have hb2 : (a1.add (j * 5)).block < wr.heap.size := by rw [block_of_add]; omega
    have HX := hQ hx
    have HXM := hQ hxm
    clear hx hxm
    obtain ⟨op, xa, xb, xc, im⟩ := x
    simp only at y0 y1 y2 y3 y4
    go_upto_region 9 with (fail)
    obtain ⟨W5, hW5⟩ : ∃ W5, W5 = wr.alloc (.cells #[.int .i64 op, .int .i64 xa, .int .i64 xb, .int .i64 xc, .int .u64 im] 50) := ⟨_, rfl⟩
    rw [← hW5]
    have HB5 : Hid (Below W3.heap.size W3 W5) := hQ (by rw [hW5]; exact Below.al HBr.out _)
    have HK5 : Hid (Blk W5 wr.heap.size 50 #[.int .i64 op, .int .i64 xa, .int .i64 xb, .int .i64 xc, .int .u64 im]) := hQ (by rw [hW5]; exact Blk.new _ _ _)
    clear hW5 f0 f1 f2 f3 f4 fz y0 y1 y2 y3 y4
    obtain ⟨f0, f1, f2, f3, f4, -, -, -, -, -, fz⟩ := (HK3.out.after HB5.out).c5
    obtain ⟨y0, y1, y2, y3, y4, -, -, -, -, -, yz⟩ := HK5.out.c5
    have HIN := hQ (fun W => minstr_any prm sz al t.length code.length ci (some a1) ⟨op, xa, xb, xc, im⟩ p0 (by omega) z0 z1 HXM.out hni W)
    go_wp2_with fail
    refine (HIN.out _).mono ?_
    rintro e w6 ⟨rfl, bel⟩
    have HB6 : Hid (Below W3.heap.size W3 w6) := hQ (HB5.out.trans (bel.mono HB5.out.size))
    clear bel f0 f1 f2 f3 f4 fz y0 y1 y2 y3 y4 yz HB5 HK5
    by_cases hq : inE t.length prm sz code.length ⟨op, xa, xb, xc, im⟩ = 0
    · have HZ' : Hid (∀ i, i < j + 1 → inE t.length prm sz code.length (code.getD i Ins.z) = 0) := hQ (fun i hi => by
       rcases Nat.lt_or_ge i j with h | h
       · exact HZ.out i h
       · obtain rfl : i = j := by omega
         rw [← HX.out]; exact hq)
      rw [hq]
      clear hq HZ
      go_wp2
      go_roundw
      case rel => exact ⟨j + 1, by omega, by go_num, HZ', HB6⟩
      case measure => simp [intOf]; omega
    · have HE' : Hid (frE t.length al ⟨prm, sz, code⟩ = inE t.length prm sz code.length ⟨op, xa, xb, xc, im⟩) := hQ (by
       have h1 := firstE_take (f := inE t.length prm sz code.length) (z := Ins.z) hlt HZ.out (by rw [← HX.out]; exact hq)
       rw [← HX.out] at h1
       rw [HE.out, h1, if_pos hq])
      generalize inE t.length prm sz code.length ⟨op, xa, xb, xc, im⟩ = er at *
      have hne : (er != 0) = true := by simpa using hq
      go_wp2
      go_ret
      exact ⟨ret_int (by rw [HE'.out]), HB3.out.trans (HB6.out.mono HB3.out.size)⟩
  · obtain rfl : j = code.length := by omega
    have HZ0 : Hid (firstE (code.map (inE t.length prm sz code.length)) = 0) := hQ (firstE_zero (fun y hy => by
     obtain ⟨u, hu, rfl⟩ := List.mem_map.1 hy
     obtain ⟨i, hi, rfl⟩ := List.mem_iff_getElem.1 hu
     have := HZ.out i hi
     rwa [List.getD_eq_getElem?_getD, List.getElem?_eq_getElem hi, Option.getD_some] at this))
    have HF : Hid (Below w.heap.size w wr) := hQ (HB3.out.trans (HBr.out.mono HB3.out.size))
    clear HZ
    by_cases h0 : code.length = 0
    · have HE' : Hid (frE t.length al ⟨prm, sz, code⟩ = 6) := hQ (by rw [HE.out, if_neg (by rw [HZ0.out]; simp), if_pos (by rw [h0]; rfl)])
      have hb0 : ((code.length : Int) == 0) = true := by simp [h0]
      clear h0
      go_wp2
      go_ret
      exact ⟨ret_int (by rw [HE'.out]), HF.out⟩
    · have hb0 : ((code.length : Int) == 0) = false := by rw [beq_eq_false_iff_ne]; omega
      have hlt : code.length - 1 < code.length := by omega
      have hlw : (code.length : Int) - 1 = ((code.length - 1 : Nat) : Int) := by omega
      obtain ⟨a1, rfl, hb1, y0, -⟩ := (HN3.out.keep (Kp.of_below HBr.out hz3)).whole hlt
      obtain ⟨lop, hlop⟩ : ∃ lop, lop = (code.getD (code.length - 1) Ins.z).op := ⟨_, rfl⟩
      rw [← hlop] at y0 HE
      clear hlop hlw
      have htn : ((code.length : Int) - 1).toNat = code.length - 1 := by omega
      have hp1 : (1 : Int) ≤ (code.length : Int) := by omega
      rcases ht : termB lop with _ | _
      · have HE' : Hid (frE t.length al ⟨prm, sz, code⟩ = 6) := hQ (by rw [HE.out, if_neg (by rw [HZ0.out]; simp), ht]; simp)
        have HTB := hQ ht
        clear HE h0 hlt ht
        go_wp2_with fail
        refine (term_any _ _).mono ?_
        rintro e w' ⟨rfl, rfl⟩
        rw [HTB.out]
        go_wp2
        go_ret
        exact ⟨ret_int (by rw [HE'.out]), HF.out⟩
      · have HE' : Hid (frE t.length al ⟨prm, sz, code⟩ = 0) := hQ (by rw [HE.out, if_neg (by rw [HZ0.out]; simp), ht, show (code.length == 0) = false by rw [beq_eq_false_iff_ne]; omega]; rfl)
        have HTB := hQ ht
        clear HE h0 hlt ht
        go_wp2_with fail
        refine (term_any _ _).mono ?_
        rintro e w' ⟨rfl, rfl⟩
        rw [HTB.out]
        go_wp2
        go_ret
        exact ⟨ret_int (by rw [HE'.out]), HF.out⟩
section
variable {al prm sz : Int} {t : List Fr} {A Ai : Option Addr} {n ct nc ci gt gf nf lo hi : Nat}
theorem calls1_any (x : Ins) (hx : x.op = 22 → inB x.a t.length = true) (hp : ∀ f ∈ t, 0 ≤ f.params ∧ f.params ≤ 8) (hm : t.length ≤ maxLen) (w : World) (hT : Blk w gt 26 #[.int .i64 al, .slice A t.length ct]) (hF : Blk w gf 109 #[.int .i64 prm, .int .i64 sz, .slice Ai nc ci, .int .i64 al, .int .i64 (nf : Int)]) (hg : Gx w lo hi A t) (hh : hi ≤ w.heap.size) :
 Calls Tryz.prog 68 #[insV x, .pointer (some ⟨gt, 0, none⟩), .pointer (some ⟨gf, 0, none⟩)] w fun e w' => e = .returned (.bool (!roomB t sz x)) ∧ Below w.heap.size w w' := by
 obtain ⟨op, xa, xb, xc, im⟩ := x
 unfold insV
 simp only at hx
 obtain ⟨W1, hW1⟩ : ∃ W1, W1 = w.alloc (.cells #[.int .i64 op, .int .i64 xa, .int .i64 xb, .int .i64 xc, .int .u64 im] 50) := ⟨_, rfl⟩
 have hB1 : Below w.heap.size w W1 := by rw [hW1]; exact bR.alloc nL _
 have HKX : Hid (Blk W1 w.heap.size 50 #[.int .i64 op, .int .i64 xa, .int .i64 xb, .int .i64 xc, .int .u64 im]) := hQ (by rw [hW1]; exact Blk.new _ _ _)
 obtain ⟨t0, t1, -, -, tz⟩ := (hT.after hB1).c2
 obtain ⟨f0, f1, f2, f3, f4, -, -, -, -, -, fz⟩ := (hF.after hB1).c5
 obtain ⟨x0, x1, x2, x3, x4, -, -, -, -, -, xz⟩ := HKX.out.c5
 have HB1 := hQ hB1
 have HW1 := hQ hW1
 by_cases h22 : op = 22
 · subst h22
   have hi' := inB_t.1 (hx rfl)
   obtain ⟨ha0, ha1⟩ := hi'
   have hk : xa.toNat < t.length := by omega
   obtain ⟨ad, As', cs', rfl, hb, c0, -⟩ := (hg.of_blk hB1 hh).whole hk
   have hxa : ((xa.toNat : Nat) : Int) = xa := by omega
   obtain ⟨k, hkx⟩ : ∃ k, k = xa.toNat := ⟨_, rfl⟩
   have hpk := hp _ (getD_mem' (z := Fr.z) hk)
   have HR : Hid (roomB t sz ⟨22, xa, xb, xc, im⟩ = !decide (sz < 16 * (t.getD xa.toNat Fr.z).params)) := hQ rfl
   obtain ⟨q, hq⟩ : ∃ q, q = (t.getD xa.toNat Fr.z).params := ⟨_, rfl⟩
   rw [← hq] at c0 hpk HR
   rw [← hkx] at c0
   obtain ⟨q0, q1⟩ := hpk
   have hxk : xa = (k : Int) := by omega
   have hni : (t.length : Int) ≤ 9223372036854775807 := by unfold maxLen at hm; omega
   have hk0 : (0 : Int) ≤ (k : Int) := by omega
   have hk1 : (k : Int) < (t.length : Int) := by omega
   subst hxk
   clear hW1 hB1 hT hF hg hx hp hm hh hkx hq hxa
   go_enter Tryz.func68, Tryz.ntmps68
   go_upto_region 1 with (fail)
   rw [← HW1.out]
   go_quiet (fail)
   go_wp2
   go_ret
   exact ⟨ret_bool (by rw [HR.out]; simp), below_drewN HB1.out _⟩
 · have h22' : (op == 22) = false := by rw [beq_eq_false_iff_ne]; exact h22
   have HR : Hid (roomB t sz ⟨op, xa, xb, xc, im⟩ = true) := hQ (by unfold roomB; simp only; rw [h22']; rfl)
   clear hW1 hB1 hT hF hg hx hp hm hh h22
   go_enter Tryz.func68, Tryz.ntmps68
   go_upto_region 1 with (fail)
   rw [← HW1.out]
   go_quiet (fail)
   go_wp2
   go_ret
   exact ⟨ret_bool (by rw [HR.out]; rfl), below_drewN HB1.out _⟩
def AllD (b : Bool) (w : World) (e : Ending) (w' : World) : Prop := ∃ r : Int, e = .returned (.int .i64 r) ∧ ((b = false → 0 ≤ r) ∧ (b = true → r = -1)) ∧ Below w.heap.size w w'
theorem index_code (code : List Ins) (hx : ∀ x ∈ code, x.op = 22 → inB x.a t.length = true) (hp : ∀ f ∈ t, 0 ≤ f.params ∧ f.params ≤ 8) (hm : t.length ≤ maxLen) (hmc : code.length ≤ maxLen) (w : World) (hT : Blk w gt 26 #[.int .i64 al, .slice A t.length ct]) (hF : Blk w gf 109 #[.int .i64 prm, .int .i64 sz, .slice Ai code.length ci, .int .i64 al, .int .i64 (nf : Int)]) (hg : Gx w lo hi A t) (hn : Nx w lo hi Ai code) (hh : hi ≤ w.heap.size) :
 Calls Tryz.prog 99 #[.slice Ai code.length ci, .func (.func 68) #[] #[.pointer (some ⟨gt, 0, none⟩), .pointer (some ⟨gf, 0, none⟩)]] w (AllD (code.all (roomB t sz)) w) := by
 have HT := hQ hT
 have HF := hQ hF
 have HG := hQ hg
 have HN := hQ hn
 have HX := hQ hx
 have HP := hQ hp
 have hni : (code.length : Int) ≤ 9223372036854775807 := by unfold maxLen at hmc; omega
 clear hT hF hg hn hx hp
 go_enter Tryz.func99, Tryz.ntmps99
 go_wp2
 go_loopw [8] (fun v wr => ∃ k : Nat, k ≤ code.length ∧ v = .int .i64 k ∧ Hid (∀ j, j < k → roomB t sz (code.getD j Ins.z) = true) ∧ Hid (Below w.heap.size w wr)) (fun v _ => code.length - (intOf v).toNat)
 case atStart => exact ⟨0, by omega, rfl, hQ (fun j hj => by omega), hQ bR⟩
 case round =>
  obtain ⟨j, hj, rfl, HZ, HB⟩ := hrel
  have hj0 : (0 : Int) ≤ (j : Int) := by omega
  have hszr := HB.out.size
  by_cases hlt : j < code.length
  · have hji : (j : Int) < (code.length : Int) := by omega
    obtain ⟨a1, rfl, hb1, y0, y1, y2, y3, y4⟩ := (HN.out.keep (Kp.of_below HB.out hh)).whole hlt
    obtain ⟨x, hx⟩ : ∃ x, x = code.getD j Ins.z := ⟨_, rfl⟩
    have hxm : x ∈ code := by rw [hx]; exact getD_mem' hlt
    rw [← hx] at y0 y1 y2 y3 y4
    have HXX := hQ hx
    have HCL := hQ (calls1_any (al := al) (prm := prm) (sz := sz) x (HX.out x hxm) HP.out hm wr (HT.out.after HB.out) (HF.out.after HB.out) (HG.out.of_blk HB.out hh) (by omega))
    clear hx hxm
    go_wp2_with fail
    refine HCL.out.mono ?_
    rintro e w6 ⟨rfl, bel⟩
    have HB6 : Hid (Below w.heap.size w w6) := hQ (HB.out.trans (bel.mono HB.out.size))
    clear bel y0 y1 y2 y3 y4
    rcases hq : roomB t sz x with _ | _
    · have HA : Hid (code.all (roomB t sz) = false) := hQ (by
       rw [List.all_eq_false]
       exact ⟨x, by rw [HXX.out]; exact getD_mem' hlt, by rw [hq]; simp⟩)
      clear hq HZ
      go_wp2
      go_ret
      exact ⟨_, rfl, ⟨fun _ => hj0, fun h => by rw [HA.out] at h; cases h⟩, HB6.out⟩
    · have HZ' : Hid (∀ i, i < j + 1 → roomB t sz (code.getD i Ins.z) = true) := hQ (fun i hi => by
       rcases Nat.lt_or_ge i j with h | h
       · exact HZ.out i h
       · obtain rfl : i = j := by omega
         rw [← HXX.out]; exact hq)
      clear hq HZ HXX
      go_wp2
      go_roundw
      case rel => exact ⟨j + 1, by omega, by go_num, HZ', HB6⟩
      case measure => simp [intOf]; omega
  · obtain rfl : j = code.length := by omega
    have HA : Hid (code.all (roomB t sz) = true) := hQ (List.all_eq_true.2 (fun r hr => by
     obtain ⟨j, hj, rfl⟩ := List.mem_iff_getElem.1 hr
     have := HZ.out j hj
     rwa [List.getD_eq_getElem?_getD, List.getElem?_eq_getElem hj, Option.getD_some] at this))
    clear HZ
    go_wp2
    go_ret
    exact ⟨-1, rfl, ⟨fun h => (by rw [HA.out] at h; cases h), fun _ => rfl⟩, HB.out⟩
theorem contains_code (code : List Ins) (hx : ∀ x ∈ code, x.op = 22 → inB x.a t.length = true) (hp : ∀ f ∈ t, 0 ≤ f.params ∧ f.params ≤ 8) (hm : t.length ≤ maxLen) (hmc : code.length ≤ maxLen) (w : World) (hT : Blk w gt 26 #[.int .i64 al, .slice A t.length ct]) (hF : Blk w gf 109 #[.int .i64 prm, .int .i64 sz, .slice Ai code.length ci, .int .i64 al, .int .i64 (nf : Int)]) (hg : Gx w lo hi A t) (hn : Nx w lo hi Ai code) (hh : hi ≤ w.heap.size) :
 Calls Tryz.prog 67 #[.slice Ai code.length ci, .func (.func 68) #[] #[.pointer (some ⟨gt, 0, none⟩), .pointer (some ⟨gf, 0, none⟩)]] w fun e w' => e = .returned (.bool (!code.all (roomB t sz))) ∧ Below w.heap.size w w' := by
 have HC := hQ (index_code code hx hp hm hmc w hT hF hg hn hh)
 clear hx hp hT hF hg hn
 go_enter Tryz.func67, Tryz.ntmps67
 go_wp2_with fail
 refine HC.out.mono ?_
 rintro e w1 ⟨r, rfl, hb, bel⟩
 have HB := hQ bel
 clear bel
 rcases ho : code.all (roomB t sz) with _ | _
 · have h1 : 0 ≤ r := hb.1 ho
   have HO := hQ ho
   clear ho hb
   go_wp2
   go_ret
   exact ⟨ret_bool (by rw [HO.out]; rfl), HB.out⟩
 · have h1 : r = -1 := hb.2 ho
   subst h1
   have HO := hQ ho
   clear ho hb
   go_wp2
   go_ret
   exact ⟨ret_bool (by rw [HO.out]; rfl), HB.out⟩
theorem mcalls_any (code : List Ins) (hx : ∀ x ∈ code, x.op = 22 → inB x.a t.length = true) (hp : ∀ f ∈ t, 0 ≤ f.params ∧ f.params ≤ 8) (hm : t.length ≤ maxLen) (hmc : code.length ≤ maxLen) (w : World) (hg : Gx w lo hi A t) (hn : Nx w lo hi Ai code) (hh : hi ≤ w.heap.size) :
 Calls Tryz.prog 44 #[.agg #[.int .i64 prm, .int .i64 sz, .slice Ai code.length ci, .int .i64 al, .int .i64 (nf : Int)], .agg #[.int .i64 al, .slice A t.length ct]] w fun e w' => e = .returned (.bool (code.all (roomB t sz))) ∧ Below w.heap.size w w' := by
 obtain ⟨W1, hW1⟩ : ∃ W1, W1 = (w.alloc (.cells #[.int .i64 prm, .int .i64 sz, .slice Ai code.length ci, .int .i64 al, .int .i64 (nf : Int)] 109)).alloc (.cells #[.int .i64 al, .slice A t.length ct] 26) := ⟨_, rfl⟩
 have hB1 : Below w.heap.size w W1 := by rw [hW1]; exact (bR.alloc nL _).alloc (by simp) _
 have HF : Hid (Blk W1 w.heap.size 109 #[.int .i64 prm, .int .i64 sz, .slice Ai code.length ci, .int .i64 al, .int .i64 (nf : Int)]) := hQ (by rw [hW1]; exact (Blk.new _ _ _).alloc _)
 have HT : Hid (Blk W1 (w.heap.size + 1) 26 #[.int .i64 al, .slice A t.length ct]) := hQ (by rw [hW1]; exact Blk.newAt (by simp))
 have hz := hB1.size
 have HC := hQ (contains_code code hx hp hm hmc W1 HT.out HF.out (hg.of_blk hB1 hh) (hn.keep (Kp.of_below hB1 hh)) (by omega))
 have HB1 := hQ hB1
 have HW1 := hQ hW1
 clear hW1 hB1 hx hp hg hn
 go_enter Tryz.func44, Tryz.ntmps44
 go_upto_region 1 with (fail)
 rw [← HW1.out]
 obtain ⟨f0, f1, f2, f3, f4, -, -, -, -, -, fz⟩ := HF.out.c5
 go_wp2_with fail
 refine HC.out.mono ?_
 rintro e w2 ⟨rfl, bel⟩
 have HB : Hid (Below w.heap.size w w2) := hQ (HB1.out.trans (bel.mono HB1.out.size))
 clear bel f0 f1 f2 f3 f4 fz
 rcases ho : code.all (roomB t sz) with _ | _
 · have HO := hQ ho
   clear ho
   go_wp2
   go_ret
   exact ⟨ret_bool (by rw [HO.out]), HB.out⟩
 · have HO := hQ ho
   clear ho
   go_wp2
   go_ret
   exact ⟨ret_bool (by rw [HO.out]), HB.out⟩
end
theorem inE_call {nf nc : Nat} {prm sz : Int} {x : Ins} (h : inE nf prm sz nc x = 0) (h22 : x.op = 22) : inB x.a nf = true := by
 unfold inE at h
 split at h
 · cases h
 split at h
 · cases h
 split at h
 · cases h
 · rename_i h3
   rw [h22] at h3
   rcases hb : inB x.a nf with _ | _
   · rw [hb] at h3; simp at h3
   · rfl
theorem frE_ok {nf : Nat} {al : Int} {f : Fr} (h : frE nf al f = 0) : shB al f = true ∧ f.code.length ≤ 1024 ∧ (∀ x ∈ f.code, inE nf f.params f.size f.code.length x = 0) ∧ (f.code.length ≠ 0 ∧ termB (f.code.getD (f.code.length - 1) Ins.z).op = true) := by
 unfold frE at h
 split at h
 · cases h
 split at h
 · cases h
 split at h
 · rename_i h1 h2 h3; exact absurd h h3
 split at h
 · cases h
 · rename_i h1 h2 h3 h4
   refine ⟨by simpa using h1, by omega, fun x hx => firstE_mem (by simpa using h3) _ (List.mem_map_of_mem hx), ?_⟩
   simp only [Bool.or_eq_true, beq_iff_eq, Bool.not_eq_true', not_or] at h4
   exact ⟨h4.1, by simpa using h4.2⟩
theorem shB_ok {al : Int} {f : Fr} (h : shB al f = true) : powB al = true ∧ (0 ≤ f.params ∧ f.params ≤ 8) ∧ (0 ≤ f.size ∧ f.size < 2147483520) ∧ f.size % al = 0 := by
 unfold shB at h
 simp only [Bool.and_eq_true, beq_iff_eq] at h
 obtain ⟨⟨⟨h1, h2⟩, h3⟩, h4⟩ := h
 have := inB_t.1 h2
 have := inB_t.1 h3
 exact ⟨h1, by omega, by omega, h4⟩
section
variable {al : Int} {t : List Fr}
theorem tgE_3 (h : 80 < t.length) : tgE al t = 3 := by unfold tgE; rw [if_pos h]
theorem tgE_4 (h : t.length = 0) : tgE al t = 4 := by unfold tgE; rw [if_neg (by omega), if_pos h]
theorem tgE_5 (h1 : ¬ 80 < t.length) (h2 : t.length ≠ 0) (h : (!powB al || decide (al < 16)) = true) : tgE al t = 5 := by unfold tgE; rw [if_neg h1, if_neg h2, if_pos h]
theorem tgE_7 (h1 : ¬ 80 < t.length) (h2 : t.length ≠ 0) (h3 : (!powB al || decide (al < 16)) = false) (h : (t.getD 0 Fr.z).params ≠ 0) : tgE al t = 7 := by unfold tgE; rw [if_neg h1, if_neg h2, if_neg (by rw [h3]; simp), if_pos h]
theorem tgE_f (h1 : ¬ 80 < t.length) (h2 : t.length ≠ 0) (h3 : (!powB al || decide (al < 16)) = false) (h4 : (t.getD 0 Fr.z).params = 0) : tgE al t = if firstE (t.map (frE t.length al)) ≠ 0 then firstE (t.map (frE t.length al)) else
 if t.all (fun f => f.code.all (roomB t f.size)) = true then 0 else 7 := by unfold tgE; rw [if_neg h1, if_neg h2, if_neg (by rw [h3]; simp), if_neg (by omega)]
theorem mcheck_any (A : Option Addr) (ct : Nat) (h64 : TgR al t) (w : World) (lo hi : Nat) (hg : Gx w lo hi A t) (hh : hi ≤ w.heap.size) (hm : t.length ≤ maxLen) :
 Calls Tryz.prog 26 #[.agg #[.int .i64 al, .slice A t.length ct]] w fun e w' => e = .returned (.int .i64 (tgE al t)) ∧ Below w.heap.size w w' := by
 obtain ⟨W1, hW1⟩ : ∃ W1, W1 = w.alloc (.cells #[.int .i64 al, .slice A t.length ct] 26) := ⟨_, rfl⟩
 have hB1 : Below w.heap.size w W1 := by rw [hW1]; exact bR.alloc nL _
 have HT : Hid (Blk W1 w.heap.size 26 #[.int .i64 al, .slice A t.length ct]) := hQ (by rw [hW1]; exact Blk.new _ _ _)
 have HG : Hid (Gx W1 lo hi A t) := hQ (hg.of_blk hB1 hh)
 have hh1 : hi ≤ W1.heap.size := by have := hB1.size; omega
 have hni : (t.length : Int) ≤ 9223372036854775807 := by unfold maxLen at hm; omega
 have HB1 := hQ hB1
 have HW1 := hQ hW1
 have HR := hQ h64
 have a0 := h64.1.1
 have a1 := h64.1.2
 clear hW1 hB1 hg h64 hh
 obtain ⟨x0, x1, -, -, xz⟩ := HT.out.c2
 by_cases h80 : 80 < t.length
 · have HE := hQ (tgE_3 (al := al) h80)
   have h80i : (80 : Int) < (t.length : Int) := by omega
   clear h80
   go_enter Tryz.func26, Tryz.ntmps26
   go_upto_region 1 with (fail)
   rw [← HW1.out]
   go_wp2
   go_ret
   exact ⟨ret_int (by rw [HE.out]), HB1.out⟩
 have h80i : (t.length : Int) ≤ 80 := by omega
 by_cases h0 : t.length = 0
 · have HE := hQ (tgE_4 (al := al) h0)
   have h0b : ((t.length : Int) == 0) = true := by simp [h0]
   clear h0
   go_enter Tryz.func26, Tryz.ntmps26
   go_upto_region 1 with (fail)
   rw [← HW1.out]
   go_wp2
   go_ret
   exact ⟨ret_int (by rw [HE.out]), HB1.out⟩
 have h0b : ((t.length : Int) == 0) = false := by rw [beq_eq_false_iff_ne]; omega
 have HP : Hid (∀ W, Calls Tryz.prog 41 #[.int .i64 al] W fun e w' => e = .returned (.bool (powB al)) ∧ W = w') := hQ (fun W => power_any al a0 a1 W)
 rcases hp : powB al with _ | _
 · have HE := hQ (tgE_5 (al := al) h80 h0 (by rw [hp]; rfl))
   have HPB := hQ hp
   clear hp h0
   go_enter Tryz.func26, Tryz.ntmps26
   go_upto_region 1 with (fail)
   rw [← HW1.out]
   go_wp2_with fail
   refine (HP.out _).mono ?_
   rintro e w1 ⟨rfl, rfl⟩
   rw [HPB.out]
   go_wp2
   go_ret
   exact ⟨ret_int (by rw [HE.out]), HB1.out⟩
 have HPB := hQ hp
 by_cases h16 : al < 16
 · have HE := hQ (tgE_5 (al := al) h80 h0 (by rw [hp]; simp [h16]))
   clear hp h0
   go_enter Tryz.func26, Tryz.ntmps26
   go_upto_region 1 with (fail)
   rw [← HW1.out]
   go_wp2_with fail
   refine (HP.out _).mono ?_
   rintro e w1 ⟨rfl, rfl⟩
   rw [HPB.out]
   go_wp2
   go_ret
   exact ⟨ret_int (by rw [HE.out]), HB1.out⟩
 have h35 : (!powB al || decide (al < 16)) = false := by rw [hp]; simp [h16]
 have h16' : ¬ al < 16 := h16
 have hpos : 0 < t.length := by omega
 obtain ⟨ad, Ai0, ci0, rfl, hb, y0, -⟩ := HG.out.whole hpos
 rw [Nat.zero_mul] at y0
 have had : ad.add 0 = ad := rfl
 rw [had] at y0
 by_cases h7 : (t.getD 0 Fr.z).params = 0
 case neg =>
  have HE := hQ (tgE_7 (al := al) h80 h0 h35 h7)
  obtain ⟨q, hq⟩ : ∃ q, q = (t.getD 0 Fr.z).params := ⟨_, rfl⟩
  rw [← hq] at y0 h7
  have hqb : (q != 0) = true := by simpa using h7
  have hp1 : (0 : Int) < (t.length : Int) := by omega
  clear hp h0 hq h35
  go_enter Tryz.func26, Tryz.ntmps26
  go_upto_region 1 with (fail)
  rw [← HW1.out]
  go_wp2_with fail
  refine (HP.out _).mono ?_
  rintro e w1 ⟨rfl, rfl⟩
  rw [HPB.out]
  go_wp2
  go_ret
  exact ⟨ret_int (by rw [HE.out]), HB1.out⟩
 have HE := hQ (tgE_f (al := al) h80 h0 h35 h7)
 rw [h7] at y0
 have hp1 : (0 : Int) < (t.length : Int) := by omega
 clear hp h0 h35 h7
 go_enter Tryz.func26, Tryz.ntmps26
 go_upto_region 1 with (fail)
 rw [← HW1.out]
 clear HW1
 go_wp2_with fail
 refine (HP.out _).mono ?_
 rintro e w1 ⟨rfl, rfl⟩
 rw [HPB.out]
 go_wp2
 clear y0
 go_loopw [38] (fun v wr => ∃ k : Nat, k ≤ t.length ∧ v = .int .i64 k ∧ Hid (∀ j, j < k → frE t.length al (t.getD j Fr.z) = 0) ∧ Hid (Below W1.heap.size W1 wr)) (fun v _ => t.length - (intOf v).toNat)
 case atStart => exact ⟨0, by omega, rfl, hQ (fun j hj => by omega), hQ bR⟩
 case round =>
  clear x0 x1 xz
  obtain ⟨k, hk, rfl, HZ, HB⟩ := hrel
  have hk0 : (0 : Int) ≤ (k : Int) := by omega
  have hszr := HB.out.size
  obtain ⟨x0, x1, -, -, xz⟩ := (HT.out.after HB.out).c2
  by_cases hlt : k < t.length
  · have hki : (k : Int) < (t.length : Int) := by omega
    have HC := hQ (checkframe_in al t (some ad) ct k hlt HR.out.1 wr lo hi (HG.out.of_blk HB.out hh1) (by omega) hm (HR.out.2 _ (getD_mem' hlt)))
    go_wp2_with fail
    refine HC.out.mono ?_
    rintro e w5 ⟨rfl, bel⟩
    have HB5 : Hid (Below W1.heap.size W1 w5) := hQ (HB.out.trans (bel.mono HB.out.size))
    clear bel x0 x1 xz
    by_cases hq : frE t.length al (t.getD k Fr.z) = 0
    · have HZ' : Hid (∀ i, i < k + 1 → frE t.length al (t.getD i Fr.z) = 0) := hQ (fun i hi => by
       rcases Nat.lt_or_ge i k with h | h
       · exact HZ.out i h
       · obtain rfl : i = k := by omega
         exact hq)
      rw [hq]
      clear hq HZ HC
      go_wp2
      go_roundw
      case rel => exact ⟨k + 1, by omega, by go_num, HZ', HB5⟩
      case measure => simp [intOf]; omega
    · have HE' : Hid (tgE al t = frE t.length al (t.getD k Fr.z)) := hQ (by
       have h1 := firstE_take (f := frE t.length al) (z := Fr.z) hlt HZ.out hq
       rw [HE.out, h1, if_pos hq])
      generalize frE t.length al (t.getD k Fr.z) = er at *
      have hne : (er != 0) = true := by simpa using hq
      go_wp2
      go_ret
      exact ⟨ret_int (by rw [HE'.out]), HB1.out.trans (HB5.out.mono HB1.out.size)⟩
  · obtain rfl : k = t.length := by omega
    have HF0 : Hid (∀ f ∈ t, frE t.length al f = 0) := hQ (fun f hf => by
     obtain ⟨i, hi, rfl⟩ := List.mem_iff_getElem.1 hf
     have := HZ.out i hi
     rwa [List.getD_eq_getElem?_getD, List.getElem?_eq_getElem hi, Option.getD_some] at this)
    have HE2 : Hid (tgE al t = if t.all (fun f => f.code.all (roomB t f.size)) = true then 0 else 7) := hQ (by
     rw [HE.out, if_neg]
     rw [firstE_zero (fun y hy => by
      obtain ⟨u, hu, rfl⟩ := List.mem_map.1 hy
      exact HF0.out u hu)]
     simp)
    have HP8 : Hid (∀ f ∈ t, 0 ≤ f.params ∧ f.params ≤ 8) := hQ (fun f hf => (shB_ok (frE_ok (HF0.out f hf)).1).2.1)
    clear HZ HE
    generalize wr = wo at *
    go_wp2
    go_loopw [51] (fun v wr => ∃ k : Nat, k ≤ t.length ∧ v = .int .i64 k ∧ Hid (∀ j, j < k → (t.getD j Fr.z).code.all (roomB t (t.getD j Fr.z).size) = true) ∧ Hid (Below W1.heap.size W1 wr)) (fun v _ => t.length - (intOf v).toNat)
    case atStart => exact ⟨0, by omega, rfl, hQ (fun j hj => by omega), HB⟩
    case round =>
     clear x0 x1 xz HB hszr
     obtain ⟨k, hk, rfl, HZ, HB⟩ := hrel
     have hk0 : (0 : Int) ≤ (k : Int) := by omega
     have hszr := HB.out.size
     obtain ⟨x0, x1, -, -, xz⟩ := (HT.out.after HB.out).c2
     by_cases hlt : k < t.length
     · have hki : (k : Int) < (t.length : Int) := by omega
       obtain ⟨ad', Ai, ci, e', hb', c0, c1, c2, -, -, hnx, hml, hcl⟩ := (HG.out.of_blk HB.out hh1).whole hlt
       obtain rfl : ad = ad' := by injection e'
       have hfm : t.getD k Fr.z ∈ t := getD_mem' hlt
       have hok := frE_ok (HF0.out _ hfm)
       obtain ⟨f, hf⟩ : ∃ f, f = t.getD k Fr.z := ⟨_, rfl⟩
       rw [← hf] at c0 c1 c2 hnx hml hcl hfm hok
       have HF := hQ hf
       clear hf e'
       obtain ⟨prm, sz, code⟩ := f
       simp only at c0 c1 c2 hnx hml hcl hok
       have HOF := hQ (of_any al prm sz code t.length ct k code.length ci Ai ad HR.out.1 hlt hm wr (by omega) c0 c1 c2)
       have HSH := hQ hok.1
       have HCX : Hid (∀ x ∈ code, x.op = 22 → inB x.a t.length = true) := hQ (fun x hx h22 => inE_call (hok.2.2.1 x hx) h22)
       have HN := hQ hnx
       clear c0 c1 c2 hnx hok hfm
       go_wp2_with fail
       refine HOF.out.mono ?_
       rintro e w5 ⟨rfl, bel⟩
       rw [HSH.out]
       have HB5 : Hid (Below W1.heap.size W1 w5) := hQ (HB.out.trans (bel.mono HB.out.size))
       have HN5 : Hid (Nx w5 lo hi Ai code) := hQ (HN.out.keep (Kp.of_below bel (by omega)))
       have hz5 : wr.heap.size ≤ w5.heap.size := bel.size
       clear bel x0 x1 xz HN
       go_upto_region 21 with (fail)
       obtain ⟨W6, hW6⟩ : ∃ W6, W6 = w5.alloc (.cells #[.int .i64 prm, .int .i64 sz, .slice Ai code.length ci, .int .i64 al, .int .i64 (t.length : Int)] 109) := ⟨_, rfl⟩
       rw [← hW6]
       have HB6 : Hid (Below W1.heap.size W1 W6) := hQ (by rw [hW6]; exact Below.al HB5.out _)
       have HK6 : Hid (Blk W6 w5.heap.size 109 #[.int .i64 prm, .int .i64 sz, .slice Ai code.length ci, .int .i64 al, .int .i64 (t.length : Int)]) := hQ (by rw [hW6]; exact Blk.new _ _ _)
       have HN6 : Hid (Nx W6 lo hi Ai code) := hQ (by rw [hW6]; exact HN5.out.keep (Kp.of_below (bR.alloc nL _) (by omega)))
       have hz6 : hi ≤ W6.heap.size := by have := HB6.out.size; omega
       clear hW6 HB5 HN5
       generalize w5.heap.size = gF at *
       obtain ⟨f0, f1, f2, f3, f4, -, -, -, -, -, fz⟩ := HK6.out.c5
       obtain ⟨x0, x1, -, -, xz⟩ := (HT.out.after HB6.out).c2
       have HCL := hQ (mcalls_any (al := al) (prm := prm) (sz := sz) (nf := t.length) (ct := ct) (ci := ci) code HCX.out HP8.out hm hml W6 (HG.out.of_blk HB6.out hh1) HN6.out hz6)
       go_wp2_with fail
       refine HCL.out.mono ?_
       rintro e w7 ⟨rfl, bel⟩
       have HB7 : Hid (Below W1.heap.size W1 w7) := hQ (HB6.out.trans (bel.mono HB6.out.size))
       clear bel x0 x1 xz f0 f1 f2 f3 f4 fz
       rcases ho : code.all (roomB t sz) with _ | _
       · have HE' : Hid (tgE al t = 7) := hQ (by
          rw [HE2.out, if_neg]
          rw [Bool.not_eq_true, List.all_eq_false]
          refine ⟨t.getD k Fr.z, getD_mem' hlt, ?_⟩
          rw [← HF.out, ho]
          simp)
         clear ho
         go_wp2
         go_ret
         exact ⟨ret_int (by rw [HE'.out]), HB1.out.trans (HB7.out.mono HB1.out.size)⟩
       · have HZ' : Hid (∀ i, i < k + 1 → (t.getD i Fr.z).code.all (roomB t (t.getD i Fr.z).size) = true) := hQ (fun i hi => by
          rcases Nat.lt_or_ge i k with h | h
          · exact HZ.out i h
          · obtain rfl : i = k := by omega
            rw [← HF.out]; exact ho)
         clear ho HZ HCL HOF
         go_wp2
         go_roundw
         case rel => exact ⟨k + 1, by omega, by go_num, HZ', HB7⟩
         case measure => simp [intOf]; omega
     · obtain rfl : k = t.length := by omega
       have HE' : Hid (tgE al t = 0) := hQ (by
        rw [HE2.out, if_pos]
        refine List.all_eq_true.2 (fun f hf => ?_)
        obtain ⟨i, hi, rfl⟩ := List.mem_iff_getElem.1 hf
        have := HZ.out i hi
        rwa [List.getD_eq_getElem?_getD, List.getElem?_eq_getElem hi, Option.getD_some] at this)
       clear HZ
       go_wp2
       go_ret
       exact ⟨ret_int (by rw [HE'.out]), HB1.out.trans (HB.out.mono HB1.out.size)⟩
end
structure GF (nf : Nat) (al : Int) (f : Fr) : Prop where
 prm : 0 ≤ f.params ∧ f.params ≤ 8
 size : 0 ≤ f.size ∧ f.size < 2147483520
 mult : f.size % al = 0
 nc : 1 ≤ f.code.length ∧ f.code.length ≤ 1024
 ins : ∀ x ∈ f.code, inE nf f.params f.size f.code.length x = 0
 last : termB (f.code.getD (f.code.length - 1) Ins.z).op = true
structure RT (al : Int) (p : List Fr) : Prop where
 len : 1 ≤ p.length ∧ p.length ≤ 80
 pw : powB al = true ∧ 16 ≤ al
 ent : (p.getD 0 Fr.z).params = 0
 fr : ∀ i, i < p.length → GF p.length al (p.getD i Fr.z)
 room : ∀ i, i < p.length → ∀ x ∈ (p.getD i Fr.z).code, roomB p (p.getD i Fr.z).size x = true
 rng : TgR al p
 imm : ∀ i, i < p.length → ∀ x ∈ (p.getD i Fr.z).code, 0 ≤ x.imm ∧ x.imm < 18446744073709551616
theorem tgE_gt {al : Int} {p : List Fr} (h : tgE al p = 0) (hr : TgR al p) (hi : ∀ i, i < p.length → ∀ x ∈ (p.getD i Fr.z).code, 0 ≤ x.imm ∧ x.imm < 18446744073709551616) : RT al p := by
 unfold tgE at h
 split at h
 · omega
 split at h
 · omega
 split at h
 · omega
 split at h
 · omega
 split at h
 · exact absurd h ‹_›
 split at h
 · rename_i h1 h2 h3 h4 h5 h6
   have h5' : firstE (p.map (frE p.length al)) = 0 := by simpa using h5
   have hf : ∀ i, i < p.length → frE p.length al (p.getD i Fr.z) = 0 := fun i hi => firstE_mem h5' _ (List.mem_map_of_mem (getD_mem' hi))
   have h3' := Bool.eq_false_iff.2 h3
   rw [Bool.or_eq_false_iff] at h3'
   refine ⟨by omega, ⟨by simpa using h3'.1, by simpa using h3'.2⟩, by simpa using h4, fun i hi => ?_, fun i hi x hx => ?_, hr, hi⟩
   · obtain ⟨a, b, c, d, e⟩ := frE_ok (hf i hi)
     obtain ⟨-, s1, s2, s3⟩ := shB_ok a
     exact ⟨s1, s2, s3, ⟨by omega, b⟩, c, e⟩
   · exact List.all_eq_true.1 (List.all_eq_true.1 h6 _ (getD_mem' hi)) x hx
 · omega
def rgOk (r : Int) : Prop := 0 ≤ r ∧ r < 8
structure GX (nf : Nat) (prm sz : Int) (nc : Nat) (x : Ins) : Prop where
 op : 0 ≤ x.op ∧ x.op < 25 ∧ x.op ≠ 18 ∧ x.op ≠ 19
 ra : (x.op ≤ 15 ∨ x.op = 21) → rgOk x.a
 rb : (x.op = 1 ∨ (2 ≤ x.op ∧ x.op ≤ 12) ∨ x.op = 16) → rgOk x.b
 rc : (2 ≤ x.op ∧ x.op ≤ 11) → rgOk x.c
 sc : (x.op = 15 ∨ x.op = 16 ∨ x.op = 17) → sizeB x.c = true ∧ 1 ≤ x.c ∧ x.c ≤ 16
 rd : (x.op = 15 ∨ x.op = 17) → 0 ≤ x.b ∧ x.b + x.c ≤ sz + 16 * prm
 wr : (x.op = 16 ∨ x.op = 17) → 0 ≤ x.a ∧ x.a + x.c ≤ sz
 ja : x.op = 20 → 0 ≤ x.a ∧ x.a < nc
 jb : x.op = 21 → 0 ≤ x.b ∧ x.b < nc
 ca : x.op = 22 → 0 ≤ x.a ∧ x.a < nf
theorem inE_gx {nf nc : Nat} {prm sz : Int} {x : Ins} (h : inE nf prm sz nc x = 0) : GX nf prm sz nc x := by
 unfold inE at h
 split at h
 · omega
 rename_i g1
 split at h
 · omega
 split at h
 · omega
 rename_i g3
 split at h
 · omega
 rename_i g4
 split at h
 · omega
 rename_i g5
 split at h
 · omega
 rename_i g6
 obtain ⟨op, a, b, c, im⟩ := x
 have e1 := Bool.eq_false_iff.2 g1
 have e3 := Bool.eq_false_iff.2 g3
 have e4 := Bool.eq_false_iff.2 g4
 have e5 := Bool.eq_false_iff.2 g5
 have e6 := Bool.eq_false_iff.2 g6
 simp only [Bool.or_eq_false_iff, Bool.and_eq_false_iff, Bool.not_eq_false', beq_eq_false_iff_ne] at e1 e3
 obtain ⟨⟨o1, o2⟩, o3⟩ := e1
 have o4 := inB_t.1 o1
 obtain ⟨e31, e32⟩ := e3
 unfold outB at e31
 rw [List.any_eq_false] at e31
 have hr : ∀ r ∈ regL ⟨op, a, b, c, im⟩, rgOk r := fun r hr => by
  have := e31 r hr
  simp only [Bool.not_eq_true', Bool.not_eq_false] at this
  have := inB_t.1 this
  exact ⟨this.1, this.2⟩
 have hsz : (op = 15 ∨ op = 16 ∨ op = 17) → sizeB c = true := fun hm => by
  have hb : memB op = true := by unfold memB; simpa [or_assoc] using hm
  rw [hb] at e4
  simpa using e4
 have hc : sizeB c = true → 1 ≤ c ∧ c ≤ 16 := fun h => by have := (sizeB_iff c).1 h; omega
 have hins : ∀ o s z, insB o s z = true → 0 ≤ o ∧ o + s ≤ z := fun o s z h => by
  unfold insB bndB at h
  simp only [Bool.and_eq_true, decide_eq_true_eq] at h
  exact ⟨(inB_t.1 h.1.1.1).1, h.2⟩
 unfold wildB at e5
 rw [Bool.or_eq_false_iff] at e5
 unfold tgtB at e6
 rw [Bool.or_eq_false_iff] at e6
 refine ⟨⟨o4.1, o4.2, o2, o3⟩, fun h => ?_, fun h => ?_, fun h => ?_, fun h => ⟨hsz h, hc (hsz h)⟩, fun h => ?_, fun h => ?_, fun h => ?_, fun h => ?_, fun h => ?_⟩
 · refine hr a ?_
   unfold regL
   dsimp only at h ⊢
   repeat' split
   all_goals first
    | (simp; done)
    | (exfalso; omega)
 · refine hr b ?_
   unfold regL
   dsimp only at h ⊢
   repeat' split
   all_goals first
    | (simp; done)
    | (exfalso; omega)
 · refine hr c ?_
   unfold regL
   dsimp only at h ⊢
   rw [if_pos h]
   simp
 · have hb : rdB op = true := by unfold rdB; simpa using h
   have h5 := e5.1
   rw [hb] at h5
   exact hins b c _ (by simpa using h5)
 · have hb : wrB op = true := by unfold wrB; simpa using h
   have h5 := e5.2
   rw [hb] at h5
   exact hins a c _ (by simpa using h5)
 · have h6 := e6.1
   dsimp only at h
   subst h
   have := inB_t.1 (show inB a nc = true by simpa using h6)
   exact this
 · have h6 := e6.2
   dsimp only at h
   subst h
   have := inB_t.1 (show inB b nc = true by simpa using h6)
   exact this
 · dsimp only at h
   subst h
   have := inB_t.1 (show inB a nf = true by simpa using e32)
   exact this
end Go.Proofs.YtcnndoefgjbmiaaGreat.pm
