/- Contracts: mach.Same, ref10.Same. -/
import Derived.Test.YtgakphichcihjaaKa
import Derived.Test.YtgakphichcihjaaSm1
import Derived.BigQuiet
import Derived.Deep.QuietTactic
import Derived.Deep.CutBlock
import Derived.Deep.RegionWith
namespace Go.Proofs.Ytgakphichcihjaa.pm
open Go.RowKit
set_option linter.unusedVariables false
set_option maxRecDepth 10000

set_option maxHeartbeats 1000000 in
theorem refsamecode (A1 A2 : Option Addr) (l m : List Ins) (c1 c2 : Nat) (w : World) (lo hi lo' hi' : Nat) (h1 : Nx w lo hi A1 l) (h2 : Nx w lo' hi' A2 m) (hl : l.length ≤ maxLen) (hm : m.length ≤ maxLen) :
    Calls Try.prog 37 #[.slice A1 l.length c1, .slice A2 m.length c2] w fun e w' => e = .returned (.bool (eqL inEq l m)) ∧ ∃ k, w' = w.drewN k := by
  have H1 := Lib.hid h1
  have H2 := Lib.hid h2
  have hli : (l.length : Int) ≤ 9223372036854775807 := by unfold maxLen at hl; omega
  clear h1 h2
  by_cases hlen : l.length = m.length
  · have e0 : ((l.length : Int) != (m.length : Int)) = false := by simp [hlen]
    have HLM := Lib.hid hlen
    clear hlen
    go_enter Try.func37, Try.ntmps37
    go_wp2
    go_loopw [5] (fun v wr => ∃ k q : Nat, k ≤ l.length ∧ v = .int .i64 k ∧ Hid (∀ j, j < k → inEq (l.getD j Ins.z) (m.getD j Ins.z) = true) ∧ Hid (wr = w.drewN q)) (fun v _ => l.length - (intOf v).toNat)
    case atStart => exact ⟨0, 0, by omega, rfl, Lib.hid (fun j hj => by omega), Lib.hid rfl⟩
    case round =>
      obtain ⟨k, q, hk, rfl, HZ, HW⟩ := hrel
      have hk0 : (0 : Int) ≤ (k : Int) := by omega
      obtain rfl := HW.out
      by_cases hlt : k < l.length
      · have hki : (k : Int) < (l.length : Int) := by omega
        have hkm : k < m.length := by have := HLM.out; omega
        have hkmi : (k : Int) < (m.length : Int) := by omega
        obtain ⟨a1, rfl, hb1, x0, x1, x2, x3, x4⟩ := H1.out.whole hlt
        obtain ⟨a2, rfl, hb2, y0, y1, y2, y3, y4⟩ := H2.out.whole hkm
        obtain ⟨s, hs⟩ : ∃ s, s = l.getD k Ins.z := ⟨_, rfl⟩
        obtain ⟨t, ht⟩ : ∃ t, t = m.getD k Ins.z := ⟨_, rfl⟩
        rw [← hs] at x0 x1 x2 x3 x4
        rw [← ht] at y0 y1 y2 y3 y4
        rcases hq : inEq s t with _ | _
        · have hne : ∀ W, (binOp .neq 45 (.agg #[.int .i64 s.op, .int .i64 s.a, .int .i64 s.b, .int .i64 s.c, .int .u64 s.imm]) (.agg #[.int .i64 t.op, .int .i64 t.a, .int .i64 t.b, .int .i64 t.c, .int .u64 t.imm])).run Try.prog W = .ok (.bool true) W := fun W => (neq_ins s.op s.a s.b s.c s.imm t.op t.a t.b t.c t.imm W).trans (congrArg (fun b => Result.ok (Value.bool (!b)) W) hq)
          have HE : Hid (eqL inEq l m = false) := Lib.hid (eqL_one (z := Ins.z) hlt hkm (by rw [← hs, ← ht]; exact hq))
          clear hs ht hq HZ
          go_wp2_with fail
          go_quiet (fail)
          go_wp2
          go_ret
          exact ⟨ret_bool (by rw [HE.out]), q + nq, by first | rfl | exact World.drewN_drewN _ _ _⟩
        · have hne : ∀ W, (binOp .neq 45 (.agg #[.int .i64 s.op, .int .i64 s.a, .int .i64 s.b, .int .i64 s.c, .int .u64 s.imm]) (.agg #[.int .i64 t.op, .int .i64 t.a, .int .i64 t.b, .int .i64 t.c, .int .u64 t.imm])).run Try.prog W = .ok (.bool false) W := fun W => (neq_ins s.op s.a s.b s.c s.imm t.op t.a t.b t.c t.imm W).trans (congrArg (fun b => Result.ok (Value.bool (!b)) W) hq)
          have HZ' : Hid (∀ j, j < k + 1 → inEq (l.getD j Ins.z) (m.getD j Ins.z) = true) := Lib.hid (fun j hj => by
            rcases Nat.lt_or_ge j k with h | h
            · exact HZ.out j h
            · obtain rfl : j = k := by omega
              rw [← hs, ← ht]; exact hq)
          clear hs ht hq HZ
          go_wp2_with fail
          go_quiet (fail)
          go_wp2
          go_roundw
          case rel => exact ⟨k + 1, _, by omega, by go_num, HZ', Lib.hid rfl⟩
          case measure => simp [intOf]; omega
      · obtain rfl : k = l.length := by omega
        have HE : Hid (eqL inEq l m = true) := Lib.hid (eqL_all (z := Ins.z) HLM.out HZ.out)
        clear HZ
        go_wp2
        go_ret
        exact ⟨ret_bool (by rw [HE.out]), q, rfl⟩
  · have e0 : ((l.length : Int) != (m.length : Int)) = true := by simp; omega
    have HE : Hid (eqL inEq l m = false) := Lib.hid (eqL_len hlen)
    clear hlen
    go_enter Try.func37, Try.ntmps37
    go_wp2
    go_ret
    exact ⟨ret_bool (by rw [HE.out]), 0, rfl⟩
def sameFr (f g : Fr) : Bool := f.params == g.params && f.size == g.size && eqL inEq f.code g.code
def sameTg (a b : Int) (t u : List Fr) : Bool := a == b && eqL sameFr t u
set_option maxHeartbeats 1000000 in
theorem samefr_any (f g : Fr) (Ai Bi : Option Addr) (ci di : Nat) (w : World) (lo hi lo' hi' : Nat) (hh : hi ≤ w.heap.size) (hh' : hi' ≤ w.heap.size) (h2 : Nx w lo hi Ai f.code) (h4 : Nx w lo' hi' Bi g.code)
    (m2 : f.code.length ≤ maxLen) (m4 : g.code.length ≤ maxLen) :
    Calls Try.prog 35 #[.agg #[.int .i64 f.params, .int .i64 f.size, .slice Ai f.code.length ci], .agg #[.int .i64 g.params, .int .i64 g.size, .slice Bi g.code.length di]] w fun e w' => e = .returned (.bool (sameFr f g)) ∧ Below w.heap.size w w' := by
  obtain ⟨W1, hW1⟩ : ∃ W1, W1 = (w.alloc (.cells #[.int .i64 f.params, .int .i64 f.size, .slice Ai f.code.length ci] 38)).alloc (.cells #[.int .i64 g.params, .int .i64 g.size, .slice Bi g.code.length di] 38) := ⟨_, rfl⟩
  have hB1 : Below w.heap.size w W1 := by rw [hW1]; exact ((Below.refl _ _).alloc (Nat.le_refl _) _).alloc (by simp) _
  have hF : Blk W1 w.heap.size 38 #[.int .i64 f.params, .int .i64 f.size, .slice Ai f.code.length ci] := by rw [hW1]; exact (Blk.new _ _ _).alloc _
  have hG : Blk W1 (w.heap.size + 1) 38 #[.int .i64 g.params, .int .i64 g.size, .slice Bi g.code.length di] := by rw [hW1]; exact Blk.newAt (by simp)
  obtain ⟨x0, x1, x2, -, -, -, xz⟩ := hF.c3
  obtain ⟨y0, y1, y2, -, -, -, yz⟩ := hG.c3
  have H2 : Hid (Nx W1 lo hi Ai f.code) := Lib.hid (h2.keep (Kp.of_below hB1 hh))
  have H4 : Hid (Nx W1 lo' hi' Bi g.code) := Lib.hid (h4.keep (Kp.of_below hB1 hh'))
  have HB1 := Lib.hid hB1
  have HW1 := Lib.hid hW1
  clear hW1 hB1 hF hG h2 h4
  by_cases hp : f.params = g.params
  · have e0 : (f.params == g.params) = true := by simp [hp]
    by_cases hs : f.size = g.size
    · have e1 : (f.size == g.size) = true := by simp [hs]
      have HE : Hid (sameFr f g = eqL inEq f.code g.code) := Lib.hid (by unfold sameFr; rw [e0, e1]; rfl)
      clear hp hs
      go_enter Try.func35, Try.ntmps35
      go_upto_region 1 with (fail)
      rw [← HW1.out]
      go_wp2_with fail
      refine (equal_code Ai Bi f.code g.code ci di _ _ _ _ _ H2.out H4.out m2 m4).mono ?_
      rintro e w4 ⟨rfl, q', rfl⟩
      go_wp2
      go_ret
      exact ⟨ret_bool (by rw [HE.out]), below_drewN HB1.out _⟩
    · have e1 : (f.size == g.size) = false := by simp [hs]
      have HE : Hid (sameFr f g = false) := Lib.hid (by unfold sameFr; rw [e1]; simp)
      clear hp hs
      go_enter Try.func35, Try.ntmps35
      go_upto_region 1 with (fail)
      rw [← HW1.out]
      go_wp2
      go_ret
      exact ⟨ret_bool (by rw [HE.out]), HB1.out⟩
  · have e0 : (f.params == g.params) = false := by simp [hp]
    have HE : Hid (sameFr f g = false) := Lib.hid (by unfold sameFr; rw [e0]; simp)
    clear hp
    go_enter Try.func35, Try.ntmps35
    go_upto_region 1 with (fail)
    rw [← HW1.out]
    go_wp2
    go_ret
    exact ⟨ret_bool (by rw [HE.out]), HB1.out⟩
set_option maxHeartbeats 2000000 in
theorem equalfr_any (A1 A2 : Option Addr) (p r : List Fr) (c1 c2 : Nat) (w : World) (lo hi lo' hi' : Nat) (hh : hi ≤ w.heap.size) (hh' : hi' ≤ w.heap.size) (h1 : Gx w lo hi A1 p) (h2 : Gx w lo' hi' A2 r) (hl : p.length ≤ maxLen) (hm : r.length ≤ maxLen) :
    Calls Try.prog 34 #[.slice A1 p.length c1, .slice A2 r.length c2, .func (.func 35) #[] #[]] w fun e w' => e = .returned (.bool (eqL sameFr p r)) ∧ Below w.heap.size w w' := by
  have H1 := Lib.hid h1
  have H2 := Lib.hid h2
  have hli : (p.length : Int) ≤ 9223372036854775807 := by unfold maxLen at hl; omega
  clear h1 h2
  by_cases hlen : p.length = r.length
  · have e0 : ((p.length : Int) != (r.length : Int)) = false := by simp [hlen]
    have HLM := Lib.hid hlen
    clear hlen
    go_enter Try.func34, Try.ntmps34
    go_wp2
    go_loopw [17] (fun v wr => ∃ k : Nat, k ≤ p.length ∧ v = .int .i64 k ∧ Hid (∀ j, j < k → sameFr (p.getD j Fr.z) (r.getD j Fr.z) = true) ∧ Hid (Below w.heap.size w wr)) (fun v _ => p.length - (intOf v).toNat)
    case atStart => exact ⟨0, by omega, rfl, Lib.hid (fun j hj => by omega), Lib.hid (Below.refl _ _)⟩
    case round =>
      obtain ⟨k, hk, rfl, HZ, HB⟩ := hrel
      have hk0 : (0 : Int) ≤ (k : Int) := by omega
      by_cases hlt : k < p.length
      · have hki : (k : Int) < (p.length : Int) := by omega
        have hkm : k < r.length := by have := HLM.out; omega
        have hkmi : (k : Int) < (r.length : Int) := by omega
        have hszr := HB.out.size
        obtain ⟨a1, Ai, ci, rfl, hb1, x0, x1, x2, -, -, nx1, n1, -⟩ := (H1.out.keep (Kp.of_below HB.out hh)).whole hlt
        obtain ⟨f, hf⟩ : ∃ s, s = p.getD k Fr.z := ⟨_, rfl⟩
        rw [← hf] at x0 x1 x2 nx1 n1
        have hfr := (H2.out.keep (Kp.of_below HB.out hh')).keep ((Kp.refl _ _ _).alloc (by omega) (.cells #[.int .i64 f.params, .int .i64 f.size, .slice Ai f.code.length ci] 38))
        obtain ⟨a2, Bi, di, rfl, hb2, y0, y1, y2, -, -, nx2, n2, -⟩ := hfr.whole hkm
        obtain ⟨g, hg⟩ : ∃ t, t = r.getD k Fr.z := ⟨_, rfl⟩
        clear hfr
        rw [← hg] at y0 y1 y2 nx2 n2
        have HN1 := Lib.hid nx1
        have HN2 := Lib.hid nx2
        have HFF := Lib.hid hf
        have HGG := Lib.hid hg
        have l1 : a1.block < wr.heap.size := by omega
        have l2 : a2.block < wr.heap.size := by omega
        clear hf hg nx1 nx2
        go_wp2_with fail
        have HK2 : Hid (Kp 0 wr.heap.size wr ((wr.alloc (.cells #[.int .i64 f.params, .int .i64 f.size, .slice Ai f.code.length ci] 38)).alloc (.cells #[.int .i64 g.params, .int .i64 g.size, .slice Bi g.code.length di] 38))) := Lib.hid (((Kp.refl _ _ _).alloc (Nat.le_refl _) _).alloc (by simp) _)
        refine (samefr_any f g Ai Bi ci di _ lo hi lo' hi' (by simp; omega) (by simp; omega) (HN1.out.keep (HK2.out.less (Nat.zero_le _) (by omega))) (HN2.out.keep ((Kp.refl _ _ _).alloc (by simp; omega) _)) n1 n2).mono ?_
        rintro e w5 ⟨rfl, bel5⟩
        have HB5 : Hid (Below w.heap.size w w5) := Lib.hid (((HB.out.alloc hszr _).alloc (by simp; omega) _).trans (bel5.mono (by simp; omega)))
        clear bel5 x0 x1 x2 y0 y1 y2
        rcases hq : sameFr f g with _ | _
        · have HE : Hid (eqL sameFr p r = false) := Lib.hid (eqL_one (z := Fr.z) hlt hkm (by rw [← HFF.out, ← HGG.out]; exact hq))
          clear hq HZ
          go_wp2
          go_ret
          exact ⟨ret_bool (by rw [HE.out]), HB5.out⟩
        · have HZ' : Hid (∀ j, j < k + 1 → sameFr (p.getD j Fr.z) (r.getD j Fr.z) = true) := Lib.hid (fun j hj => by
            rcases Nat.lt_or_ge j k with h | h
            · exact HZ.out j h
            · obtain rfl : j = k := by omega
              rw [← HFF.out, ← HGG.out]; exact hq)
          clear hq HZ
          go_wp2
          go_roundw
          case rel => exact ⟨k + 1, by omega, by go_num, HZ', HB5⟩
          case measure => simp [intOf]; omega
      · obtain rfl : k = p.length := by omega
        have HE : Hid (eqL sameFr p r = true) := Lib.hid (eqL_all (z := Fr.z) HLM.out HZ.out)
        clear HZ
        go_wp2
        go_ret
        exact ⟨ret_bool (by rw [HE.out]), HB.out⟩
  · have e0 : ((p.length : Int) != (r.length : Int)) = true := by simp; omega
    have HE : Hid (eqL sameFr p r = false) := Lib.hid (eqL_len hlen)
    clear hlen
    go_enter Try.func34, Try.ntmps34
    go_wp2
    go_ret
    exact ⟨ret_bool (by rw [HE.out]), Below.refl _ _⟩
set_option maxHeartbeats 1000000 in
theorem msame_any (a b : Int) (A1 A2 : Option Addr) (p r : List Fr) (c1 c2 : Nat) (w : World) (lo hi lo' hi' : Nat) (hh : hi ≤ w.heap.size) (hh' : hi' ≤ w.heap.size) (h1 : Gx w lo hi A1 p) (h2 : Gx w lo' hi' A2 r) (hl : p.length ≤ maxLen) (hm : r.length ≤ maxLen) :
    Calls Try.prog 15 #[.agg #[.int .i64 a, .slice A1 p.length c1], .agg #[.int .i64 b, .slice A2 r.length c2]] w fun e w' => e = .returned (.bool (sameTg a b p r)) ∧ Below w.heap.size w w' := by
  obtain ⟨W1, hW1⟩ : ∃ W1, W1 = (w.alloc (.cells #[.int .i64 a, .slice A1 p.length c1] 24)).alloc (.cells #[.int .i64 b, .slice A2 r.length c2] 24) := ⟨_, rfl⟩
  have hB1 : Below w.heap.size w W1 := by rw [hW1]; exact ((Below.refl _ _).alloc (Nat.le_refl _) _).alloc (by simp) _
  have HF : Hid (Blk W1 w.heap.size 24 #[.int .i64 a, .slice A1 p.length c1]) := Lib.hid (by rw [hW1]; exact (Blk.new _ _ _).alloc _)
  have HG : Hid (Blk W1 (w.heap.size + 1) 24 #[.int .i64 b, .slice A2 r.length c2]) := Lib.hid (by rw [hW1]; exact Blk.newAt (by simp))
  have hz := hB1.size
  have HC := Lib.hid (equalfr_any A1 A2 p r c1 c2 W1 lo hi lo' hi' (by omega) (by omega) (h1.keep (Kp.of_below hB1 hh)) (h2.keep (Kp.of_below hB1 hh')) hl hm)
  have HB1 := Lib.hid hB1
  have HW1 := Lib.hid hW1
  clear h1 h2 hW1 hB1
  obtain ⟨x0, x1, -, -, xz⟩ := HF.out.c2
  obtain ⟨y0, y1, -, -, yz⟩ := HG.out.c2
  rcases hab : (a == b) with _ | _
  · have HE : Hid (sameTg a b p r = false) := Lib.hid (by unfold sameTg; rw [hab]; rfl)
    go_enter Try.func15, Try.ntmps15
    go_upto_region 1 with (fail)
    rw [← HW1.out]
    go_wp2
    go_ret
    exact ⟨ret_bool (by rw [HE.out]), HB1.out⟩
  · have HE : Hid (sameTg a b p r = eqL sameFr p r) := Lib.hid (by unfold sameTg; rw [hab]; rfl)
    go_enter Try.func15, Try.ntmps15
    go_upto_region 1 with (fail)
    rw [← HW1.out]
    go_wp2_with fail
    refine HC.out.mono ?_
    rintro e w3 ⟨rfl, bel⟩
    have HBN : Hid (Below w.heap.size w w3) := Lib.hid (HB1.out.trans (bel.mono HB1.out.size))
    clear bel x0 x1 y0 y1 xz yz
    go_wp2
    go_ret
    exact ⟨ret_bool (by rw [HE.out]), HBN.out⟩
end Go.Proofs.Ytgakphichcihjaa.pm
