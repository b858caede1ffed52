/- Contract: sir.CheckInstr, of an instruction that there is. -/
import Derived.Test.YtinfeglhjmnlaaaDoorGSc
import Derived.Test.YtinfeglhjmnlaaaDoorGSm
import Derived.Deep.RegionHeld3
namespace Go.Proofs.YtinfeglhjmnlaaaDoor.pm
open Go.RowKit
set_option linter.unusedVariables false
set_option maxRecDepth 10000
attribute [local go_sem ↓] Go.wp_at_zero Go.wp_at_succ

theorem cells_after {w W' : World} {hi : Nat} (hB : Below w.heap.size w W') (hh : hi ≤ w.heap.size) {p : Addr} (hp : p.block < hi) {v : Value} (h : w.cell? p = some v) : W'.cell? p = some v := (World.cell?_of_block (hB.block _ (by omega))).trans h
end Go.Proofs.YtinfeglhjmnlaaaDoor.pm
namespace Go.Proofs.YtinfeglhjmnlaaaDoor.pm
open Go.RowKit
set_option linter.unusedVariables false
set_option maxRecDepth 10000
attribute [local go_sem ↓] Go.wp_at_zero Go.wp_at_succ

set_option maxHeartbeats 1000000 in
theorem refsamecode (A1 A2 : Option Addr) (l m : List Ins) (c1 c2 : Nat) (w : World) (lo hi lo' hi' : Nat) (h1 : Nx w lo hi A1 l) (h2 : Nx w lo' hi' A2 m) (hl : l.length ≤ maxLen) (hm : m.length ≤ maxLen) :
    Calls Tryd.prog 52 #[.slice A1 l.length c1, .slice A2 m.length c2] w fun e w' => e = .returned (.bool (eqL inEq l m)) ∧ ∃ k, w' = w.drewN k := by
  have H1 := Lib.hid h1
  have H2 := Lib.hid h2
  have hli : (l.length : Int) ≤ 9223372036854775807 := by unfold maxLen at hl; omega
  clear h1 h2
  by_cases hlen : l.length = m.length
  · have e0 : ((l.length : Int) != (m.length : Int)) = false := by simp [hlen]
    have HLM := Lib.hid hlen
    clear hlen
    go_enter Tryd.func52, Tryd.ntmps52
    go_wp2
    go_loopw [5] (fun v wr => ∃ k q : Nat, k ≤ l.length ∧ v = .int .i64 k ∧ Hid (∀ j, j < k → inEq (l.getD j Ins.z) (m.getD j Ins.z) = true) ∧ Hid (wr = w.drewN q)) (fun v _ => l.length - (intOf v).toNat)
    case atStart => exact ⟨0, 0, by omega, rfl, Lib.hid (fun j hj => by omega), Lib.hid rfl⟩
    case round =>
      obtain ⟨k, q, hk, rfl, HZ, HW⟩ := hrel
      have hk0 : (0 : Int) ≤ (k : Int) := by omega
      obtain rfl := HW.out
      by_cases hlt : k < l.length
      · have hki : (k : Int) < (l.length : Int) := by omega
        have hkm : k < m.length := by have := HLM.out; omega
        have hkmi : (k : Int) < (m.length : Int) := by omega
        obtain ⟨a1, rfl, hb1, x0, x1, x2, x3, x4⟩ := H1.out.whole hlt
        obtain ⟨a2, rfl, hb2, y0, y1, y2, y3, y4⟩ := H2.out.whole hkm
        obtain ⟨s, hs⟩ : ∃ s, s = l.getD k Ins.z := ⟨_, rfl⟩
        obtain ⟨t, ht⟩ : ∃ t, t = m.getD k Ins.z := ⟨_, rfl⟩
        rw [← hs] at x0 x1 x2 x3 x4
        rw [← ht] at y0 y1 y2 y3 y4
        rcases hq : inEq s t with _ | _
        · have hne : ∀ W, (binOp .neq 58 (.agg #[.int .i64 s.op, .int .i64 s.a, .int .i64 s.b, .int .i64 s.c, .int .u64 s.imm]) (.agg #[.int .i64 t.op, .int .i64 t.a, .int .i64 t.b, .int .i64 t.c, .int .u64 t.imm])).run Tryd.prog W = .ok (.bool true) W := fun W => (neq_ins s.op s.a s.b s.c s.imm t.op t.a t.b t.c t.imm W).trans (congrArg (fun b => Result.ok (Value.bool (!b)) W) hq)
          have HE : Hid (eqL inEq l m = false) := Lib.hid (eqL_one (z := Ins.z) hlt hkm (by rw [← hs, ← ht]; exact hq))
          clear hs ht hq HZ
          go_wp2_with fail
          go_quiet (fail)
          go_wp2
          go_ret
          exact ⟨ret_bool (by rw [HE.out]), q + nq, by first | rfl | exact World.drewN_drewN _ _ _⟩
        · have hne : ∀ W, (binOp .neq 58 (.agg #[.int .i64 s.op, .int .i64 s.a, .int .i64 s.b, .int .i64 s.c, .int .u64 s.imm]) (.agg #[.int .i64 t.op, .int .i64 t.a, .int .i64 t.b, .int .i64 t.c, .int .u64 t.imm])).run Tryd.prog W = .ok (.bool false) W := fun W => (neq_ins s.op s.a s.b s.c s.imm t.op t.a t.b t.c t.imm W).trans (congrArg (fun b => Result.ok (Value.bool (!b)) W) hq)
          have HZ' : Hid (∀ j, j < k + 1 → inEq (l.getD j Ins.z) (m.getD j Ins.z) = true) := Lib.hid (fun j hj => by
            rcases Nat.lt_or_ge j k with h | h
            · exact HZ.out j h
            · obtain rfl : j = k := by omega
              rw [← hs, ← ht]; exact hq)
          clear hs ht hq HZ
          go_wp2_with fail
          go_quiet (fail)
          go_wp2
          go_roundw
          case rel => exact ⟨k + 1, _, by omega, by go_num, HZ', Lib.hid rfl⟩
          case measure => simp [intOf]; omega
      · obtain rfl : k = l.length := by omega
        have HE : Hid (eqL inEq l m = true) := Lib.hid (eqL_all (z := Ins.z) HLM.out HZ.out)
        clear HZ
        go_wp2
        go_ret
        exact ⟨ret_bool (by rw [HE.out]), q, rfl⟩
  · have e0 : ((l.length : Int) != (m.length : Int)) = true := by simp; omega
    have HE : Hid (eqL inEq l m = false) := Lib.hid (eqL_len hlen)
    clear hlen
    go_enter Tryd.func52, Tryd.ntmps52
    go_wp2
    go_ret
    exact ⟨ret_bool (by rw [HE.out]), 0, rfl⟩
set_option maxHeartbeats 2000000 in
theorem refsamefunc_any (f g : Fn) (As Ai Bs Bi : Option Addr) (cs ci ds di : Nat) (w : World) (lo hi lo' hi' : Nat) (hh : hi ≤ w.heap.size) (hh' : hi' ≤ w.heap.size) (h1 : Sx w lo hi As f.slots) (h2 : Nx w lo hi Ai f.code) (h3 : Sx w lo' hi' Bs g.slots) (h4 : Nx w lo' hi' Bi g.code)
    (m1 : f.slots.length ≤ maxLen) (m2 : f.code.length ≤ maxLen) (m3 : g.slots.length ≤ maxLen) (m4 : g.code.length ≤ maxLen) :
    Calls Tryd.prog 69 #[.agg #[.int .i64 f.params, .slice As f.slots.length cs, .slice Ai f.code.length ci], .agg #[.int .i64 g.params, .slice Bs g.slots.length ds, .slice Bi g.code.length di]] w fun e w' => e = .returned (.bool (sameFn f g)) ∧ Below w.heap.size w w' := by
  obtain ⟨W1, hW1⟩ : ∃ W1, W1 = (w.alloc (.cells #[.int .i64 f.params, .slice As f.slots.length cs, .slice Ai f.code.length ci] 97)).alloc (.cells #[.int .i64 g.params, .slice Bs g.slots.length ds, .slice Bi g.code.length di] 97) := ⟨_, rfl⟩
  have hB1 : Below w.heap.size w W1 := by rw [hW1]; exact ((Below.refl _ _).alloc (Nat.le_refl _) _).alloc (by simp) _
  have hF : Blk W1 w.heap.size 97 #[.int .i64 f.params, .slice As f.slots.length cs, .slice Ai f.code.length ci] := by rw [hW1]; exact (Blk.new _ _ _).alloc _
  have hG : Blk W1 (w.heap.size + 1) 97 #[.int .i64 g.params, .slice Bs g.slots.length ds, .slice Bi g.code.length di] := by rw [hW1]; exact Blk.newAt (by simp)
  obtain ⟨x0, x1, x2, -, -, -, xz⟩ := hF.c3
  obtain ⟨y0, y1, y2, -, -, -, yz⟩ := hG.c3
  have H1 : Hid (Sx W1 lo hi As f.slots) := Lib.hid (h1.keep (Kp.of_below hB1 hh))
  have H2 : Hid (Nx W1 lo hi Ai f.code) := Lib.hid (h2.keep (Kp.of_below hB1 hh))
  have H3 : Hid (Sx W1 lo' hi' Bs g.slots) := Lib.hid (h3.keep (Kp.of_below hB1 hh'))
  have H4 : Hid (Nx W1 lo' hi' Bi g.code) := Lib.hid (h4.keep (Kp.of_below hB1 hh'))
  have HB1 := Lib.hid hB1
  have HW1 := Lib.hid hW1
  have hni : (f.slots.length : Int) ≤ 9223372036854775807 := by unfold maxLen at m1; omega
  clear hW1 hB1 hF hG h1 h2 h3 h4
  by_cases hp : f.params = g.params
  · have e0 : (f.params != g.params) = false := by simp [hp]
    have HP := Lib.hid hp
    clear hp
    by_cases hl : f.slots.length = g.slots.length
    · have e1 : ((f.slots.length : Int) != (g.slots.length : Int)) = false := by simp [hl]
      have HL := Lib.hid hl
      clear hl
      rcases hs : eqL inEq f.code g.code with _ | _
      · have HE : Hid (sameFn f g = false) := Lib.hid (by unfold sameFn; rw [hs]; simp)
        have HS := Lib.hid hs
        clear hs
        go_enter Tryd.func69, Tryd.ntmps69
        go_upto_region 1 with (fail)
        rw [← HW1.out]
        go_wp2_with fail
        refine (refsamecode Ai Bi f.code g.code ci di _ _ _ _ _ H2.out H4.out m2 m4).mono ?_
        rintro e w3 ⟨rfl, q, rfl⟩
        rw [HS.out]
        go_wp2
        go_ret
        exact ⟨ret_bool (by rw [HE.out]), below_drewN HB1.out q⟩
      · have HE : Hid (sameFn f g = eqL slEq f.slots g.slots) := Lib.hid (by unfold sameFn; rw [hs, HP.out]; simp)
        have HS := Lib.hid hs
        clear hs
        go_enter Tryd.func69, Tryd.ntmps69
        go_upto_region 1 with (fail)
        rw [← HW1.out]
        go_wp2_with fail
        refine (refsamecode Ai Bi f.code g.code ci di _ _ _ _ _ H2.out H4.out m2 m4).mono ?_
        rintro e w3 ⟨rfl, q0, rfl⟩
        rw [HS.out]
        go_wp2
        go_loopw [5] (fun v wr => ∃ k q : Nat, k ≤ f.slots.length ∧ v = .int .i64 k ∧ Hid (∀ j, j < k → slEq (f.slots.getD j (0, 0)) (g.slots.getD j (0, 0)) = true) ∧ Hid (wr = W1.drewN q)) (fun v _ => f.slots.length - (intOf v).toNat)
        case atStart => exact ⟨0, q0, by omega, rfl, Lib.hid (fun j hj => by omega), Lib.hid rfl⟩
        case round =>
          obtain ⟨k, q, hk, rfl, HZ, HW⟩ := hrel
          have hk0 : (0 : Int) ≤ (k : Int) := by omega
          obtain rfl := HW.out
          by_cases hlt : k < f.slots.length
          · have hki : (k : Int) < (f.slots.length : Int) := by omega
            have hkm : k < g.slots.length := by have := HL.out; omega
            have hkmi : (k : Int) < (g.slots.length : Int) := by omega
            obtain ⟨a1, rfl, hb1, s0, s1⟩ := H1.out.whole hlt
            obtain ⟨a2, rfl, hb2, t0, t1⟩ := H3.out.whole hkm
            obtain ⟨s, hs⟩ : ∃ s, s = f.slots.getD k (0, 0) := ⟨_, rfl⟩
            obtain ⟨t, ht⟩ : ∃ t, t = g.slots.getD k (0, 0) := ⟨_, rfl⟩
            rw [← hs] at s0 s1
            rw [← ht] at t0 t1
            rcases hq : slEq s t with _ | _
            · have hne : ∀ W, (binOp .neq 103 (.agg #[.int .i64 s.1, .int .i64 s.2]) (.agg #[.int .i64 t.1, .int .i64 t.2])).run Tryd.prog W = .ok (.bool true) W := fun W => (neq_slot s.1 s.2 t.1 t.2 W).trans (congrArg (fun b => Result.ok (Value.bool (!b)) W) hq)
              have HE' : Hid (sameFn f g = false) := Lib.hid (by rw [HE.out]; exact eqL_one (z := (0, 0)) hlt hkm (by rw [← hs, ← ht]; exact hq))
              clear hs ht hq HZ
              go_wp2_with fail
              go_quiet (fail)
              go_wp2
              go_ret
              exact ⟨ret_bool (by rw [HE'.out]), by first | exact below_drewN HB1.out _ | exact below_drewN (below_drewN HB1.out _) _⟩
            · have hne : ∀ W, (binOp .neq 103 (.agg #[.int .i64 s.1, .int .i64 s.2]) (.agg #[.int .i64 t.1, .int .i64 t.2])).run Tryd.prog W = .ok (.bool false) W := fun W => (neq_slot s.1 s.2 t.1 t.2 W).trans (congrArg (fun b => Result.ok (Value.bool (!b)) W) hq)
              have HZ' : Hid (∀ j, j < k + 1 → slEq (f.slots.getD j (0, 0)) (g.slots.getD j (0, 0)) = true) := Lib.hid (fun j hj => by
                rcases Nat.lt_or_ge j k with h | h
                · exact HZ.out j h
                · obtain rfl : j = k := by omega
                  rw [← hs, ← ht]; exact hq)
              clear hs ht hq HZ
              go_wp2_with fail
              go_quiet (fail)
              go_wp2
              go_roundw
              case rel => exact ⟨k + 1, _, by omega, by go_num, HZ', Lib.hid rfl⟩
              case measure => simp [intOf]; omega
          · obtain rfl : k = f.slots.length := by omega
            have HE' : Hid (sameFn f g = true) := Lib.hid (by rw [HE.out]; exact eqL_all (z := (0, 0)) HL.out HZ.out)
            clear HZ
            go_wp2
            go_ret
            exact ⟨ret_bool (by rw [HE'.out]), below_drewN HB1.out _⟩
    · have e1 : ((f.slots.length : Int) != (g.slots.length : Int)) = true := by simp; omega
      have HE : Hid (sameFn f g = false) := Lib.hid (by unfold sameFn; rw [eqL_len hl]; simp)
      clear hl
      go_enter Tryd.func69, Tryd.ntmps69
      go_upto_region 1 with (fail)
      rw [← HW1.out]
      go_wp2
      go_ret
      exact ⟨ret_bool (by rw [HE.out]), HB1.out⟩
  · have e0 : (f.params != g.params) = true := by simp [hp]
    have HE : Hid (sameFn f g = false) := Lib.hid (by unfold sameFn; rw [show (f.params == g.params) = false by simpa using hp]; simp)
    clear hp
    go_enter Tryd.func69, Tryd.ntmps69
    go_upto_region 1 with (fail)
    rw [← HW1.out]
    go_wp2
    go_ret
    exact ⟨ret_bool (by rw [HE.out]), HB1.out⟩
set_option maxHeartbeats 4000000 in
theorem refsame_any (A1 A2 : Option Addr) (p r : List Fn) (c1 c2 : Nat) (w : World) (lo hi lo' hi' : Nat) (hh : hi ≤ w.heap.size) (hh' : hi' ≤ w.heap.size) (h1 : Fx w lo hi A1 p) (h2 : Fx w lo' hi' A2 r) (hl : p.length ≤ maxLen) (hm : r.length ≤ maxLen) :
    Calls Tryd.prog 34 #[.agg #[.slice A1 p.length c1], .agg #[.slice A2 r.length c2]] w fun e w' => e = .returned (.bool (eqL sameFn p r)) ∧ Below w.heap.size w w' := by
  obtain ⟨W1, hW1⟩ : ∃ W1, W1 = (w.alloc (.cells #[.slice A1 p.length c1] 44)).alloc (.cells #[.slice A2 r.length c2] 44) := ⟨_, rfl⟩
  have hB1 : Below w.heap.size w W1 := by rw [hW1]; exact ((Below.refl _ _).alloc (Nat.le_refl _) _).alloc (by simp) _
  have HF : Hid (Blk W1 w.heap.size 44 #[.slice A1 p.length c1]) := Lib.hid (by rw [hW1]; exact (Blk.new _ _ _).alloc _)
  have HG : Hid (Blk W1 (w.heap.size + 1) 44 #[.slice A2 r.length c2]) := Lib.hid (by rw [hW1]; exact Blk.newAt (by simp))
  have H1 : Hid (Fx W1 lo hi A1 p) := Lib.hid (h1.keep (Kp.of_below hB1 hh))
  have H2 : Hid (Fx W1 lo' hi' A2 r) := Lib.hid (h2.keep (Kp.of_below hB1 hh'))
  have HB1 := Lib.hid hB1
  have HW1 := Lib.hid hW1
  have hni : (p.length : Int) ≤ 9223372036854775807 := by unfold maxLen at hl; omega
  have hs1 := hB1.size
  have hh1 : hi ≤ W1.heap.size := by omega
  have hh1' : hi' ≤ W1.heap.size := by omega
  clear hW1 hB1 h1 h2
  obtain ⟨x0, -, xz⟩ := blk_one HF.out
  obtain ⟨y0, -, yz⟩ := blk_one HG.out
  by_cases hlen : p.length = r.length
  · have e0 : ((p.length : Int) != (r.length : Int)) = false := by simp [hlen]
    have HLM := Lib.hid hlen
    clear hlen
    go_enter Tryd.func34, Tryd.ntmps34
    go_upto_region 1 with (fail)
    rw [← HW1.out]
    go_wp2
    go_loopw [5] (fun v wr => ∃ k : Nat, k ≤ p.length ∧ v = .int .i64 k ∧ Hid (∀ j, j < k → sameFn (p.getD j Fn.z) (r.getD j Fn.z) = true) ∧ Hid (Below W1.heap.size W1 wr)) (fun v _ => p.length - (intOf v).toNat)
    case atStart => exact ⟨0, by omega, rfl, Lib.hid (fun j hj => by omega), Lib.hid (Below.refl _ _)⟩
    case round =>
      clear x0 xz y0 yz
      obtain ⟨k, hk, rfl, HZ, HB⟩ := hrel
      have hk0 : (0 : Int) ≤ (k : Int) := by omega
      obtain ⟨x0, -, xz⟩ := blk_one (HF.out.after HB.out)
      obtain ⟨y0, -, yz⟩ := blk_one (HG.out.after HB.out)
      have hszr := HB.out.size
      have HBN : Hid (Below w.heap.size w wr) := Lib.hid (HB1.out.trans (HB.out.mono HB1.out.size))
      by_cases hlt : k < p.length
      · have hki : (k : Int) < (p.length : Int) := by omega
        have hkm : k < r.length := by have := HLM.out; omega
        have hkmi : (k : Int) < (r.length : Int) := by omega
        obtain ⟨a1, As, cs, Ai, ci, rfl, hb1, p0, p1, p2, -, -, sx1, nx1, ⟨m1, -⟩, n1, -⟩ := (H1.out.keep (Kp.of_below HB.out hh1)).whole hlt
        obtain ⟨a2, Bs, ds, Bi, di, rfl, hb2, r0, r1, r2, -, -, sx2, nx2, ⟨m2, -⟩, n2, -⟩ := (H2.out.keep (Kp.of_below HB.out hh1')).whole hkm
        obtain ⟨f, hf⟩ : ∃ s, s = p.getD k Fn.z := ⟨_, rfl⟩
        obtain ⟨g, hg⟩ : ∃ t, t = r.getD k Fn.z := ⟨_, rfl⟩
        rw [← hf] at p0 p1 p2 sx1 nx1 m1 n1
        rw [← hg] at r0 r1 r2 sx2 nx2 m2 n2
        have hd : Below wr.heap.size wr wr.drew := (Below.refl _ _).drew
        have HI := Lib.hid (refsamefunc_any f g As Ai Bs Bi cs ci ds di wr.drew lo hi lo' hi' (show hi ≤ wr.heap.size by omega) (show hi' ≤ wr.heap.size by omega) (sx1.keep (Kp.of_below hd (by omega))) (nx1.keep (Kp.of_below hd (by omega))) (sx2.keep (Kp.of_below hd (by omega))) (nx2.keep (Kp.of_below hd (by omega))) m1 n1 m2 n2)
        have HX : Hid (∀ W5, Below wr.heap.size wr W5 → W5.cell? ⟨w.heap.size, 0, none⟩ = some (.slice (some a1) p.length c1) ∧ W5.cell? ⟨w.heap.size + 1, 0, none⟩ = some (.slice (some a2) r.length c2) ∧ W5.cell? (a1.add (k * 3)) = some (.int .i64 f.params) ∧ W5.cell? ⟨(a1.add (k * 3)).block, (a1.add (k * 3)).off + 1, none⟩ = some (.slice As f.slots.length cs) ∧ W5.cell? ⟨(a1.add (k * 3)).block, (a1.add (k * 3)).off + 2, none⟩ = some (.slice Ai f.code.length ci) ∧ W5.cell? (a2.add (k * 3)) = some (.int .i64 g.params) ∧ W5.cell? ⟨(a2.add (k * 3)).block, (a2.add (k * 3)).off + 1, none⟩ = some (.slice Bs g.slots.length ds) ∧ W5.cell? ⟨(a2.add (k * 3)).block, (a2.add (k * 3)).off + 2, none⟩ = some (.slice Bi g.code.length di)) := Lib.hid (fun W5 hq5 => ⟨cells_after hq5 (Nat.le_refl _) xz x0, cells_after hq5 (Nat.le_refl _) yz y0, cells_after (hi := hi) hq5 (by omega) (by rw [block_of_add]; exact hb1) p0, cells_after (hi := hi) hq5 (by omega) (by show (a1.add (k * 3)).block < hi; rw [block_of_add]; exact hb1) p1, cells_after (hi := hi) hq5 (by omega) (by show (a1.add (k * 3)).block < hi; rw [block_of_add]; exact hb1) p2, cells_after (hi := hi') hq5 (by omega) (by rw [block_of_add]; exact hb2) r0, cells_after (hi := hi') hq5 (by omega) (by show (a2.add (k * 3)).block < hi'; rw [block_of_add]; exact hb2) r1, cells_after (hi := hi') hq5 (by omega) (by show (a2.add (k * 3)).block < hi'; rw [block_of_add]; exact hb2) r2⟩)
        have HFF := Lib.hid hf
        have HGG := Lib.hid hg
        have HD := Lib.hid hd
        clear hf hg sx1 nx1 sx2 nx2 hd
        go_wp2_with fail
        go_region_held3 (fun W => W.cell? ⟨w.heap.size, 0, none⟩ = some (.slice (some a1) p.length c1) ∧ W.cell? ⟨w.heap.size + 1, 0, none⟩ = some (.slice (some a2) r.length c2) ∧ W.cell? (a1.add (k * 3)) = some (.int .i64 f.params) ∧ W.cell? ⟨(a1.add (k * 3)).block, (a1.add (k * 3)).off + 1, none⟩ = some (.slice As f.slots.length cs) ∧ W.cell? ⟨(a1.add (k * 3)).block, (a1.add (k * 3)).off + 2, none⟩ = some (.slice Ai f.code.length ci) ∧ W.cell? (a2.add (k * 3)) = some (.int .i64 g.params) ∧ W.cell? ⟨(a2.add (k * 3)).block, (a2.add (k * 3)).off + 1, none⟩ = some (.slice Bs g.slots.length ds) ∧ W.cell? ⟨(a2.add (k * 3)).block, (a2.add (k * 3)).off + 2, none⟩ = some (.slice Bi g.code.length di))
          (first | exact ⟨x0, y0, p0, p1, p2, r0, r1, r2⟩ | exact HX.out _ HB5.out)
          ((go_at_call 69; refine Calls.mono HI.out ?_; rintro e w5 ⟨rfl, bel5⟩; have HB5 : Hid (Below wr.heap.size wr w5) := Lib.hid (HD.out.trans bel5); clear bel5))
        have HB6 : Hid (Below W1.heap.size W1 w5) := Lib.hid (HB.out.trans (HB5.out.mono hszr))
        clear x0 xz y0 yz p0 p1 p2 r0 r1 r2 HX HI HD
        rcases hq : sameFn f g with _ | _
        · have HE : Hid (eqL sameFn p r = false) := Lib.hid (eqL_one (z := Fn.z) hlt hkm (by rw [← HFF.out, ← HGG.out]; exact hq))
          clear hq HZ
          go_wp2
          go_ret
          exact ⟨ret_bool (by rw [HE.out]), HB1.out.trans (HB6.out.mono HB1.out.size)⟩
        · have HZ' : Hid (∀ j, j < k + 1 → sameFn (p.getD j Fn.z) (r.getD j Fn.z) = true) := Lib.hid (fun j hj => by
            rcases Nat.lt_or_ge j k with h | h
            · exact HZ.out j h
            · obtain rfl : j = k := by omega
              rw [← HFF.out, ← HGG.out]; exact hq)
          clear hq HZ
          go_wp2
          go_roundw
          case rel => exact ⟨k + 1, by omega, by go_num, HZ', HB6⟩
          case measure => simp [intOf]; omega
      · obtain rfl : k = p.length := by omega
        have HE : Hid (eqL sameFn p r = true) := Lib.hid (eqL_all (z := Fn.z) HLM.out HZ.out)
        clear HZ
        go_wp2
        go_ret
        exact ⟨ret_bool (by rw [HE.out]), HBN.out⟩
  · have e0 : ((p.length : Int) != (r.length : Int)) = true := by simp; omega
    have HE : Hid (eqL sameFn p r = false) := Lib.hid (eqL_len hlen)
    clear hlen
    go_enter Tryd.func34, Tryd.ntmps34
    go_upto_region 1 with (fail)
    rw [← HW1.out]
    go_wp2
    go_ret
    exact ⟨ret_bool (by rw [HE.out]), HB1.out⟩
end Go.Proofs.YtinfeglhjmnlaaaDoor.pm
