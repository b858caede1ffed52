/- Contracts: mach.Same, ref10.Same. -/
import Derived.Test.YtinfeglhjmnlaaaDoorGKa
import Derived.Test.YtinfeglhjmnlaaaDoorGSm
import Derived.BigQuiet
import Derived.Deep.QuietTactic
import Derived.Deep.CutBlock
import Derived.Deep.RegionWith
import Derived.Deep.RegionHeld3
namespace Go.Proofs.YtinfeglhjmnlaaaDoor.pm
open Go.RowKit
set_option linter.unusedVariables false
set_option maxRecDepth 10000

set_option maxHeartbeats 1000000 in
theorem refmsamecode (A1 A2 : Option Addr) (l m : List Ins) (c1 c2 : Nat) (w : World) (lo hi lo' hi' : Nat) (h1 : Nx w lo hi A1 l) (h2 : Nx w lo' hi' A2 m) (hl : l.length ≤ maxLen) (hm : m.length ≤ maxLen) :
    Calls Tryd.prog 52 #[.slice A1 l.length c1, .slice A2 m.length c2] w fun e w' => e = .returned (.bool (eqL inEq l m)) ∧ ∃ k, w' = w.drewN k := by
  have H1 := Lib.hid h1
  have H2 := Lib.hid h2
  have hli : (l.length : Int) ≤ 9223372036854775807 := by unfold maxLen at hl; omega
  clear h1 h2
  by_cases hlen : l.length = m.length
  · have e0 : ((l.length : Int) != (m.length : Int)) = false := by simp [hlen]
    have HLM := Lib.hid hlen
    clear hlen
    go_enter Tryd.func52, Tryd.ntmps52
    go_wp2
    go_loopw [5] (fun v wr => ∃ k q : Nat, k ≤ l.length ∧ v = .int .i64 k ∧ Hid (∀ j, j < k → inEq (l.getD j Ins.z) (m.getD j Ins.z) = true) ∧ Hid (wr = w.drewN q)) (fun v _ => l.length - (intOf v).toNat)
    case atStart => exact ⟨0, 0, by omega, rfl, Lib.hid (fun j hj => by omega), Lib.hid rfl⟩
    case round =>
      obtain ⟨k, q, hk, rfl, HZ, HW⟩ := hrel
      have hk0 : (0 : Int) ≤ (k : Int) := by omega
      obtain rfl := HW.out
      by_cases hlt : k < l.length
      · have hki : (k : Int) < (l.length : Int) := by omega
        have hkm : k < m.length := by have := HLM.out; omega
        have hkmi : (k : Int) < (m.length : Int) := by omega
        obtain ⟨a1, rfl, hb1, x0, x1, x2, x3, x4⟩ := H1.out.whole hlt
        obtain ⟨a2, rfl, hb2, y0, y1, y2, y3, y4⟩ := H2.out.whole hkm
        obtain ⟨s, hs⟩ : ∃ s, s = l.getD k Ins.z := ⟨_, rfl⟩
        obtain ⟨t, ht⟩ : ∃ t, t = m.getD k Ins.z := ⟨_, rfl⟩
        rw [← hs] at x0 x1 x2 x3 x4
        rw [← ht] at y0 y1 y2 y3 y4
        rcases hq : inEq s t with _ | _
        · have hne : ∀ W, (binOp .neq 58 (.agg #[.int .i64 s.op, .int .i64 s.a, .int .i64 s.b, .int .i64 s.c, .int .u64 s.imm]) (.agg #[.int .i64 t.op, .int .i64 t.a, .int .i64 t.b, .int .i64 t.c, .int .u64 t.imm])).run Tryd.prog W = .ok (.bool true) W := fun W => (neq_ins s.op s.a s.b s.c s.imm t.op t.a t.b t.c t.imm W).trans (congrArg (fun b => Result.ok (Value.bool (!b)) W) hq)
          have HE : Hid (eqL inEq l m = false) := Lib.hid (eqL_one (z := Ins.z) hlt hkm (by rw [← hs, ← ht]; exact hq))
          clear hs ht hq HZ
          go_wp2_with fail
          go_quiet (fail)
          go_wp2
          go_ret
          exact ⟨ret_bool (by rw [HE.out]), q + nq, by first | rfl | exact World.drewN_drewN _ _ _⟩
        · have hne : ∀ W, (binOp .neq 58 (.agg #[.int .i64 s.op, .int .i64 s.a, .int .i64 s.b, .int .i64 s.c, .int .u64 s.imm]) (.agg #[.int .i64 t.op, .int .i64 t.a, .int .i64 t.b, .int .i64 t.c, .int .u64 t.imm])).run Tryd.prog W = .ok (.bool false) W := fun W => (neq_ins s.op s.a s.b s.c s.imm t.op t.a t.b t.c t.imm W).trans (congrArg (fun b => Result.ok (Value.bool (!b)) W) hq)
          have HZ' : Hid (∀ j, j < k + 1 → inEq (l.getD j Ins.z) (m.getD j Ins.z) = true) := Lib.hid (fun j hj => by
            rcases Nat.lt_or_ge j k with h | h
            · exact HZ.out j h
            · obtain rfl : j = k := by omega
              rw [← hs, ← ht]; exact hq)
          clear hs ht hq HZ
          go_wp2_with fail
          go_quiet (fail)
          go_wp2
          go_roundw
          case rel => exact ⟨k + 1, _, by omega, by go_num, HZ', Lib.hid rfl⟩
          case measure => simp [intOf]; omega
      · obtain rfl : k = l.length := by omega
        have HE : Hid (eqL inEq l m = true) := Lib.hid (eqL_all (z := Ins.z) HLM.out HZ.out)
        clear HZ
        go_wp2
        go_ret
        exact ⟨ret_bool (by rw [HE.out]), q, rfl⟩
  · have e0 : ((l.length : Int) != (m.length : Int)) = true := by simp; omega
    have HE : Hid (eqL inEq l m = false) := Lib.hid (eqL_len hlen)
    clear hlen
    go_enter Tryd.func52, Tryd.ntmps52
    go_wp2
    go_ret
    exact ⟨ret_bool (by rw [HE.out]), 0, rfl⟩
def sameFr (f g : Fr) : Bool := f.params == g.params && f.size == g.size && eqL inEq f.code g.code
def sameTg (a b : Int) (t u : List Fr) : Bool := a == b && eqL sameFr t u
end Go.Proofs.YtinfeglhjmnlaaaDoor.pm
namespace Go.Proofs.YtinfeglhjmnlaaaDoor.pm
open Go.RowKit
set_option linter.unusedVariables false
set_option maxRecDepth 10000

set_option maxHeartbeats 4000000 in
theorem refmsame_any (a b : Int) (A1 A2 : Option Addr) (p r : List Fr) (c1 c2 : Nat) (w : World) (lo hi lo' hi' : Nat) (hh : hi ≤ w.heap.size) (hh' : hi' ≤ w.heap.size) (h1 : Gx w lo hi A1 p) (h2 : Gx w lo' hi' A2 r) (hl : p.length ≤ maxLen) (hm : r.length ≤ maxLen) :
    Calls Tryd.prog 19 #[.agg #[.int .i64 a, .slice A1 p.length c1], .agg #[.int .i64 b, .slice A2 r.length c2]] w fun e w' => e = .returned (.bool (sameTg a b p r)) ∧ Below w.heap.size w w' := by
  obtain ⟨W1, hW1⟩ : ∃ W1, W1 = (w.alloc (.cells #[.int .i64 a, .slice A1 p.length c1] 29)).alloc (.cells #[.int .i64 b, .slice A2 r.length c2] 29) := ⟨_, rfl⟩
  have hB1 : Below w.heap.size w W1 := by rw [hW1]; exact ((Below.refl _ _).alloc (Nat.le_refl _) _).alloc (by simp) _
  have HF : Hid (Blk W1 w.heap.size 29 #[.int .i64 a, .slice A1 p.length c1]) := Lib.hid (by rw [hW1]; exact (Blk.new _ _ _).alloc _)
  have HG : Hid (Blk W1 (w.heap.size + 1) 29 #[.int .i64 b, .slice A2 r.length c2]) := Lib.hid (by rw [hW1]; exact Blk.newAt (by simp))
  have hz := hB1.size
  have H1 : Hid (Gx W1 lo hi A1 p) := Lib.hid (h1.keep (Kp.of_below hB1 hh))
  have H2 : Hid (Gx W1 lo' hi' A2 r) := Lib.hid (h2.keep (Kp.of_below hB1 hh'))
  have hni : (p.length : Int) ≤ 9223372036854775807 := by unfold maxLen at hl; omega
  have hh1 : hi ≤ W1.heap.size := by omega
  have hh1' : hi' ≤ W1.heap.size := by omega
  have HB1 := Lib.hid hB1
  have HW1 := Lib.hid hW1
  clear h1 h2 hW1 hB1
  obtain ⟨x0, x1, -, -, xz⟩ := HF.out.c2
  obtain ⟨y0, y1, -, -, yz⟩ := HG.out.c2
  rcases hab : (a == b) with _ | _
  · have HE : Hid (sameTg a b p r = false) := Lib.hid (by unfold sameTg; rw [hab]; rfl)
    have hne : (a != b) = true := by unfold bne; rw [hab]; rfl
    go_enter Tryd.func19, Tryd.ntmps19
    go_upto_region 1 with (fail)
    rw [← HW1.out]
    go_wp2
    go_ret
    exact ⟨ret_bool (by rw [HE.out]), HB1.out⟩
  have hne : (a != b) = false := by unfold bne; rw [hab]; rfl
  by_cases hlen : p.length = r.length
  case neg =>
    have HE : Hid (sameTg a b p r = false) := Lib.hid (by unfold sameTg; rw [eqL_len hlen]; simp)
    have e0 : ((p.length : Int) != (r.length : Int)) = true := by simp; omega
    clear hlen
    go_enter Tryd.func19, Tryd.ntmps19
    go_upto_region 1 with (fail)
    rw [← HW1.out]
    go_wp2
    go_ret
    exact ⟨ret_bool (by rw [HE.out]), HB1.out⟩
  have HE : Hid (sameTg a b p r = eqL sameFr p r) := Lib.hid (by unfold sameTg; rw [hab]; rfl)
  have e0 : ((p.length : Int) != (r.length : Int)) = false := by simp [hlen]
  have HLM := Lib.hid hlen
  clear hlen
  go_enter Tryd.func19, Tryd.ntmps19
  go_upto_region 1 with (fail)
  rw [← HW1.out]
  clear HW1
  go_wp2
  clear x0 x1 xz y0 y1 yz
  go_loopw [5] (fun v wr => ∃ k : Nat, k ≤ p.length ∧ v = .int .i64 k ∧ Hid (∀ j, j < k → sameFr (p.getD j Fr.z) (r.getD j Fr.z) = true) ∧ Hid (Below W1.heap.size W1 wr)) (fun v _ => p.length - (intOf v).toNat)
  case atStart => exact ⟨0, by omega, rfl, Lib.hid (fun j hj => by omega), Lib.hid (Below.refl _ _)⟩
  case round =>
    obtain ⟨k, hk, rfl, HZ, HB⟩ := hrel
    have hk0 : (0 : Int) ≤ (k : Int) := by omega
    have hszr := HB.out.size
    obtain ⟨x0, x1, -, -, xz⟩ := (HF.out.after HB.out).c2
    obtain ⟨y0, y1, -, -, yz⟩ := (HG.out.after HB.out).c2
    by_cases hlt : k < p.length
    · have hki : (k : Int) < (p.length : Int) := by omega
      have hkm : k < r.length := by have := HLM.out; omega
      have hkmi : (k : Int) < (r.length : Int) := by omega
      obtain ⟨a1, Ai, ci, rfl, hb1, u0, u1, u2, -, -, nx1, n1, -⟩ := (H1.out.keep (Kp.of_below HB.out hh1)).whole hlt
      obtain ⟨a2, Bi, di, rfl, hb2, v0, v1, v2, -, -, nx2, n2, -⟩ := (H2.out.keep (Kp.of_below HB.out hh1')).whole hkm
      obtain ⟨f, hf⟩ : ∃ s, s = p.getD k Fr.z := ⟨_, rfl⟩
      obtain ⟨g, hg⟩ : ∃ s, s = r.getD k Fr.z := ⟨_, rfl⟩
      rw [← hf] at u0 u1 u2 nx1 n1
      rw [← hg] at v0 v1 v2 nx2 n2
      have HN1 := Lib.hid nx1
      have HN2 := Lib.hid nx2
      have HFF := Lib.hid hf
      have HGG := Lib.hid hg
      have hl1 : (a1.add (k * 3)).block < wr.heap.size := by rw [block_of_add]; omega
      have hl2 : (a2.add (k * 3)).block < wr.heap.size := by rw [block_of_add]; omega
      have HS : Hid (∀ W, Below wr.heap.size wr W → W.cell? ⟨w.heap.size, 1, none⟩ = some (.slice (some a1) p.length c1) ∧ W.cell? ⟨w.heap.size + 1, 1, none⟩ = some (.slice (some a2) r.length c2) ∧ W.cell? (a1.add (k * 3)) = some (.int .i64 f.params) ∧ W.cell? ⟨(a1.add (k * 3)).block, (a1.add (k * 3)).off + 1, none⟩ = some (.int .i64 f.size) ∧ W.cell? ⟨(a1.add (k * 3)).block, (a1.add (k * 3)).off + 2, none⟩ = some (.slice Ai f.code.length ci) ∧ W.cell? (a2.add (k * 3)) = some (.int .i64 g.params) ∧ W.cell? ⟨(a2.add (k * 3)).block, (a2.add (k * 3)).off + 1, none⟩ = some (.int .i64 g.size) ∧ W.cell? ⟨(a2.add (k * 3)).block, (a2.add (k * 3)).off + 2, none⟩ = some (.slice Bi g.code.length di)) := Lib.hid (fun W hW => ⟨(hW.cell xz).trans x1, (hW.cell yz).trans y1, (hW.cell hl1).trans u0, (hW.cell (p := ⟨_, _, none⟩) hl1).trans u1, (hW.cell (p := ⟨_, _, none⟩) hl1).trans u2, (hW.cell hl2).trans v0, (hW.cell (p := ⟨_, _, none⟩) hl2).trans v1, (hW.cell (p := ⟨_, _, none⟩) hl2).trans v2⟩)
      clear hf hg nx1 nx2 hl1 hl2
      go_upto_region 6 with (fail)
      go_cut [6, 7] (fun s6 s7 wx => ∃ g6 g7 : Nat, s6 = .pointer (some ⟨g6, 0, none⟩) ∧ s7 = .pointer (some ⟨g7, 0, none⟩) ∧ Hid (Blk wx g6 61 #[.int .i64 f.params, .int .i64 f.size, .slice Ai f.code.length ci]) ∧ Hid (Blk wx g7 61 #[.int .i64 g.params, .int .i64 g.size, .slice Bi g.code.length di]) ∧ Hid (Below wr.heap.size wr wx))
      case first =>
        go_region_held3 (fun W => W.cell? ⟨w.heap.size, 1, none⟩ = some (.slice (some a1) p.length c1) ∧ W.cell? ⟨w.heap.size + 1, 1, none⟩ = some (.slice (some a2) r.length c2) ∧ W.cell? (a1.add (k * 3)) = some (.int .i64 f.params) ∧ W.cell? ⟨(a1.add (k * 3)).block, (a1.add (k * 3)).off + 1, none⟩ = some (.int .i64 f.size) ∧ W.cell? ⟨(a1.add (k * 3)).block, (a1.add (k * 3)).off + 2, none⟩ = some (.slice Ai f.code.length ci) ∧ W.cell? (a2.add (k * 3)) = some (.int .i64 g.params) ∧ W.cell? ⟨(a2.add (k * 3)).block, (a2.add (k * 3)).off + 1, none⟩ = some (.int .i64 g.size) ∧ W.cell? ⟨(a2.add (k * 3)).block, (a2.add (k * 3)).off + 2, none⟩ = some (.slice Bi g.code.length di))
          (exact HS.out _ (by go_grown)) (fail)
        all_goals (go_wp2_with fail; go_meet)
        · exact ⟨wr.heap.size, wr.heap.size + 1, rfl, rfl, Lib.hid ((Blk.new wr _ _).alloc _).drew, Lib.hid (Blk.drew (Blk.newAt (by simp))), Lib.hid (by go_grown)⟩
        · exact ⟨wr.heap.size + 1, wr.heap.size, rfl, rfl, Lib.hid (Blk.drew (Blk.newAt (by simp))), Lib.hid ((Blk.new wr _ _).alloc _).drew, Lib.hid (by go_grown)⟩
      case rest =>
        obtain ⟨g6, g7, rfl, rfl, HK6, HK7, HBc⟩ := hcut
        have HBC : Hid (Below W1.heap.size W1 wc) := Lib.hid (HB.out.trans (HBc.out.mono hszr))
        have HM1 : Hid (Nx wc lo hi Ai f.code) := Lib.hid (HN1.out.keep (Kp.of_below HBc.out (by omega)))
        have HM2 : Hid (Nx wc lo' hi' Bi g.code) := Lib.hid (HN2.out.keep (Kp.of_below HBc.out (by omega)))
        clear HS HBc HN1 HN2 x0 x1 xz y0 y1 yz u0 u1 u2 v0 v1 v2
        obtain ⟨x0, x1, x2, -, -, -, xz⟩ := HK6.out.c3
        obtain ⟨y0, y1, y2, -, -, -, yz⟩ := HK7.out.c3
        by_cases hp : f.params = g.params
        · have q0 : (f.params != g.params) = false := by simp [hp]
          by_cases hs : f.size = g.size
          · have q1 : (f.size != g.size) = false := by simp [hs]
            have HSF : Hid (sameFr f g = eqL inEq f.code g.code) := Lib.hid (by unfold sameFr; rw [hp, hs]; simp)
            clear hp hs
            go_wp2_with fail
            refine (refmsamecode Ai Bi f.code g.code ci di _ _ _ _ _ HM1.out HM2.out n1 n2).mono ?_
            rintro e w4 ⟨rfl, q', rfl⟩
            rcases hq : eqL inEq f.code g.code with _ | _
            · have HE' : Hid (eqL sameFr p r = false) := Lib.hid (eqL_one (z := Fr.z) hlt hkm (by rw [← HFF.out, ← HGG.out, HSF.out]; exact hq))
              clear hq HZ
              go_wp2
              go_ret
              exact ⟨ret_bool (by rw [HE.out, HE'.out]), below_drewN (HB1.out.trans (HBC.out.mono HB1.out.size)) _⟩
            · have HZ' : Hid (∀ j, j < k + 1 → sameFr (p.getD j Fr.z) (r.getD j Fr.z) = true) := Lib.hid (fun j hj => by
                rcases Nat.lt_or_ge j k with h | h
                · exact HZ.out j h
                · obtain rfl : j = k := by omega
                  rw [← HFF.out, ← HGG.out, HSF.out]; exact hq)
              clear hq HZ
              go_wp2
              go_roundw
              case rel => exact ⟨k + 1, by omega, by go_num, HZ', Lib.hid (below_drewN HBC.out _)⟩
              case measure => simp [intOf]; omega
          · have q1 : (f.size != g.size) = true := by simp [hs]
            have HE' : Hid (eqL sameFr p r = false) := Lib.hid (eqL_one (z := Fr.z) hlt hkm (by rw [← HFF.out, ← HGG.out]; unfold sameFr; rw [show (f.size == g.size) = false by simp [hs]]; simp))
            clear hp hs HZ
            go_wp2
            go_ret
            exact ⟨ret_bool (by rw [HE.out, HE'.out]), HB1.out.trans (HBC.out.mono HB1.out.size)⟩
        · have q0 : (f.params != g.params) = true := by simp [hp]
          have HE' : Hid (eqL sameFr p r = false) := Lib.hid (eqL_one (z := Fr.z) hlt hkm (by rw [← HFF.out, ← HGG.out]; unfold sameFr; rw [show (f.params == g.params) = false by simp [hp]]; simp))
          clear hp HZ
          go_wp2
          go_ret
          exact ⟨ret_bool (by rw [HE.out, HE'.out]), HB1.out.trans (HBC.out.mono HB1.out.size)⟩
    · obtain rfl : k = p.length := by omega
      have HE' : Hid (eqL sameFr p r = true) := Lib.hid (eqL_all (z := Fr.z) HLM.out HZ.out)
      have HBN : Hid (Below w.heap.size w wr) := Lib.hid (HB1.out.trans (HB.out.mono HB1.out.size))
      clear HZ
      go_wp2
      go_ret
      exact ⟨ret_bool (by rw [HE.out, HE'.out]), HBN.out⟩
end Go.Proofs.YtinfeglhjmnlaaaDoor.pm
