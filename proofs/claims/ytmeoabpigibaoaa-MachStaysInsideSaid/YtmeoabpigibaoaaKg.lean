/- Contracts: mach's calls, Check. -/
import Derived.Test.YtmeoabpigibaoaaKf
import Derived.Deep.CutBlock
import Derived.BigQuiet
import Derived.Deep.QuietTactic
namespace Go.Proofs.Ytmeoabpigibaoaa.pm
open Go.RowKit
set_option linter.unusedVariables false
set_option maxRecDepth 10000

section
variable {al prm sz : Int} {t : List Fr} {A Ai : Option Addr} {n ct nc ci gt gf nf lo hi : Nat}
set_option maxHeartbeats 2000000 in
theorem calls1_any (x : Ins) (hx : x.op = 22 → inB x.a t.length = true) (hp : ∀ f ∈ t, 0 ≤ f.params ∧ f.params ≤ 8) (hm : t.length ≤ maxLen) (w : World) (hT : Blk w gt 28 #[.int .i64 al, .slice A t.length ct]) (hF : Blk w gf 62 #[.int .i64 prm, .int .i64 sz, .slice Ai nc ci, .int .i64 al, .int .i64 (nf : Int)]) (hg : Gx w lo hi A t) (hh : hi ≤ w.heap.size) :
    Calls Try.prog 36 #[insV x, .pointer (some ⟨gt, 0, none⟩), .pointer (some ⟨gf, 0, none⟩)] w fun e w' => e = .returned (.bool (!roomB t sz x)) ∧ Below w.heap.size w w' := by
  obtain ⟨op, xa, xb, xc, im⟩ := x
  unfold insV
  simp only at hx
  obtain ⟨W1, hW1⟩ : ∃ W1, W1 = w.alloc (.cells #[.int .i64 op, .int .i64 xa, .int .i64 xb, .int .i64 xc, .int .u64 im] 42) := ⟨_, rfl⟩
  have hB1 : Below w.heap.size w W1 := by rw [hW1]; exact (Below.refl _ _).alloc (Nat.le_refl _) _
  have HKX : Hid (Blk W1 w.heap.size 42 #[.int .i64 op, .int .i64 xa, .int .i64 xb, .int .i64 xc, .int .u64 im]) := Lib.hid (by rw [hW1]; exact Blk.new _ _ _)
  obtain ⟨t0, t1, -, -, tz⟩ := (hT.after hB1).c2
  obtain ⟨f0, f1, f2, f3, f4, -, -, -, -, -, fz⟩ := (hF.after hB1).c5
  obtain ⟨x0, x1, x2, x3, x4, -, -, -, -, -, xz⟩ := HKX.out.c5
  have HB1 := Lib.hid hB1
  have HW1 := Lib.hid hW1
  by_cases h22 : op = 22
  · subst h22
    have hi' := inB_t.1 (hx rfl)
    obtain ⟨ha0, ha1⟩ := hi'
    have hk : xa.toNat < t.length := by omega
    obtain ⟨ad, As', cs', rfl, hb, c0, -⟩ := (hg.of_blk hB1 hh).whole hk
    have hxa : ((xa.toNat : Nat) : Int) = xa := by omega
    obtain ⟨k, hkx⟩ : ∃ k, k = xa.toNat := ⟨_, rfl⟩
    have hpk := hp _ (getD_mem' (z := Fr.z) hk)
    have HR : Hid (roomB t sz ⟨22, xa, xb, xc, im⟩ = !decide (sz < 16 * (t.getD xa.toNat Fr.z).params)) := Lib.hid rfl
    obtain ⟨q, hq⟩ : ∃ q, q = (t.getD xa.toNat Fr.z).params := ⟨_, rfl⟩
    rw [← hq] at c0 hpk HR
    rw [← hkx] at c0
    obtain ⟨q0, q1⟩ := hpk
    have hxk : xa = (k : Int) := by omega
    have hni : (t.length : Int) ≤ 9223372036854775807 := by unfold maxLen at hm; omega
    have hk0 : (0 : Int) ≤ (k : Int) := by omega
    have hk1 : (k : Int) < (t.length : Int) := by omega
    subst hxk
    clear hW1 hB1 hT hF hg hx hp hm hh hkx hq hxa
    go_enter Try.func36, Try.ntmps36
    go_upto_region 1 with (fail)
    rw [← HW1.out]
    go_quiet (fail)
    go_wp2
    go_ret
    exact ⟨ret_bool (by rw [HR.out]; simp), below_drewN HB1.out _⟩
  · have h22' : (op == 22) = false := by rw [beq_eq_false_iff_ne]; exact h22
    have HR : Hid (roomB t sz ⟨op, xa, xb, xc, im⟩ = true) := Lib.hid (by unfold roomB; simp only; rw [h22']; rfl)
    clear hW1 hB1 hT hF hg hx hp hm hh h22
    go_enter Try.func36, Try.ntmps36
    go_upto_region 1 with (fail)
    rw [← HW1.out]
    go_quiet (fail)
    go_wp2
    go_ret
    exact ⟨ret_bool (by rw [HR.out]; rfl), below_drewN HB1.out _⟩
def AllD (b : Bool) (w : World) (e : Ending) (w' : World) : Prop := ∃ r : Int, e = .returned (.int .i64 r) ∧ ((b = false → 0 ≤ r) ∧ (b = true → r = -1)) ∧ Below w.heap.size w w'
set_option maxHeartbeats 2000000 in
theorem index_code (code : List Ins) (hx : ∀ x ∈ code, x.op = 22 → inB x.a t.length = true) (hp : ∀ f ∈ t, 0 ≤ f.params ∧ f.params ≤ 8) (hm : t.length ≤ maxLen) (hmc : code.length ≤ maxLen) (w : World) (hT : Blk w gt 28 #[.int .i64 al, .slice A t.length ct]) (hF : Blk w gf 62 #[.int .i64 prm, .int .i64 sz, .slice Ai code.length ci, .int .i64 al, .int .i64 (nf : Int)]) (hg : Gx w lo hi A t) (hn : Nx w lo hi Ai code) (hh : hi ≤ w.heap.size) :
    Calls Try.prog 55 #[.slice Ai code.length ci, .func (.func 36) #[] #[.pointer (some ⟨gt, 0, none⟩), .pointer (some ⟨gf, 0, none⟩)]] w (AllD (code.all (roomB t sz)) w) := by
  have HT := Lib.hid hT
  have HF := Lib.hid hF
  have HG := Lib.hid hg
  have HN := Lib.hid hn
  have HX := Lib.hid hx
  have HP := Lib.hid hp
  have hni : (code.length : Int) ≤ 9223372036854775807 := by unfold maxLen at hmc; omega
  clear hT hF hg hn hx hp
  go_enter Try.func55, Try.ntmps55
  go_wp2
  go_loopw [8] (fun v wr => ∃ k : Nat, k ≤ code.length ∧ v = .int .i64 k ∧ Hid (∀ j, j < k → roomB t sz (code.getD j Ins.z) = true) ∧ Hid (Below w.heap.size w wr)) (fun v _ => code.length - (intOf v).toNat)
  case atStart => exact ⟨0, by omega, rfl, Lib.hid (fun j hj => by omega), Lib.hid (Below.refl _ _)⟩
  case round =>
    obtain ⟨j, hj, rfl, HZ, HB⟩ := hrel
    have hj0 : (0 : Int) ≤ (j : Int) := by omega
    have hszr := HB.out.size
    by_cases hlt : j < code.length
    · have hji : (j : Int) < (code.length : Int) := by omega
      obtain ⟨a1, rfl, hb1, y0, y1, y2, y3, y4⟩ := (HN.out.keep (Kp.of_below HB.out hh)).whole hlt
      obtain ⟨x, hx⟩ : ∃ x, x = code.getD j Ins.z := ⟨_, rfl⟩
      have hxm : x ∈ code := by rw [hx]; exact getD_mem' hlt
      rw [← hx] at y0 y1 y2 y3 y4
      have HXX := Lib.hid hx
      have HCL := Lib.hid (calls1_any (al := al) (prm := prm) (sz := sz) x (HX.out x hxm) HP.out hm wr (HT.out.after HB.out) (HF.out.after HB.out) (HG.out.of_blk HB.out hh) (by omega))
      clear hx hxm
      go_wp2_with fail
      refine HCL.out.mono ?_
      rintro e w6 ⟨rfl, bel⟩
      have HB6 : Hid (Below w.heap.size w w6) := Lib.hid (HB.out.trans (bel.mono HB.out.size))
      clear bel y0 y1 y2 y3 y4
      rcases hq : roomB t sz x with _ | _
      · have HA : Hid (code.all (roomB t sz) = false) := Lib.hid (by
          rw [List.all_eq_false]
          exact ⟨x, by rw [HXX.out]; exact getD_mem' hlt, by rw [hq]; simp⟩)
        clear hq HZ
        go_wp2
        go_ret
        exact ⟨_, rfl, ⟨fun _ => hj0, fun h => by rw [HA.out] at h; cases h⟩, HB6.out⟩
      · have HZ' : Hid (∀ i, i < j + 1 → roomB t sz (code.getD i Ins.z) = true) := Lib.hid (fun i hi => by
          rcases Nat.lt_or_ge i j with h | h
          · exact HZ.out i h
          · obtain rfl : i = j := by omega
            rw [← HXX.out]; exact hq)
        clear hq HZ HXX
        go_wp2
        go_roundw
        case rel => exact ⟨j + 1, by omega, by go_num, HZ', HB6⟩
        case measure => simp [intOf]; omega
    · obtain rfl : j = code.length := by omega
      have HA : Hid (code.all (roomB t sz) = true) := Lib.hid (List.all_eq_true.2 (fun r hr => by
        obtain ⟨j, hj, rfl⟩ := List.mem_iff_getElem.1 hr
        have := HZ.out j hj
        rwa [List.getD_eq_getElem?_getD, List.getElem?_eq_getElem hj, Option.getD_some] at this))
      clear HZ
      go_wp2
      go_ret
      exact ⟨-1, rfl, ⟨fun h => (by rw [HA.out] at h; cases h), fun _ => rfl⟩, HB.out⟩
set_option maxHeartbeats 2000000 in
theorem contains_code (code : List Ins) (hx : ∀ x ∈ code, x.op = 22 → inB x.a t.length = true) (hp : ∀ f ∈ t, 0 ≤ f.params ∧ f.params ≤ 8) (hm : t.length ≤ maxLen) (hmc : code.length ≤ maxLen) (w : World) (hT : Blk w gt 28 #[.int .i64 al, .slice A t.length ct]) (hF : Blk w gf 62 #[.int .i64 prm, .int .i64 sz, .slice Ai code.length ci, .int .i64 al, .int .i64 (nf : Int)]) (hg : Gx w lo hi A t) (hn : Nx w lo hi Ai code) (hh : hi ≤ w.heap.size) :
    Calls Try.prog 35 #[.slice Ai code.length ci, .func (.func 36) #[] #[.pointer (some ⟨gt, 0, none⟩), .pointer (some ⟨gf, 0, none⟩)]] w fun e w' => e = .returned (.bool (!code.all (roomB t sz))) ∧ Below w.heap.size w w' := by
  have HC := Lib.hid (index_code code hx hp hm hmc w hT hF hg hn hh)
  clear hx hp hT hF hg hn
  go_enter Try.func35, Try.ntmps35
  go_wp2_with fail
  refine HC.out.mono ?_
  rintro e w1 ⟨r, rfl, hb, bel⟩
  have HB := Lib.hid bel
  clear bel
  rcases ho : code.all (roomB t sz) with _ | _
  · have h1 : 0 ≤ r := hb.1 ho
    have HO := Lib.hid ho
    clear ho hb
    go_wp2
    go_ret
    exact ⟨ret_bool (by rw [HO.out]; rfl), HB.out⟩
  · have h1 : r = -1 := hb.2 ho
    subst h1
    have HO := Lib.hid ho
    clear ho hb
    go_wp2
    go_ret
    exact ⟨ret_bool (by rw [HO.out]; rfl), HB.out⟩
set_option maxHeartbeats 2000000 in
theorem mcalls_any (code : List Ins) (hx : ∀ x ∈ code, x.op = 22 → inB x.a t.length = true) (hp : ∀ f ∈ t, 0 ≤ f.params ∧ f.params ≤ 8) (hm : t.length ≤ maxLen) (hmc : code.length ≤ maxLen) (w : World) (hg : Gx w lo hi A t) (hn : Nx w lo hi Ai code) (hh : hi ≤ w.heap.size) :
    Calls Try.prog 22 #[.agg #[.int .i64 prm, .int .i64 sz, .slice Ai code.length ci, .int .i64 al, .int .i64 (nf : Int)], .agg #[.int .i64 al, .slice A t.length ct]] w fun e w' => e = .returned (.bool (code.all (roomB t sz))) ∧ Below w.heap.size w w' := by
  obtain ⟨W1, hW1⟩ : ∃ W1, W1 = (w.alloc (.cells #[.int .i64 prm, .int .i64 sz, .slice Ai code.length ci, .int .i64 al, .int .i64 (nf : Int)] 62)).alloc (.cells #[.int .i64 al, .slice A t.length ct] 28) := ⟨_, rfl⟩
  have hB1 : Below w.heap.size w W1 := by rw [hW1]; exact ((Below.refl _ _).alloc (Nat.le_refl _) _).alloc (by simp) _
  have HF : Hid (Blk W1 w.heap.size 62 #[.int .i64 prm, .int .i64 sz, .slice Ai code.length ci, .int .i64 al, .int .i64 (nf : Int)]) := Lib.hid (by rw [hW1]; exact (Blk.new _ _ _).alloc _)
  have HT : Hid (Blk W1 (w.heap.size + 1) 28 #[.int .i64 al, .slice A t.length ct]) := Lib.hid (by rw [hW1]; exact Blk.newAt (by simp))
  have hz := hB1.size
  have HC := Lib.hid (contains_code code hx hp hm hmc W1 HT.out HF.out (hg.of_blk hB1 hh) (hn.keep (Kp.of_below hB1 hh)) (by omega))
  have HB1 := Lib.hid hB1
  have HW1 := Lib.hid hW1
  clear hW1 hB1 hx hp hg hn
  go_enter Try.func22, Try.ntmps22
  go_upto_region 1 with (fail)
  rw [← HW1.out]
  obtain ⟨f0, f1, f2, f3, f4, -, -, -, -, -, fz⟩ := HF.out.c5
  go_wp2_with fail
  refine HC.out.mono ?_
  rintro e w2 ⟨rfl, bel⟩
  have HB : Hid (Below w.heap.size w w2) := Lib.hid (HB1.out.trans (bel.mono HB1.out.size))
  clear bel f0 f1 f2 f3 f4 fz
  rcases ho : code.all (roomB t sz) with _ | _
  · have HO := Lib.hid ho
    clear ho
    go_wp2
    go_ret
    exact ⟨ret_bool (by rw [HO.out]), HB.out⟩
  · have HO := Lib.hid ho
    clear ho
    go_wp2
    go_ret
    exact ⟨ret_bool (by rw [HO.out]), HB.out⟩
end
end Go.Proofs.Ytmeoabpigibaoaa.pm
