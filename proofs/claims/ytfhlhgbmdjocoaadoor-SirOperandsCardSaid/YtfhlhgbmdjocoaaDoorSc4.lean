/- Contract: sir.CheckInstr, of an instruction that there is. -/
import Derived.Test.YtfhlhgbmdjocoaaDoorSc3
namespace Go.Proofs.YtfhlhgbmdjocoaaDoor.pm
open Go.RowKit
set_option linter.unusedVariables false
set_option maxRecDepth 10000
attribute [local go_sem ↓] Go.wp_at_zero Go.wp_at_succ

theorem cells_after {w W' : World} {hi : Nat} (hB : Below w.heap.size w W') (hh : hi ≤ w.heap.size) {p : Addr} (hp : p.block < hi) {v : Value} (h : w.cell? p = some v) : W'.cell? p = some v := (World.cell?_of_block (hB.block _ (by omega))).trans h
set_option maxHeartbeats 4000000 in
theorem checkinstr_any (Ap : Option Addr) (p : List Fn) (cp i k : Nat) (w : World) (lo hi : Nat) (hT : Tb w) (hf : Fx w lo hi Ap p) (hh : hi ≤ w.heap.size) (hm : p.length ≤ maxLen) (hi' : i < p.length) (hk' : k < (p.getD i Fn.z).code.length) :
    Calls Tryd.prog 19 #[.agg #[.slice Ap p.length cp], .int .i64 (i : Int), .int .i64 (k : Int)] w fun e w' =>
      e = .returned (.int .i64 (instrE p.length (p.getD i Fn.z).params (p.getD i Fn.z).slots (p.getD i Fn.z).code.length ((p.getD i Fn.z).code.getD k Ins.z))) ∧ Below w.heap.size w w' := by
  obtain ⟨W1, hW1⟩ : ∃ W1, W1 = w.alloc (.cells #[.slice Ap p.length cp] 28) := ⟨_, rfl⟩
  have hB1 : Below w.heap.size w W1 := by rw [hW1]; exact (Below.refl _ _).alloc (Nat.le_refl _) _
  have HKP : Hid (Blk W1 w.heap.size 28 #[.slice Ap p.length cp]) := Lib.hid (by rw [hW1]; exact Blk.new _ _ _)
  have HT1 := Lib.hid (hT.below hB1)
  obtain ⟨ad, As, cs, Ai, ci, rfl, hbl, c0, c1, c2, -, c4, sx, nx, ⟨hs1, hs2⟩, hn1, hn2⟩ := (hf.keep (Kp.of_below hB1 hh)).whole hi'
  have HB1 := Lib.hid hB1
  have HW1 := Lib.hid hW1
  have hz1 : w.heap.size < W1.heap.size := HKP.out.lt
  obtain ⟨nf, hnf⟩ : ∃ nf, nf = p.length := ⟨_, rfl⟩
  rw [← hnf] at HKP hi' hm HW1 ⊢
  obtain ⟨f, hff⟩ : ∃ f, f = p.getD i Fn.z := ⟨_, rfl⟩
  rw [← hff] at c0 c1 c2 c4 sx nx hs1 hs2 hn1 hn2 hk' ⊢
  have hh1 : hi ≤ W1.heap.size := by omega
  obtain ⟨ad2, rfl, hbl2, i0, i1, i2, i3, i4⟩ := nx.whole hk'
  obtain ⟨x, hx⟩ : ∃ x, x = f.code.getD k Ins.z := ⟨_, rfl⟩
  rw [← hx] at i0 i1 i2 i3 i4 ⊢
  have HS1 := Lib.hid sx
  clear hT hf hW1 hB1 hff hnf sx nx hx
  have hii : (i : Int) < (nf : Int) := by omega
  have hi0 : (0 : Int) ≤ (i : Int) := by omega
  have hkk : (k : Int) < (f.code.length : Int) := by omega
  have hk0 : (0 : Int) ≤ (k : Int) := by omega
  have HBI : Hid (inB (i : Int) (nf : Int) = true) := Lib.hid (inB_t.2 ⟨hi0, hii⟩)
  have HBK : Hid (inB (k : Int) (f.code.length : Int) = true) := Lib.hid (inB_t.2 ⟨hk0, hkk⟩)
  have hni : (f.code.length : Int) ≤ 9223372036854775807 := by unfold maxLen at hn1; omega
  have hmi : (nf : Int) ≤ 9223372036854775807 := by unfold maxLen at hm; omega
  obtain ⟨q0, -, -⟩ := blk_one HKP.out
  go_enter Tryd.func19, Tryd.ntmps19
  go_upto_region 1 with (fail)
  rw [← HW1.out]
  go_wp2_with fail
  refine (within_any _ _ _).mono ?_
  rintro e w' ⟨rfl, rfl⟩
  rw [HBI.out]
  go_wp2_with fail
  refine (within_any _ _ _).mono ?_
  rintro e w' ⟨rfl, rfl⟩
  rw [HBK.out]
  go_wp2_with fail
  have HD : Hid (Below W1.heap.size W1 W1.drew) := Lib.hid (Below.refl _ _).drew
  have hT2 := HT1.out.below HD.out
  have hS2 := HS1.out.keep (Kp.of_below HD.out hh1)
  have hI := instr_any (some ad) nf cp f.params As f.slots cs (some ad2) f.code.length ci x W1.drew lo hi hT2 hS2 hh1 hs1
  have HI := Lib.hid hI
  clear hI hT2 hS2
  have HX : Hid (∀ W5, Below W1.heap.size W1 W5 → W5.cell? ⟨w.heap.size, 0, none⟩ = some (.slice (some ad) nf cp) ∧ W5.cell? (ad.add (i * 3)) = some (.int .i64 f.params) ∧ W5.cell? ⟨(ad.add (i * 3)).block, (ad.add (i * 3)).off + 1, none⟩ = some (.slice As f.slots.length cs) ∧ W5.cell? ⟨(ad.add (i * 3)).block, (ad.add (i * 3)).off + 2, none⟩ = some (.slice (some ad2) f.code.length ci) ∧ W5.cell? ((ad.add (i * 3)).add 2) = some (.slice (some ad2) f.code.length ci) ∧
      W5.cell? (ad2.add (k * 5)) = some (.int .i64 x.op) ∧ W5.cell? ⟨(ad2.add (k * 5)).block, (ad2.add (k * 5)).off + 1, none⟩ = some (.int .i64 x.a) ∧ W5.cell? ⟨(ad2.add (k * 5)).block, (ad2.add (k * 5)).off + 2, none⟩ = some (.int .i64 x.b) ∧ W5.cell? ⟨(ad2.add (k * 5)).block, (ad2.add (k * 5)).off + 3, none⟩ = some (.int .i64 x.c) ∧ W5.cell? ⟨(ad2.add (k * 5)).block, (ad2.add (k * 5)).off + 4, none⟩ = some (.int .u64 x.imm)) := Lib.hid (fun W5 hq5 => ⟨cells_after hq5 (Nat.le_refl _) (p := ⟨w.heap.size, 0, none⟩) hz1 q0, cells_after (hi := hi) hq5 hh1 (by rw [block_of_add]; exact hbl) c0, cells_after (hi := hi) hq5 hh1 (by show (ad.add (i * 3)).block < hi; rw [block_of_add]; exact hbl) c1, cells_after (hi := hi) hq5 hh1 (by show (ad.add (i * 3)).block < hi; rw [block_of_add]; exact hbl) c2, cells_after (hi := hi) hq5 hh1 (by rw [block_of_add, block_of_add]; exact hbl) c4, cells_after (hi := hi) hq5 hh1 (by rw [block_of_add]; exact hbl2) i0, cells_after (hi := hi) hq5 hh1 (by show (ad2.add (k * 5)).block < hi; rw [block_of_add]; exact hbl2) i1, cells_after (hi := hi) hq5 hh1 (by show (ad2.add (k * 5)).block < hi; rw [block_of_add]; exact hbl2) i2, cells_after (hi := hi) hq5 hh1 (by show (ad2.add (k * 5)).block < hi; rw [block_of_add]; exact hbl2) i3, cells_after (hi := hi) hq5 hh1 (by show (ad2.add (k * 5)).block < hi; rw [block_of_add]; exact hbl2) i4⟩)
  go_region_held3 (fun W => W.cell? ⟨w.heap.size, 0, none⟩ = some (.slice (some ad) nf cp) ∧ W.cell? (ad.add (i * 3)) = some (.int .i64 f.params) ∧ W.cell? ⟨(ad.add (i * 3)).block, (ad.add (i * 3)).off + 1, none⟩ = some (.slice As f.slots.length cs) ∧ W.cell? ⟨(ad.add (i * 3)).block, (ad.add (i * 3)).off + 2, none⟩ = some (.slice (some ad2) f.code.length ci) ∧ W.cell? ((ad.add (i * 3)).add 2) = some (.slice (some ad2) f.code.length ci) ∧
      W.cell? (ad2.add (k * 5)) = some (.int .i64 x.op) ∧ W.cell? ⟨(ad2.add (k * 5)).block, (ad2.add (k * 5)).off + 1, none⟩ = some (.int .i64 x.a) ∧ W.cell? ⟨(ad2.add (k * 5)).block, (ad2.add (k * 5)).off + 2, none⟩ = some (.int .i64 x.b) ∧ W.cell? ⟨(ad2.add (k * 5)).block, (ad2.add (k * 5)).off + 3, none⟩ = some (.int .i64 x.c) ∧ W.cell? ⟨(ad2.add (k * 5)).block, (ad2.add (k * 5)).off + 4, none⟩ = some (.int .u64 x.imm))
    (first | exact ⟨q0, c0, c1, c2, c4, i0, i1, i2, i3, i4⟩ | exact HX.out _ HB5.out)
    ((go_at_call 50; refine Calls.mono HI.out ?_; rintro e w5 ⟨rfl, bel5⟩; have HB5 : Hid (Below W1.heap.size W1 w5) := Lib.hid (HD.out.trans bel5); clear bel5))
  go_wp2
  go_ret
  exact ⟨rfl, HB1.out.trans (HB5.out.mono HB1.out.size)⟩
end Go.Proofs.YtfhlhgbmdjocoaaDoor.pm
