/- Contracts of the reference: Up, Args. -/
import Derived.Test.YtmeoabpigibaoaaKp
import Derived.Test.YtmeoabpigibaoaaSt
import Derived.Test.YtmeoabpigibaoaaAl
import Derived.Deep.CutBlock
import Derived.BigQuiet
import Derived.Deep.QuietTactic
namespace Go.Proofs.Ytmeoabpigibaoaa.pm
open Go.RowKit
set_option linter.unusedVariables false
set_option maxRecDepth 10000

theorem refbnd_any (n : Int) (w : World) : Calls Try.prog 64 #[.int .i64 n] w fun e w' => e = .returned (.bool (bndB n)) ∧ w = w' := by
  by_cases h0 : 0 ≤ n
  · have HI : Hid (bndB n = decide (n ≤ 2147483647)) := Lib.hid (by unfold bndB inB; rw [Bool.eq_iff_iff]; simp; omega)
    go_enter Try.func64, Try.ntmps64
    go_wp2
    go_ret
    exact ⟨ret_bool (by rw [HI.out]), rfl⟩
  · have HI : Hid (bndB n = false) := Lib.hid (inB_f.2 (by omega))
    go_enter Try.func64, Try.ntmps64
    go_wp2
    go_ret
    exact ⟨ret_bool (by rw [HI.out]), rfl⟩
set_option maxHeartbeats 1000000 in
theorem up_any (n al : Int) (hn : 0 ≤ n) (hn' : n ≤ 2000) (hp : powB al = true) (h1 : 1 ≤ al) (h2 : al ≤ 64) (w : World) :
    Calls Try.prog 45 #[.int .i64 n, .int .i64 al] w fun e w' => e = .returned (.tuple #[.int .i64 (upI n al), .int .i64 0]) ∧ w = w' := by
  have HB : Hid (∀ W, Calls Try.prog 64 #[.int .i64 n] W fun e w' => e = .returned (.bool true) ∧ W = w') := Lib.hid (fun W => (inB_t.2 ⟨hn, by omega⟩ : bndB n = true) ▸ refbnd_any n W)
  have HP : Hid (∀ W, Calls Try.prog 23 #[.int .i64 al] W fun e w' => e = .returned (.bool true) ∧ W = w') := Lib.hid (fun W => hp ▸ refpower_any al (by omega) (by omega) W)
  have hane : ¬ al = 0 := by omega
  have hab : (al == 0) = false := by rw [beq_eq_false_iff_ne]; omega
  have hm : n.tmod al = n % al := Int.tmod_eq_emod_of_nonneg hn
  have m0 := Int.emod_nonneg n hane
  have m1 := Int.emod_lt_of_pos n (show 0 < al by omega)
  have m2 : n % al ≤ n := by
    rcases Int.lt_or_le n al with h | h
    · rw [Int.emod_eq_of_lt hn h]; omega
    · omega
  obtain ⟨m, hmm⟩ : ∃ m, m = n % al := ⟨_, rfl⟩
  have HU : Hid (upI n al = if m = 0 then n else n - m + al) := Lib.hid (by rw [hmm]; rfl)
  rw [← hmm] at hm m0 m1 m2
  clear hp hmm
  by_cases hz : m = 0
  · have HU' : Hid (upI n al = n) := Lib.hid (by rw [HU.out, if_pos hz])
    subst hz
    clear HU
    go_enter Try.func45, Try.ntmps45
    go_wp2_with fail
    refine (HB.out _).mono ?_
    rintro e w1 ⟨rfl, rfl⟩
    go_wp2_with fail
    refine (HP.out _).mono ?_
    rintro e w1 ⟨rfl, rfl⟩
    go_wp2
    go_ret2
    exact ⟨by rw [HU'.out]; rfl, rfl⟩
  · have HU' : Hid (upI n al = n - m + al) := Lib.hid (by rw [HU.out, if_neg hz])
    have hzb : (m != 0) = true := by simpa using hz
    clear HU
    go_enter Try.func45, Try.ntmps45
    go_wp2_with fail
    refine (HB.out _).mono ?_
    rintro e w1 ⟨rfl, rfl⟩
    go_wp2_with fail
    refine (HP.out _).mono ?_
    rintro e w1 ⟨rfl, rfl⟩
    go_wp2
    go_ret2
    exact ⟨by rw [HU'.out]; rfl, rfl⟩
theorem vi_call {np nc : Nat} {prm : Int} {sl : List (Int × Int)} {x : Ins} (h : Vi np prm sl nc x) (h22 : x.op = 22) : 0 ≤ x.a ∧ x.a < np := by
  rcases h with ⟨_, h⟩ | ⟨a, h0, h1⟩ | ⟨a, b, h0, h1, h2, h3⟩
  · cases h <;> simp only at h22 ⊢ <;> omega
  · simp only at h22; omega
  · simp only at h22; omega
theorem max_if (a b : Int) : (if a < b then b else a) = max a b := by
  split <;> omega
set_option maxHeartbeats 2000000 in
theorem args_any (A : Option Addr) (p : List Fn) (cp k m : Nat) (hk : k < p.length) (hp : PrOk m p) (w : World) (lo hi : Nat) (hf : Fx w lo hi A p) (hh : hi ≤ w.heap.size) (hm : p.length ≤ maxLen) :
    Calls Try.prog 44 #[.agg #[.slice A p.length cp], .int .i64 (k : Int)] w fun e w' => e = .returned (.int .i64 (argsI p (p.getD k Fn.z))) ∧ Below w.heap.size w w' := by
  obtain ⟨W1, hW1⟩ : ∃ W1, W1 = w.alloc (.cells #[.slice A p.length cp] 51) := ⟨_, rfl⟩
  have hB1 : Below w.heap.size w W1 := by rw [hW1]; exact (Below.refl _ _).alloc (Nat.le_refl _) _
  have HKP : Hid (Blk W1 w.heap.size 51 #[.slice A p.length cp]) := Lib.hid (by rw [hW1]; exact Blk.new _ _ _)
  have hf1 := hf.keep (Kp.of_below hB1 hh)
  have HF1 := Lib.hid hf1
  obtain ⟨ad, As, cs, Ai, ci, rfl, hb1, p0, p1, p2, p1', p2', sx, nx, -, nm, -⟩ := hf1.whole hk
  have hok := hp.2.2.2 _ (getD_mem' (z := Fn.z) hk)
  obtain ⟨f, hfe⟩ : ∃ f, f = p.getD k Fn.z := ⟨_, rfl⟩
  rw [← hfe] at p0 p1 p2 p1' p2' sx nx nm hok ⊢
  have hV := hok.2.2.2.2.2.2.1
  have hAI : ∀ x ∈ f.code, 0 ≤ argI p x ∧ argI p x ≤ 8 := fun x hx => argI_le hp (hV x hx)
  have hS : Hid (argsI p f = mxN (fun j => argI p (f.code.getD j Ins.z)) f.code.length * 16) := Lib.hid rfl
  have hL := hok.2.2.2.2.2.1
  have HB1 := Lib.hid hB1
  have HW1 := Lib.hid hW1
  have HV := Lib.hid hV
  have HA := Lib.hid hAI
  have HNX := Lib.hid nx
  have hpi : (p.length : Int) ≤ 9223372036854775807 := by unfold maxLen at hm; omega
  have hni : (f.code.length : Int) ≤ 9223372036854775807 := by omega
  have hk0 : (0 : Int) ≤ (k : Int) := by omega
  have hk1 : (k : Int) < (p.length : Int) := by omega
  clear hW1 hB1 hf hf1 sx nx hV hAI hfe hok p0 p1
  obtain ⟨x0, -, xz⟩ := blk_one HKP.out
  go_enter Try.func44, Try.ntmps44
  go_upto_region 1 with (fail)
  rw [← HW1.out]
  go_wp2
  clear p2 p2'
  go_loopw [5, 7] (fun mv v wr => ∃ (k q : Nat), k ≤ f.code.length ∧ v = .int .i64 k ∧ mv = .int .i64 (mxN (fun j => argI p (f.code.getD j Ins.z)) k) ∧ Hid (wr = W1.drewN q)) (fun _ v _ => f.code.length - (intOf v).toNat)
  case atStart => exact ⟨0, 0, by omega, rfl, rfl, Lib.hid rfl⟩
  case round =>
    obtain ⟨j, q, hj, rfl, rfl, HW⟩ := hrel
    obtain rfl := HW.out
    have hj0 : (0 : Int) ≤ (j : Int) := by omega
    have hmb := mxN_le (fun j => argI p (f.code.getD j Ins.z)) 8 (by omega) j (fun i hi => (HA.out _ (getD_mem' (by omega))).2)
    obtain ⟨mv, hmv⟩ : ∃ mv, mv = mxN (fun j => argI p (f.code.getD j Ins.z)) j := ⟨_, rfl⟩
    rw [← hmv] at hmb ⊢
    obtain ⟨hmb0, hmb1⟩ := hmb
    have HMV := Lib.hid hmv
    clear hmv
    by_cases hlt : j < f.code.length
    · have hji : (j : Int) < (f.code.length : Int) := by omega
      obtain ⟨a1, rfl, hb2, y0, y1, -⟩ := HNX.out.at_ hlt
      have y1w := y1
      rw [add_pos _ 1 (by omega)] at y1w
      have hxm : f.code.getD j Ins.z ∈ f.code := getD_mem' hlt
      have HX : Hid (max mv (argI p (f.code.getD j Ins.z)) = mxN (fun j => argI p (f.code.getD j Ins.z)) (j + 1)) := Lib.hid (by rw [HMV.out]; rfl)
      have hai := HA.out _ hxm
      have hvx := HV.out _ hxm
      obtain ⟨x, hx⟩ : ∃ x, x = f.code.getD j Ins.z := ⟨_, rfl⟩
      rw [← hx] at y0 y1 y1w HX hai hvx
      clear hx hxm
      obtain ⟨op, xa, xb, xc, im⟩ := x
      simp only at y0 y1 y1w
      by_cases h18 : op = 18
      · subst h18
        have HX' : Hid ((if mv < xa + 1 then xa + 1 else mv) = mxN (fun j => argI p (f.code.getD j Ins.z)) (j + 1)) := Lib.hid (by rw [max_if]; exact HX.out)
        have hai' : 0 ≤ xa + 1 ∧ xa + 1 ≤ 8 := hai
        obtain ⟨q0, q1⟩ := hai'
        clear hai hvx HX
        go_wp2
        go_roundw
        case rel => exact ⟨j + 1, _, by omega, by go_num, by rw [HX'.out], Lib.hid rfl⟩
        case measure => simp [intOf]; omega
      · have h18b : (op == 18) = false := by rw [beq_eq_false_iff_ne]; exact h18
        by_cases h22 : op = 22
        · subst h22
          obtain ⟨c0, c1⟩ := vi_call hvx rfl
          simp only at c0 c1
          have hkx : xa.toNat < p.length := by omega
          obtain ⟨kx, hkxe⟩ : ∃ kx, kx = xa.toNat := ⟨_, rfl⟩
          have hxk : xa = (kx : Int) := by omega
          rw [← hkxe] at hkx
          obtain ⟨ad', _, _, _, _, e', hb3, r0, -⟩ := HF1.out.whole hkx
          obtain rfl : ad = ad' := by injection e'
          have HX' : Hid ((if mv < (p.getD kx Fn.z).params then (p.getD kx Fn.z).params else mv) = mxN (fun j => argI p (f.code.getD j Ins.z)) (j + 1)) := Lib.hid (by
            rw [max_if, ← HX.out]
            show _ = max mv (p.getD xa.toNat Fn.z).params
            rw [← hkxe])
          obtain ⟨pr, hpr⟩ : ∃ pr, pr = (p.getD kx Fn.z).params := ⟨_, rfl⟩
          rw [← hpr] at r0 HX'
          have hkx0 : (0 : Int) ≤ (kx : Int) := by omega
          have hkx1 : (kx : Int) < (p.length : Int) := by omega
          clear hai hvx HX hkxe hpr e'
          subst hxk
          go_wp2_with fail
          go_region
          go_wp2
          go_roundw
          case rel => exact ⟨j + 1, _, by omega, by go_num, by rw [HX'.out], Lib.hid rfl⟩
          case measure => simp [intOf]; omega
        · have h22b : (op == 22) = false := by rw [beq_eq_false_iff_ne]; exact h22
          have HX' : Hid (mv = mxN (fun j => argI p (f.code.getD j Ins.z)) (j + 1)) := Lib.hid (by
            rw [← HX.out]
            unfold argI
            rw [if_neg h18, if_neg h22]
            omega)
          clear hai hvx HX
          go_wp2
          go_roundw
          case rel => exact ⟨j + 1, _, by omega, by go_num, by rw [← HX'.out], Lib.hid rfl⟩
          case measure => simp [intOf]; omega
    · obtain rfl : j = f.code.length := by omega
      have HS' : Hid (argsI p f = mv * 16) := Lib.hid (by rw [hS.out, HMV.out])
      clear HMV
      go_wp2
      go_ret
      exact ⟨ret_int (by rw [HS'.out]), below_drewN HB1.out _⟩
end Go.Proofs.Ytmeoabpigibaoaa.pm
