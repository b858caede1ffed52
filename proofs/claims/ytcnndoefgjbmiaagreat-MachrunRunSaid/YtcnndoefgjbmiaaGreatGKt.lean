/- Contracts of the reference: Up, Args. -/
import Derived.Test.YtcnndoefgjbmiaaGreatGKa
import Derived.Test.YtcnndoefgjbmiaaGreatGRc
set_option linter.unusedVariables false
set_option maxRecDepth 10000
set_option maxHeartbeats 8000000
namespace Go.Proofs.YtcnndoefgjbmiaaGreat.pm
open Go.RowKit
theorem refbnd_any (n : Int) (w : World) : Calls Tryz.prog 89 #[.int .i64 n] w fun e w' => e = .returned (.bool (bndB n)) ∧ w = w' := by
 by_cases h0 : 0 ≤ n
 · have HI : Hid (bndB n = decide (n ≤ 2147483647)) := hQ (by unfold bndB inB; rw [Bool.eq_iff_iff]; simp; omega)
   go_enter Tryz.func89, Tryz.ntmps89
   go_wp2
   go_ret
   exact ⟨ret_bool (by rw [HI.out]), rfl⟩
 · have HI : Hid (bndB n = false) := hQ (inB_f.2 (by omega))
   go_enter Tryz.func89, Tryz.ntmps89
   go_wp2
   go_ret
   exact ⟨ret_bool (by rw [HI.out]), rfl⟩
theorem up_any (n al : Int) (hn : 0 ≤ n) (hn' : n ≤ 2000) (hp : powB al = true) (h1 : 1 ≤ al) (h2 : al ≤ 64) (w : World) :
 Calls Tryz.prog 61 #[.int .i64 n, .int .i64 al] w fun e w' => e = .returned (.tuple #[.int .i64 (upI n al), .int .i64 0]) ∧ w = w' := by
 have HB : Hid (∀ W, Calls Tryz.prog 89 #[.int .i64 n] W fun e w' => e = .returned (.bool true) ∧ W = w') := hQ (fun W => (inB_t.2 ⟨hn, by omega⟩ : bndB n = true) ▸ refbnd_any n W)
 have HP : Hid (∀ W, Calls Tryz.prog 50 #[.int .i64 al] W fun e w' => e = .returned (.bool true) ∧ W = w') := hQ (fun W => hp ▸ refpower_any al (by omega) (by omega) W)
 have hane : ¬ al = 0 := by omega
 have hab : (al == 0) = false := by rw [beq_eq_false_iff_ne]; omega
 have hm : n.tmod al = n % al := Int.tmod_eq_emod_of_nonneg hn
 have m0 := Int.emod_nonneg n hane
 have m1 := Int.emod_lt_of_pos n (show 0 < al by omega)
 have m2 : n % al ≤ n := by
  rcases Int.lt_or_le n al with h | h
  · rw [Int.emod_eq_of_lt hn h]; omega
  · omega
 obtain ⟨m, hmm⟩ : ∃ m, m = n % al := ⟨_, rfl⟩
 have HU : Hid (upI n al = if m = 0 then n else n - m + al) := hQ (by rw [hmm]; rfl)
 rw [← hmm] at hm m0 m1 m2
 clear hp hmm
 by_cases hz : m = 0
 · have HU' : Hid (upI n al = n) := hQ (by rw [HU.out, if_pos hz])
   subst hz
   clear HU
   go_enter Tryz.func61, Tryz.ntmps61
   go_wp2_with fail
   refine (HB.out _).mono ?_
   rintro e w1 ⟨rfl, rfl⟩
   go_wp2_with fail
   refine (HP.out _).mono ?_
   rintro e w1 ⟨rfl, rfl⟩
   go_wp2
   go_ret2
   exact ⟨by rw [HU'.out]; rfl, rfl⟩
 · have HU' : Hid (upI n al = n - m + al) := hQ (by rw [HU.out, if_neg hz])
   have hzb : (m != 0) = true := by simpa using hz
   clear HU
   go_enter Tryz.func61, Tryz.ntmps61
   go_wp2_with fail
   refine (HB.out _).mono ?_
   rintro e w1 ⟨rfl, rfl⟩
   go_wp2_with fail
   refine (HP.out _).mono ?_
   rintro e w1 ⟨rfl, rfl⟩
   go_wp2
   go_ret2
   exact ⟨by rw [HU'.out]; rfl, rfl⟩
theorem vi_call {np nc : Nat} {prm : Int} {sl : List (Int × Int)} {x : Ins} (h : Vi np prm sl nc x) (h22 : x.op = 22) : 0 ≤ x.a ∧ x.a < np := by
 rcases h with ⟨_, h⟩ | ⟨a, h0, h1⟩ | ⟨a, b, h0, h1, h2, h3⟩
 · cases h <;> simp only at h22 ⊢ <;> omega
 · simp only at h22; omega
 · simp only at h22; omega
theorem max_if (a b : Int) : (if a < b then b else a) = max a b := by
 split <;> omega
theorem args_any (A : Option Addr) (p : List Fn) (cp k m : Nat) (hk : k < p.length) (hp : PrOk m p) (w : World) (lo hi : Nat) (hf : Fx w lo hi A p) (hh : hi ≤ w.heap.size) (hm : p.length ≤ maxLen) :
 Calls Tryz.prog 60 #[.agg #[.slice A p.length cp], .int .i64 (k : Int)] w fun e w' => e = .returned (.int .i64 (argsI p (p.getD k Fn.z))) ∧ Below w.heap.size w w' := by
 obtain ⟨W1, hW1⟩ : ∃ W1, W1 = w.alloc (.cells #[.slice A p.length cp] 78) := ⟨_, rfl⟩
 have hB1 : Below w.heap.size w W1 := by rw [hW1]; exact bR.alloc nL _
 have HKP : Hid (Blk W1 w.heap.size 78 #[.slice A p.length cp]) := hQ (by rw [hW1]; exact Blk.new _ _ _)
 have hf1 := hf.keep (Kp.of_below hB1 hh)
 have HF1 := hQ hf1
 obtain ⟨ad, As, cs, Ai, ci, rfl, hb1, p0, p1, p2, p1', p2', sx, nx, -, nm, -⟩ := hf1.whole hk
 have hok := hp.2.2.2 _ (getD_mem' (z := Fn.z) hk)
 obtain ⟨f, hfe⟩ : ∃ f, f = p.getD k Fn.z := ⟨_, rfl⟩
 rw [← hfe] at p0 p1 p2 p1' p2' sx nx nm hok ⊢
 have hV := hok.2.2.2.2.2.2.1
 have hAI : ∀ x ∈ f.code, 0 ≤ argI p x ∧ argI p x ≤ 8 := fun x hx => argI_le hp (hV x hx)
 have hS : Hid (argsI p f = mxN (fun j => argI p (f.code.getD j Ins.z)) f.code.length * 16) := hQ rfl
 have hL := hok.2.2.2.2.2.1
 have HB1 := hQ hB1
 have HW1 := hQ hW1
 have HV := hQ hV
 have HA := hQ hAI
 have HNX := hQ nx
 have hpi : (p.length : Int) ≤ 9223372036854775807 := by unfold maxLen at hm; omega
 have hni : (f.code.length : Int) ≤ 9223372036854775807 := by omega
 have hk0 : (0 : Int) ≤ (k : Int) := by omega
 have hk1 : (k : Int) < (p.length : Int) := by omega
 clear hW1 hB1 hf hf1 sx nx hV hAI hfe hok p0 p1
 obtain ⟨x0, -, xz⟩ := blk_one HKP.out
 go_enter Tryz.func60, Tryz.ntmps60
 go_upto_region 1 with (fail)
 rw [← HW1.out]
 go_wp2
 clear p2 p2'
 go_loopw [5, 7] (fun mv v wr => ∃ (k q : Nat), k ≤ f.code.length ∧ v = .int .i64 k ∧ mv = .int .i64 (mxN (fun j => argI p (f.code.getD j Ins.z)) k) ∧ Hid (wr = W1.drewN q)) (fun _ v _ => f.code.length - (intOf v).toNat)
 case atStart => exact ⟨0, 0, by omega, rfl, rfl, hQ rfl⟩
 case round =>
  obtain ⟨j, q, hj, rfl, rfl, HW⟩ := hrel
  obtain rfl := HW.out
  have hj0 : (0 : Int) ≤ (j : Int) := by omega
  have hmb := mxN_le (fun j => argI p (f.code.getD j Ins.z)) 8 (by omega) j (fun i hi => (HA.out _ (getD_mem' (by omega))).2)
  obtain ⟨mv, hmv⟩ : ∃ mv, mv = mxN (fun j => argI p (f.code.getD j Ins.z)) j := ⟨_, rfl⟩
  rw [← hmv] at hmb ⊢
  obtain ⟨hmb0, hmb1⟩ := hmb
  have HMV := hQ hmv
  clear hmv
  by_cases hlt : j < f.code.length
  · have hji : (j : Int) < (f.code.length : Int) := by omega
    obtain ⟨a1, rfl, hb2, y0, y1, -⟩ := HNX.out.at_ hlt
    have y1w := y1
    rw [add_pos _ 1 (by omega)] at y1w
    have hxm : f.code.getD j Ins.z ∈ f.code := getD_mem' hlt
    have HX : Hid (max mv (argI p (f.code.getD j Ins.z)) = mxN (fun j => argI p (f.code.getD j Ins.z)) (j + 1)) := hQ (by rw [HMV.out]; rfl)
    have hai := HA.out _ hxm
    have hvx := HV.out _ hxm
    obtain ⟨x, hx⟩ : ∃ x, x = f.code.getD j Ins.z := ⟨_, rfl⟩
    rw [← hx] at y0 y1 y1w HX hai hvx
    clear hx hxm
    obtain ⟨op, xa, xb, xc, im⟩ := x
    simp only at y0 y1 y1w
    by_cases h18 : op = 18
    · subst h18
      have HX' : Hid ((if mv < xa + 1 then xa + 1 else mv) = mxN (fun j => argI p (f.code.getD j Ins.z)) (j + 1)) := hQ (by rw [max_if]; exact HX.out)
      have hai' : 0 ≤ xa + 1 ∧ xa + 1 ≤ 8 := hai
      obtain ⟨q0, q1⟩ := hai'
      clear hai hvx HX
      go_wp2
      go_roundw
      case rel => exact ⟨j + 1, _, by omega, by go_num, by rw [HX'.out], hQ rfl⟩
      case measure => simp [intOf]; omega
    · have h18b : (op == 18) = false := by rw [beq_eq_false_iff_ne]; exact h18
      by_cases h22 : op = 22
      · subst h22
        obtain ⟨c0, c1⟩ := vi_call hvx rfl
        simp only at c0 c1
        have hkx : xa.toNat < p.length := by omega
        obtain ⟨kx, hkxe⟩ : ∃ kx, kx = xa.toNat := ⟨_, rfl⟩
        have hxk : xa = (kx : Int) := by omega
        rw [← hkxe] at hkx
        obtain ⟨ad', _, _, _, _, e', hb3, r0, -⟩ := HF1.out.whole hkx
        obtain rfl : ad = ad' := by injection e'
        have HX' : Hid ((if mv < (p.getD kx Fn.z).params then (p.getD kx Fn.z).params else mv) = mxN (fun j => argI p (f.code.getD j Ins.z)) (j + 1)) := hQ (by
         rw [max_if, ← HX.out]
         show _ = max mv (p.getD xa.toNat Fn.z).params
         rw [← hkxe])
        obtain ⟨pr, hpr⟩ : ∃ pr, pr = (p.getD kx Fn.z).params := ⟨_, rfl⟩
        rw [← hpr] at r0 HX'
        have hkx0 : (0 : Int) ≤ (kx : Int) := by omega
        have hkx1 : (kx : Int) < (p.length : Int) := by omega
        clear hai hvx HX hkxe hpr e'
        subst hxk
        go_wp2_with fail
        go_region
        go_wp2
        go_roundw
        case rel => exact ⟨j + 1, _, by omega, by go_num, by rw [HX'.out], hQ rfl⟩
        case measure => simp [intOf]; omega
      · have h22b : (op == 22) = false := by rw [beq_eq_false_iff_ne]; exact h22
        have HX' : Hid (mv = mxN (fun j => argI p (f.code.getD j Ins.z)) (j + 1)) := hQ (by
         rw [← HX.out]
         unfold argI
         rw [if_neg h18, if_neg h22]
         omega)
        clear hai hvx HX
        go_wp2
        go_roundw
        case rel => exact ⟨j + 1, _, by omega, by go_num, by rw [← HX'.out], hQ rfl⟩
        case measure => simp [intOf]; omega
  · obtain rfl : j = f.code.length := by omega
    have HS' : Hid (argsI p f = mv * 16) := hQ (by rw [hS.out, HMV.out])
    clear HMV
    go_wp2
    go_ret
    exact ⟨ret_int (by rw [HS'.out]), below_drewN HB1.out _⟩
def Ix (w : World) (lo hi : Nat) (A : Option Addr) (l : List Int) : Prop := Rx w lo hi 1 A l.length (l.map (Value.int .i64))
section
variable {w w' : World} {lo hi lo' hi' k : Nat} {A : Option Addr} {l : List Int}
theorem Ix.keep (h : Ix w lo hi A l) (hk : Kp lo hi w w') : Ix w' lo hi A l := Rx.keep h hk
theorem Ix.more (h : Ix w lo hi A l) (hl : lo' ≤ lo) (hh : hi ≤ hi') : Ix w lo' hi' A l := Rx.more h hl hh
theorem Ix.at_ (h : Ix w lo hi A l) (hk : k < l.length) : ∃ ad, A = some ad ∧ ad.block < hi ∧ w.cell? (ad.add (k * 1)) = some (.int .i64 (l.getD k 0)) ∧ w.cell? (ad.add k) = some (.int .i64 (l.getD k 0)) := by
 obtain ⟨ad, e, hb, hc⟩ := h.1.2 (by omega)
 have h1 : (l.map (Value.int .i64))[k]? = some (.int .i64 (l.getD k 0)) := by
  rw [List.getElem?_map, List.getElem?_eq_getElem hk, List.getD_eq_getElem?_getD, List.getElem?_eq_getElem hk]
  rfl
 exact ⟨ad, e, hb, by rw [Nat.mul_one]; exact hc k _ h1, hc k _ h1⟩
end
theorem ints_one' (l : List Int) : ∀ u ∈ l.map (Value.int .i64), u.oneCell' = true := by
 intro u hu
 obtain ⟨a, _, rfl⟩ := List.mem_map.1 hu
 rfl
theorem reads_sing (w : World) (t : TypeId) (v : Value) : Reads (w.alloc (.cells #[v] t)) (w.heap.size + 1) 1 (some ⟨w.heap.size, 0, none⟩) 1 [v] := by
 refine ⟨rfl, fun _ => ⟨_, rfl, by simp, fun j u hu => ?_⟩⟩
 have hj : j = 0 := by
  rcases Nat.eq_zero_or_pos j with h | h
  · exact h
  · rw [List.getElem?_eq_none (by simp; omega)] at hu; cases hu
 subst hj
 have e : (⟨w.heap.size, 0, none⟩ : Addr).add 0 = ⟨w.heap.size, 0, none⟩ := rfl
 rw [e, (Blk.new w t #[v]).cell 0]
 simpa using hu
theorem take_snoc_at {α : Type} (l : List α) (z : α) {k : Nat} (h : k < l.length) : l.take (k + 1) = l.take k ++ [l.getD k z] := by
 rw [List.take_add_one, List.getElem?_eq_getElem h, List.getD_eq_getElem?_getD, List.getElem?_eq_getElem h]
 rfl
theorem Blk.kp {w w' : World} {g lo hi : Nat} {t : TypeId} {cs : Array Value} (h : Blk w g t cs) (hk : Kp lo hi w w') (h1 : lo ≤ g) (h2 : g < hi) : Blk w' g t cs := (hk g h1 h2).trans h
theorem Kp.cell {w w' : World} {lo hi : Nat} {a : Addr} {v : Value} (hk : Kp lo hi w w') (h1 : lo ≤ a.block) (h2 : a.block < hi) (h : w.cell? a = some v) : w'.cell? a = some v := (World.cell?_of_block (hk _ h1 h2)).trans h
theorem Kp.of_own {w w' : World} {lo hi base n : Nat} {e : TypeId} {size : Nat} {v : Value} {xs : List Value} (h : w.ownsRow base e size v n xs) (hg : w.grownBy w' v.ownBlock) (h1 : hi ≤ base) (h2 : hi ≤ w.heap.size) : Kp lo hi w w' :=
 Kp.of_grownR hg h2 (fun j hj => .inr (by have := (h.lt j hj).1; omega))
def TyA (w : World) (A : Option Addr) (n : Nat) (ty : TypeId) : Prop := ∀ ad, A = some ad → 0 < n → ∃ cs fr, w.heap[ad.block]? = some (.cells cs ty fr)
def Kt (t : TypeId) (lo hi : Nat) (w w' : World) : Prop := ∀ b, lo ≤ b → b < hi → (∀ cs fr, w.heap[b]? ≠ some (.cells cs t fr)) → w'.heap[b]? = w.heap[b]?
section
variable {w w1 w' : World} {lo hi lo' hi' n : Nat} {t ty : TypeId} {A : Option Addr}
theorem TyA.nil (w : World) (n : Nat) (ty : TypeId) : TyA w none n ty := fun ad e => by cases e
theorem TyA.of_own {base c size : Nat} {xs : List Value} (h : w.ownsRow base ty size (.slice A n c) n xs) : TyA w A n ty := fun ad e hn => by
 rcases h.2 with ⟨h1, h2⟩ | ⟨g, cap, cur, hv, _, hh, _⟩
 · injection h1 with h1; rw [e] at h1; cases h1
 · injection hv with hv
   rw [e] at hv
   injection hv with hv
   subst hv
   exact ⟨_, _, hh⟩
theorem TyA.keep (h : TyA w A n ty) (hk : Kp lo hi w w') (h1 : ∀ ad, A = some ad → 0 < n → lo ≤ ad.block ∧ ad.block < hi) : TyA w' A n ty := fun ad e hn => by
 obtain ⟨cs, fr, hc⟩ := h ad e hn
 obtain ⟨a, b⟩ := h1 ad e hn
 exact ⟨cs, fr, (hk _ a b).trans hc⟩
theorem Kt.of_kp (h : Kp lo hi w w') : Kt t lo hi w w' := fun b h1 h2 _ => h b h1 h2
theorem Kt.trans (h : Kt t lo hi w w1) (k : Kt t lo hi w1 w') : Kt t lo hi w w' := fun b h1 h2 h3 => by
 have e := h b h1 h2 h3
 rw [k b h1 h2 (by rw [e]; exact h3), e]
theorem Kt.less (h : Kt t lo hi w w') (h1 : lo ≤ lo') (h2 : hi' ≤ hi) : Kt t lo' hi' w w' := fun b a b' c => h b (by omega) (by omega) c
theorem Kt.of_own {base size : Nat} {v : Value} {xs : List Value} (h : w.ownsRow base t size v n xs) (hg : w.grownBy w' v.ownBlock) (hh : hi ≤ w.heap.size) : Kt t lo hi w w' := fun b h1 h2 h3 => by
 refine hg.block b (by omega) (fun e => ?_)
 rcases h.2 with ⟨hv, _⟩ | ⟨g, cap, cur, hv, _, hc, _⟩
 · subst hv; simp [Value.ownBlock] at e
 · subst hv
   have : b = g := by simpa [Value.ownBlock] using e
   subst this
   exact h3 _ _ hc
theorem Rx.keepT {size : Nat} {xs : List Value} (h : Rx w lo hi size A n xs) (ht : TyA w A n ty) (hk : Kt t lo hi w w') (hne : ty ≠ t) : Rx w' lo hi size A n xs :=
 ⟨⟨h.1.1, fun hn => by
  obtain ⟨ad, e, hb, hc⟩ := h.1.2 hn
  obtain ⟨cs, fr, hty⟩ := ht ad e hn
  exact ⟨ad, e, hb, fun j u hu => (World.cell?_of_block (by rw [block_of_add]; exact hk _ (h.2 ad e hn) hb (fun cs' fr' e' => by rw [hty] at e'; injection e' with e'; injection e' with _ e'; exact hne e'))).trans (hc j u hu)⟩⟩, h.2⟩
theorem TyA.keepT {size : Nat} {xs : List Value} (h : Rx w lo hi size A n xs) (ht : TyA w A n ty) (hk : Kt t lo hi w w') (hne : ty ≠ t) : TyA w' A n ty := fun ad e hn => by
 obtain ⟨cs, fr, hty⟩ := ht ad e hn
 obtain ⟨ad', e', hb, _⟩ := h.1.2 hn
 rw [e] at e'
 injection e' with e'
 subst e'
 exact ⟨cs, fr, (hk _ (h.2 ad e hn) hb (fun cs' fr' e' => by rw [hty] at e'; injection e' with e'; injection e' with _ e'; exact hne e')).trans hty⟩
theorem Rx.inside {size : Nat} {xs : List Value} (h : Rx w lo hi size A n xs) : ∀ ad, A = some ad → 0 < n → lo ≤ ad.block ∧ ad.block < hi := fun ad e hn => by
 obtain ⟨ad', e', hb, _⟩ := h.1.2 hn
 rw [e] at e'
 injection e' with e'
 subst e'
 exact ⟨h.2 ad e hn, hb⟩
end
def LayD (y : Lay) (w : World) (e : Ending) (w' : World) : Prop := ∃ Ao co, e = .returned (.tuple #[.agg #[.int .i64 y.args, .int .i64 y.size, .slice Ao y.off.length co], .int .i64 0]) ∧ (Ix w' w.heap.size w'.heap.size Ao y.off ∧ TyA w' Ao y.off.length 3) ∧ y.off.length ≤ co ∧ y.off.length ≤ maxLen ∧ Below w.heap.size w w'
theorem baseline_any (A : Option Addr) (p : List Fn) (cp k m : Nat) (al : Int) (ha : AlOk al) (hk : k < p.length) (hp : PrOk m p) (w : World) (lo hi : Nat) (hf : Fx w lo hi A p) (hh : hi ≤ w.heap.size) (hm : p.length ≤ maxLen) :
 Calls Tryz.prog 38 #[.agg #[.slice A p.length cp], .int .i64 (k : Int), .int .i64 al] w (LayD (layF p al (p.getD k Fn.z)) w) := by
 obtain ⟨i0, hi0, hz0, hz1, hz2⟩ := info_parts info_int
 obtain ⟨W1, hW1⟩ : ∃ W1, W1 = (w.alloc (.cells #[.slice A p.length cp] 78)).alloc (.cells #[.int .i64 0, .int .i64 0, .slice none 0 0] 101) := ⟨_, rfl⟩
 have hB1 : Below w.heap.size w W1 := by rw [hW1]; exact (bR.alloc nL _).alloc (by simp) _
 have HKP : Hid (Blk W1 w.heap.size 78 #[.slice A p.length cp]) := hQ (by rw [hW1]; exact (Blk.new _ _ _).alloc _)
 have HKR : Hid (Blk W1 (w.heap.size + 1) 101 #[.int .i64 0, .int .i64 0, .slice none 0 0]) := hQ (by rw [hW1]; exact Blk.newAt (by simp))
 have hf1 := hf.keep (Kp.of_below hB1 hh)
 have HF1 := hQ hf1
 have hz1' := hB1.size
 have HAR := hQ (args_any A p cp k m hk hp W1 lo hi hf1 (by omega) hm)
 obtain ⟨ad, As, cs, Ai, ci, rfl, hb1, p0, p1, p2, p1', p2', sx, nx, ⟨sm, -⟩, nm, -⟩ := hf1.whole hk
 have hok := hp.2.2.2 _ (getD_mem' (z := Fn.z) hk)
 obtain ⟨f, hfe⟩ : ∃ f, f = p.getD k Fn.z := ⟨_, rfl⟩
 rw [← hfe] at p0 p1 p2 p1' p2' sx nx nm sm hok HAR ⊢
 obtain ⟨n0, n1, n2, n3, n4, n5, n6⟩ := lay_nums hp hok ha
 have HSL := hQ hok.2.2.2.1
 have hsl6 := hok.2.2.1
 obtain ⟨ag, hag⟩ : ∃ ag, ag = argsI p f := ⟨_, rfl⟩
 have HLY : Hid (layF p al f = ⟨ag, upI (endS ag f.slots) al, offs ag f.slots⟩) := hQ (by rw [hag]; rfl)
 rw [← hag] at HAR n0 n1 n2 n3
 rw [show (layF p al f).size = upI (endS (argsI p f) f.slots) al from rfl, ← hag] at n4 n5 n6
 have HB1 := hQ hB1
 have HW1 := hQ hW1
 have HSX := hQ sx
 have hap : powB al = true ∧ 1 ≤ al ∧ al ≤ 64 := by rcases ha with h | h | h <;> rw [h] <;> decide
 obtain ⟨hp1, hp2, hp3⟩ := hap
 have HPA := hQ hp1
 have hpi : (p.length : Int) ≤ 9223372036854775807 := by unfold maxLen at hm; omega
 have hk0 : (0 : Int) ≤ (k : Int) := by omega
 have hk1 : (k : Int) < (p.length : Int) := by omega
 have HN := hQ (⟨n4, n5⟩ : endS ag f.slots ≤ upI (endS ag f.slots) al ∧ upI (endS ag f.slots) al ≤ 671)
 clear hW1 hB1 hf hf1 sx nx hfe hok hag n4 n5 n6 ha hp1
 obtain ⟨x0, -, xz⟩ := blk_one HKP.out
 go_enter Tryz.func38, Tryz.ntmps38
 go_upto_region 1 with (fail)
 rw [← HW1.out]
 clear HW1
 go_wp2_with fail
 refine HAR.out.mono ?_
 rintro e w2 ⟨rfl, bel⟩
 have HB2 : Hid (Below w.heap.size w w2) := hQ (HB1.out.trans (bel.mono HB1.out.size))
 have HKP2 : Hid (Blk w2 w.heap.size 78 #[.slice (some ad) p.length cp]) := hQ (HKP.out.after bel)
 have HKR2 : Hid (Blk w2 (w.heap.size + 1) 101 #[.int .i64 0, .int .i64 0, .slice none 0 0]) := hQ (HKR.out.after bel)
 have HF2 : Hid (Fx w2 lo hi (some ad) p) := hQ (HF1.out.keep (Kp.of_below bel (by omega)))
 have HSX2 : Hid (Sx w2 lo hi As f.slots) := hQ (HSX.out.keep (Kp.of_below bel (by omega)))
 have q2 := (bel.cell (cell_lt p1)).trans p1
 have q2' := (bel.cell (cell_lt p1')).trans p1'
 clear bel x0 xz HB1 HKP HKR HF1 HSX p0 p1 p2 p1' p2' HAR
 go_upto_region 2 with (fail)
 obtain ⟨W3, hW3⟩ : ∃ W3, W3 = w2.alloc (.cells #[.int .i64 ag, .int .i64 0, .slice none 0 0] 101) := ⟨_, rfl⟩
 rw [← hW3]
 have hz3 := HB2.out.size
 have hb3 : Below w2.heap.size w2 W3 := by rw [hW3]; exact bR.alloc nL _
 have HB3 : Hid (Below w.heap.size w W3) := hQ (HB2.out.trans (hb3.mono hz3))
 have HKP3 : Hid (Blk W3 w.heap.size 78 #[.slice (some ad) p.length cp]) := hQ (HKP2.out.after hb3)
 have HKR3 : Hid (Blk W3 (w.heap.size + 1) 101 #[.int .i64 0, .int .i64 0, .slice none 0 0]) := hQ (HKR2.out.after hb3)
 have HKL3 : Hid (Blk W3 w2.heap.size 101 #[.int .i64 ag, .int .i64 0, .slice none 0 0]) := hQ (by rw [hW3]; exact Blk.new _ _ _)
 have HSX3 : Hid (Sx W3 lo hi As f.slots) := hQ (HSX2.out.keep (Kp.of_below hb3 (by omega)))
 have r2 := (hb3.cell (cell_lt q2)).trans q2
 have r2' := (hb3.cell (cell_lt q2')).trans q2'
 have hgR : w.heap.size + 1 < w2.heap.size := HKR2.out.lt
 have hhi : hi ≤ w2.heap.size := by omega
 have hz33 : w2.heap.size < W3.heap.size := HKL3.out.lt
 clear hW3 hb3 q2 q2' HB2 HKP2 HKR2 HF2 HSX2
 generalize w2.heap.size = gL at *
 obtain ⟨x0, -, xz⟩ := blk_one HKP3.out
 obtain ⟨l0, l1, l2, lf0, lf1, lf2, lz⟩ := HKL3.out.c3
 go_wp2
 clear x0 xz l0 l1 l2 lf0 lf1 lf2 lz
 go_loopw [9, 11] (fun ev v wr => ∃ (j : Nat) (Ao : Option Addr) (co : Nat), j ≤ f.slots.length ∧ v = .int .i64 j ∧ ev = .int .i64 (endS ag (f.slots.take j)) ∧ Hid (Kp 0 gL W3 wr) ∧ Hid (Blk wr gL 101 #[.int .i64 ag, .int .i64 0, .slice Ao j co]) ∧ Hid (Ix wr (gL + 1) wr.heap.size Ao (offs ag (f.slots.take j)) ∧ TyA wr Ao j 3) ∧ j ≤ co ∧ Hid (Below w.heap.size w wr)) (fun _ v _ => f.slots.length - (intOf v).toNat)
 case atStart => exact ⟨0, none, 0, by omega, rfl, rfl, hQ (Kp.refl _ _ _), HKL3, hQ ⟨Rx.nil _ _ _ _, TyA.nil _ _ _⟩, by omega, HB3⟩
 case round =>
  obtain ⟨j, Ao, co, hj, rfl, rfl, HKP, HKL, HIX, hco, HB⟩ := hrel
  have hj0 : (0 : Int) ≤ (j : Int) := by omega
  have hgl := HKL.out.lt
  obtain ⟨x0, -, xz⟩ := blk_one (Blk.kp HKP3.out HKP.out (Nat.zero_le _) (by omega))
  obtain ⟨l0, l1, l2, lf0, lf1, lf2, lz⟩ := HKL.out.c3
  have he0 := endS_ge (f.slots.take j) ag (fun s hs => HSL.out s (List.mem_of_mem_take hs))
  have he1 := endS_le (f.slots.take j) ag (fun s hs => HSL.out s (List.mem_of_mem_take hs))
  have htl : (f.slots.take j).length = j := by rw [List.length_take]; omega
  rw [htl] at he1
  have HTL := hQ htl
  have HOL : Hid ((offs ag (f.slots.take j)).length = j) := hQ (by rw [offs_len, htl])
  clear htl
  by_cases hlt : j < f.slots.length
  · have hji : (j : Int) < (f.slots.length : Int) := by omega
    have HT : Hid (f.slots.take (j + 1) = f.slots.take j ++ [f.slots.getD j (0, 0)]) := hQ (take_snoc_at _ _ hlt)
    have hso := slot_nums (HSL.out _ (getD_mem' (z := (0, 0)) hlt))
    have hsp := (slot_pow (HSL.out _ (getD_mem' (z := (0, 0)) hlt))).1
    obtain ⟨a1, rfl, hbl, c0, c1⟩ := (HSX3.out.keep (Kp.less HKP.out (Nat.zero_le _) hhi)).at_ hlt
    have c1w := c1
    rw [add_pos _ 1 (by omega)] at c1w
    obtain ⟨s, hs⟩ : ∃ s, s = f.slots.getD j (0, 0) := ⟨_, rfl⟩
    rw [← hs] at c0 c1 c1w HT hso hsp
    obtain ⟨sz, sa⟩ := s
    simp only at c0 c1 c1w hso hsp
    obtain ⟨s1, s2, s3, s4⟩ := hso
    obtain ⟨ev, hev⟩ : ∃ ev, ev = endS ag (f.slots.take j) := ⟨_, rfl⟩
    have hge := upI_ge ev sa (by omega)
    have hlu := upI_lt ev sa (by omega)
    have HUP := hQ (fun W => up_any ev sa (by omega) (by omega) hsp s3 s4 W)
    obtain ⟨at_, hat⟩ : ∃ at_, at_ = upI ev sa := ⟨_, rfl⟩
    have HOF : Hid (offs ag (f.slots.take (j + 1)) = offs ag (f.slots.take j) ++ [at_]) := hQ (by rw [HT.out, offs_snoc, ← hev, ← hat])
    have HEN : Hid (endS ag (f.slots.take (j + 1)) = at_ + sz) := hQ (by rw [HT.out, endS_snoc, ← hev, ← hat])
    rw [← hev] at he0 he1 ⊢
    rw [← hat] at HUP hge hlu
    have hcmp : (decide (2147483519 - sz < at_)) = false := by rw [decide_eq_false_iff_not]; omega
    have HKV := hQ HKL.out
    have hcmp2 : ¬ (2147483519 - sz < at_) := by omega
    have hcmp3 : ¬ (2147483519 < at_ + sz) := by omega
    clear hs hev hat hsp
    go_wp2_with fail
    refine (HUP.out _).mono ?_
    rintro e w5 ⟨rfl, rfl⟩
    go_upto_region 10 with (fail)
    go_wp2_with (first
     | (at_builtin
        refine wpList_append_any _ rfl (.const (.slice none 0 0)) (.tmp 59) _ rfl (gL + 1) 3 i0 _ 1 8 Tryz.underlying86 hi0 hz0 hz1 hz2 rfl (by omega) (.slice none 0 0) 0 [] rfl (World.ownsRow_nil _ _ _ _) wr.heap.size Ao j co ((offs ag (f.slots.take j)).map (Value.int .i64)) rfl (by have := HIX.out.1.1; rwa [HOL.out] at this) (ints_one' _) (by unfold maxLen; omega) (by omega) (by omega) ?_
        intro v1 w6 own1 hg1 hat1
        have K6 : Hid (Kp 0 (gL + 1) wr w6) := hQ (Kp.of_grownR hg1 (by omega) (fun j hj => by simp [Value.ownBlock] at hj))
        have hz6 := hg1.size
        have B6 : Hid (Below w.heap.size w w6) := hQ (HB.out.grown hg1 HB.out.size (by simp [Value.ownBlock])))
     | (at_builtin
        refine wpList_append_any _ rfl (.tmp 60) (.tmp 62) _ rfl (gL + 1) 3 i0 _ 1 8 Tryz.underlying86 hi0 hz0 hz1 hz2 rfl (by omega) v1 (0 + j) ([] ++ (offs ag (f.slots.take j)).map (Value.int .i64)) rfl (own1.alloc _) (w6.heap.size + 1) (some ⟨w6.heap.size, 0, none⟩) 1 1 [.int .i64 at_] rfl (reads_sing _ _ _) (by simp [Value.oneCell']) (by unfold maxLen; omega) (by omega) (by simp; omega) ?_
        intro v2 w7 own2 hg2 hat2
        have K7 : Hid (Kp 0 (gL + 1) wr w7) := hQ (K6.out.trans ((Kp.alloc (Kp.refl _ _ _) (by omega) _).trans (Kp.of_own (own1.alloc _) hg2 nL (by simp; omega))))
        have B7 : Hid (Below w.heap.size w w7) := hQ ((B6.out.alloc B6.out.size _).grown hg2 (by have := B6.out.size; simp; omega) (fun k hk => by have := (own1.lt k hk).1; omega))
        have hz7 := hg2.size
        obtain ⟨A2, c2, rfl, -⟩ := own_form own2
        have HK7 : Hid (Blk w7 gL 101 #[.int .i64 ag, .int .i64 0, .slice Ao j co]) := hQ (Blk.kp HKL.out K7.out (Nat.zero_le _) (by omega))
        obtain ⟨m0, m1, m2, mf0, mf1, mf2, mz⟩ := HK7.out.c3
        have d0 : ∀ v, (w7.setCell ⟨gL, 2, none⟩ v).cell? (a1.add (j * 2)) = some (.int .i64 sz) := fun v => ((Kp.less K7.out (Nat.le_refl 0) (Nat.le_succ gL)).set (p := ⟨gL, 2, none⟩) (.inr nL) v).cell (Nat.zero_le _) (by rw [block_of_add]; omega) c0))
    have hHK := HK7.out
    have HV2 : Hid ([] ++ (offs ag (f.slots.take j)).map (Value.int .i64) ++ [Value.int .i64 at_] = (offs ag (f.slots.take (j + 1))).map (Value.int .i64)) := hQ (by rw [HOF.out]; simp)
    have HL2 : Hid ((offs ag (f.slots.take (j + 1))).length = j + 1) := hQ (by rw [offs_len, List.length_take]; omega)
    have hc2 := (own_cap own2).2
    have HT7 : Hid (TyA w7 A2 (j + 1) 3) := hQ (by
     have h1 := own2
     rw [show 0 + j + 1 = j + 1 by omega] at h1
     exact TyA.of_own h1)
    have HI7 : Hid (Ix w7 (gL + 1) w7.heap.size A2 (offs ag (f.slots.take (j + 1)))) := hQ (by
     have h1 := Rx.of_own own2
     rw [HV2.out, show 0 + j + 1 = j + 1 by omega] at h1
     unfold Ix
     rw [HL2.out]
     exact h1)
    clear own1 own2 hg1 hg2 hat1 hat2 m0 m1 m2 mf0 mf1 mf2 d0 l0 l1 l2 lf0 lf1 lf2 c0 c1 c1w x0
    go_roundw
    case rel => exact ⟨j + 1, A2, c2, by omega, by go_num, by rw [HEN.out], hQ ((HKP.out.trans (Kp.less K7.out nL (by omega))).set (p := ⟨gL, 2, none⟩) (.inr nL) _), hQ (Blk.set_ hHK 2 _), hQ ⟨Ix.keep (by simpa using HI7.out) ((Kp.refl _ _ _).set (p := ⟨gL, 2, none⟩) (.inl (by show gL < gL + 1; omega)) _), TyA.keep HT7.out ((Kp.refl (gL + 1) w7.heap.size _).set (p := ⟨gL, 2, none⟩) (.inl (by show gL < gL + 1; omega)) _) (by have := Rx.inside HI7.out; rw [HL2.out] at this; exact this)⟩, by omega, hQ (B7.out.setCell (p := ⟨gL, 2, none⟩) (by show w.heap.size ≤ gL; omega) _)⟩
    case measure => simp [intOf]; omega
  · obtain rfl : j = f.slots.length := by omega
    have htk : f.slots.take f.slots.length = f.slots := List.take_length
    rw [htk] at HIX HOL he0 he1 ⊢
    have HLR : Hid (layF p al f = ⟨ag, upI (endS ag f.slots) al, offs ag f.slots⟩) := HLY
    obtain ⟨hu0, hu1⟩ := HN.out
    obtain ⟨ev, hev⟩ : ∃ ev, ev = endS ag f.slots := ⟨_, rfl⟩
    rw [← hev] at he0 he1 hu0 hu1 HLR n3 n2 ⊢
    have HUP := hQ (fun W => up_any ev al (by omega) (by omega) HPA.out hp2 hp3 W)
    obtain ⟨fs, hfs⟩ : ∃ fs, fs = upI ev al := ⟨_, rfl⟩
    rw [← hfs] at HUP hu0 hu1 HLR
    have hcmp2 : ¬ (2147483519 < fs) := by omega
    have HKR : Hid (Blk wr (w.heap.size + 1) 101 #[.int .i64 0, .int .i64 0, .slice none 0 0]) := hQ (Blk.kp HKR3.out HKP.out (Nat.zero_le _) hgR)
    obtain ⟨r0, r1, r2c, rf0, rf1, rf2, rz⟩ := HKR.out.c3
    have hne : gL ≠ w.heap.size + 1 := by omega
    have hne' : w.heap.size + 1 ≠ gL := by omega
    obtain ⟨n, hnn⟩ : ∃ n, n = f.slots.length := ⟨_, rfl⟩
    rw [← hnn] at l2 HKL HOL hco HIX
    have hn6 : n ≤ 6 := by omega
    clear hev hfs HN HLY HTL hnn
    go_wp2_with fail
    refine (HUP.out _).mono ?_
    rintro e w5 ⟨rfl, rfl⟩
    have HR5 : Hid (Blk ((((wr.setCell ⟨gL, 1, none⟩ (.int .i64 fs)).setCell ⟨w.heap.size + 1, 0, none⟩ (.int .i64 ag)).setCell ⟨w.heap.size + 1, 1, none⟩ (.int .i64 fs)).setCell ⟨w.heap.size + 1, 2, none⟩ (.slice Ao n co)) (w.heap.size + 1) 101 #[.int .i64 ag, .int .i64 fs, .slice Ao n co]) := hQ (by
     have := (((HKR.out.far (p := ⟨gL, 1, none⟩) hne' (.int .i64 fs)).set_ 0 (.int .i64 ag)).set_ 1 (.int .i64 fs)).set_ 2 (.slice Ao n co)
     simpa using this)
    have HB5 : Hid (Below w.heap.size w ((((wr.setCell ⟨gL, 1, none⟩ (.int .i64 fs)).setCell ⟨w.heap.size + 1, 0, none⟩ (.int .i64 ag)).setCell ⟨w.heap.size + 1, 1, none⟩ (.int .i64 fs)).setCell ⟨w.heap.size + 1, 2, none⟩ (.slice Ao n co))) := hQ ((((HB.out.setCell (p := ⟨gL, 1, none⟩) hz3 _).setCell (p := ⟨w.heap.size + 1, 0, none⟩) (by simp) _).setCell (p := ⟨w.heap.size + 1, 1, none⟩) (by simp) _).setCell (p := ⟨w.heap.size + 1, 2, none⟩) (by simp) _)
    have HKZ : Hid (Kp (gL + 1) wr.heap.size wr ((((wr.setCell ⟨gL, 1, none⟩ (.int .i64 fs)).setCell ⟨w.heap.size + 1, 0, none⟩ (.int .i64 ag)).setCell ⟨w.heap.size + 1, 1, none⟩ (.int .i64 fs)).setCell ⟨w.heap.size + 1, 2, none⟩ (.slice Ao n co))) := hQ (((((Kp.refl (gL + 1) wr.heap.size wr).set (p := ⟨gL, 1, none⟩) (.inl (by show gL < gL + 1; omega)) (.int .i64 fs)).set (p := ⟨w.heap.size + 1, 0, none⟩) (.inl (by show w.heap.size + 1 < gL + 1; omega)) (.int .i64 ag)).set (p := ⟨w.heap.size + 1, 1, none⟩) (.inl (by show w.heap.size + 1 < gL + 1; omega)) (.int .i64 fs)).set (p := ⟨w.heap.size + 1, 2, none⟩) (.inl (by show w.heap.size + 1 < gL + 1; omega)) (.slice Ao n co))
    have HI5 : Hid (Ix ((((wr.setCell ⟨gL, 1, none⟩ (.int .i64 fs)).setCell ⟨w.heap.size + 1, 0, none⟩ (.int .i64 ag)).setCell ⟨w.heap.size + 1, 1, none⟩ (.int .i64 fs)).setCell ⟨w.heap.size + 1, 2, none⟩ (.slice Ao n co)) w.heap.size ((((wr.setCell ⟨gL, 1, none⟩ (.int .i64 fs)).setCell ⟨w.heap.size + 1, 0, none⟩ (.int .i64 ag)).setCell ⟨w.heap.size + 1, 1, none⟩ (.int .i64 fs)).setCell ⟨w.heap.size + 1, 2, none⟩ (.slice Ao n co)).heap.size Ao (offs ag f.slots) ∧ TyA ((((wr.setCell ⟨gL, 1, none⟩ (.int .i64 fs)).setCell ⟨w.heap.size + 1, 0, none⟩ (.int .i64 ag)).setCell ⟨w.heap.size + 1, 1, none⟩ (.int .i64 fs)).setCell ⟨w.heap.size + 1, 2, none⟩ (.slice Ao n co)) Ao n 3) := hQ (by
     refine ⟨Ix.more (Ix.keep HIX.out.1 HKZ.out) (by omega) (by simp), TyA.keep HIX.out.2 HKZ.out ?_⟩
     have := Rx.inside HIX.out.1
     rw [HOL.out] at this
     exact this)
    go_wp2
    clear x0 xz l0 l1 l2 lf0 lf1 lf2 lz r0 r1 r2c rf0 rf1 rf2 rz
    generalize (((wr.setCell ⟨gL, 1, none⟩ (.int .i64 fs)).setCell ⟨w.heap.size + 1, 0, none⟩ (.int .i64 ag)).setCell ⟨w.heap.size + 1, 1, none⟩ (.int .i64 fs)).setCell ⟨w.heap.size + 1, 2, none⟩ (.slice Ao n co) = Wz at *
    obtain ⟨r0, r1, r2c, -, -, -, rz⟩ := HR5.out.c3
    exact bodyPost_ret (v := .tuple #[.agg #[.int .i64 ag, .int .i64 fs, .slice Ao n co], .int .i64 0]) (by simp [results, Tryz.results38, go_sem, r0, r1, r2c]) rfl ⟨Ao, co, by rw [HLR.out]; show _ = Ending.returned (.tuple #[.agg #[.int .i64 ag, .int .i64 fs, .slice Ao (offs ag f.slots).length co], .int .i64 0]); rw [HOL.out], by rw [HLR.out]; refine ⟨HI5.out.1, ?_⟩; show TyA Wz Ao (offs ag f.slots).length _; rw [HOL.out]; exact HI5.out.2, by rw [HLR.out]; show (offs ag f.slots).length ≤ co; rw [HOL.out]; exact hco, by rw [HLR.out]; show (offs ag f.slots).length ≤ maxLen; rw [HOL.out]; unfold maxLen; omega, HB5.out⟩
end Go.Proofs.YtcnndoefgjbmiaaGreat.pm
