/- Bytes of targets: slices.Equal of bytes. -/
import Derived.Test.YtinfeglhjmnlaaaDoorGPu
import Derived.Deep.CutBlock
import Derived.BigQuiet
import Derived.Deep.QuietTactic
import Derived.Test.YtinfeglhjmnlaaaDoorGCr
import Derived.Test.YtinfeglhjmnlaaaDoorGHp
import Derived.Test.YtinfeglhjmnlaaaDoorGBa
namespace Go.Proofs.YtinfeglhjmnlaaaDoor.pm
open Go.RowKit
set_option linter.unusedVariables false
set_option maxRecDepth 10000

theorem eq_bytes (A A' : Option Addr) (n c m d : Nat) (l r : List Nat) (w : World) (B : Nat) (hb : Bs w B A n l) (hr : Bs w B A' m r) (hn : n ≤ maxLen) (hm : m ≤ maxLen) :
    Calls Tryd.prog 48 #[.slice A n c, .slice A' m d] w fun e w' => e = .returned (.bool (decide (l = r))) ∧ ∃ k, w' = w.drewN k := by
  have hln := hb.len
  have hlm := hr.len
  have HN := Lib.hid hln
  have HM := Lib.hid hlm
  clear hln hlm
  unfold maxLen at hn hm
  by_cases hnm : n = m
  · subst hnm
    go_enter Tryd.func48, Tryd.ntmps48
    go_wp2
    go_loopw [13] (fun i wr => ∃ k : Nat, k ≤ n ∧ i = .int .i64 k ∧ Hid (l.take k = r.take k) ∧ ∃ q, wr = w.drewN q) (fun i _ => n - (intOf i).toNat)
    case atStart => exact ⟨0, by omega, rfl, Lib.hid rfl, 0, rfl⟩
    case round =>
      obtain ⟨k, hk, rfl, H, q, rfl⟩ := hrel
      by_cases hlt : k < n
      · obtain ⟨ad, rfl, hbl, hcell⟩ := hb.at_ hlt
        obtain ⟨ad', rfl, hbl', hcell'⟩ := hr.at_ hlt
        have hl2 := HN.out
        have hr2 := HM.out
        have htl := take_succ_getD l k (by omega)
        have htr := take_succ_getD r k (by omega)
        have hki : (k : Int) < (n : Int) := by omega
        have hk0 : (0 : Int) ≤ (k : Int) := by omega
        by_cases hxy : l.getD k 0 = r.getD k 0
        · have H' := Lib.hid (show l.take (k + 1) = r.take (k + 1) by rw [htl, htr, hxy, H.out])
          rw [← hxy] at hcell'
          clear htl htr hl2 hr2 hxy H hb hr
          generalize l.getD k 0 = x at *
          go_upto_region 6 with (fail)
          go_quiet (fail)
          go_wp2
          go_roundw
          case rel => exact ⟨k + 1, by omega, by go_num, H', by first | exact ⟨_, rfl⟩ | exact ⟨_, World.drewN_drewN _ _ _⟩⟩
          case measure => simp [intOf]; omega
        · have H' := Lib.hid (show l ≠ r by rintro rfl; exact hxy rfl)
          have hne : (((l.getD k 0 : Nat) : Int) != ((r.getD k 0 : Nat) : Int)) = true := by rw [bne_iff_ne]; omega
          clear htl htr hl2 hr2 hxy H hb hr
          generalize l.getD k 0 = x at *
          generalize r.getD k 0 = y at *
          go_upto_region 6 with (fail)
          go_quiet (fail)
          go_wp2
          go_ret
          exact ⟨ret_bool (by simpa using H'.out), by first | exact ⟨_, rfl⟩ | exact ⟨_, World.drewN_drewN _ _ _⟩⟩
      · go_wp2_with fail
        go_ret
        refine ⟨ret_bool ?_, _, rfl⟩
        have h1 := H.out
        rw [List.take_of_length_le (by have := HN.out; omega), List.take_of_length_le (by have := HM.out; omega)] at h1
        simpa using h1
  · have hne : ((n : Int) != (m : Int)) = true := by rw [bne_iff_ne]; omega
    go_enter Tryd.func48, Tryd.ntmps48
    go_wp2
    go_ret
    refine ⟨ret_bool ?_, 0, rfl⟩
    have : l ≠ r := by
      rintro rfl
      exact hnm (HN.out.symm.trans HM.out)
    simpa using this
end Go.Proofs.YtinfeglhjmnlaaaDoor.pm
namespace Go.Proofs.YtinfeglhjmnlaaaDoor.pm
open Go.RowKit
set_option linter.unusedVariables false
set_option maxRecDepth 10000

theorem seal_iff {l : List Nat} {k : Nat} (h : l.length = k + 4) : sealL (l.take k) = l ↔
 (l.getD k 0 = crc (l.take k) / 16777216 % 256 ∧ l.getD (k + 1) 0 = crc (l.take k) / 65536 % 256 ∧ l.getD (k + 2) 0 = crc (l.take k) / 256 % 256 ∧ l.getD (k + 3) 0 = crc (l.take k) % 256) := by
 have hd : l.drop k = [l.getD k 0, l.getD (k + 1) 0, l.getD (k + 2) 0, l.getD (k + 3) 0] := by
  rw [drop_cons_getD l k (by omega), drop_cons_getD l (k + 1) (by omega), drop_cons_getD l (k + 1 + 1) (by omega), drop_cons_getD l (k + 1 + 1 + 1) (by omega), List.drop_eq_nil_of_le (by omega)]
 have e := List.take_append_drop k l
 unfold sealL crc4
 constructor
 · intro hh
   have h2 := List.append_cancel_left (hh.trans e.symm)
   rw [hd] at h2
   simp only [List.cons.injEq, and_true] at h2
   obtain ⟨a, b, c, d⟩ := h2
   exact ⟨a.symm, b.symm, c.symm, d.symm⟩
 · rintro ⟨a, b, c, d⟩
   rw [← a, ← b, ← c, ← d, ← hd]
   exact e
theorem crc_parts6 (y : Nat) : ((y : Int) / 16777216 % 256 = ((y / 16777216 % 256 : Nat) : Int)) ∧ ((y : Int) / 65536 % 256 = ((y / 65536 % 256 : Nat) : Int)) ∧ ((y : Int) / 256 % 256 = ((y / 256 % 256 : Nat) : Int)) ∧ ((y : Int) % 256 = ((y % 256 : Nat) : Int)) := by
 refine ⟨?_, ?_, ?_, ?_⟩ <;> omega
def crcB (l : List Nat) : Bool := decide (4 ≤ l.length ∧ sealL (l.take (l.length - 4)) = l)
set_option maxHeartbeats 4000000 in
theorem crcis_any (A : Option Addr) (n c : Nat) (l : List Nat) (w : World) (B : Nat) (hb : Bs w B A n l) (hn : n ≤ 4000000) (hc : n ≤ c) (hcm : c ≤ maxLen) :
 Calls Tryd.prog 49 #[.slice A n c] w fun e w' => e = .returned (.bool (crcB l)) ∧ w = w' := by
 have hln := hb.len
 by_cases h4 : n < 4
 · have HE : Hid (crcB l = false) := Lib.hid (by unfold crcB; rw [decide_eq_false_iff_not]; omega)
   have h4i : (n : Int) < 4 := by omega
   clear hln hb h4 hc hcm
   go_enter Tryd.func49, Tryd.ntmps49
   go_wp2
   go_ret
   rw [HE.out]
   exact ⟨rfl, rfl⟩
 obtain ⟨k, hk⟩ : ∃ k, n = k + 4 := ⟨n - 4, by omega⟩
 obtain ⟨y, hy⟩ : ∃ y, y = crc (l.take k) := ⟨_, rfl⟩
 have hsi := seal_iff (l := l) (k := k) (by omega)
 rw [← hy] at hsi
 have HE : Hid (crcB l = decide (l.getD k 0 = y / 16777216 % 256 ∧ l.getD (k + 1) 0 = y / 65536 % 256 ∧ l.getD (k + 2) 0 = y / 256 % 256 ∧ l.getD (k + 3) 0 = y % 256)) := Lib.hid (by
  unfold crcB
  rw [hln, hk, Nat.add_sub_cancel]
  exact decide_eq_decide.2 ⟨fun h => hsi.1 h.2, fun h => ⟨by omega, hsi.2 h⟩⟩)
 have HC := Lib.hid (refcrc_any A k c (l.take k) w B (hb.take (by omega)) (by unfold maxLen; omega))
 rw [← hy] at HC
 have hcp := crc_parts6 y
 obtain ⟨ad, rfl, hadb, hc0⟩ := hb.at_ (by omega : k < n)
 obtain ⟨ad', ha', -, hc1⟩ := hb.at_ (by omega : k + 1 < n)
 obtain rfl := Option.some.inj ha'
 obtain ⟨ad', ha', -, hc2⟩ := hb.at_ (by omega : k + 2 < n)
 obtain rfl := Option.some.inj ha'
 obtain ⟨ad', ha', -, hc3⟩ := hb.at_ (by omega : k + 3 < n)
 obtain rfl := Option.some.inj ha'
 obtain ⟨k1, hk1⟩ : ∃ k1, k1 = k + 1 := ⟨_, rfl⟩
 obtain ⟨k2, hk2⟩ : ∃ k2, k2 = k + 2 := ⟨_, rfl⟩
 obtain ⟨k3, hk3⟩ : ∃ k3, k3 = k + 3 := ⟨_, rfl⟩
 rw [← hk1] at hc1 HE
 rw [← hk2] at hc2 HE
 rw [← hk3] at hc3 HE
 generalize l.getD k 0 = z0 at *
 generalize l.getD k1 0 = z1 at *
 generalize l.getD k2 0 = z2 at *
 generalize l.getD k3 0 = z3 at *
 have hw1 : IntKind.i64.wrap ((k : Int) + 1) = (k1 : Int) := by rw [IntWalk.i64_in _ (by omega)]; omega
 have hw2 : IntKind.i64.wrap ((k : Int) + 2) = (k2 : Int) := by rw [IntWalk.i64_in _ (by omega)]; omega
 have hw3 : IntKind.i64.wrap ((k : Int) + 3) = (k3 : Int) := by rw [IntWalk.i64_in _ (by omega)]; omega
 obtain ⟨xn, hxn⟩ : ∃ x : Int, (n : Int) = x := ⟨_, rfl⟩
 have hx1 : ¬ xn < 4 := by omega
 have hx3 : IntKind.i64.wrap (xn - 4) = (k : Int) := by rw [IntWalk.i64_in _ (by omega)]; omega
 have hi0 : (0 : Int) ≤ (k : Int) := by omega
 have hkc : k ≤ c := by omega
 have hkci : (k : Int) ≤ (c : Int) := by omega
 have hcc : (c : Int) ≤ 9223372036854775807 := by unfold maxLen at hcm; omega
 have hj0 : (k : Int) < xn := by omega
 have hj1 : (k1 : Int) < xn := by omega
 have hj2 : (k2 : Int) < xn := by omega
 have hj3 : (k3 : Int) < xn := by omega
 have hp1 : (0 : Int) ≤ (k1 : Int) := by omega
 have hp2 : (0 : Int) ≤ (k2 : Int) := by omega
 have hp3 : (0 : Int) ≤ (k3 : Int) := by omega
 obtain ⟨cr, hcr⟩ : ∃ c : Int, c = (y : Int) := ⟨_, rfl⟩
 rw [← hcr] at HC hcp
 obtain ⟨f0, f1, f2, f3⟩ := hcp
 generalize y / 16777216 % 256 = y0 at *
 generalize y / 65536 % 256 = y1 at *
 generalize y / 256 % 256 = y2 at *
 generalize y % 256 = y3 at *
 clear hsi hln hb h4 hc hcm hn hk hk1 hk2 hk3 hy hcr hadb ha'
 have ht : ∀ {a b : Nat}, a = b → ((a : Int) == (b : Int)) = true := fun h => by rw [h]; simp
 have hf : ∀ {a b : Nat}, ¬ a = b → ((a : Int) == (b : Int)) = false := fun h => by rw [beq_eq_false_iff_ne]; omega
 have hr : Hid (∀ (p : Prop) [Decidable p] (b : Bool), crcB l = decide p → (p ↔ b = true) → crcB l = b) := Lib.hid (fun p _ b h1 h2 => by rw [h1]; cases b <;> simp_all)
 by_cases g0 : z0 = y0
 case' neg =>
  have E := Lib.hid (hr.out _ false HE.out (by simp [g0]))
  have b0 := hf g0
  clear g0 ht hf hr HE
 case' pos =>
  have b0 := ht g0
  by_cases g1 : z1 = y1
  case' neg =>
   have E := Lib.hid (hr.out _ false HE.out (by simp [g1]))
   have b1 := hf g1
   clear g0 g1 ht hf hr HE
  case' pos =>
   have b1 := ht g1
   by_cases g2 : z2 = y2
   case' neg =>
    have E := Lib.hid (hr.out _ false HE.out (by simp [g2]))
    have b2 := hf g2
    clear g0 g1 g2 ht hf hr HE
   case' pos =>
    have b2 := ht g2
    by_cases g3 : z3 = y3
    case' neg =>
     have E := Lib.hid (hr.out _ false HE.out (by simp [g3]))
     have b3 := hf g3
     clear g0 g1 g2 g3 ht hf hr HE
    case' pos =>
     have E := Lib.hid (hr.out _ true HE.out (by simp [g0, g1, g2, g3]))
     have b3 := ht g3
     clear g0 g1 g2 g3 ht hf hr HE
 all_goals
  go_enter Tryd.func49, Tryd.ntmps49
  go_upto_region 4 with (fail)
  go_wp2_with fail
  refine HC.out.mono ?_
  rintro e w1 ⟨rfl, rfl⟩
  go_wp2
  go_ret
  rw [E.out]
  exact ⟨rfl, rfl⟩
end Go.Proofs.YtinfeglhjmnlaaaDoor.pm
