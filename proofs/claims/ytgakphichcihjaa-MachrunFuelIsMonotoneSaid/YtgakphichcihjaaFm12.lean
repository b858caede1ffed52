/- MachrunFuelIsMonotone: the walk of the law. -/
import Derived.Test.YtgakphichcihjaaGJx
import Derived.BigQuiet
import Derived.Deep.QuietTactic
namespace Go.Proofs.Ytgakphichcihjaa.pm
open Go.RowKit
set_option linter.unusedVariables false
set_option maxRecDepth 10000
theorem Rx.after {w w' : World} {lo hi size n : Nat} {A : Option Addr} {xs : List Value} (h : Rx w lo hi size A n xs) (hb : Below w.heap.size w w') (hh : hi ≤ w.heap.size) : Rx w' lo hi size A n xs := Rx.keep h (Kp.of_below hb hh)
theorem Ux.take {w : World} {lo hi : Nat} {A : Option Addr} {l : List (Int × Int)} (h : Ux w lo hi A l) (k : Nat) (hk : k ≤ l.length) : Ux w lo hi A (l.take k) := by
  have hl : (l.take k).length = k := by rw [List.length_take]; omega
  unfold Ux
  rw [hl]
  have ht : ∀ (l : List (Int × Int)) (k : Nat), (l.take k).flatMap ucells = (l.flatMap ucells).take (k * 2) := fun l k => by
    induction k generalizing l with
    | zero => simp
    | succ k ih =>
      rcases l with _ | ⟨x, r⟩
      · simp
      · rw [List.take_succ_cons, List.flatMap_cons, List.flatMap_cons, ih r, show (k + 1) * 2 = (ucells x).length + k * 2 by rw [ucells_len]; omega, List.take_length_add_append]
  refine ⟨⟨by rw [flat_len ucells_len, hl], fun hp => ?_⟩, fun ad e hp => h.2 ad e (by omega)⟩
  obtain ⟨ad, e, hb, hc⟩ := h.1.2 (by omega)
  refine ⟨ad, e, hb, fun j u hu => hc j u ?_⟩
  rw [ht, List.getElem?_take] at hu
  split at hu
  · exact hu
  · cases hu
set_option maxHeartbeats 4000000 in
theorem fm_law (A : Option Addr) (n c : Nat) (l : List Nat) (more : Nat) (hmore : more < 256) (w : World) (hb : Bs w w.heap.size A n l) (hn : n ≤ maxLen) (hc : n ≤ c) :
    Calls Try.prog 7 #[.slice A n c, .int .u8 (more : Int)] w fun e w' => e = .returned (.bool true) ∧ Below w.heap.size w w' := by
  have HB := Lib.hid hb
  clear hb
  go_enter Try.func7, Try.ntmps7
  go_wp2_with fail
  refine (awake12 _).mono ?_
  rintro e w1 ⟨rfl, b1⟩
  have HB1 := Lib.hid b1
  have hs1 := b1.size
  have HBS1 : Hid (Bs w1 w1.heap.size A n l) := Lib.hid ((HB.out.below b1).more hs1)
  clear b1
  go_wp2_with fail
  refine (scene_any A n c l w1 HBS1.out hn hc).mono ?_
  rintro e w2 ⟨al, p, inp, F, S, Ap, cp, iv, p', rfl, htg, hF, hS, hiw, hgt, hix, hcp, -, b2⟩
  obtain ⟨hE, hrt⟩ := tgp_rt (by omega) htg
  obtain ⟨ad, rfl⟩ := Gx.ad hgt.gx hrt.len.1
  have HRT := Lib.hid hrt
  have HE := Lib.hid hE
  have HIW := Lib.hid hiw
  have HFX := Lib.hid (hgt.gx.more (Nat.zero_le _) (Nat.le_refl _))
  have HIX := Lib.hid hix
  have HB2 : Hid (Below w.heap.size w w2) := Lib.hid (HB1.out.trans (b2.mono hs1))
  clear htg hiw hgt hix b2 hE hrt
  obtain ⟨Ai, ci, rfl, -⟩ := HIX.out
  go_upto_region 4 with (fail)
  obtain ⟨W3, hW3⟩ : ∃ W3, W3 = w2.alloc (.cells #[.int .i64 al, .slice (some ad) p.length cp] 24) := ⟨_, rfl⟩
  rw [← hW3]
  have HK5 : Hid (Blk W3 w2.heap.size 24 #[.int .i64 al, .slice (some ad) p.length cp]) := Lib.hid (by rw [hW3]; exact Blk.new _ _ _)
  have hB3 : Below w2.heap.size w2 W3 := by rw [hW3]; exact (Below.refl _ _).alloc (Nat.le_refl _) _
  have HB3 : Hid (Below w.heap.size w W3) := Lib.hid (HB2.out.trans (hB3.mono HB2.out.size))
  have HFX3 : Hid (Gx W3 0 W3.heap.size (some ad) p) := Lib.hid ((HFX.out.keep (Kp.of_below hB3 (Nat.le_refl _))).more (Nat.zero_le _) hB3.size)
  have HIX3 : Hid (InX W3 W3.heap.size (.slice Ai inp.length ci) inp) := Lib.hid ((HIX.out.after hB3).more hB3.size)
  have hg5 : w2.heap.size < W3.heap.size := HK5.out.lt
  obtain ⟨g5, hg5e⟩ : ∃ g5, g5 = w2.heap.size := ⟨_, rfl⟩
  rw [← hg5e] at HK5 hg5 ⊢
  have hs3 := HB3.out.size
  clear hW3 hB3 HFX HIX hg5e
  have hFL := end_fuel (p := p) (inp := inp) S (tpOf al S) F more
  have HRUN := fun F hF w hf hin => run_o HRT.out HE.out ad cp (.slice Ai inp.length ci) inp HIW.out F S hF (by omega) w hf hin
  obtain ⟨a, ha⟩ : ∃ a, a = endX p inp S (tpOf al S) F := ⟨_, rfl⟩
  obtain ⟨b, hb⟩ : ∃ b, b = endX p inp S (tpOf al S) (F + more) := ⟨_, rfl⟩
  have HR1 := Lib.hid (HRUN F (by omega) W3 HFX3.out HIX3.out)
  have HR2 := Lib.hid (HRUN (F + more) (by omega))
  rw [← ha, ← hb] at hFL
  rw [← ha] at HR1
  rw [← hb] at HR2
  have HFL := Lib.hid hFL
  clear HRUN ha hb hFL
  obtain ⟨q0, q1, -, -, qz⟩ := HK5.out.c2
  go_wp2_with fail
  refine HR1.out.mono ?_
  rintro e w4 ⟨At, ct, rfl, b4, o4⟩
  rw [ocO_v]
  unfold ocs
  have HU4 : Hid (Ux w4 W3.heap.size w4.heap.size At (ocO a).tr) := Lib.hid (ocO_u (Rx.of_own o4))
  have hcap4 := (own_cap o4).1
  have HB4 : Hid (Below w.heap.size w w4) := Lib.hid (HB3.out.trans (b4.mono hs3))
  have HK54 := Lib.hid (HK5.out.after b4)
  have HFX4 := Lib.hid ((HFX3.out.keep (Kp.of_below b4 (Nat.le_refl _))).more (Nat.zero_le _) b4.size)
  have HIX4 := Lib.hid ((HIX3.out.after b4).more b4.size)
  clear b4 o4 q0 q1 qz HR1 HFX3 HIX3
  go_upto_region 5 with (fail)
  obtain ⟨W5, hW5⟩ : ∃ W5, W5 = w4.alloc (.cells #[.int .i64 (ocO a).kind, .int .u64 (ocO a).code, .int .u64 (ocO a).lo, .int .u64 (ocO a).hi, .slice At (ocO a).tr.length ct, .int .i64 (ocO a).st] 57) := ⟨_, rfl⟩
  rw [← hW5]
  have HK9 : Hid (Blk W5 w4.heap.size 57 #[.int .i64 (ocO a).kind, .int .u64 (ocO a).code, .int .u64 (ocO a).lo, .int .u64 (ocO a).hi, .slice At (ocO a).tr.length ct, .int .i64 (ocO a).st]) := Lib.hid (by rw [hW5]; exact Blk.new _ _ _)
  have hB5 : Below w4.heap.size w4 W5 := by rw [hW5]; exact (Below.refl _ _).alloc (Nat.le_refl _) _
  have hs4 := HB4.out.size
  have HB5 : Hid (Below w.heap.size w W5) := Lib.hid (HB4.out.trans (hB5.mono hs4))
  have HU5 := Lib.hid (HU4.out.keep (Kp.of_below hB5 (Nat.le_refl _)))
  have HK55 := Lib.hid (HK54.out.after hB5)
  have HFX5 := Lib.hid ((HFX4.out.keep (Kp.of_below hB5 (Nat.le_refl _))).more (Nat.zero_le _) hB5.size)
  have HIX5 := Lib.hid ((HIX4.out.after hB5).more hB5.size)
  have hu4 : w4.heap.size ≤ W5.heap.size := hB5.size
  have hg9 : w4.heap.size < W5.heap.size := HK9.out.lt
  obtain ⟨g9, hg9e⟩ : ∃ g9, g9 = w4.heap.size := ⟨_, rfl⟩
  rw [← hg9e] at HK9 HU5 hg9 hu4 ⊢
  clear hW5 hB5 HFX4 HIX4 HU4 HK54 hg9e
  obtain ⟨F2, hF2⟩ : ∃ F2 : Nat, F2 = F + more := ⟨_, rfl⟩
  have hF2i : (F : Int) + (more : Int) = (F2 : Int) := by omega
  have hFi : (F : Int) < 256 := by omega
  have hMi : (more : Int) < 256 := by omega
  have hF0 : (0 : Int) ≤ (F : Int) := by omega
  have hM0 : (0 : Int) ≤ (more : Int) := by omega
  have hF2b : (F2 : Int) < 512 := by omega
  rw [← hF2] at HR2
  have HF2 := Lib.hid hF2
  clear hF2
  obtain ⟨q0, q1, -, -, qz⟩ := HK55.out.c2
  go_wp2_with fail
  try rw [hF2i]
  refine (HR2.out W5 HFX5.out HIX5.out).mono ?_
  rintro e w6 ⟨Bt, dt, rfl, b6, o6⟩
  rw [ocO_v]
  unfold ocs
  have HV6 : Hid (Ux w6 W5.heap.size w6.heap.size Bt (ocO b).tr) := Lib.hid (ocO_u (Rx.of_own o6))
  have hcap6 := (own_cap o6).1
  have hcp6 := (own_cap o6).2
  have hs5 := HB5.out.size
  have HB6 : Hid (Below w.heap.size w w6) := Lib.hid (HB5.out.trans (b6.mono hs5))
  have HU6 := Lib.hid (HU5.out.keep (Kp.of_below b6 hu4))
  have HK96 := Lib.hid (HK9.out.after b6)
  have hs6 : W5.heap.size ≤ w6.heap.size := b6.size
  clear b6 o6 q0 q1 qz HR2 HFX5 HIX5 HU5 HK9
  go_upto_region 6 with (fail)
  obtain ⟨W7, hW7⟩ : ∃ W7, W7 = w6.alloc (.cells #[.int .i64 (ocO b).kind, .int .u64 (ocO b).code, .int .u64 (ocO b).lo, .int .u64 (ocO b).hi, .slice Bt (ocO b).tr.length dt, .int .i64 (ocO b).st] 57) := ⟨_, rfl⟩
  rw [← hW7]
  have HK11 : Hid (Blk W7 w6.heap.size 57 #[.int .i64 (ocO b).kind, .int .u64 (ocO b).code, .int .u64 (ocO b).lo, .int .u64 (ocO b).hi, .slice Bt (ocO b).tr.length dt, .int .i64 (ocO b).st]) := Lib.hid (by rw [hW7]; exact Blk.new _ _ _)
  have hB7 : Below w6.heap.size w6 W7 := by rw [hW7]; exact (Below.refl _ _).alloc (Nat.le_refl _) _
  have hs66 := HB6.out.size
  have HB7 : Hid (Below w.heap.size w W7) := Lib.hid (HB6.out.trans (hB7.mono hs66))
  have HU7 := Lib.hid (HU6.out.keep (Kp.of_below hB7 (by omega)))
  have HV7 := Lib.hid (HV6.out.keep (Kp.of_below hB7 (Nat.le_refl _)))
  have HK97 := Lib.hid (HK96.out.after hB7)
  have hu6 : w6.heap.size ≤ W7.heap.size := hB7.size
  obtain ⟨g11, hg11e⟩ : ∃ g11, g11 = w6.heap.size := ⟨_, rfl⟩
  rw [← hg11e] at HK11 HV7 hu6 ⊢
  have hgl : W5.heap.size ≤ g11 := by omega
  clear hW7 hB7 HU6 HV6 HK96 hg11e hs6
  obtain ⟨x0, x1, x2, x3, x4, x5, -, -, -, -, -, -, xz⟩ := HK97.out.c6
  obtain ⟨y0, y1, y2, y3, y4, y5, -, -, -, -, -, -, yz⟩ := HK11.out.c6
  obtain ⟨hst, hsF, ⟨tt, htt⟩, hk1, hk2⟩ := HFL.out
  have hla : (ocO a).tr.length = a.trace.length := List.length_map ..
  have hlb : (ocO b).tr.length = b.trace.length := List.length_map ..
  have hle : (ocO a).tr.length ≤ (ocO b).tr.length := by rw [hla, hlb, htt, List.length_append]; omega
  have hlei : ((ocO a).tr.length : Int) ≤ ((ocO b).tr.length : Int) := by omega
  have hsti : (ocO a).st ≤ (ocO b).st := by show (a.steps : Int) ≤ (b.steps : Int); omega
  have hsFi : (ocO a).st ≤ (F : Int) := by show (a.steps : Int) ≤ (F : Int); omega
  have HTT := Lib.hid htt
  have HK1 := Lib.hid hk1
  have HK2 := Lib.hid hk2
  clear htt hk1 hk2 hst hsF HFL
  go_upto_region 8 with (fail)
  have HLA := Lib.hid hla
  have HLB := Lib.hid hlb
  clear hla hlb hle
  rcases hk4 : ((ocO a).kind == 4) with _ | _
  · have hne : a.kind ≠ 4 := by rw [beq_eq_false_iff_ne] at hk4; exact hk4
    have hab := HK1.out hne
    have HAB : Hid (sameO (ocO a) (ocO b) = true) := Lib.hid (by rw [← hab]; exact sameO_refl _)
    have HS := refsame8_any (ocO a) (ocO b) At Bt ct dt W7 _ _ _ _ (by omega : g9 ≤ W7.heap.size) (by omega : g11 ≤ W7.heap.size) HU7.out HV7.out (by rw [HLA.out]; exact hcap4) (by rw [HLB.out]; exact hcap6)
    unfold ocs at HS
    have HSS := Lib.hid HS
    clear hne hab HS
    go_wp2_with fail
    refine HSS.out.mono ?_
    rintro e w8 ⟨rfl, b8⟩
    rw [HAB.out]
    have HB8 : Hid (Below w.heap.size w w8) := Lib.hid (HB7.out.trans (b8.mono HB7.out.size))
    clear b8 x0 x1 x2 x3 x4 x5 y0 y1 y2 y3 y4 y5 HSS
    go_wp2
    go_ret
    exact ⟨ret_bool (by simp), HB8.out⟩
  · have he4 : a.kind = 4 := by rw [beq_iff_eq] at hk4; exact hk4
    have hsF := HK2.out he4
    have hsF' : ((ocO a).st == (F : Int)) = true := by rw [beq_iff_eq]; show (a.steps : Int) = F; omega
    have HQ : Hid (∀ n, Calls Try.prog 25 #[.slice At a.trace.length ct, .slice Bt a.trace.length dt] (W7.drewN n) fun e w' => e = .returned (.bool true) ∧ ∃ k, w' = (W7.drewN n).drewN k) := Lib.hid (fun n => by
      have h2 : Ux W7 W5.heap.size g11 Bt (ocO a).tr := by
        have h := Ux.take HV7.out (ocO a).tr.length (by rw [HLA.out, HLB.out, HTT.out, List.length_append]; omega)
        have e : (ocO b).tr.take (ocO a).tr.length = (ocO a).tr := by
          have e1 : (ocO b).tr = (ocO a).tr ++ tt.map (fun v => ((v.1 : Int), (v.2 : Int))) := by
            show b.trace.map _ = a.trace.map _ ++ _
            rw [HTT.out, List.map_append]
          rw [e1, List.take_left']
          rfl
        rw [e] at h
        exact h
      have h := refequal_vals At Bt (ocO a).tr (ocO a).tr ct dt (W7.drewN n) _ _ _ _ HU7.out h2 (by rw [HLA.out]; exact hcap4) (by rw [HLA.out]; exact hcap4)
      rw [HLA.out, eqL_all (z := (0, 0)) rfl fun j _ => by simp [slEq]] at h
      exact h)
    rw [HLA.out] at x4 hlei
    rw [HLB.out] at y4 hlei
    have hcpi : (b.trace.length : Int) ≤ (dt : Int) := by omega
    go_upto_region 10 with (fail)
    go_quiet ((go_at_call 25; first | exact Calls.quiet_of (HQ.out _) | exact quiet_add (HQ.out _)))
    go_wp2
    go_ret
    exact ⟨ret_bool (by simp), below_drewN HB7.out _⟩
end Go.Proofs.Ytgakphichcihjaa.pm
