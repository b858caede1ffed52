/- MachrunMoreRoom: the walk of the law. -/
import Derived.Test.YtgakphichcihjaaGJx
import Derived.BigQuiet
import Derived.Deep.QuietTactic
namespace Go.Proofs.Ytgakphichcihjaa.pm
open Go.RowKit
set_option linter.unusedVariables false
set_option maxRecDepth 10000
set_option maxHeartbeats 8000000 in
theorem mr_law (A : Option Addr) (n c : Nat) (l : List Nat) (more : Nat) (hmore : more < 256) (w : World) (hb : Bs w w.heap.size A n l) (hn : n ≤ maxLen) (hc : n ≤ c) :
    Calls Try.prog 9 #[.slice A n c, .int .u8 (more : Int)] w fun e w' => e = .returned (.bool true) ∧ Below w.heap.size w w' := by
  have HB := Lib.hid hb
  clear hb
  go_enter Try.func9, Try.ntmps9
  go_wp2_with fail
  refine (awake12 _).mono ?_
  rintro e w1 ⟨rfl, b1⟩
  have HB1 := Lib.hid b1
  have hs1 := b1.size
  have HBS1 : Hid (Bs w1 w1.heap.size A n l) := Lib.hid ((HB.out.below b1).more hs1)
  clear b1
  go_wp2_with fail
  refine (scene_any A n c l w1 HBS1.out hn hc).mono ?_
  rintro e w2 ⟨al, p, inp, F, S, Ap, cp, iv, p', rfl, htg, hF, hS, hiw, hgt, hix, hcp, -, b2⟩
  obtain ⟨hE, hrt⟩ := tgp_rt (by omega) htg
  obtain ⟨ad, rfl⟩ := Gx.ad hgt.gx hrt.len.1
  have HRT := Lib.hid hrt
  have HE := Lib.hid hE
  have HIW := Lib.hid hiw
  have HGX := Lib.hid (hgt.gx.more (Nat.zero_le _) (Nat.le_refl _))
  have HIX := Lib.hid hix
  have HB2 : Hid (Below w.heap.size w w2) := Lib.hid (HB1.out.trans (b2.mono hs1))
  clear htg hiw hgt hix b2 hE hrt
  obtain ⟨Ai, ci, rfl, -⟩ := HIX.out
  go_upto_region 4 with (fail)
  obtain ⟨W3, hW3⟩ : ∃ W3, W3 = w2.alloc (.cells #[.int .i64 al, .slice (some ad) p.length cp] 24) := ⟨_, rfl⟩
  rw [← hW3]
  have HK5 : Hid (Blk W3 w2.heap.size 24 #[.int .i64 al, .slice (some ad) p.length cp]) := Lib.hid (by rw [hW3]; exact Blk.new _ _ _)
  have hB3 : Below w2.heap.size w2 W3 := by rw [hW3]; exact (Below.refl _ _).alloc (Nat.le_refl _) _
  have HB3 : Hid (Below w.heap.size w W3) := Lib.hid (HB2.out.trans (hB3.mono HB2.out.size))
  have HG3 : Hid (Gx W3 0 W3.heap.size (some ad) p) := Lib.hid ((HGX.out.keep (Kp.of_below hB3 (Nat.le_refl _))).more (Nat.zero_le _) hB3.size)
  have HI3 : Hid (InX W3 W3.heap.size (.slice Ai inp.length ci) inp) := Lib.hid ((HIX.out.after hB3).more hB3.size)
  have hg5 : w2.heap.size < W3.heap.size := HK5.out.lt
  obtain ⟨g5, hg5e⟩ : ∃ g5, g5 = w2.heap.size := ⟨_, rfl⟩
  rw [← hg5e] at HK5 hg5 ⊢
  clear hW3 hB3 HGX HIX hg5e HB2
  obtain ⟨E, hEf⟩ : ∃ E : Nat → Mx, E = fun n => endX p inp n (tpOf al n) F := ⟨_, rfl⟩
  have hE1 : ∀ n, E n = endX p inp n (tpOf al n) F := fun n => by rw [hEf]
  clear hEf
  have hlaw := room_law HRT.out HIW.out S more F
  dsimp only at hlaw
  simp only [← hE1] at hlaw
  have HRUN : Hid (∀ size : Nat, size ≤ 1048576 → ∀ W, Below W3.heap.size W3 W → Calls Try.prog 23 #[.agg #[.int .i64 al, .slice (some ad) p.length cp], .slice Ai inp.length ci, .int .i64 (F : Int), .int .i64 (size : Int)] W (OutD (E size) W)) := Lib.hid (fun size hs W hW => by rw [hE1]; exact run_o HRT.out HE.out ad cp (.slice Ai inp.length ci) inp HIW.out F size (by omega) hs W ((HG3.out.keep (Kp.of_below hW (Nat.le_refl _))).more (Nat.zero_le _) hW.size) ((HI3.out.after hW).more hW.size))
  have HDEP : Hid (∀ size : Nat, size ≤ 1048576 → ∀ W, Below W3.heap.size W3 W → Calls Try.prog 26 #[.agg #[.int .i64 al, .slice (some ad) p.length cp], .slice Ai inp.length ci, .int .i64 (F : Int), .int .i64 (size : Int)] W (DepD (E size) W)) := Lib.hid (fun size hs W hW => by rw [hE1]; exact deep_o HRT.out HE.out ad cp (.slice Ai inp.length ci) inp HIW.out F size (by omega) hs W ((HG3.out.keep (Kp.of_below hW (Nat.le_refl _))).more (Nat.zero_le _) hW.size) ((HI3.out.after hW).more hW.size))
  have R1 := Lib.hid (HRUN.out S (by omega))
  have D1 := Lib.hid (HDEP.out S (by omega))
  obtain ⟨a, ha⟩ : ∃ a, a = E S := ⟨_, rfl⟩
  rw [← ha] at hlaw R1 D1
  obtain ⟨d, hd⟩ : ∃ d, d = a.deep := ⟨_, rfl⟩
  rw [← hd] at hlaw
  have D1' : Hid (∀ W, Below W3.heap.size W3 W → Calls Try.prog 26 #[.agg #[.int .i64 al, .slice (some ad) p.length cp], .slice Ai inp.length ci, .int .i64 (F : Int), .int .i64 (S : Int)] W (fun e w' => e = .returned (.tuple #[.int .i64 (d : Int), .int .i64 0]) ∧ Below W.heap.size W w')) := Lib.hid (by rw [hd]; exact D1.out)
  obtain ⟨hdS, hlaw⟩ := hlaw
  have HLAW := Lib.hid hlaw
  have hdi : (d : Int) ≤ (S : Int) := by omega
  have hd0 : (0 : Int) ≤ (d : Int) := by omega
  have hSi : (S : Int) ≤ 1279 := by omega
  have hS0 : (0 : Int) ≤ (S : Int) := by omega
  have hmi : (more : Int) < 256 := by omega
  have hm0 : (0 : Int) ≤ (more : Int) := by omega
  have hs3 := HB3.out.size
  have R2 := Lib.hid (HRUN.out (S + more) (by omega))
  have D2 := Lib.hid (HDEP.out (S + more) (by omega))
  have R3 := Lib.hid (HRUN.out d (by omega))
  have R4 := Lib.hid (fun _ : d ≠ 0 => HRUN.out (d - 1) (by omega))
  clear ha hd hlaw D1 HRUN HDEP hE1
  obtain ⟨q0, q1, -, -, qz⟩ := HK5.out.c2
  go_wp2_with fail
  refine (R1.out W3 (Below.refl _ _)).mono ?_
  rintro e w4 ⟨Ata, cta, rfl, b4, o4⟩
  rw [ocO_v]
  unfold ocs
  have HUa4 : Hid (Ux w4 W3.heap.size w4.heap.size Ata (ocO a).tr) := Lib.hid (ocO_u (Rx.of_own o4))
  have hca := (own_cap o4).1
  have HB34 := Lib.hid b4
  have hs4 : W3.heap.size ≤ w4.heap.size := b4.size
  clear b4 o4 q0 q1 qz R1
  go_upto_region 5 with (fail)
  obtain ⟨W5, hW5⟩ : ∃ W5, W5 = w4.alloc (.cells #[.int .i64 (ocO a).kind, .int .u64 (ocO a).code, .int .u64 (ocO a).lo, .int .u64 (ocO a).hi, .slice Ata (ocO a).tr.length cta, .int .i64 (ocO a).st] 57) := ⟨_, rfl⟩
  rw [← hW5]
  have HKa : Hid (Blk W5 w4.heap.size 57 #[.int .i64 (ocO a).kind, .int .u64 (ocO a).code, .int .u64 (ocO a).lo, .int .u64 (ocO a).hi, .slice Ata (ocO a).tr.length cta, .int .i64 (ocO a).st]) := Lib.hid (by rw [hW5]; exact Blk.new _ _ _)
  have hB5 : Below w4.heap.size w4 W5 := by rw [hW5]; exact (Below.refl _ _).alloc (Nat.le_refl _) _
  have HB35 : Hid (Below W3.heap.size W3 W5) := Lib.hid (HB34.out.trans (hB5.mono hs4))
  have HUa := Lib.hid (HUa4.out.keep (Kp.of_below hB5 (Nat.le_refl _)))
  have hga : w4.heap.size < W5.heap.size := HKa.out.lt
  obtain ⟨ga, hgae⟩ : ∃ g, g = w4.heap.size := ⟨_, rfl⟩
  rw [← hgae] at HKa HUa hga ⊢
  clear hW5 hB5 hgae HUa4 HB34
  obtain ⟨q0, q1, -, -, qz⟩ := (HK5.out.after HB35.out).c2
  go_wp2_with fail
  refine (D1'.out W5 HB35.out).mono ?_
  rintro e w6 ⟨rfl, b6⟩
  have HB56 := Lib.hid b6
  have HB36 : Hid (Below W3.heap.size W3 w6) := Lib.hid (HB35.out.trans (b6.mono HB35.out.size))
  have hs6 : W5.heap.size ≤ w6.heap.size := b6.size
  clear b6 q0 q1 qz D1'
  obtain ⟨x0, x1, x2, x3, x4, x5, -, -, -, -, -, -, xz⟩ := (HKa.out.after HB56.out).c6
  rcases hk5 : ((ocO a).kind == 5) with _ | _
  case true =>
    go_wp2
    go_ret
    exact ⟨rfl, HB3.out.trans (HB36.out.mono hs3)⟩
  case false =>
  have hne : a.kind ≠ 5 := by rw [beq_eq_false_iff_ne] at hk5; exact hk5
  obtain ⟨l1, l2, l3, l4⟩ := HLAW.out hne
  have L1 := Lib.hid l1
  have L3 := Lib.hid l3
  have L4 := Lib.hid l4
  clear hne l1 l3 l4 HLAW
  go_upto_region 10 with (fail)
  obtain ⟨q0, q1, -, -, qz⟩ := (HK5.out.after HB36.out).c2
  obtain ⟨N2, hN2⟩ : ∃ N2, N2 = S + more := ⟨_, rfl⟩
  have hN2i : (S : Int) + (more : Int) = (N2 : Int) := by omega
  have hwN : IntKind.i64.wrap (N2 : Int) = (N2 : Int) := IntWalk.i64_in _ (by omega)
  rw [← hN2] at R2 D2 L1 l2
  obtain ⟨b, hb⟩ : ∃ b, b = E N2 := ⟨_, rfl⟩
  rw [← hb] at R2 D2 L1 l2
  have D2' : Hid (∀ W, Below W3.heap.size W3 W → Calls Try.prog 26 #[.agg #[.int .i64 al, .slice (some ad) p.length cp], .slice Ai inp.length ci, .int .i64 (F : Int), .int .i64 (N2 : Int)] W (fun e w' => e = .returned (.tuple #[.int .i64 (d : Int), .int .i64 0]) ∧ Below W.heap.size W w')) := Lib.hid (by rw [← l2]; exact D2.out)
  clear x0 x1 x2 x3 x4 x5 hN2 hb l2 D2
  go_wp2_with fail
  refine (R2.out w6 HB36.out).mono ?_
  rintro e w7 ⟨Atb, ctb, rfl, b7, o7⟩
  rw [ocO_v]
  have HUb7 : Hid (Ux w7 w6.heap.size w7.heap.size Atb (ocO b).tr) := Lib.hid (ocO_u (Rx.of_own o7))
  have hcb : (ocO b).tr.length ≤ maxLen := by rw [show (ocO b).tr.length = b.trace.length from List.length_map ..]; exact (own_cap o7).1
  rw [L1.out] at HUb7 hcb ⊢
  unfold ocs
  have hs7 : w6.heap.size ≤ w7.heap.size := b7.size
  have HB57 : Hid (Below W5.heap.size W5 w7) := Lib.hid (HB56.out.trans (b7.mono hs6))
  have HB37 : Hid (Below W3.heap.size W3 w7) := Lib.hid (HB36.out.trans (b7.mono HB36.out.size))
  clear b7 o7 q0 q1 qz R2
  go_upto_region 11 with (fail)
  obtain ⟨W8, hW8⟩ : ∃ W8, W8 = w7.alloc (.cells #[.int .i64 (ocO a).kind, .int .u64 (ocO a).code, .int .u64 (ocO a).lo, .int .u64 (ocO a).hi, .slice Atb (ocO a).tr.length ctb, .int .i64 (ocO a).st] 57) := ⟨_, rfl⟩
  rw [← hW8]
  have HKb : Hid (Blk W8 w7.heap.size 57 #[.int .i64 (ocO a).kind, .int .u64 (ocO a).code, .int .u64 (ocO a).lo, .int .u64 (ocO a).hi, .slice Atb (ocO a).tr.length ctb, .int .i64 (ocO a).st]) := Lib.hid (by rw [hW8]; exact Blk.new _ _ _)
  have hB8 : Below w7.heap.size w7 W8 := by rw [hW8]; exact (Below.refl _ _).alloc (Nat.le_refl _) _
  have HB58 : Hid (Below W5.heap.size W5 W8) := Lib.hid (HB57.out.trans (hB8.mono HB57.out.size))
  have HB38 : Hid (Below W3.heap.size W3 W8) := Lib.hid (HB37.out.trans (hB8.mono HB37.out.size))
  have HUb := Lib.hid (HUb7.out.keep (Kp.of_below hB8 (Nat.le_refl _)))
  have hgb : w7.heap.size < W8.heap.size := HKb.out.lt
  obtain ⟨gb, hgbe⟩ : ∃ g, g = w7.heap.size := ⟨_, rfl⟩
  rw [← hgbe] at HKb HUb hgb ⊢
  clear hW8 hB8 hgbe HUb7
  obtain ⟨q0, q1, -, -, qz⟩ := (HK5.out.after HB38.out).c2
  go_wp2_with fail
  refine (D2'.out W8 HB38.out).mono ?_
  rintro e w9 ⟨rfl, b9⟩
  have HB89 := Lib.hid b9
  have HB39 : Hid (Below W3.heap.size W3 w9) := Lib.hid (HB38.out.trans (b9.mono HB38.out.size))
  have HB59 : Hid (Below W5.heap.size W5 w9) := Lib.hid (HB58.out.trans (b9.mono HB58.out.size))
  have hs9 : W8.heap.size ≤ w9.heap.size := b9.size
  clear b9 q0 q1 qz D2'
  obtain ⟨q0, q1, -, -, qz⟩ := (HK5.out.after HB39.out).c2
  obtain ⟨x, hx⟩ : ∃ x, x = E d := ⟨_, rfl⟩
  rw [← hx] at R3 L3
  clear hx
  go_wp2_with fail
  refine (R3.out w9 HB39.out).mono ?_
  rintro e w10 ⟨Atx, ctx, rfl, b10, o10⟩
  rw [ocO_v]
  have HUx10 : Hid (Ux w10 w9.heap.size w10.heap.size Atx (ocO x).tr) := Lib.hid (ocO_u (Rx.of_own o10))
  have hcx : (ocO x).tr.length ≤ maxLen := by rw [show (ocO x).tr.length = x.trace.length from List.length_map ..]; exact (own_cap o10).1
  rw [L3.out] at HUx10 hcx ⊢
  unfold ocs
  have hs10 : w9.heap.size ≤ w10.heap.size := b10.size
  have HB510 : Hid (Below W5.heap.size W5 w10) := Lib.hid (HB59.out.trans (b10.mono HB59.out.size))
  have HB310 : Hid (Below W3.heap.size W3 w10) := Lib.hid (HB39.out.trans (b10.mono HB39.out.size))
  have HB810 : Hid (Below W8.heap.size W8 w10) := Lib.hid (HB89.out.trans (b10.mono HB89.out.size))
  clear b10 o10 q0 q1 qz R3
  go_upto_region 13 with (fail)
  obtain ⟨W11, hW11⟩ : ∃ W11, W11 = w10.alloc (.cells #[.int .i64 (ocO a).kind, .int .u64 (ocO a).code, .int .u64 (ocO a).lo, .int .u64 (ocO a).hi, .slice Atx (ocO a).tr.length ctx, .int .i64 (ocO a).st] 57) := ⟨_, rfl⟩
  rw [← hW11]
  have HKx : Hid (Blk W11 w10.heap.size 57 #[.int .i64 (ocO a).kind, .int .u64 (ocO a).code, .int .u64 (ocO a).lo, .int .u64 (ocO a).hi, .slice Atx (ocO a).tr.length ctx, .int .i64 (ocO a).st]) := Lib.hid (by rw [hW11]; exact Blk.new _ _ _)
  have hB11 : Below w10.heap.size w10 W11 := by rw [hW11]; exact (Below.refl _ _).alloc (Nat.le_refl _) _
  have HB511 : Hid (Below W5.heap.size W5 W11) := Lib.hid (HB510.out.trans (hB11.mono HB510.out.size))
  have HB311 : Hid (Below W3.heap.size W3 W11) := Lib.hid (HB310.out.trans (hB11.mono HB310.out.size))
  have HB811 : Hid (Below W8.heap.size W8 W11) := Lib.hid (HB810.out.trans (hB11.mono HB810.out.size))
  have HUx := Lib.hid (HUx10.out.keep (Kp.of_below hB11 (Nat.le_refl _)))
  have hgx : w10.heap.size < W11.heap.size := HKx.out.lt
  obtain ⟨gx, hgxe⟩ : ∃ g, g = w10.heap.size := ⟨_, rfl⟩
  rw [← hgxe] at HKx HUx hgx ⊢
  clear hW11 hB11 hgxe HUx10
  have HUa11 := Lib.hid (HUa.out.keep (Kp.of_below HB511.out (by omega)))
  have HUb11 := Lib.hid (HUb.out.keep (Kp.of_below HB811.out (by omega)))
  have hsz5 := HB511.out.size
  have hsz8 := HB811.out.size
  have hca' : (ocO a).tr.length ≤ maxLen := by rw [show (ocO a).tr.length = a.trace.length from List.length_map ..]; exact hca
  have S1 := refsame8_any (ocO a) (ocO a) Ata Atb cta ctb W11 _ _ _ _ (by omega : ga ≤ W11.heap.size) (by omega : gb ≤ W11.heap.size) HUa11.out HUb11.out hca' hcb
  rw [sameO_refl] at S1
  unfold ocs at S1
  have HS1 := Lib.hid S1
  have HS2 : Hid (∀ W, Below W11.heap.size W11 W → Calls Try.prog 24 #[.agg #[.int .i64 (ocO a).kind, .int .u64 (ocO a).code, .int .u64 (ocO a).lo, .int .u64 (ocO a).hi, .slice Ata (ocO a).tr.length cta, .int .i64 (ocO a).st], .agg #[.int .i64 (ocO a).kind, .int .u64 (ocO a).code, .int .u64 (ocO a).lo, .int .u64 (ocO a).hi, .slice Atx (ocO a).tr.length ctx, .int .i64 (ocO a).st]] W fun e w' => e = .returned (.bool true) ∧ Below W.heap.size W w') := Lib.hid (fun W hW => by
    have hz := hW.size
    have S2 := refsame8_any (ocO a) (ocO a) Ata Atx cta ctx W _ _ _ _ (by omega : ga ≤ W.heap.size) (by omega : gx ≤ W.heap.size) (HUa11.out.keep (Kp.of_below hW (by omega))) (HUx.out.keep (Kp.of_below hW (by omega))) hca' hcx
    rw [sameO_refl] at S2
    unfold ocs at S2
    exact S2)
  clear S1
  obtain ⟨x0, x1, x2, x3, x4, x5, -, -, -, -, -, -, xz⟩ := (HKa.out.after HB511.out).c6
  obtain ⟨y0, y1, y2, y3, y4, y5, -, -, -, -, -, -, yz⟩ := (HKb.out.after HB811.out).c6
  go_wp2_with fail
  refine HS1.out.mono ?_
  rintro e w12 ⟨rfl, b12⟩
  have HB1112 := Lib.hid b12
  have HB512 : Hid (Below W5.heap.size W5 w12) := Lib.hid (HB511.out.trans (b12.mono HB511.out.size))
  have HB312 : Hid (Below W3.heap.size W3 w12) := Lib.hid (HB311.out.trans (b12.mono HB311.out.size))
  clear b12 x0 x1 x2 x3 x4 x5 xz y0 y1 y2 y3 y4 y5 yz HS1
  obtain ⟨x0, x1, x2, x3, x4, x5, -, -, -, -, -, -, xz⟩ := (HKa.out.after HB512.out).c6
  obtain ⟨y0, y1, y2, y3, y4, y5, -, -, -, -, -, -, yz⟩ := (HKx.out.after HB1112.out).c6
  go_wp2_with fail
  refine (HS2.out w12 HB1112.out).mono ?_
  rintro e w13 ⟨rfl, b13⟩
  have HB313 : Hid (Below W3.heap.size W3 w13) := Lib.hid (HB312.out.trans (b13.mono HB312.out.size))
  clear b13 x0 x1 x2 x3 x4 x5 xz y0 y1 y2 y3 y4 y5 yz HS2
  have HB13 : Hid (Below w.heap.size w w13) := Lib.hid (HB3.out.trans (HB313.out.mono hs3))
  by_cases hd00 : d = 0
  · have hz : ((d : Int) == 0) = true := by simp [hd00]
    clear hd00
    go_wp2
    go_ret
    exact ⟨rfl, HB13.out⟩
  have hz : ((d : Int) == 0) = false := by rw [beq_eq_false_iff_ne]; omega
  by_cases hF0 : F = 0
  · have hzF : ((F : Int) == 0) = true := by simp [hF0]
    clear hd00 hF0
    go_wp2
    go_ret
    exact ⟨rfl, HB13.out⟩
  have hzF : ((F : Int) == 0) = false := by rw [beq_eq_false_iff_ne]; omega
  have R5 := Lib.hid (R4.out hd00)
  have hL4 := L4.out hd00
  obtain ⟨e1, he1⟩ : ∃ e1, e1 = d - 1 := ⟨_, rfl⟩
  have he1i : (d : Int) - 1 = (e1 : Int) := by omega
  have hwe : IntKind.i64.wrap (e1 : Int) = (e1 : Int) := IntWalk.i64_in _ (by omega)
  rw [← he1] at R5 hL4
  obtain ⟨y, hy⟩ : ∃ y, y = E e1 := ⟨_, rfl⟩
  rw [← hy] at R5 hL4
  have hk5y : (y.kind == 5) = true := by rw [beq_iff_eq]; exact hL4
  clear hy hd00 hF0 he1 L4 R4 hL4
  obtain ⟨q0, q1, -, -, qz⟩ := (HK5.out.after HB313.out).c2
  go_wp2_with fail
  refine (R5.out w13 HB313.out).mono ?_
  rintro e w14 ⟨Aty, cty, rfl, b14, -⟩
  have HB14 : Hid (Below w.heap.size w w14) := Lib.hid (HB13.out.trans (b14.mono HB13.out.size))
  have hs14 := HB14.out.size
  unfold outV
  clear b14 q0 q1 qz R5
  go_wp2
  go_ret
  exact ⟨ret_bool (by simp), HB14.out.alloc hs14 _⟩
end Go.Proofs.Ytgakphichcihjaa.pm
