/- MachrunOverflowsAtEntry: the plain law and the walk. -/
import Derived.Test.YtgakphichcihjaaGJx
import Derived.Deep.CutBlock
namespace Go.Proofs.Ytgakphichcihjaa.pm
open Go.RowKit
set_option linter.unusedVariables false
set_option maxRecDepth 10000
def ovC : List Ins := [⟨22, 1, 0, 0, 0⟩, ⟨23, 0, 0, 0, 0⟩]
def ovD : List Ins := [⟨23, 0, 0, 0, 0⟩]
def ovP (x y : Nat) : List Fr := [⟨0, (x : Int), ovC⟩, ⟨0, (y : Int), ovD⟩]
theorem ovP_E {x y : Nat} (hx : x % 16 = 0) (hy : y % 16 = 0) (hx1 : x ≤ 304) (hy1 : y ≤ 304) : tgE 16 (ovP x y) = 0 := by
  have hs : ∀ (z : Nat) (c : List Ins), z % 16 = 0 → z ≤ 304 → shB 16 ⟨0, (z : Int), c⟩ = true := fun z c h1 h2 => by
    unfold shB
    have a1 : powB 16 = true := by decide
    have a2 : inB 0 9 = true := by decide
    have a3 : inB (z : Int) 2147483520 = true := inB_t.2 ⟨by omega, by omega⟩
    have a4 : ((z : Int) % 16 == 0) = true := by rw [beq_iff_eq]; omega
    simp only [a1, a2, a3, a4]
    rfl
  have f0 : frE 2 16 ⟨0, (x : Int), ovC⟩ = 0 := by
    unfold frE
    rw [if_neg (by rw [hs x _ hx hx1]; simp), if_neg (show ¬ 1024 < ovC.length by decide), if_neg (by
      have : firstE (List.map (inE 2 0 (x : Int) 2) ovC) = 0 := rfl
      exact fun h => h this)]
    rfl
  have f1 : frE 2 16 ⟨0, (y : Int), ovD⟩ = 0 := by
    unfold frE
    rw [if_neg (by rw [hs y _ hy hy1]; simp), if_neg (show ¬ 1024 < ovD.length by decide), if_neg (by
      have : firstE (List.map (inE 2 0 (y : Int) 1) ovD) = 0 := rfl
      exact fun h => h this)]
    rfl
  have l1 : ¬ 80 < (ovP x y).length := by show ¬ 80 < 2; decide
  have l2 : (ovP x y).length ≠ 0 := by show 2 ≠ 0; decide
  rw [tgE_f l1 l2 (by decide) rfl]
  have e : firstE ((ovP x y).map (frE (ovP x y).length 16)) = 0 := by
    refine firstE_zero fun v hv => ?_
    have hv' : v ∈ [frE 2 16 ⟨0, (x : Int), ovC⟩, frE 2 16 ⟨0, (y : Int), ovD⟩] := hv
    rcases List.mem_cons.1 hv' with h | h
    · rw [h]; exact f0
    · rw [List.mem_singleton.1 h]; exact f1
  rw [if_neg (fun h => h e), if_pos]
  have hr : roomB (ovP x y) (x : Int) ⟨22, 1, 0, 0, 0⟩ = true := by
    unfold roomB
    have : decide ((x : Int) < 16 * ((ovP x y).getD (1 : Int).toNat Fr.z).params) = false := decide_eq_false (by show ¬ (x : Int) < 16 * 0; omega)
    simp only [this]
    rfl
  show ((ovC.all (roomB (ovP x y) (x : Int))) && ((ovD.all (roomB (ovP x y) (y : Int))) && true)) = true
  have h1 : ovC.all (roomB (ovP x y) (x : Int)) = true := by
    show (roomB (ovP x y) (x : Int) ⟨22, 1, 0, 0, 0⟩ && (roomB (ovP x y) (x : Int) ⟨23, 0, 0, 0, 0⟩ && true)) = true
    rw [hr]
    rfl
  rw [h1]
  rfl
theorem ovP_rt {x y : Nat} (hE : tgE 16 (ovP x y) = 0) (hx1 : x ≤ 304) (hy1 : y ≤ 304) : RT 16 (ovP x y) := by
  have hin : ∀ z, (z ∈ ovC ∨ z ∈ ovD) → InR z ∧ 0 ≤ z.imm ∧ z.imm < 18446744073709551616 := fun z hz => by
    have : z = ⟨22, 1, 0, 0, 0⟩ ∨ z = ⟨23, 0, 0, 0, 0⟩ := by
      rcases hz with hz | hz
      · rcases List.mem_cons.1 hz with h | h
        · exact .inl h
        · exact .inr (List.mem_singleton.1 h)
      · exact .inr (List.mem_singleton.1 hz)
    rcases this with rfl | rfl <;> (unfold InR I64; decide)
  refine tgE_gt hE ⟨by unfold I64; decide, fun f hf => ?_⟩ fun i hi z hz => ?_
  · have hz0 : I64 0 := by unfold I64; decide
    rcases List.mem_cons.1 hf with h | h
    · rw [h]
      exact ⟨hz0, by unfold I64; show _ ≤ (x : Int) ∧ (x : Int) ≤ _; omega, fun z hz => (hin z (.inl hz)).1⟩
    · rw [List.mem_singleton.1 h]
      exact ⟨hz0, by unfold I64; show _ ≤ (y : Int) ∧ (y : Int) ≤ _; omega, fun z hz => (hin z (.inr hz)).1⟩
  · have : i = 0 ∨ i = 1 := by
      have : i < 2 := hi
      omega
    rcases this with rfl | rfl
    · exact (hin z (.inl hz)).2
    · exact (hin z (.inr hz)).2
section
variable {x y : Nat}
theorem ov_step1 {m : Mx} (h : m.acts = [⟨0, 0⟩]) : stepX (ovP x y) m = m.next.call 1 y := by
  have e : m.ins (ovP x y) = ⟨22, 1, 0, 0, 0⟩ := by unfold Mx.ins Mx.top; rw [h]; rfl
  unfold stepX
  rw [e]
  rfl
theorem ov_step2 {m : Mx} (h : m.acts = [⟨0, 1⟩, ⟨1, 0⟩]) : ∃ z, stepX (ovP x y) m = m.next.leave z := by
  have e : m.ins (ovP x y) = ⟨23, 0, 0, 0, 0⟩ := by unfold Mx.ins Mx.top; rw [h]; rfl
  unfold stepX
  rw [e]
  exact ⟨_, rfl⟩
theorem ov_step3 {m : Mx} (h : m.acts = [⟨0, 1⟩]) : ∃ z, stepX (ovP x y) m = m.next.leave z := by
  have e : m.ins (ovP x y) = ⟨23, 0, 0, 0, 0⟩ := by unfold Mx.ins Mx.top; rw [h]; rfl
  unfold stepX
  rw [e]
  exact ⟨_, rfl⟩
theorem ov_res (n tp : Nat) : (tp < x → (endX (ovP x y) [] n tp 10).kind = 5 ∧ (endX (ovP x y) [] n tp 10).steps = 0) ∧
    (x ≤ tp → tp < x + y → (endX (ovP x y) [] n tp 10).kind = 5 ∧ (endX (ovP x y) [] n tp 10).steps = 1) ∧
    (x + y ≤ tp → (endX (ovP x y) [] n tp 10).kind = 0 ∧ (endX (ovP x y) [] n tp 10).steps = 3) := by
  have es : startX (ovP x y) [] n tp 10 = (Mx.start [] n tp).call 0 x := rfl
  have hsp : (Mx.start [] n tp).sp = tp := rfl
  unfold endX
  rw [es]
  refine ⟨fun h => ?_, fun h1 h2 => ?_, fun h => ?_⟩
  · have e : (Mx.start [] n tp).call 0 x = (Mx.start [] n tp).stop 5 := by unfold Mx.call; rw [if_pos (by rw [hsp]; exact h)]
    rw [e, itX_end rfl]
    exact ⟨rfl, rfl⟩
  · obtain ⟨m, hm⟩ : ∃ m, m = (Mx.start [] n tp).call 0 x := ⟨_, rfl⟩
    have q : m.acts = [⟨0, 0⟩] ∧ m.ended = false ∧ m.steps = 0 ∧ m.sp = tp - x := by
      rw [hm]; unfold Mx.call; rw [if_neg (by rw [hsp]; omega)]; exact ⟨rfl, rfl, rfl, rfl⟩
    rw [← hm, show (10 : Nat) = 9 + 1 from rfl, itX_succ, if_neg (by rw [q.2.1]; decide), ov_step1 q.1]
    have e : m.next.call 1 y = m.next.stop 5 := by unfold Mx.call; rw [if_pos (by show m.sp < y; omega)]
    rw [e, itX_end rfl]
    exact ⟨rfl, by show m.steps + 1 = 1; omega⟩
  · obtain ⟨m, hm⟩ : ∃ m, m = (Mx.start [] n tp).call 0 x := ⟨_, rfl⟩
    have q : m.acts = [⟨0, 0⟩] ∧ m.ended = false ∧ m.steps = 0 ∧ m.sp = tp - x := by
      rw [hm]; unfold Mx.call; rw [if_neg (by rw [hsp]; omega)]; exact ⟨rfl, rfl, rfl, rfl⟩
    rw [← hm, show (10 : Nat) = 9 + 1 from rfl, itX_succ, if_neg (by rw [q.2.1]; decide), ov_step1 q.1]
    obtain ⟨m2, hm2⟩ : ∃ m2, m2 = m.next.call 1 y := ⟨_, rfl⟩
    have q2 : m2.acts = [⟨0, 1⟩, ⟨1, 0⟩] ∧ m2.ended = false ∧ m2.steps = 1 := by
      have ea : m.next.acts = [⟨0, 1⟩] := by unfold Mx.next Mx.setTop Mx.top; dsimp only; rw [q.1]; rfl
      rw [hm2]; unfold Mx.call; rw [if_neg (by show ¬ m.sp < y; omega)]
      exact ⟨by show m.next.acts ++ [⟨1, 0⟩] = _; rw [ea]; rfl, q.2.1, by show m.steps + 1 = 1; omega⟩
    obtain ⟨z2, hz2⟩ := ov_step2 (x := x) (y := y) q2.1
    rw [← hm2, show (9 : Nat) = 8 + 1 from rfl, itX_succ, if_neg (by rw [q2.2.1]; decide), hz2]
    obtain ⟨m3, hm3⟩ : ∃ m3, m3 = m2.next.leave z2 := ⟨_, rfl⟩
    have q3 : m3.acts = [⟨0, 1⟩] ∧ m3.ended = false ∧ m3.steps = 2 := by
      have ea : m2.next.acts = [⟨0, 1⟩, ⟨1, 1⟩] := by unfold Mx.next Mx.setTop Mx.top; dsimp only; rw [q2.1]; rfl
      rw [hm3]; unfold Mx.leave; rw [if_neg (by rw [ea]; decide)]
      exact ⟨by show m2.next.acts.take (m2.next.acts.length - 1) = _; rw [ea]; rfl, q2.2.1, by show m2.steps + 1 = 2; omega⟩
    obtain ⟨z3, hz3⟩ := ov_step3 (x := x) (y := y) q3.1
    rw [← hm3, show (8 : Nat) = 7 + 1 from rfl, itX_succ, if_neg (by rw [q3.2.1]; decide), hz3]
    have ea : m3.next.acts = [⟨0, 2⟩] := by unfold Mx.next Mx.setTop Mx.top; dsimp only; rw [q3.1]; rfl
    have e : m3.next.leave z3 = ({ m3.next with sp := m3.next.sp + z3, acts := m3.next.acts.take 0, res := rg m3.next 0 } : Mx).stop 0 := by unfold Mx.leave; rw [if_pos (by rw [ea]; rfl)]
    rw [e, itX_end rfl]
    exact ⟨rfl, by show m3.steps + 1 = 3; omega⟩
end
theorem ovP_gx {w : World} {g1 g2 g3 x y : Nat} (h1 : Blk w g1 45 #[.int .i64 22, .int .i64 1, .int .i64 0, .int .i64 0, .int .u64 0, .int .i64 23, .int .i64 0, .int .i64 0, .int .i64 0, .int .u64 0]) (h2 : Blk w g2 45 #[.int .i64 23, .int .i64 0, .int .i64 0, .int .i64 0, .int .u64 0])
    (h3 : Blk w g3 38 #[.int .i64 0, .int .i64 (x : Int), .slice (some ⟨g1, 0, none⟩) 2 2, .int .i64 0, .int .i64 (y : Int), .slice (some ⟨g2, 0, none⟩) 1 1]) : Gx w 0 w.heap.size (some ⟨g3, 0, none⟩) (ovP x y) := by
  have hr := reads_of_blk (n := 2) (size := 3) h3 rfl
  refine ⟨_, Rx.of_reads hr, fun i hi => ?_⟩
  have : i = 0 ∨ i = 1 := by
    have : i < 2 := hi
    omega
  rcases this with rfl | rfl
  · exact ⟨some ⟨g1, 0, none⟩, 2, rfl, rfl, rfl, nx_blk (code := ovC) h1, (by show 2 ≤ maxLen; decide), (by show 2 ≤ 2; decide)⟩
  · exact ⟨some ⟨g2, 0, none⟩, 1, rfl, rfl, rfl, nx_blk (code := ovD) h2, (by show 1 ≤ maxLen; decide), (by show 1 ≤ 1; decide)⟩
set_option maxHeartbeats 4000000 in
theorem ov_law (a : Nat) (ha : a < 256) (b : Nat) (hb : b < 256) (s : Nat) (hs : s < 65536) (w : World) :
    Calls Try.prog 8 #[.int .u8 (a : Int), .int .u8 (b : Int), .int .u16 (s : Int)] w fun e w' => e = .returned (.bool true) ∧ Below w.heap.size w w' := by
  obtain ⟨qa, hqa⟩ : ∃ q : Nat, q = a % 20 := ⟨_, rfl⟩
  obtain ⟨qb, hqb⟩ : ∃ q : Nat, q = b % 20 := ⟨_, rfl⟩
  obtain ⟨n, hn⟩ : ∃ q : Nat, q = s % 700 := ⟨_, rfl⟩
  obtain ⟨x, hx⟩ : ∃ x : Nat, x = 16 * qa := ⟨_, rfl⟩
  obtain ⟨y, hy⟩ : ∃ y : Nat, y = 16 * qb := ⟨_, rfl⟩
  have hx16 : x % 16 = 0 := by omega
  have hy16 : y % 16 = 0 := by omega
  have hx1 : x ≤ 304 := by omega
  have hy1 : y ≤ 304 := by omega
  have hn7 : n < 700 := by omega
  have HE := Lib.hid (ovP_E hx16 hy16 hx1 hy1)
  have HRT := Lib.hid (ovP_rt HE.out hx1 hy1)
  have HR := Lib.hid (fun tp => ov_res (x := x) (y := y) n tp)
  have ea : Int.tmod (a : Int) 20 = (qa : Int) := by rw [Int.tmod_eq_emod_of_nonneg (by omega)]; omega
  have eb : Int.tmod (b : Int) 20 = (qb : Int) := by rw [Int.tmod_eq_emod_of_nonneg (by omega)]; omega
  have en : Int.tmod (s : Int) 700 = (n : Int) := by rw [Int.tmod_eq_emod_of_nonneg (by omega)]; omega
  have ex : (16 : Int) * (qa : Int) = (x : Int) := by omega
  have ey : (16 : Int) * (qb : Int) = (y : Int) := by omega
  have hai : (a : Int) < 256 := by omega
  have ha0 : (0 : Int) ≤ (a : Int) := by omega
  have hbi : (b : Int) < 256 := by omega
  have hb0 : (0 : Int) ≤ (b : Int) := by omega
  have hsi : (s : Int) < 65536 := by omega
  have hs0 : (0 : Int) ≤ (s : Int) := by omega
  have hwx : IntKind.i64.wrap (x : Int) = (x : Int) := IntWalk.i64_in _ (by omega)
  have hwy : IntKind.i64.wrap (y : Int) = (y : Int) := IntWalk.i64_in _ (by omega)
  clear hqa hqb hn hx hy hx16 hy16
  go_enter Try.func8, Try.ntmps8
  go_wp2_with fail
  refine (awake12 _).mono ?_
  rintro e w1 ⟨rfl, b1⟩
  have HB1 := Lib.hid b1
  clear b1
  go_upto_region 5 with (fail)
  obtain ⟨W5, hW5⟩ : ∃ W5, W5 = (((w1.alloc (.cells #[.int .i64 22, .int .i64 1, .int .i64 0, .int .i64 0, .int .u64 0, .int .i64 23, .int .i64 0, .int .i64 0, .int .i64 0, .int .u64 0] 45)).alloc (.cells #[.int .i64 23, .int .i64 0, .int .i64 0, .int .i64 0, .int .u64 0] 45)).alloc (.cells #[.int .i64 0, .int .i64 (x : Int), .slice (some ⟨w1.heap.size, 0, none⟩) 2 2, .int .i64 0, .int .i64 (y : Int), .slice (some ⟨w1.heap.size + 1, 0, none⟩) 1 1] 38)).alloc (.cells #[.int .i64 16, .slice (some ⟨w1.heap.size + 1 + 1, 0, none⟩) 2 2] 24) := ⟨_, rfl⟩
  rw [← hW5]
  have hk1 : Blk W5 w1.heap.size 45 #[.int .i64 22, .int .i64 1, .int .i64 0, .int .i64 0, .int .u64 0, .int .i64 23, .int .i64 0, .int .i64 0, .int .i64 0, .int .u64 0] := by rw [hW5]; exact (((Blk.new _ _ _).alloc _).alloc _).alloc _
  have hk2 : Blk W5 (w1.heap.size + 1) 45 #[.int .i64 23, .int .i64 0, .int .i64 0, .int .i64 0, .int .u64 0] := by rw [hW5]; exact ((Blk.newAt (by simp)).alloc _).alloc _
  have hk3 : Blk W5 (w1.heap.size + 1 + 1) 38 #[.int .i64 0, .int .i64 (x : Int), .slice (some ⟨w1.heap.size, 0, none⟩) 2 2, .int .i64 0, .int .i64 (y : Int), .slice (some ⟨w1.heap.size + 1, 0, none⟩) 1 1] := by rw [hW5]; exact (Blk.newAt (by simp)).alloc _
  have HK5 : Hid (Blk W5 (w1.heap.size + 1 + 1 + 1) 24 #[.int .i64 16, .slice (some ⟨w1.heap.size + 1 + 1, 0, none⟩) 2 2]) := Lib.hid (by rw [hW5]; exact Blk.newAt (by simp))
  have HB5 : Hid (Below w.heap.size w W5) := Lib.hid (by rw [hW5]; exact Below.al (Below.al (Below.al (Below.al HB1.out _) _) _) _)
  have HG := Lib.hid (ovP_gx hk1 hk2 hk3)
  have HRUN := Lib.hid (run_o (al := 16) HRT.out HE.out ⟨w1.heap.size + 1 + 1, 0, none⟩ 2 (.slice none 0 0) [] (fun v hv => by cases hv) 10 n (by omega) (by omega) W5 HG.out (inx_nil _ _))
  obtain ⟨T, hT⟩ : ∃ T, T = tpOf 16 n := ⟨_, rfl⟩
  obtain ⟨r, hr⟩ : ∃ r : Nat, r = n % 16 := ⟨_, rfl⟩
  have hTr : T = n - r := by rw [hT, tpOf_nat HRT.out, hr]; rfl
  rw [← hT] at HRUN
  have er : Int.tmod (n : Int) 16 = (r : Int) := by rw [Int.tmod_eq_emod_of_nonneg (by omega)]; omega
  have hrn : r ≤ n := by rw [hr]; exact Nat.mod_le _ _
  have eT : (n : Int) - (r : Int) = (T : Int) := by omega
  have hwT : IntKind.i64.wrap (T : Int) = (T : Int) := IntWalk.i64_in _ (by omega)
  have hn0 : (0 : Int) ≤ (n : Int) := by omega
  have hni : (n : Int) < 700 := by omega
  have hs5 := HB5.out.size
  obtain ⟨z, hz⟩ : ∃ z, z = x + y := ⟨_, rfl⟩
  have ez : (x : Int) + (y : Int) = (z : Int) := by omega
  have hwz : IntKind.i64.wrap (z : Int) = (z : Int) := IntWalk.i64_in _ (by omega)
  obtain ⟨M, hM⟩ : ∃ M, M = endX (ovP x y) [] n T 10 := ⟨_, rfl⟩
  have hres := HR.out T
  rw [← hM] at hres HRUN
  clear hW5 hk1 hk2 hk3 hT hr hTr hM HR HG
  obtain ⟨g5, hg5⟩ : ∃ g5, g5 = w1.heap.size + 1 + 1 + 1 := ⟨_, rfl⟩
  obtain ⟨g4, hg4⟩ : ∃ g4, g4 = w1.heap.size + 1 + 1 := ⟨_, rfl⟩
  rw [← hg5, ← hg4] at HK5
  rw [← hg4] at HRUN
  rw [← hg5, ← hg4]
  clear hg5 hg4
  obtain ⟨x0, x1, -, -, xz⟩ := HK5.out.c2
  go_upto_region 6 with (fail)
  go_wp2_with fail
  refine HRUN.out.mono ?_
  rintro e w6 ⟨At, ct, rfl, b6, -⟩
  have HB6 : Hid (Below w.heap.size w w6) := Lib.hid (HB5.out.trans (b6.mono hs5))
  have hs6 := HB6.out.size
  unfold outV
  clear b6 x0 x1 xz HRUN HK5
  obtain ⟨Kd, hKd⟩ : ∃ Kd, Kd = M.kind := ⟨_, rfl⟩
  obtain ⟨St, hSt⟩ : ∃ St, St = M.steps := ⟨_, rfl⟩
  rw [← hKd, ← hSt] at hres ⊢
  clear hKd hSt
  go_upto_region 10 with (fail)
  have HX := Lib.hid (fun h : x ≤ T => fun g : T < z => hres.2.1 h (by omega))
  have HY := Lib.hid (fun h : z ≤ T => hres.2.2 (by omega))
  have HZ := Lib.hid hres.1
  have HZE := Lib.hid hz
  clear hz ea eb en ex ey er eT hwT hwx hwy hai ha0 hbi hb0 hsi hs0 hn0 hni hres hrn hx1 hy1 hn7
  by_cases h1 : T < x
  · obtain ⟨rfl, rfl⟩ := HZ.out h1
    have h1i : (T : Int) < (x : Int) := by omega
    clear HX HY HZ h1
    go_wp2
    go_ret
    exact ⟨ret_bool (by simp), HB6.out.alloc hs6 _⟩
  · have h1i : (x : Int) ≤ (T : Int) := by omega
    go_upto_region 12 with (fail)
    clear h1i
    by_cases h2 : T < z
    · obtain ⟨rfl, rfl⟩ := HX.out (by omega) h2
      have h2i : (T : Int) < (z : Int) := by omega
      clear HX HY HZ h1 h2
      go_wp2
      go_ret
      exact ⟨ret_bool (by simp), HB6.out.alloc hs6 _⟩
    · obtain ⟨rfl, rfl⟩ := HY.out (by omega)
      have h2i : (((T : Int) < (z : Int)) : Prop) = False := eq_false (by omega)
      clear HX HY HZ h1 h2
      go_wp2
      go_ret
      exact ⟨ret_bool (by simp), HB6.out.alloc hs6 _⟩
end Go.Proofs.Ytgakphichcihjaa.pm
