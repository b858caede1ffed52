/- Contracts of the package sir: within, Terminator, limits, instr. -/
import Derived.Test.YtillopkcmpcokaaDoorSp
import Derived.Deep.RegionHeld3
import Derived.BigQuiet
import Derived.Deep.QuietTactic
namespace Go.Proofs.YtillopkcmpcokaaDoor.pm
open Go.RowKit
set_option linter.unusedVariables false
set_option maxRecDepth 10000
attribute [local go_sem ↓] Go.wp_at_zero Go.wp_at_succ

theorem within_any (n l : Int) (w : World) :
    Calls Tryd.prog 56 #[.int .i64 n, .int .i64 l] w fun e w' => e = .returned (.bool (inB n l)) ∧ w = w' := by
  rcases hb : inB n l with _ | _
  · have h := inB_f.1 hb
    clear hb
    by_cases h0 : 0 ≤ n
    · have h1 : l ≤ n := by omega
      clear h
      go_enter Tryd.func56, Tryd.ntmps56
      go_wp2
      go_ret
      exact ⟨ret_bool (by simp; omega), rfl⟩
    · clear h
      go_enter Tryd.func56, Tryd.ntmps56
      go_wp2
      go_ret
      exact ⟨rfl, rfl⟩
  · obtain ⟨h0, h1⟩ := inB_t.1 hb
    clear hb
    go_enter Tryd.func56, Tryd.ntmps56
    go_wp2
    go_ret
    exact ⟨rfl, rfl⟩
theorem term_any (op : Int) (w : World) :
    Calls Tryd.prog 59 #[.int .i64 op] w fun e w' => e = .returned (.bool (termB op)) ∧ w = w' := by
  by_cases h1 : op = 20
  · subst h1
    go_enter Tryd.func59, Tryd.ntmps59
    go_wp2
    go_ret
    exact ⟨rfl, rfl⟩
  · by_cases h2 : op = 23
    · subst h2
      go_enter Tryd.func59, Tryd.ntmps59
      go_wp2
      go_ret
      exact ⟨rfl, rfl⟩
    · have b1 : (op == 20) = false := by simpa using h1
      have b2 : (op == 23) = false := by simpa using h2
      have HT : Hid (termB op = (op == 24)) := Lib.hid (by unfold termB; rw [b1, b2]; simp)
      clear h1 h2
      go_enter Tryd.func59, Tryd.ntmps59
      go_wp2
      go_ret
      exact ⟨ret_bool (by rw [HT.out]), rfl⟩
set_option maxHeartbeats 400000 in
theorem limits_any (Ap : Option Addr) (nf cp : Nat) (prm : Int) (As : Option Addr) (ns cs : Nat) (Ai : Option Addr) (nc ci : Nat) (w : World) :
    Calls Tryd.prog 78 #[.agg #[.slice Ap nf cp], .agg #[.int .i64 prm, .slice As ns cs, .slice Ai nc ci]] w fun e w' =>
      e = .returned (.agg #[.int .i64 1, .int .i64 8, .int .i64 (ns : Int), .int .i64 (nf : Int), .int .i64 8, .int .i64 prm, .int .i64 (nc : Int)]) ∧ Below w.heap.size w w' := by
  go_enter Tryd.func78, Tryd.ntmps78
  go_wp2
  refine bodyPost_ret (v := .agg #[.int .i64 1, .int .i64 8, .int .i64 (ns : Int), .int .i64 (nf : Int), .int .i64 8, .int .i64 prm, .int .i64 (nc : Int)]) (by simp [results, Tryd.results78, go_sem]) rfl ⟨rfl, ?_⟩
  exact (((Below.refl _ _).alloc (Nat.le_refl _) _).alloc (by simp) _).alloc (by simp; omega) _

/-- the table of the shapes lies in block 0 -/
def Tb (w : World) : Prop := 0 < w.heap.size ∧ ∀ k, k < 25 → w.cell? ⟨0, k * 4, none⟩ = some (.int .i64 ((shp k).1 : Int)) ∧ w.cell? ⟨0, k * 4 + 1, none⟩ = some (.int .i64 ((shp k).2.1 : Int)) ∧ w.cell? ⟨0, k * 4 + 2, none⟩ = some (.int .i64 ((shp k).2.2.1 : Int)) ∧ w.cell? ⟨0, k * 4 + 3, none⟩ = some (.bool (shp k).2.2.2)
theorem Tb.keep {w w' : World} (h : Tb w) (hk : Kp 0 1 w w') (hs : w.heap.size ≤ w'.heap.size) : Tb w' := ⟨by have := h.1; omega, fun k hk' => by
  have e : ∀ o, w'.cell? ⟨0, o, none⟩ = w.cell? ⟨0, o, none⟩ := fun o => World.cell?_of_block (a := ⟨0, o, none⟩) (hk 0 (Nat.le_refl _) (by omega))
  rw [e, e, e, e]
  exact h.2 k hk'⟩
theorem Tb.below {w w' : World} (h : Tb w) (hb : Below w.heap.size w w') : Tb w' := h.keep (Kp.of_below hb h.1) hb.size
def bads (j ka kb kc : Nat) (a b c : Int) : Bool := (decide (0 < j) && badK ka a) || (decide (1 < j) && badK kb b) || (decide (2 < j) && badK kc c)
def outs (nf : Nat) (prm : Int) (ns nc j ka kb kc : Nat) (a b c : Int) : Bool := (decide (0 < j) && outK nf prm ns nc ka a) || (decide (1 < j) && outK nf prm ns nc kb b) || (decide (2 < j) && outK nf prm ns nc kc c)
def tgts (nf : Nat) (prm : Int) (ns nc j ka kb kc : Nat) (a b c : Int) : Bool := (decide (0 < j) && tgtK nf prm ns nc ka a) || (decide (1 < j) && tgtK nf prm ns nc kb b) || (decide (2 < j) && tgtK nf prm ns nc kc c)
theorem bads_0 (ka kb kc : Nat) (a b c : Int) : bads 0 ka kb kc a b c = false := by simp [bads]
theorem bads_1 (ka kb kc : Nat) (a b c : Int) : bads 1 ka kb kc a b c = (bads 0 ka kb kc a b c || badK ka a) := by simp [bads]
theorem bads_2 (ka kb kc : Nat) (a b c : Int) : bads 2 ka kb kc a b c = (bads 1 ka kb kc a b c || badK kb b) := by simp [bads]
theorem bads_3 (ka kb kc : Nat) (a b c : Int) : bads 3 ka kb kc a b c = (bads 2 ka kb kc a b c || badK kc c) := by simp [bads]
theorem outs_1 (nf : Nat) (prm : Int) (ns nc ka kb kc : Nat) (a b c : Int) : outs nf prm ns nc 1 ka kb kc a b c = (outs nf prm ns nc 0 ka kb kc a b c || outK nf prm ns nc ka a) := by simp [outs]
theorem outs_2 (nf : Nat) (prm : Int) (ns nc ka kb kc : Nat) (a b c : Int) : outs nf prm ns nc 2 ka kb kc a b c = (outs nf prm ns nc 1 ka kb kc a b c || outK nf prm ns nc kb b) := by simp [outs]
theorem outs_3 (nf : Nat) (prm : Int) (ns nc ka kb kc : Nat) (a b c : Int) : outs nf prm ns nc 3 ka kb kc a b c = (outs nf prm ns nc 2 ka kb kc a b c || outK nf prm ns nc kc c) := by simp [outs]
theorem tgts_1 (nf : Nat) (prm : Int) (ns nc ka kb kc : Nat) (a b c : Int) : tgts nf prm ns nc 1 ka kb kc a b c = (tgts nf prm ns nc 0 ka kb kc a b c || tgtK nf prm ns nc ka a) := by simp [tgts]
theorem tgts_2 (nf : Nat) (prm : Int) (ns nc ka kb kc : Nat) (a b c : Int) : tgts nf prm ns nc 2 ka kb kc a b c = (tgts nf prm ns nc 1 ka kb kc a b c || tgtK nf prm ns nc kb b) := by simp [tgts]
theorem tgts_3 (nf : Nat) (prm : Int) (ns nc ka kb kc : Nat) (a b c : Int) : tgts nf prm ns nc 3 ka kb kc a b c = (tgts nf prm ns nc 2 ka kb kc a b c || tgtK nf prm ns nc kc c) := by simp [tgts]
theorem lim_cell (nf : Nat) (prm : Int) (ns nc k : Nat) (h : k < 7) : (#[Value.int .i64 1, .int .i64 8, .int .i64 (ns : Int), .int .i64 (nf : Int), .int .i64 8, .int .i64 prm, .int .i64 (nc : Int)] : Array Value)[k]? = some (.int .i64 (lim nf prm ns nc k)) := by
  have : k = 0 ∨ k = 1 ∨ k = 2 ∨ k = 3 ∨ k = 4 ∨ k = 5 ∨ k = 6 := by omega
  rcases this with rfl | rfl | rfl | rfl | rfl | rfl | rfl <;> rfl
section
variable {nf : Nat} {prm : Int} {sl : List (Int × Int)} {nc o : Nat} {a b c im : Int}
theorem instrE_bad (h : inB (o : Int) 25 = true) (h2 : (badK (shp o).1 a || badK (shp o).2.1 b || badK (shp o).2.2.1 c) = true) : instrE nf prm sl nc ⟨(o : Int), a, b, c, im⟩ = 2 := by
  simp only [instrE, Int.toNat_natCast]
  rw [if_neg (by rw [h]; simp), if_pos h2]
theorem instrE_imm (h : inB (o : Int) 25 = true) (h2 : (badK (shp o).1 a || badK (shp o).2.1 b || badK (shp o).2.2.1 c) = false) (h3 : (!(shp o).2.2.2 && im != 0) = true) : instrE nf prm sl nc ⟨(o : Int), a, b, c, im⟩ = 2 := by
  simp only [instrE, Int.toNat_natCast]
  rw [if_neg (by rw [h]; simp), if_neg (by rw [h2]; simp), if_pos h3]
theorem instrE_out (h : inB (o : Int) 25 = true) (h2 : (badK (shp o).1 a || badK (shp o).2.1 b || badK (shp o).2.2.1 c) = false) (h3 : (!(shp o).2.2.2 && im != 0) = false) (h4 : (outK nf prm sl.length nc (shp o).1 a || outK nf prm sl.length nc (shp o).2.1 b || outK nf prm sl.length nc (shp o).2.2.1 c) = true) : instrE nf prm sl nc ⟨(o : Int), a, b, c, im⟩ = 4 := by
  simp only [instrE, Int.toNat_natCast]
  rw [if_neg (by rw [h]; simp), if_neg (by rw [h2]; simp), if_neg (by rw [h3]; simp), if_pos h4]
theorem instrE_end (h : inB (o : Int) 25 = true) (h2 : (badK (shp o).1 a || badK (shp o).2.1 b || badK (shp o).2.2.1 c) = false) (h3 : (!(shp o).2.2.2 && im != 0) = false) (h4 : (outK nf prm sl.length nc (shp o).1 a || outK nf prm sl.length nc (shp o).2.1 b || outK nf prm sl.length nc (shp o).2.2.1 c) = false) :
    instrE nf prm sl nc ⟨(o : Int), a, b, c, im⟩ = if ((o : Int) == 17 && (sl.getD a.toNat (0, 0)).1 != (sl.getD b.toNat (0, 0)).1) = true then 5 else if (tgtK nf prm sl.length nc (shp o).1 a || tgtK nf prm sl.length nc (shp o).2.1 b || tgtK nf prm sl.length nc (shp o).2.2.1 c) = true then 6 else 0 := by
  simp only [instrE, Int.toNat_natCast]
  rw [if_neg (by rw [h]; simp), if_neg (by rw [h2]; simp), if_neg (by rw [h3]; simp), if_neg (by rw [h4]; simp)]
end
theorem quiet_left' {P : Program} {f : FuncId} {args : Array Value} {w : World} {n : Nat} {v : Value} (h : Calls P f args (w.drewN n) fun e w' => e = .returned v ∧ w.drewN n = w') : Calls P f args (w.drewN n) fun e w'' => e = .returned v ∧ ∃ m, w'' = w.drewN m :=
  h.mono fun _ _ ⟨he, hm⟩ => ⟨he, n, hm.symm⟩
set_option maxHeartbeats 8000000 in
theorem instr_any (Ap : Option Addr) (nf cp : Nat) (prm : Int) (As : Option Addr) (sl : List (Int × Int)) (cs : Nat) (Ai : Option Addr) (nc ci : Nat) (x : Ins) (w : World) (lo hi : Nat) (hT : Tb w) (hs : Sx w lo hi As sl) (hh : hi ≤ w.heap.size) (hcs : sl.length ≤ maxLen) :
    Calls Tryd.prog 58 #[.agg #[.slice Ap nf cp], .agg #[.int .i64 prm, .slice As sl.length cs, .slice Ai nc ci], insV x] w fun e w' =>
      e = .returned (.int .i64 (instrE nf prm sl nc x)) ∧ Below w.heap.size w w' := by
  obtain ⟨op, a, b, c, im⟩ := x
  unfold insV
  rcases ho : inB op 25 with _ | _
  · have HE : Hid (instrE nf prm sl nc ⟨op, a, b, c, im⟩ = 4) := Lib.hid (by unfold instrE; rw [if_pos ho])
    have HO := Lib.hid ho
    clear ho
    go_enter Tryd.func58, Tryd.ntmps58
    go_wp2_with fail
    refine (within_any _ _ _).mono ?_
    rintro e w1 ⟨rfl, rfl⟩
    rw [HO.out]
    go_wp2
    go_ret
    exact ⟨ret_int (by rw [HE.out]), ((((Below.refl _ _).alloc (Nat.le_refl _) _).alloc (by simp) _).alloc (by simp; omega) _)⟩
  · have hop := inB_t.1 ho
    obtain ⟨o, rfl⟩ := Int.eq_ofNat_of_zero_le hop.1
    have HO := Lib.hid ho
    have ho25 : (o : Int) < 25 := hop.2
    have ho0 : (0 : Int) ≤ (o : Int) := by omega
    obtain ⟨hka, hkb, hkc⟩ := shp_lt o
    obtain ⟨t0, t1, t2, t3⟩ := hT.2 o (by omega)
    rcases hsh : shp o with ⟨ka, kb, kc, imu⟩
    rw [hsh] at hka hkb hkc t0 t1 t2 t3
    have HSH := Lib.hid hsh
    have h00 := hT.1
    clear ho hop hsh
    simp only at hka hkb hkc t0 t1 t2 t3
    obtain ⟨W3, hW3⟩ : ∃ W3, W3 = ((w.alloc (.cells #[.slice Ap nf cp] 26)).alloc (.cells #[.int .i64 prm, .slice As sl.length cs, .slice Ai nc ci] 51)).alloc (.cells #[.int .i64 (o : Int), .int .i64 a, .int .i64 b, .int .i64 c, .int .u64 im] 48) := ⟨_, rfl⟩
    have HBN : Hid (Below w.heap.size w W3) := Lib.hid (by rw [hW3]; exact ((((Below.refl _ _).alloc (Nat.le_refl _) _).alloc (by simp) _).alloc (by simp; omega) _))
    have HKF : Hid (Blk W3 (w.heap.size + 1) 51 #[.int .i64 prm, .slice As sl.length cs, .slice Ai nc ci]) := Lib.hid (by rw [hW3]; exact (Blk.newAt (by simp)).alloc _)
    have HKX : Hid (Blk W3 (w.heap.size + 1 + 1) 48 #[.int .i64 (o : Int), .int .i64 a, .int .i64 b, .int .i64 c, .int .u64 im]) := Lib.hid (by rw [hW3]; exact Blk.newAt (by simp))
    have HZ3 : Hid (W3.heap.size = w.heap.size + 3) := Lib.hid (by rw [hW3]; simp)
    have HKP : Hid (Blk W3 w.heap.size 26 #[.slice Ap nf cp]) := Lib.hid (by rw [hW3]; exact ((Blk.new w _ _).alloc _).alloc _)
    have HW3 := Lib.hid hW3
    have HSX : Hid (∀ W, Below w.heap.size w W → Sx W lo hi As sl) := Lib.hid (fun W hb => hs.keep (Kp.of_below hb hh))
    have T0 := Lib.hid t0
    have T1 := Lib.hid t1
    have T2 := Lib.hid t2
    have T3 := Lib.hid t3
    clear hT hs hW3 t0 t1 t2 t3
    go_enter Tryd.func58, Tryd.ntmps58
    go_wp2_with fail
    refine (within_any _ _ _).mono ?_
    rintro e w1 ⟨rfl, rfl⟩
    rw [HO.out]
    rw [← HW3.out]
    obtain ⟨x0, x1, x2, x3, x4, -, -, -, -, -, xz⟩ := HKX.out.c5
    obtain ⟨hc3, hf3⟩ := bcell HBN.out
    have s0 : W3.cell? ⟨0, o * 4, none⟩ = some (.int .i64 (ka : Int)) := by rw [hc3 _ _ h00]; exact T0.out
    have s1 : W3.cell? ⟨0, o * 4 + 1, none⟩ = some (.int .i64 (kb : Int)) := by rw [hc3 _ _ h00]; exact T1.out
    have s2 : W3.cell? ⟨0, o * 4 + 2, none⟩ = some (.int .i64 (kc : Int)) := by rw [hc3 _ _ h00]; exact T2.out
    have s3 : W3.cell? ⟨0, o * 4 + 3, none⟩ = some (.bool imu) := by rw [hc3 _ _ h00]; exact T3.out
    clear hc3 hf3
    go_upto_region 4 with (fail)
    obtain ⟨W4, hW4⟩ : ∃ W4, W4 = W3.alloc (.cells #[.int .i64 (ka : Int), .int .i64 (kb : Int), .int .i64 (kc : Int), .bool imu] 129) := ⟨_, rfl⟩
    rw [← hW4]
    have HB4 : Hid (Below W3.heap.size W3 W4) := Lib.hid (by rw [hW4]; exact (Below.refl _ _).alloc (Nat.le_refl _) _)
    have HKS : Hid (Blk W4 W3.heap.size 129 #[.int .i64 (ka : Int), .int .i64 (kb : Int), .int .i64 (kc : Int), .bool imu]) := Lib.hid (by rw [hW4]; exact Blk.new _ _ _)
    have HKX4 := Lib.hid (HKX.out.after HB4.out)
    clear hW4 x0 x1 x2 x3 x4 xz s0 s1 s2 s3
    obtain ⟨x0, x1, x2, x3, x4, -, -, -, -, -, xz⟩ := HKX4.out.c5
    have y0 := Blk.cell HKS.out 0
    have y1 := Blk.cell HKS.out 1
    have y2 := Blk.cell HKS.out 2
    have yz := HKS.out.lt
    simp at y0 y1 y2
    go_cut [8, 9] (fun s8 s9 wx => ∃ g8 g9 : Nat, s8 = .pointer (some ⟨g8, 0, none⟩) ∧ s9 = .pointer (some ⟨g9, 0, none⟩) ∧ Hid (Blk wx g8 131 #[.int .i64 (ka : Int), .int .i64 (kb : Int), .int .i64 (kc : Int)]) ∧ Hid (Blk wx g9 132 #[.int .i64 a, .int .i64 b, .int .i64 c]) ∧ Hid (Below W4.heap.size W4 wx))
    case first =>
      go_region_held3 (fun W => W.cell? ⟨W3.heap.size, 0, none⟩ = some (.int .i64 (ka : Int)) ∧ W.cell? ⟨W3.heap.size, 1, none⟩ = some (.int .i64 (kb : Int)) ∧ W.cell? ⟨W3.heap.size, 2, none⟩ = some (.int .i64 (kc : Int)) ∧ W.cell? ⟨w.heap.size + 1 + 1, 1, none⟩ = some (.int .i64 a) ∧ W.cell? ⟨w.heap.size + 1 + 1, 2, none⟩ = some (.int .i64 b) ∧ W.cell? ⟨w.heap.size + 1 + 1, 3, none⟩ = some (.int .i64 c)) (go_keep) (fail)
      all_goals go_wp2_with fail
      all_goals go_meet
      all_goals
        first
        | exact ⟨_, _, rfl, rfl, Lib.hid (Blk.drew ((Blk.new W4 _ _).alloc _)), Lib.hid (Blk.drew (Blk.newAt (by simp))), Lib.hid (((Below.refl _ _).alloc (Nat.le_refl _) _).alloc (by simp) _).drew⟩
        | exact ⟨_, _, rfl, rfl, Lib.hid (Blk.drew (Blk.newAt (by simp))), Lib.hid (Blk.drew ((Blk.new W4 _ _).alloc _)), Lib.hid (((Below.refl _ _).alloc (Nat.le_refl _) _).alloc (by simp) _).drew⟩
    case rest =>
      obtain ⟨g8, g9, rfl, rfl, HK8, HK9, HB5⟩ := hcut
      obtain ⟨W5, hW5⟩ : ∃ W5, W5 = wc := ⟨_, rfl⟩
      subst hW5
      have HB35 : Hid (Below W3.heap.size W3 W5) := Lib.hid (HB4.out.trans (HB5.out.mono HB4.out.size))
      have HBN5 : Hid (Below w.heap.size w W5) := Lib.hid (HBN.out.trans (HB35.out.mono HBN.out.size))
      have HKX5 := Lib.hid (HKX.out.after HB35.out)
      have HKF5 := Lib.hid (HKF.out.after HB35.out)
      have HKP5 := Lib.hid (HKP.out.after HB35.out)
      have HKS5 := Lib.hid (HKS.out.after HB5.out)
      clear x0 x1 x2 x3 x4 xz y0 y1 y2 yz HKX HKF HKP HKX4 HKS HB4 HB5 HB35 HBN HZ3 HW3 T0 T1 T2 T3
      obtain ⟨z0, z1, z2, -, -, -, zz⟩ := HK8.out.c3
      obtain ⟨n0, n1, n2, -, -, -, nz⟩ := HK9.out.c3
      have HBN := HBN5
      have ix0 : ∀ W, (Instr.index 131 (.agg #[.int .i64 (ka : Int), .int .i64 (kb : Int), .int .i64 (kc : Int)]) (.int .i64 0)).run Tryd.prog W = .ok (.int .i64 (ka : Int)) W := fun _ => by kernel_rfl
      have ix1 : ∀ W, (Instr.index 131 (.agg #[.int .i64 (ka : Int), .int .i64 (kb : Int), .int .i64 (kc : Int)]) (.int .i64 1)).run Tryd.prog W = .ok (.int .i64 (kb : Int)) W := fun _ => by kernel_rfl
      have ix2 : ∀ W, (Instr.index 131 (.agg #[.int .i64 (ka : Int), .int .i64 (kb : Int), .int .i64 (kc : Int)]) (.int .i64 2)).run Tryd.prog W = .ok (.int .i64 (kc : Int)) W := fun _ => by kernel_rfl
      go_wp2
      go_loop [39] (fun v => ∃ j : Nat, j ≤ 3 ∧ v = .int .i64 j ∧ Hid (bads j ka kb kc a b c = false)) (fun v => 3 - (intOf v).toNat)
      case atStart => exact ⟨0, by omega, rfl, Lib.hid (by simp [bads])⟩
      case round =>
        obtain ⟨j, hj, rfl, HBJ⟩ := hrel
        have hj4 : j = 0 ∨ j = 1 ∨ j = 2 ∨ j = 3 := by omega
        clear hj
        rcases hj4 with rfl | rfl | rfl | rfl
        · -- round 0
          by_cases hk : ka = 0
          · have e1 : ((ka : Int) == 0) = true := by simp [hk]
            by_cases hv : a = 0
            · have e2 : (a != 0) = false := by simp [hv]
              have e3 : (a == 0) = true := by simp [hv]
              have HB1 : Hid (bads 1 ka kb kc a b c = false) := Lib.hid (by rw [bads_1, HBJ.out, Bool.false_or]; simp [badK, hv])
              clear hk hv HBJ
              go_wp2
              go_round
              case rel => exact ⟨1, by omega, by go_num, HB1⟩
              case measure => simp [intOf]
            · have e2 : (a != 0) = true := by simp [hv]
              have e3 : (a == 0) = false := by simp [hv]
              have HE : Hid (instrE nf prm sl nc ⟨(o : Int), a, b, c, im⟩ = 2) := Lib.hid (instrE_bad HO.out (by rw [HSH.out]; simp [badK, hk, hv]))
              clear hk hv HBJ
              go_wp2
              go_ret
              exact ⟨ret_int (by rw [HE.out]), HBN.out⟩
          · have e1 : ((ka : Int) == 0) = false := by simp; omega
            have HB1 : Hid (bads 1 ka kb kc a b c = false) := Lib.hid (by rw [bads_1, HBJ.out, Bool.false_or]; simp [badK, hk])
            clear hk HBJ
            go_wp2
            go_round
            case rel => exact ⟨1, by omega, by go_num, HB1⟩
            case measure => simp [intOf]
        · -- round 1
          by_cases hk : kb = 0
          · have e1 : ((kb : Int) == 0) = true := by simp [hk]
            by_cases hv : b = 0
            · have e2 : (b != 0) = false := by simp [hv]
              have e3 : (b == 0) = true := by simp [hv]
              have HB2 : Hid (bads 2 ka kb kc a b c = false) := Lib.hid (by rw [bads_2, HBJ.out, Bool.false_or]; simp [badK, hv])
              clear hk hv HBJ
              go_wp2
              go_round
              case rel => exact ⟨2, by omega, by go_num, HB2⟩
              case measure => simp [intOf]
            · have e2 : (b != 0) = true := by simp [hv]
              have e3 : (b == 0) = false := by simp [hv]
              have HE : Hid (instrE nf prm sl nc ⟨(o : Int), a, b, c, im⟩ = 2) := Lib.hid (instrE_bad HO.out (by rw [HSH.out]; simp [badK, hk, hv]))
              clear hk hv HBJ
              go_wp2
              go_ret
              exact ⟨ret_int (by rw [HE.out]), HBN.out⟩
          · have e1 : ((kb : Int) == 0) = false := by simp; omega
            have HB2 : Hid (bads 2 ka kb kc a b c = false) := Lib.hid (by rw [bads_2, HBJ.out, Bool.false_or]; simp [badK, hk])
            clear hk HBJ
            go_wp2
            go_round
            case rel => exact ⟨2, by omega, by go_num, HB2⟩
            case measure => simp [intOf]
        · -- round 2
          by_cases hk : kc = 0
          · have e1 : ((kc : Int) == 0) = true := by simp [hk]
            by_cases hv : c = 0
            · have e2 : (c != 0) = false := by simp [hv]
              have e3 : (c == 0) = true := by simp [hv]
              have HB3 : Hid (bads 3 ka kb kc a b c = false) := Lib.hid (by rw [bads_3, HBJ.out, Bool.false_or]; simp [badK, hv])
              clear hk hv HBJ
              go_wp2
              go_round
              case rel => exact ⟨3, by omega, by go_num, HB3⟩
              case measure => simp [intOf]
            · have e2 : (c != 0) = true := by simp [hv]
              have e3 : (c == 0) = false := by simp [hv]
              have HE : Hid (instrE nf prm sl nc ⟨(o : Int), a, b, c, im⟩ = 2) := Lib.hid (instrE_bad HO.out (by rw [HSH.out]; simp [badK, hk, hv]))
              clear hk hv HBJ
              go_wp2
              go_ret
              exact ⟨ret_int (by rw [HE.out]), HBN.out⟩
          · have e1 : ((kc : Int) == 0) = false := by simp; omega
            have HB3 : Hid (bads 3 ka kb kc a b c = false) := Lib.hid (by rw [bads_3, HBJ.out, Bool.false_or]; simp [badK, hk])
            clear hk HBJ
            go_wp2
            go_round
            case rel => exact ⟨3, by omega, by go_num, HB3⟩
            case measure => simp [intOf]
        · -- behind loop 1
          have HB3 : Hid ((badK ka a || badK kb b || badK kc c) = false) := Lib.hid (by have h := HBJ.out; simpa [bads] using h)
          obtain ⟨p0, p1, p2, p3, -, -, -, -, pz⟩ := HKS5.out.c4
          obtain ⟨x0, x1, x2, x3, x4, -, -, -, -, -, xz⟩ := HKX5.out.c5
          clear HBJ
          go_upto_region 11 with (fail)
          go_cut [59] (fun s59 wx => s59 = .bool (!imu && im != 0) ∧ W5 = wx)
          case first =>
            by_cases hi : im = 0
            · have e1 : (im != 0) = false := by simp [hi]
              have e2 : (im == 0) = true := by simp [hi]
              clear hi
              cases imu
              all_goals
                go_wp2
                go_meet
                exact ⟨by simp [e1], rfl⟩
            · have e1 : (im != 0) = true := by simp [hi]
              have e2 : (im == 0) = false := by simp [hi]
              clear hi
              cases imu
              all_goals
                go_wp2
                go_meet
                exact ⟨by simp [e1], rfl⟩
          case rest =>
            obtain ⟨rfl, rfl⟩ := hcut
            rcases him : (!imu && im != 0) with _ | _
            · have HIM : Hid ((!imu && im != 0) = false) := Lib.hid him
              clear him
              obtain ⟨f0, f1, f2, -, -, -, fz⟩ := HKF5.out.c3
              have r0 := Blk.cell HKP5.out 0
              simp at r0
              go_wp2_with fail
              refine (limits_any _ _ _ _ _ _ _ _ _ _ _).mono ?_
              rintro e w6 ⟨rfl, bel6⟩
              obtain ⟨W7, hW7⟩ : ∃ W7, W7 = w6.alloc (.cells #[.int .i64 1, .int .i64 8, .int .i64 (sl.length : Int), .int .i64 (nf : Int), .int .i64 8, .int .i64 prm, .int .i64 (nc : Int)] 133) := ⟨_, rfl⟩
              obtain ⟨g12, hg12⟩ : ∃ g, g = w6.heap.size := ⟨_, rfl⟩
              have HB57 : Hid (Below W5.heap.size W5 W7) := Lib.hid (by rw [hW7]; exact bel6.alloc bel6.size _)
              have HK12 : Hid (Blk W7 g12 133 #[.int .i64 1, .int .i64 8, .int .i64 (sl.length : Int), .int .i64 (nf : Int), .int .i64 8, .int .i64 prm, .int .i64 (nc : Int)]) := Lib.hid (by rw [hW7, hg12]; exact Blk.new _ _ _)
              have HK8' := Lib.hid (HK8.out.after HB57.out)
              have HK9' := Lib.hid (HK9.out.after HB57.out)
              have HKX7 := Lib.hid (HKX5.out.after HB57.out)
              have HKF7 := Lib.hid (HKF5.out.after HB57.out)
              have HBN7 : Hid (Below w.heap.size w W7) := Lib.hid (HBN.out.trans (HB57.out.mono HBN.out.size))
              have HSZ7 : Hid (w.heap.size ≤ W7.heap.size) := Lib.hid HBN7.out.size
              have HW7 := Lib.hid hW7
              have HG12 := Lib.hid hg12
              clear hW7 hg12 bel6 x0 x1 x2 x3 x4 xz p0 p1 p2 p3 pz f0 f1 f2 fz r0 z0 z1 z2 zz n0 n1 n2 nz HK8 HK9 HKX5 HKF5 HKP5 HKS5 HB57
              go_upto_region 15 with (fail)
              rw [← HW7.out, ← HG12.out]
              obtain ⟨z0, z1, z2, -, -, -, zz⟩ := HK8'.out.c3
              go_wp2
              go_loopw [64, 13] (fun v u wr => ∃ (j : Nat) (wv : Int), j ≤ 3 ∧ v = .int .i64 j ∧ u = .int .i64 wv ∧ Hid (outs nf prm sl.length nc j ka kb kc a b c = false) ∧ Hid (wv = if tgts nf prm sl.length nc j ka kb kc a b c = true then 6 else (0 : Int)) ∧ Hid (Below W7.heap.size W7 wr)) (fun v _ _ => 3 - (intOf v).toNat)
              case atStart => exact ⟨0, 0, by omega, rfl, rfl, Lib.hid (by simp [outs]), Lib.hid (by simp [tgts]), Lib.hid (Below.refl _ _)⟩
              case round =>
                clear z0 z1 z2 zz
                obtain ⟨j, wv, hj, rfl, rfl, HOJ, HWV, HBR⟩ := hrel
                have hj4 : j = 0 ∨ j = 1 ∨ j = 2 ∨ j = 3 := by omega
                obtain ⟨n0, n1, n2, -, -, -, nz⟩ := (HK9'.out.after HBR.out).c3
                clear hj
                rcases hj4 with rfl | rfl | rfl | rfl
                · -- round 0
                  have hcl := lim_cell nf prm sl.length nc ka hka
                  obtain ⟨lv, hlv⟩ : ∃ lv, lv = lim nf prm sl.length nc ka := ⟨_, rfl⟩
                  rw [← hlv] at hcl
                  have HLV := Lib.hid hlv
                  have q12 : wr.cell? ⟨g12, ka, none⟩ = some (.int .i64 lv) := (Blk.cell (HK12.out.after HBR.out) ka).trans hcl
                  have k0 : (0 : Int) ≤ (ka : Int) := by omega
                  have k7 : (ka : Int) < 7 := by omega
                  clear hcl hlv
                  go_wp2_with fail
                  go_quiet ((go_at_call 56; exact quiet_left' (within_any _ _ _)))
                  have HBR' : Hid (Below W7.heap.size W7 (wr.drewN nq)) := Lib.hid (below_drewN HBR.out nq)
                  rcases hb : inB a lv with _ | _
                  · by_cases h6 : ka = 6
                    · have e6 : ((ka : Int) != 6) = false := by simp; omega
                      have e6' : ((ka : Int) == 6) = true := by simp; omega
                      have HOU : Hid (outs nf prm sl.length nc 1 ka kb kc a b c = false) := Lib.hid (by rw [outs_1, HOJ.out, Bool.false_or]; simp [outK, h6])
                      have HTG : Hid (6 = if tgts nf prm sl.length nc 1 ka kb kc a b c = true then 6 else (0 : Int)) := Lib.hid (by rw [if_pos]; rw [tgts_1]; have ht : tgtK nf prm sl.length nc ka a = true := (by unfold tgtK; rw [← HLV.out, hb, h6]; rfl); rw [ht, Bool.or_true])
                      clear h6 HWV HOJ
                      go_wp2
                      go_roundw
                      case rel => exact ⟨1, 6, by omega, by go_num, rfl, HOU, HTG, HBR'⟩
                      case measure => simp [intOf]
                    · have e6 : ((ka : Int) != 6) = true := by simp; omega
                      have e6' : ((ka : Int) == 6) = false := by simp; omega
                      have HE : Hid (instrE nf prm sl nc ⟨(o : Int), a, b, c, im⟩ = 4) := Lib.hid (instrE_out HO.out (by rw [HSH.out]; exact HB3.out) (by rw [HSH.out]; exact HIM.out) (by rw [HSH.out]; simp [outK, ← HLV.out, hb, h6]))
                      clear h6
                      go_wp2
                      go_ret
                      exact ⟨ret_int (by rw [HE.out]), HBN7.out.trans (HBR'.out.mono HSZ7.out)⟩
                  · have HOU : Hid (outs nf prm sl.length nc 1 ka kb kc a b c = false) := Lib.hid (by rw [outs_1, HOJ.out, Bool.false_or]; simp [outK, ← HLV.out, hb])
                    have HTG : Hid (wv = if tgts nf prm sl.length nc 1 ka kb kc a b c = true then 6 else (0 : Int)) := Lib.hid (by rw [tgts_1, HWV.out]; simp [tgtK, ← HLV.out, hb])
                    clear HWV HOJ
                    go_wp2
                    go_roundw
                    case rel => exact ⟨1, wv, by omega, by go_num, rfl, HOU, HTG, HBR'⟩
                    case measure => simp [intOf]
                · -- round 1
                  have hcl := lim_cell nf prm sl.length nc kb hkb
                  obtain ⟨lv, hlv⟩ : ∃ lv, lv = lim nf prm sl.length nc kb := ⟨_, rfl⟩
                  rw [← hlv] at hcl
                  have HLV := Lib.hid hlv
                  have q12 : wr.cell? ⟨g12, kb, none⟩ = some (.int .i64 lv) := (Blk.cell (HK12.out.after HBR.out) kb).trans hcl
                  have k0 : (0 : Int) ≤ (kb : Int) := by omega
                  have k7 : (kb : Int) < 7 := by omega
                  clear hcl hlv
                  go_wp2_with fail
                  go_quiet ((go_at_call 56; exact quiet_left' (within_any _ _ _)))
                  have HBR' : Hid (Below W7.heap.size W7 (wr.drewN nq)) := Lib.hid (below_drewN HBR.out nq)
                  rcases hb : inB b lv with _ | _
                  · by_cases h6 : kb = 6
                    · have e6 : ((kb : Int) != 6) = false := by simp; omega
                      have e6' : ((kb : Int) == 6) = true := by simp; omega
                      have HOU : Hid (outs nf prm sl.length nc 2 ka kb kc a b c = false) := Lib.hid (by rw [outs_2, HOJ.out, Bool.false_or]; simp [outK, h6])
                      have HTG : Hid (6 = if tgts nf prm sl.length nc 2 ka kb kc a b c = true then 6 else (0 : Int)) := Lib.hid (by rw [if_pos]; rw [tgts_2]; have ht : tgtK nf prm sl.length nc kb b = true := (by unfold tgtK; rw [← HLV.out, hb, h6]; rfl); rw [ht, Bool.or_true])
                      clear h6 HWV HOJ
                      go_wp2
                      go_roundw
                      case rel => exact ⟨2, 6, by omega, by go_num, rfl, HOU, HTG, HBR'⟩
                      case measure => simp [intOf]
                    · have e6 : ((kb : Int) != 6) = true := by simp; omega
                      have e6' : ((kb : Int) == 6) = false := by simp; omega
                      have HE : Hid (instrE nf prm sl nc ⟨(o : Int), a, b, c, im⟩ = 4) := Lib.hid (instrE_out HO.out (by rw [HSH.out]; exact HB3.out) (by rw [HSH.out]; exact HIM.out) (by rw [HSH.out]; simp [outK, ← HLV.out, hb, h6]))
                      clear h6
                      go_wp2
                      go_ret
                      exact ⟨ret_int (by rw [HE.out]), HBN7.out.trans (HBR'.out.mono HSZ7.out)⟩
                  · have HOU : Hid (outs nf prm sl.length nc 2 ka kb kc a b c = false) := Lib.hid (by rw [outs_2, HOJ.out, Bool.false_or]; simp [outK, ← HLV.out, hb])
                    have HTG : Hid (wv = if tgts nf prm sl.length nc 2 ka kb kc a b c = true then 6 else (0 : Int)) := Lib.hid (by rw [tgts_2, HWV.out]; simp [tgtK, ← HLV.out, hb])
                    clear HWV HOJ
                    go_wp2
                    go_roundw
                    case rel => exact ⟨2, wv, by omega, by go_num, rfl, HOU, HTG, HBR'⟩
                    case measure => simp [intOf]
                · -- round 2
                  have hcl := lim_cell nf prm sl.length nc kc hkc
                  obtain ⟨lv, hlv⟩ : ∃ lv, lv = lim nf prm sl.length nc kc := ⟨_, rfl⟩
                  rw [← hlv] at hcl
                  have HLV := Lib.hid hlv
                  have q12 : wr.cell? ⟨g12, kc, none⟩ = some (.int .i64 lv) := (Blk.cell (HK12.out.after HBR.out) kc).trans hcl
                  have k0 : (0 : Int) ≤ (kc : Int) := by omega
                  have k7 : (kc : Int) < 7 := by omega
                  clear hcl hlv
                  go_wp2_with fail
                  go_quiet ((go_at_call 56; exact quiet_left' (within_any _ _ _)))
                  have HBR' : Hid (Below W7.heap.size W7 (wr.drewN nq)) := Lib.hid (below_drewN HBR.out nq)
                  rcases hb : inB c lv with _ | _
                  · by_cases h6 : kc = 6
                    · have e6 : ((kc : Int) != 6) = false := by simp; omega
                      have e6' : ((kc : Int) == 6) = true := by simp; omega
                      have HOU : Hid (outs nf prm sl.length nc 3 ka kb kc a b c = false) := Lib.hid (by rw [outs_3, HOJ.out, Bool.false_or]; simp [outK, h6])
                      have HTG : Hid (6 = if tgts nf prm sl.length nc 3 ka kb kc a b c = true then 6 else (0 : Int)) := Lib.hid (by rw [if_pos]; rw [tgts_3]; have ht : tgtK nf prm sl.length nc kc c = true := (by unfold tgtK; rw [← HLV.out, hb, h6]; rfl); rw [ht, Bool.or_true])
                      clear h6 HWV HOJ
                      go_wp2
                      go_roundw
                      case rel => exact ⟨3, 6, by omega, by go_num, rfl, HOU, HTG, HBR'⟩
                      case measure => simp [intOf]
                    · have e6 : ((kc : Int) != 6) = true := by simp; omega
                      have e6' : ((kc : Int) == 6) = false := by simp; omega
                      have HE : Hid (instrE nf prm sl nc ⟨(o : Int), a, b, c, im⟩ = 4) := Lib.hid (instrE_out HO.out (by rw [HSH.out]; exact HB3.out) (by rw [HSH.out]; exact HIM.out) (by rw [HSH.out]; simp [outK, ← HLV.out, hb, h6]))
                      clear h6
                      go_wp2
                      go_ret
                      exact ⟨ret_int (by rw [HE.out]), HBN7.out.trans (HBR'.out.mono HSZ7.out)⟩
                  · have HOU : Hid (outs nf prm sl.length nc 3 ka kb kc a b c = false) := Lib.hid (by rw [outs_3, HOJ.out, Bool.false_or]; simp [outK, ← HLV.out, hb])
                    have HTG : Hid (wv = if tgts nf prm sl.length nc 3 ka kb kc a b c = true then 6 else (0 : Int)) := Lib.hid (by rw [tgts_3, HWV.out]; simp [tgtK, ← HLV.out, hb])
                    clear HWV HOJ
                    go_wp2
                    go_roundw
                    case rel => exact ⟨3, wv, by omega, by go_num, rfl, HOU, HTG, HBR'⟩
                    case measure => simp [intOf]
                · -- behind loop 2
                  have HOK : Hid ((outK nf prm sl.length nc ka a || outK nf prm sl.length nc kb b || outK nf prm sl.length nc kc c) = false) := Lib.hid (by have h := HOJ.out; simpa [outs] using h)
                  have HWV' : Hid (wv = if (tgtK nf prm sl.length nc ka a || tgtK nf prm sl.length nc kb b || tgtK nf prm sl.length nc kc c) = true then 6 else (0 : Int)) := Lib.hid (by have h := HWV.out; simpa [tgts] using h)
                  have HEND : Hid (instrE nf prm sl nc ⟨(o : Int), a, b, c, im⟩ = if ((o : Int) == 17 && (sl.getD a.toNat (0, 0)).1 != (sl.getD b.toNat (0, 0)).1) = true then 5 else wv) := Lib.hid (by
                    have h := instrE_end (nf := nf) (prm := prm) (sl := sl) (nc := nc) (o := o) (a := a) (b := b) (c := c) (im := im) HO.out (by rw [HSH.out]; exact HB3.out) (by rw [HSH.out]; exact HIM.out) (by rw [HSH.out]; exact HOK.out)
                    rw [HSH.out] at h
                    rw [HWV'.out]
                    exact h)
                  have HBRN : Hid (Below w.heap.size w wr) := Lib.hid (HBN7.out.trans (HBR.out.mono HSZ7.out))
                  obtain ⟨x0, x1, x2, x3, x4, -, -, -, -, -, xz⟩ := (HKX7.out.after HBR.out).c5
                  obtain ⟨f0, f1, f2, -, -, -, fz⟩ := (HKF7.out.after HBR.out).c3
                  clear HOJ HWV n0 n1 n2 nz
                  by_cases h17 : o = 17
                  · obtain ⟨hl1, hl2⟩ : inB a (sl.length : Int) = true ∧ inB b (sl.length : Int) = true := by
                      have h := HOK.out
                      have hs := HSH.out
                      rw [h17] at hs
                      have e : (2, 2, 0, false) = (ka, kb, kc, imu) := hs
                      injection e with e1 e
                      injection e with e2 e
                      subst e1 e2
                      simp [outK, lim, lims] at h
                      exact ⟨h.1.1, h.1.2⟩
                    have i1 := inB_t.1 hl1
                    have i2 := inB_t.1 hl2
                    obtain ⟨an, rfl⟩ := Int.eq_ofNat_of_zero_le i1.1
                    obtain ⟨bn, rfl⟩ := Int.eq_ofNat_of_zero_le i2.1
                    have han : an < sl.length := by omega
                    have hbn : bn < sl.length := by omega
                    obtain ⟨ad, rfl, hbl, c1', -⟩ := (HSX.out wr HBRN.out).at_ han
                    obtain ⟨ad', e', -, c2', -⟩ := (HSX.out wr HBRN.out).at_ hbn
                    obtain rfl : ad = ad' := by injection e'
                    have b17 : ((o : Int) == 17) = true := by simp [h17]
                    have HEQ := HEND.out
                    rw [Int.toNat_natCast, Int.toNat_natCast, b17] at HEQ
                    generalize (sl.getD an (0, 0)).1 = sx at *
                    generalize (sl.getD bn (0, 0)).1 = sy at *
                    have hai : (an : Int) < (sl.length : Int) := i1.2
                    have hbi : (bn : Int) < (sl.length : Int) := i2.2
                    have ha0 : (0 : Int) ≤ (an : Int) := by omega
                    have hb0 : (0 : Int) ≤ (bn : Int) := by omega
                    have hni : (sl.length : Int) ≤ 9223372036854775807 := by unfold maxLen at hcs; omega
                    by_cases hxy : sx = sy
                    · have HF := Lib.hid (HEQ.trans (show (if (true && sx != sy) = true then (5 : Int) else wv) = wv by simp [hxy]))
                      have ne : (sx != sy) = false := by simp [hxy]
                      clear HEQ hl1 hl2 i1 i2 e' h17 hxy HEND HOK HWV'
                      go_wp2_with fail
                      go_quiet (fail)
                      go_wp2
                      go_ret
                      exact ⟨ret_int (by rw [HF.out]), below_drewN HBRN.out _⟩
                    · have HF := Lib.hid (HEQ.trans (show (if (true && sx != sy) = true then (5 : Int) else wv) = 5 by simp [hxy]))
                      have ne : (sx != sy) = true := by simp [hxy]
                      clear HEQ hl1 hl2 i1 i2 e' h17 hxy HEND HOK HWV'
                      go_wp2_with fail
                      go_quiet (fail)
                      go_wp2
                      go_ret
                      exact ⟨ret_int (by rw [HF.out]), below_drewN HBRN.out _⟩
                  · have b17 : ((o : Int) == 17) = false := by simp; omega
                    have HF : Hid (instrE nf prm sl nc ⟨(o : Int), a, b, c, im⟩ = wv) := Lib.hid (HEND.out.trans (by simp [b17]))
                    clear h17 HEND HOK HWV'
                    go_wp2_with fail
                    go_quiet (fail)
                    go_wp2
                    go_ret
                    exact ⟨ret_int (by rw [HF.out]), below_drewN HBRN.out _⟩
            · have HE : Hid (instrE nf prm sl nc ⟨(o : Int), a, b, c, im⟩ = 2) := Lib.hid (instrE_imm HO.out (by rw [HSH.out]; exact HB3.out) (by rw [HSH.out]; exact him))
              clear him
              go_wp2
              go_ret
              exact ⟨ret_int (by rw [HE.out]), HBN.out⟩
end Go.Proofs.YtillopkcmpcokaaDoor.pm
