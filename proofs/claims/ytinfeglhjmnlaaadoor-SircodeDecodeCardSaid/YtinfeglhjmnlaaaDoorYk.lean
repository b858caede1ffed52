/- Bytes of programs: the reader of sircode: fail, any, upTo, op, end. -/
import Derived.Test.YtinfeglhjmnlaaaDoorYl
import Derived.Test.YtinfeglhjmnlaaaDoorGRd
import Derived.Test.YtinfeglhjmnlaaaDoorGBa
import Derived.Test.YtinfeglhjmnlaaaDoorGPm
import Derived.Deep.CutBlock
import Derived.Deep.RegionWith
import Derived.Deep.RegionHeld3
import Derived.Deep.DrawnRows
import Derived.BigQuiet
import Derived.Deep.QuietTactic
namespace Go.Proofs.YtinfeglhjmnlaaaDoor.pm
open Go.RowKit
set_option linter.unusedVariables false
set_option maxRecDepth 10000

theorem gset6 (w : World) (a : Addr) (u : Value) : w.grownBy (w.setCell a u) (some a.block) := ⟨rfl, rfl, rfl, by simp, fun b hb hne => Below.heap_setCell w a u b (fun e => hne (by rw [e]))⟩
def S6D (gr : Nat) (A : Option Addr) (n c : Nat) (k : IntKind) (r : Nat × Nat × Nat) (w : World) (e : Ending) (w' : World) : Prop :=
  e = .returned (.int k (r.1 : Int)) ∧ Blk w' gr 135 #[.slice A n c, .int .i64 (r.2.1 : Int), .int .i64 (r.2.2 : Int)] ∧ w.grownBy w' (some gr)
def failE (e er : Nat) : Nat := if e = 0 then er else e
theorem failE_z (er : Nat) : failE 0 er = er := rfl
theorem failE_n {e er : Nat} (h : e ≠ 0) : failE e er = e := if_neg h
theorem fail6 (gr : Nat) (A : Option Addr) (n c p e er : Nat) (w : World) (hK : Blk w gr 135 #[.slice A n c, .int .i64 (p : Int), .int .i64 (e : Int)]) :
    Calls Tryd.prog 99 #[.pointer (some ⟨gr, 0, none⟩), .int .i64 (er : Int)] w fun e' w' => e' = .returned (.tuple #[]) ∧ Blk w' gr 135 #[.slice A n c, .int .i64 (p : Int), .int .i64 (failE e er : Int)] ∧ w.grownBy w' (some gr) := by
  obtain ⟨q0, q1, q2, f0, f1, f2, qz⟩ := hK.c3
  have HK := Lib.hid hK
  clear hK
  by_cases h : e = 0
  · subst h
    go_enter Tryd.func99, Tryd.ntmps99
    go_wp2
    go_end0
    exact ⟨rfl, HK.out.set_ 2 _, gset6 _ _ _⟩
  · have he : ((e : Int) == 0) = false := by rw [beq_eq_false_iff_ne]; omega
    have HE := Lib.hid h
    clear h
    go_enter Tryd.func99, Tryd.ntmps99
    go_wp2
    go_end0
    rw [failE_n HE.out]
    exact ⟨rfl, HK.out, World.grownBy.refl _ _⟩
set_option maxHeartbeats 1000000 in
theorem any6 (gr B : Nat) (A : Option Addr) (n c : Nat) (l : List Nat) (p e : Nat) (w : World) (hK : Blk w gr 135 #[.slice A n c, .int .i64 (p : Int), .int .i64 (e : Int)]) (hb : Bs w B A n l) (hn : n ≤ 2000000) (hp : p ≤ 2000000) :
    Calls Tryd.prog 127 #[.pointer (some ⟨gr, 0, none⟩)] w (S6D gr A n c .u64 (anyS l p e) w) := by
  obtain ⟨v, q, er, hr⟩ : ∃ v q er, rdU l (p : Int) = (v, q, er) := ⟨_, _, _, rfl⟩
  have HU : Hid (∀ W, Bs W B A n l → Calls Tryd.prog 114 #[.slice A n c, .int .i64 (p : Int)] W fun e w' => e = .returned (.tuple #[.int .u64 (v : Int), .int .i64 (q : Int), .int .i64 (er : Int)]) ∧ W = w') := Lib.hid (fun W h => (uint_any A n c l (p : Int) (by omega) (by omega) W B h (by omega)).mono (by
    rintro e w' ⟨rfl, hw⟩
    rw [hr]
    exact ⟨rfl, hw⟩))
  have HB := Lib.hid hb
  obtain ⟨q0, q1, q2, f0, f1, f2, qz⟩ := hK.c3
  have HK := Lib.hid hK
  have HA : Hid (anyS l p e = if e ≠ 0 then (0, p, e) else if er ≠ 0 then (0, p, er) else (v, q, 0)) := Lib.hid (by unfold anyS; rw [hr])
  clear hK hb hr
  by_cases h : e = 0
  · subst h
    go_enter Tryd.func127, Tryd.ntmps127
    go_upto_region 3 with (fail)
    go_cut [3, 4, 5] (fun s3 s4 s5 wx => s3 = .int .u64 (v : Int) ∧ s4 = .int .i64 (q : Int) ∧ s5 = .int .i64 (er : Int) ∧ w.drew = wx)
    case first =>
      go_region_with (go_at_call 114; refine (HU.out _ ?_).mono ?_; (exact HB.out); rintro e v1 ⟨rfl, rfl⟩)
      all_goals (go_wp2_with fail; go_meet; exact ⟨rfl, rfl, rfl, rfl⟩)
    case rest =>
    obtain ⟨rfl, rfl, rfl, rfl⟩ := hcut
    obtain ⟨wd, hwd⟩ : ∃ wd, wd = w.drew := ⟨_, rfl⟩
    rw [← hwd]
    have hgd : w.grownBy wd (some gr) := by rw [hwd]; exact ⟨rfl, rfl, rfl, Nat.le_refl _, fun _ _ _ => rfl⟩
    have HK1 : Hid (Blk wd gr 135 #[.slice A n c, .int .i64 (p : Int), .int .i64 ((0 : Nat) : Int)]) := Lib.hid (by rw [hwd]; exact HK.out.drew)
    have HGD := Lib.hid hgd
    clear hwd hgd q0 q1 q2 f0 f1 f2 qz
    obtain ⟨q0, q1, q2, f0, f1, f2, qz⟩ := HK1.out.c3
    by_cases her : er = 0
    · subst her
      have HE : Hid (anyS l p 0 = (v, q, 0)) := Lib.hid (by rw [HA.out]; rfl)
      go_wp2
      go_ret
      rw [HE.out]
      exact ⟨rfl, HK1.out.set_ 1 _, HGD.out.trans (gset6 _ _ _)⟩
    · have HE : Hid (anyS l p 0 = (0, p, er)) := Lib.hid (by rw [HA.out, if_neg (by simp), if_pos her])
      have her' : ((er : Int) != 0) = true := by simpa using her
      have HF := Lib.hid (fail6 gr A n c p 0 er wd HK1.out)
      clear her
      go_wp2_with fail
      refine HF.out.mono ?_
      rintro e w2 ⟨rfl, hk2, hg2⟩
      rw [failE_z] at hk2
      go_wp2
      go_ret
      rw [HE.out]
      exact ⟨rfl, hk2, HGD.out.trans hg2⟩
  · have he : ((e : Int) != 0) = true := by rw [bne_iff_ne]; omega
    have HE : Hid (anyS l p e = (0, p, e)) := Lib.hid (by rw [HA.out, if_pos h])
    clear h
    go_enter Tryd.func127, Tryd.ntmps127
    go_wp2
    go_ret
    rw [HE.out]
    exact ⟨rfl, HK.out, World.grownBy.refl _ _⟩
set_option maxHeartbeats 1000000 in
theorem up6 (gr B : Nat) (A : Option Addr) (n c : Nat) (l : List Nat) (lim er p e : Nat) (w : World) (hK : Blk w gr 135 #[.slice A n c, .int .i64 (p : Int), .int .i64 (e : Int)]) (hb : Bs w B A n l) (hn : n ≤ 2000000) (hp : p ≤ 2000000) (hl : lim ≤ 2147483647) :
    Calls Tryd.prog 98 #[.pointer (some ⟨gr, 0, none⟩), .int .i64 (lim : Int), .int .i64 (er : Int)] w (S6D gr A n c .i64 (upS l lim er p e) w) := by
  have HA := Lib.hid (any6 gr B A n c l p e w hK hb hn hp)
  obtain ⟨v, q, b, hr⟩ : ∃ v q b, anyS l p e = (v, q, b) := ⟨_, _, _, rfl⟩
  have hv : v < 18446744073709551616 := by have := anyS_lt l p e; rw [hr] at this; exact this
  have hz : 0 < v → b = 0 := fun h => by
    unfold anyS at hr
    split at hr
    · simp only [Prod.mk.injEq] at hr; omega
    split at hr
    · simp only [Prod.mk.injEq] at hr; omega
    · simp only [Prod.mk.injEq] at hr; omega
  rw [hr] at HA
  have HU : Hid (upS l lim er p e = if 2147483647 < v then (0, q, 4) else if lim < v then (0, q, er) else (v, q, b)) := Lib.hid (by unfold upS; rw [hr])
  have hw : IntKind.u64.wrap (lim : Int) = (lim : Int) := IntWalk.u64_in _ (by omega)
  clear hK hb hr
  go_enter Tryd.func98, Tryd.ntmps98
  go_wp2_with fail
  refine HA.out.mono ?_
  rintro e1 w1 ⟨rfl, hk, hg⟩
  simp only at hk ⊢
  have HK1 := Lib.hid hk
  have HG1 := Lib.hid hg
  clear hk hg
  by_cases hbig : 2147483647 < v
  · have HE : Hid (upS l lim er p e = (0, q, 4)) := Lib.hid (by rw [HU.out, if_pos hbig])
    have hb0 : b = 0 := hz (by omega)
    subst hb0
    have hi : (2147483647 : Int) < (v : Int) := by omega
    have HF := Lib.hid (fail6 gr A n c q 0 4 w1 HK1.out)
    clear hbig hz
    go_wp2_with fail
    refine HF.out.mono ?_
    rintro e w2 ⟨rfl, hk2, hg2⟩
    rw [failE_z] at hk2
    go_wp2
    go_ret
    rw [HE.out]
    exact ⟨rfl, hk2, HG1.out.trans hg2⟩
  · have hi : ¬ (2147483647 : Int) < (v : Int) := by omega
    by_cases hle : lim < v
    · have HE : Hid (upS l lim er p e = (0, q, er)) := Lib.hid (by rw [HU.out, if_neg hbig, if_pos hle])
      have hb0 : b = 0 := hz (by omega)
      subst hb0
      have hi2 : (lim : Int) < (v : Int) := by omega
      have HF := Lib.hid (fail6 gr A n c q 0 er w1 HK1.out)
      clear hbig hz hle
      go_wp2_with fail
      refine HF.out.mono ?_
      rintro e w2 ⟨rfl, hk2, hg2⟩
      rw [failE_z] at hk2
      go_wp2
      go_ret
      rw [HE.out]
      exact ⟨rfl, hk2, HG1.out.trans hg2⟩
    · have HE : Hid (upS l lim er p e = (v, q, b)) := Lib.hid (by rw [HU.out, if_neg hbig, if_neg hle])
      have hi2 : ¬ (lim : Int) < (v : Int) := by omega
      have hw2 : IntKind.i64.wrap (v : Int) = (v : Int) := IntWalk.i64_in _ (by omega)
      clear hbig hz hle
      go_wp2
      go_ret
      rw [HE.out]
      exact ⟨rfl, HK1.out, HG1.out⟩
theorem end6 (gr : Nat) (A : Option Addr) (n c : Nat) (l : List Nat) (p e : Nat) (w : World) (hl : l.length = n) (hK : Blk w gr 135 #[.slice A n c, .int .i64 (p : Int), .int .i64 (e : Int)]) :
    Calls Tryd.prog 101 #[.pointer (some ⟨gr, 0, none⟩)] w fun e' w' => e' = .returned (.tuple #[]) ∧ Blk w' gr 135 #[.slice A n c, .int .i64 (p : Int), .int .i64 (endR l p e : Int)] ∧ w.grownBy w' (some gr) := by
  obtain ⟨q0, q1, q2, f0, f1, f2, qz⟩ := hK.c3
  have HK := Lib.hid hK
  have HF := Lib.hid (fun k => fail6 gr A n c p e 2 (w.drewN k) (hK.drewN k))
  have hgd : ∀ k, w.grownBy (w.drewN k) (some gr) := fun k => ⟨rfl, rfl, rfl, Nat.le_refl _, fun _ _ _ => rfl⟩
  have HGD := Lib.hid hgd
  by_cases h : p < n
  · have HE : Hid (failE e 2 = endR l p e) := Lib.hid (by
      unfold endR failE
      by_cases h0 : e = 0
      · rw [if_pos h0, if_pos ⟨h0, by omega⟩]
      · rw [if_neg h0, if_neg (fun hh => h0 hh.1)])
    have hi : (p : Int) < (n : Int) := by omega
    clear hK h hl hgd
    go_enter Tryd.func101, Tryd.ntmps101
    go_upto_region 0 with (fail)
    go_quiet (fail)
    go_wp2_with fail
    refine (HF.out _).mono ?_
    rintro e w2 ⟨rfl, hk2, hg2⟩
    rw [HE.out] at hk2
    go_wp2
    go_end0
    exact ⟨rfl, hk2, (HGD.out _).trans hg2⟩
  · have HE : Hid (e = endR l p e) := Lib.hid (by
      unfold endR
      rw [if_neg (fun hh => h (by omega))])
    have hi : ¬ (p : Int) < (n : Int) := by omega
    clear hK h hl hgd HF
    go_enter Tryd.func101, Tryd.ntmps101
    go_upto_region 0 with (fail)
    go_quiet (fail)
    go_wp2
    go_end0
    rw [← HE.out]
    exact ⟨rfl, HK.out.drewN _, HGD.out _⟩
set_option maxHeartbeats 1000000 in
theorem op6 (gr B : Nat) (A : Option Addr) (n c : Nat) (l : List Nat) (p e : Nat) (w : World) (hK : Blk w gr 135 #[.slice A n c, .int .i64 (p : Int), .int .i64 (e : Int)]) (hb : Bs w B A n l) (hgr : B ≤ gr) (hn : n ≤ 2000000) (hp : p ≤ 2000000) :
    Calls Tryd.prog 128 #[.pointer (some ⟨gr, 0, none⟩)] w (S6D gr A n c .i64 (opX l p e) w) := by
  obtain ⟨q0, q1, q2, f0, f1, f2, qz⟩ := hK.c3
  have HK := Lib.hid hK
  have HB := Lib.hid hb
  have hlen : l.length = n := hb.len
  have HGR := Lib.hid hgr
  have hgd : ∀ k, w.grownBy (w.drewN k) (some gr) := fun k => ⟨rfl, rfl, rfl, Nat.le_refl _, fun _ _ _ => rfl⟩
  have HGD := Lib.hid hgd
  have HF := Lib.hid (fun k (er : Nat) => fail6 gr A n c p e er (w.drewN k) (hK.drewN k))
  clear hK hb hgd hgr
  have hni : (n : Int) ≤ 2000000 := by omega
  by_cases h0 : e = 0
  case neg =>
    have he : ((e : Int) != 0) = true := by rw [bne_iff_ne]; omega
    have HE : Hid (opX l p e = (0, p, e)) := Lib.hid (opX_err h0)
    clear h0 HF
    go_enter Tryd.func128, Tryd.ntmps128
    go_wp2
    go_ret
    rw [HE.out]
    exact ⟨rfl, HK.out, World.grownBy.refl _ _⟩
  case pos =>
  subst h0
  by_cases hle : n ≤ p
  · have HE : Hid (opX l p 0 = (0, p, 1)) := Lib.hid (by unfold opX; rw [if_neg (by simp), if_pos (by omega)])
    have hi : (n : Int) ≤ (p : Int) := by omega
    clear hle
    go_enter Tryd.func128, Tryd.ntmps128
    go_upto_region 3 with (fail)
    go_quiet (fail)
    go_wp2_with fail
    refine (HF.out _ 1).mono ?_
    rintro e w2 ⟨rfl, hk2, hg2⟩
    rw [failE_z] at hk2
    go_wp2
    go_ret
    rw [HE.out]
    exact ⟨rfl, hk2, (HGD.out _).trans hg2⟩
  · have hi : ¬ (n : Int) ≤ (p : Int) := by omega
    have hi1 : (p : Int) < (n : Int) := by omega
    have hp0 : (0 : Int) ≤ (p : Int) := by omega
    obtain ⟨ad, rfl, hadb, hcell⟩ := HB.out.at_ (by omega : p < n)
    have hby := HB.out.lt p
    have HO : Hid (opX l p 0 = if 25 ≤ l.getD p 0 then (0, p, 4) else (l.getD p 0, p + 1, 0)) := Lib.hid (by unfold opX; rw [if_neg (by simp), if_neg (by omega)])
    generalize l.getD p 0 = by' at hcell hby HO
    have hadg : ad.block ≠ gr := by have := HGR.out; omega
    have hcz : ad.block < w.heap.size := by have := HGR.out; omega
    have hw1 : IntKind.i64.wrap ((p : Int) + 1) = ((p + 1 : Nat) : Int) := by rw [IntWalk.i64_in _ (by omega)]; omega
    by_cases h25 : 25 ≤ by'
    · have HE : Hid (opX l p 0 = (0, p, 4)) := Lib.hid (by rw [HO.out, if_pos h25])
      have hi2 : (25 : Int) ≤ (by' : Int) := by omega
      clear hle h25
      go_enter Tryd.func128, Tryd.ntmps128
      go_upto_region 3 with (fail)
      go_quiet (fail)
      go_upto_region 6 with (fail)
      go_quiet (fail)
      go_wp2_with fail
      refine (HF.out _ 4).mono ?_
      rintro e w2 ⟨rfl, hk2, hg2⟩
      rw [failE_z] at hk2
      go_wp2
      go_ret
      rw [HE.out]
      exact ⟨rfl, hk2, (HGD.out _).trans hg2⟩
    · have HE : Hid (opX l p 0 = (by', p + 1, 0)) := Lib.hid (by rw [HO.out, if_neg h25])
      have hi2 : ¬ (25 : Int) ≤ (by' : Int) := by omega
      clear hle h25 hw1 HF
      go_enter Tryd.func128, Tryd.ntmps128
      go_upto_region 3 with (fail)
      go_quiet (fail)
      obtain ⟨w3, hw3⟩ : ∃ w3, w3 = w.drewN nq := ⟨_, rfl⟩
      rw [← hw3]
      have HK3 : Hid (Blk w3 gr 135 #[.slice (some ad) n c, .int .i64 (p : Int), .int .i64 ((0 : Nat) : Int)]) := Lib.hid (by rw [hw3]; exact HK.out.drewN _)
      have HG3 : Hid (w.grownBy w3 (some gr)) := Lib.hid (by rw [hw3]; exact HGD.out _)
      have hcell3 : w3.cell? (ad.add p) = some (.int .u8 (by' : Int)) := by rw [hw3]; exact hcell
      have hcz3 : ad.block < w3.heap.size := by rw [hw3]; exact hcz
      clear hw3 q0 q1 q2 f0 f1 f2 qz hcell hcz HK HGD HB
      obtain ⟨q0, q1, q2, f0, f1, f2, qz⟩ := HK3.out.c3
      go_upto_region 6 with (fail)
      go_quiet (fail)
      obtain ⟨w4, hw4⟩ : ∃ w4, w4 = w3.drewN nq := ⟨_, rfl⟩
      rw [← hw4]
      have HK4 : Hid (Blk w4 gr 135 #[.slice (some ad) n c, .int .i64 (p : Int), .int .i64 ((0 : Nat) : Int)]) := Lib.hid (by rw [hw4]; exact HK3.out.drewN _)
      have HG4 : Hid (w.grownBy w4 (some gr)) := Lib.hid (by rw [hw4]; exact HG3.out.trans ⟨rfl, rfl, rfl, Nat.le_refl _, fun _ _ _ => rfl⟩)
      have hcell4 : w4.cell? (ad.add p) = some (.int .u8 (by' : Int)) := by rw [hw4]; exact hcell3
      have hcz4 : ad.block < w4.heap.size := by rw [hw4]; exact hcz3
      clear hw4 q0 q1 q2 f0 f1 f2 qz hcell3 hcz3 HK3 HG3
      obtain ⟨q0, q1, q2, f0, f1, f2, qz⟩ := HK4.out.c3
      go_upto_region 10 with (fail)
      obtain ⟨w5, hw5⟩ : ∃ w5, w5 = w4.setCell ⟨gr, 1, none⟩ (.int .i64 ((p : Int) + 1)) := ⟨_, rfl⟩
      rw [← hw5]
      have HK5 : Hid (Blk w5 gr 135 #[.slice (some ad) n c, .int .i64 ((p : Int) + 1), .int .i64 ((0 : Nat) : Int)]) := Lib.hid (by rw [hw5]; exact HK4.out.set_ 1 _)
      have HG5 : Hid (w.grownBy w5 (some gr)) := Lib.hid (by rw [hw5]; exact HG4.out.trans (gset6 _ _ _))
      have hc5 : w5.cell? (ad.add p) = some (.int .u8 (by' : Int)) := by
        rw [hw5, World.cell?_setCell_other _ _ _ _ (fun e => hadg (by have := congrArg Addr.block e; rw [block_of_add] at this; first | exact this | exact this.symm))]
        exact hcell4
      have hsub : (p : Int) + 1 - 1 = (p : Int) := by omega
      have hcz5 : ad.block < w5.heap.size := by rw [hw5]; simpa using hcz4
      clear hw5 q0 q1 q2 f0 f1 f2 qz hcell4 hcz4 HK4 HG4
      obtain ⟨q0, q1, q2, f0, f1, f2, qz⟩ := HK5.out.c3
      go_quiet (fail)
      go_wp2
      go_ret
      rw [HE.out]
      have hpp : ((p + 1 : Nat) : Int) = (p : Int) + 1 := by omega
      refine ⟨ret_int ?_, ?_, HG5.out.trans ⟨rfl, rfl, rfl, Nat.le_refl _, fun _ _ _ => rfl⟩⟩
      · simp
      · simp only [hpp]
        exact HK5.out.drewN _
end Go.Proofs.YtinfeglhjmnlaaaDoor.pm
