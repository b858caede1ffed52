/- Bytes of targets: the reader of machcode. -/
import Derived.Test.YtinfeglhjmnlaaaDoorGHp
import Derived.Test.YtinfeglhjmnlaaaDoorGRd
import Derived.Test.YtinfeglhjmnlaaaDoorGBa
import Derived.Test.YtinfeglhjmnlaaaDoorGPm
import Derived.Deep.CutBlock
import Derived.Deep.RegionWith
import Derived.Deep.RegionHeld3
import Derived.Deep.DrawnRows
import Derived.StillTailTactics
import Derived.BigQuiet
import Derived.Deep.QuietTactic
namespace Go.Proofs.YtinfeglhjmnlaaaDoor.pm
open Go.RowKit
set_option linter.unusedVariables false
set_option maxRecDepth 10000

/-- a number, where the reader goes on, and whether it is bad -/
def anyP (l : List Nat) (p : Nat) (bad : Bool) : Nat × Nat × Bool := if bad = false ∧ (rdU l (p : Int)).2.2 = 0 then ((rdU l (p : Int)).1, (rdU l (p : Int)).2.1, false) else (0, p, true)
def upP (l : List Nat) (lim p : Nat) (bad : Bool) : Nat × Nat × Bool := if (anyP l p bad).1 ≤ lim then anyP l p bad else (0, (anyP l p bad).2.1, true)
theorem anyP_bad (l : List Nat) (p : Nat) : anyP l p true = (0, p, true) := by simp [anyP]
theorem upP_bad (l : List Nat) (lim p : Nat) : upP l lim p true = (0, p, true) := by simp [upP, anyP_bad]
theorem anyP_lt (l : List Nat) (p : Nat) (bad : Bool) : (anyP l p bad).1 < 18446744073709551616 := by
  unfold anyP
  split
  · exact rdU_lt l p
  · simp
theorem upP_le (l : List Nat) (lim p : Nat) (bad : Bool) : (upP l lim p bad).1 ≤ lim := by
  unfold upP
  split
  · assumption
  · simp
/-- what is read where nothing is bad -/
theorem upP_some {l : List Nat} {lim p v q : Nat} (h : pU l lim p = some (v, q)) : upP l lim p false = (v, q, false) := by
  unfold pU at h
  split at h
  · rename_i h1
    injection h with h
    simp only [Prod.mk.injEq] at h
    have ha : anyP l p false = (v, q, false) := by unfold anyP; rw [if_pos ⟨rfl, h1.1⟩, h.1, h.2]
    unfold upP
    rw [ha]
    rw [if_pos (by rw [← h.1]; exact h1.2)]
  · cases h
theorem upP_none {l : List Nat} {lim p : Nat} (h : pU l lim p = none) : (upP l lim p false).2.2 = true := by
  unfold pU at h
  split at h
  · cases h
  · rename_i h1
    by_cases h2 : (rdU l (p : Int)).2.2 = 0
    · have ha : anyP l p false = ((rdU l (p : Int)).1, (rdU l (p : Int)).2.1, false) := by unfold anyP; rw [if_pos ⟨rfl, h2⟩]
      have h3 : ¬ (rdU l (p : Int)).1 ≤ lim := fun h => h1 ⟨h2, h⟩
      unfold upP
      rw [ha, if_neg h3]
    · have ha : anyP l p false = (0, p, true) := by unfold anyP; rw [if_neg (fun h => h2 h.2)]
      unfold upP
      rw [ha, if_pos (Nat.zero_le _)]
theorem grown_set (w : World) (a : Addr) (u : Value) : w.grownBy (w.setCell a u) (some a.block) := ⟨rfl, rfl, rfl, by simp, fun b hb hne => Below.heap_setCell w a u b (fun e => hne (by rw [e]))⟩
def RdD (gr : Nat) (A : Option Addr) (n c : Nat) (k : IntKind) (r : Nat × Nat × Bool) (w : World) (e : Ending) (w' : World) : Prop :=
  e = .returned (.int k (r.1 : Int)) ∧ Blk w' gr 79 #[.slice A n c, .int .i64 (r.2.1 : Int), .bool r.2.2] ∧ w.grownBy w' (some gr)
set_option maxHeartbeats 1000000 in
theorem any11 (gr B : Nat) (A : Option Addr) (n c : Nat) (l : List Nat) (p : Nat) (bad : Bool) (w : World) (hK : Blk w gr 79 #[.slice A n c, .int .i64 (p : Int), .bool bad]) (hb : Bs w B A n l) (hn : n ≤ 2000000) (hp : p ≤ 2000000) :
    Calls Tryd.prog 81 #[.pointer (some ⟨gr, 0, none⟩)] w (RdD gr A n c .u64 (anyP l p bad) w) := by
  obtain ⟨v, q, er, hr⟩ : ∃ v q er, rdU l (p : Int) = (v, q, er) := ⟨_, _, _, rfl⟩
  have HU : Hid (∀ W, Bs W B A n l → Calls Tryd.prog 114 #[.slice A n c, .int .i64 (p : Int)] W fun e w' => e = .returned (.tuple #[.int .u64 (v : Int), .int .i64 (q : Int), .int .i64 (er : Int)]) ∧ W = w') := Lib.hid (fun W h => (uint_any A n c l (p : Int) (by omega) (by omega) W B h (by omega)).mono (by
    rintro e w' ⟨rfl, hw⟩
    rw [hr]
    exact ⟨rfl, hw⟩))
  have HB := Lib.hid hb
  obtain ⟨q0, q1, q2, f0, f1, f2, qz⟩ := hK.c3
  have HK := Lib.hid hK
  have HA : Hid (anyP l p bad = if bad = false ∧ er = 0 then (v, q, false) else (0, p, true)) := Lib.hid (by unfold anyP; rw [hr])
  clear hK hb hr
  go_enter Tryd.func81, Tryd.ntmps81
  go_upto_region 1 with (fail)
  go_cut [3, 4, 5] (fun s3 s4 s5 wx => s3 = .int .u64 (v : Int) ∧ s4 = .int .i64 (q : Int) ∧ s5 = .int .i64 (er : Int) ∧ w.drew = wx)
  case first =>
    go_region_with (go_at_call 114; refine (HU.out _ ?_).mono ?_; (exact HB.out); rintro e v1 ⟨rfl, rfl⟩)
    all_goals (go_wp2_with fail; go_meet; exact ⟨rfl, rfl, rfl, rfl⟩)
  case rest =>
  obtain ⟨rfl, rfl, rfl, rfl⟩ := hcut
  obtain ⟨wd, hwd⟩ : ∃ wd, wd = w.drew := ⟨_, rfl⟩
  rw [← hwd]
  have hgd : w.grownBy wd (some gr) := by rw [hwd]; exact ⟨rfl, rfl, rfl, Nat.le_refl _, fun _ _ _ => rfl⟩
  have HK1 : Hid (Blk wd gr 79 #[.slice A n c, .int .i64 (p : Int), .bool bad]) := Lib.hid (by rw [hwd]; exact HK.out.drew)
  have HGD := Lib.hid hgd
  clear hwd hgd q0 q1 q2 f0 f1 f2 qz
  obtain ⟨q0, q1, q2, f0, f1, f2, qz⟩ := HK1.out.c3
  by_cases hok : bad = false ∧ er = 0
  · obtain ⟨rfl, rfl⟩ := hok
    have HE : Hid (anyP l p false = (v, q, false)) := Lib.hid (by rw [HA.out]; rfl)
    go_wp2
    go_ret
    rw [HE.out]
    exact ⟨rfl, HK1.out.set_ 1 _, HGD.out.trans (grown_set _ _ _)⟩
  · have HE : Hid (anyP l p bad = (0, p, true)) := Lib.hid (by rw [HA.out, if_neg hok])
    cases bad with
    | true =>
      go_wp2
      go_ret
      rw [HE.out]
      exact ⟨rfl, HK1.out.set_ 2 _, HGD.out.trans (grown_set _ _ _)⟩
    | false =>
      have her : ((er : Int) != 0) = true := by have : er ≠ 0 := fun h => hok ⟨rfl, h⟩; simpa using this
      go_wp2
      go_ret
      rw [HE.out]
      exact ⟨rfl, HK1.out.set_ 2 _, HGD.out.trans (grown_set _ _ _)⟩
set_option maxHeartbeats 1000000 in
theorem up11 (gr B : Nat) (A : Option Addr) (n c : Nat) (l : List Nat) (lim p : Nat) (bad : Bool) (w : World) (hK : Blk w gr 79 #[.slice A n c, .int .i64 (p : Int), .bool bad]) (hb : Bs w B A n l) (hn : n ≤ 2000000) (hp : p ≤ 2000000) (hl : lim ≤ 2147483647) :
    Calls Tryd.prog 45 #[.pointer (some ⟨gr, 0, none⟩), .int .i64 (lim : Int)] w (RdD gr A n c .i64 (upP l lim p bad) w) := by
  have HA := Lib.hid (any11 gr B A n c l p bad w hK hb hn hp)
  obtain ⟨v, q, b, hr⟩ : ∃ v q b, anyP l p bad = (v, q, b) := ⟨_, _, _, rfl⟩
  have hv : v < 18446744073709551616 := by have := anyP_lt l p bad; rw [hr] at this; exact this
  rw [hr] at HA
  have HU : Hid (upP l lim p bad = if v ≤ lim then (v, q, b) else (0, q, true)) := Lib.hid (by unfold upP; rw [hr])
  have hw : IntKind.u64.wrap (lim : Int) = (lim : Int) := IntWalk.u64_in _ (by omega)
  clear hK hb hr
  go_enter Tryd.func45, Tryd.ntmps45
  go_wp2_with fail
  refine HA.out.mono ?_
  rintro e w1 ⟨rfl, hk, hg⟩
  simp only at hk ⊢
  have HK1 := Lib.hid hk
  have HG1 := Lib.hid hg
  clear hk hg
  obtain ⟨q0, q1, q2, f0, f1, f2, qz⟩ := HK1.out.c3
  by_cases hle : v ≤ lim
  · have HE : Hid (upP l lim p bad = (v, q, b)) := Lib.hid (by rw [HU.out, if_pos hle])
    have hi : ¬ (lim : Int) < (v : Int) := by omega
    have hw2 : IntKind.i64.wrap (v : Int) = (v : Int) := IntWalk.i64_in _ (by omega)
    clear hle
    go_wp2
    go_ret
    rw [HE.out]
    exact ⟨rfl, HK1.out, HG1.out⟩
  · have HE : Hid (upP l lim p bad = (0, q, true)) := Lib.hid (by rw [HU.out, if_neg hle])
    have hi : (lim : Int) < (v : Int) := by omega
    clear hle
    go_wp2
    go_ret
    rw [HE.out]
    exact ⟨rfl, HK1.out.set_ 2 _, HG1.out.trans (grown_set _ _ _)⟩
/-- an operation -/
def opP (l : List Nat) (p : Nat) (bad : Bool) : Nat × Nat × Bool := if bad = true ∨ l.length ≤ p then (23, p, true) else (l.getD p 0, p + 1, false)
set_option maxHeartbeats 1000000 in
theorem op11 (gr B : Nat) (A : Option Addr) (n c : Nat) (l : List Nat) (p : Nat) (bad : Bool) (w : World) (hK : Blk w gr 79 #[.slice A n c, .int .i64 (p : Int), .bool bad]) (hb : Bs w B A n l) (hgr : B ≤ gr) (hn : n ≤ 2000000) (hp : p ≤ 2000000) :
    Calls Tryd.prog 84 #[.pointer (some ⟨gr, 0, none⟩)] w (RdD gr A n c .i64 (opP l p bad) w) := by
  obtain ⟨q0, q1, q2, f0, f1, f2, qz⟩ := hK.c3
  have HK := Lib.hid hK
  have HB := Lib.hid hb
  have hlen : l.length = n := hb.len
  have HGR := Lib.hid hgr
  have hgd : ∀ k, w.grownBy (w.drewN k) (some gr) := fun k => ⟨rfl, rfl, rfl, Nat.le_refl _, fun _ _ _ => rfl⟩
  have HGD := Lib.hid hgd
  clear hK hb hgd hgr
  have hni : (n : Int) ≤ 2000000 := by omega
  cases bad with
  | true =>
    have HE : Hid (opP l p true = (23, p, true)) := Lib.hid (by simp [opP])
    go_enter Tryd.func84, Tryd.ntmps84
    go_upto_region 1 with (fail)
    go_quiet (fail)
    go_wp2
    go_ret
    rw [HE.out]
    exact ⟨rfl, (HK.out.drewN _).set_ 2 _, (HGD.out _).trans (grown_set _ _ _)⟩
  | false =>
    by_cases hle : n ≤ p
    · have HE : Hid (opP l p false = (23, p, true)) := Lib.hid (by unfold opP; rw [if_pos (.inr (by omega))])
      have hi : (n : Int) ≤ (p : Int) := by omega
      clear hle
      go_enter Tryd.func84, Tryd.ntmps84
      go_upto_region 1 with (fail)
      go_quiet (fail)
      go_wp2
      go_ret
      rw [HE.out]
      exact ⟨rfl, (HK.out.drewN _).set_ 2 _, (HGD.out _).trans (grown_set _ _ _)⟩
    · have HE : Hid (opP l p false = (l.getD p 0, p + 1, false)) := Lib.hid (by unfold opP; rw [if_neg (fun h => h.elim (fun h => by cases h) (fun h => by omega))])
      have hi : (p : Int) < (n : Int) := by omega
      have hp0 : (0 : Int) ≤ (p : Int) := by omega
      obtain ⟨ad, rfl, hadb, hcell⟩ := HB.out.at_ (by omega : p < n)
      have hby := HB.out.lt p
      generalize l.getD p 0 = by' at hcell hby HE
      have hadg : ad.block ≠ gr := by have := HGR.out; omega
      have hcz : ad.block < w.heap.size := by have := HGR.out; omega
      have hw1 : IntKind.i64.wrap ((p : Int) + 1) = ((p + 1 : Nat) : Int) := by rw [IntWalk.i64_in _ (by omega)]; omega
      have hw2 : IntKind.i64.wrap (((p + 1 : Nat) : Int) - 1) = (p : Int) := by rw [IntWalk.i64_in _ (by omega)]; omega
      have HW1 := Lib.hid hw1
      clear hle
      go_enter Tryd.func84, Tryd.ntmps84
      go_upto_region 1 with (fail)
      go_quiet (fail)
      clear hw1 hw2
      go_wp2
      obtain ⟨w5, hw5⟩ : ∃ w5, w5 = (w.drewN nq).setCell ⟨gr, 1, none⟩ (.int .i64 ((p : Int) + 1)) := ⟨_, rfl⟩
      rw [← hw5]
      have HK5 : Hid (Blk w5 gr 79 #[.slice (some ad) n c, .int .i64 ((p : Int) + 1), .bool false]) := Lib.hid (by rw [hw5]; exact (HK.out.drewN _).set_ 1 _)
      have HG5 : Hid (w.grownBy w5 (some gr)) := Lib.hid (by rw [hw5]; exact (HGD.out _).trans (grown_set _ _ _))
      have hc5 : w5.cell? (ad.add p) = some (.int .u8 (by' : Int)) := by
        rw [World.cell?_of_block (HG5.out.block (ad.add p).block (by rw [block_of_add]; exact hcz) (by rw [block_of_add]; intro h; injection h with h; exact hadg h))]
        exact hcell
      have hsub : (p : Int) + 1 - 1 = (p : Int) := by omega
      have hc0 : ad.block < w5.heap.size := by have := HG5.out.size; omega
      have hgd5 : ∀ k, w5.grownBy (w5.drewN k) (some gr) := fun k => ⟨rfl, rfl, rfl, Nat.le_refl _, fun _ _ _ => rfl⟩
      have HGD5 := Lib.hid hgd5
      clear hw5 q0 q1 q2 f0 f1 f2 qz hcell hcz hgd5
      obtain ⟨q0, q1, q2, f0, f1, f2, qz⟩ := HK5.out.c3
      go_quiet (fail)
      go_wp2
      go_ret
      rw [HE.out]
      have hpp : ((p + 1 : Nat) : Int) = (p : Int) + 1 := by omega
      refine ⟨ret_int ?_, ?_, HG5.out.trans (HGD5.out _)⟩
      · simp
      · simp only [hpp]
        exact HK5.out.drewN _
end Go.Proofs.YtinfeglhjmnlaaaDoor.pm
namespace Go.Proofs.YtinfeglhjmnlaaaDoor.pm
open Go.RowKit
set_option linter.unusedVariables false
set_option maxRecDepth 10000

/-- the operands of an instruction -/
def opsP (l : List Nat) : Nat → Nat → Bool → List Nat × Nat × Bool
  | 0, p, b => ([], p, b)
  | k + 1, p, b => ((opsP l k p b).1 ++ [(upP l M31 (opsP l k p b).2.1 (opsP l k p b).2.2).1], (upP l M31 (opsP l k p b).2.1 (opsP l k p b).2.2).2.1, (upP l M31 (opsP l k p b).2.1 (opsP l k p b).2.2).2.2)
/-- the immediate -/
def immP (l : List Nat) (q : Bool) (p : Nat) (b : Bool) : Nat × Nat × Bool := if q then anyP l p b else (0, p, b)
def insO (o : Nat) (v : List Nat) (im : Nat) : Ins := ⟨(o : Int), ((v.getD 0 0 : Nat) : Int), ((v.getD 1 0 : Nat) : Int), ((v.getD 2 0 : Nat) : Int), (im : Int)⟩
def insR (l : List Nat) (o : Nat × Nat × Bool) : Ins × Nat × Bool :=
  (insO o.1 (opsP l (opM (o.1 : Int)) o.2.1 o.2.2).1 (immP l (immB (o.1 : Int)) (opsP l (opM (o.1 : Int)) o.2.1 o.2.2).2.1 (opsP l (opM (o.1 : Int)) o.2.1 o.2.2).2.2).1,
   (immP l (immB (o.1 : Int)) (opsP l (opM (o.1 : Int)) o.2.1 o.2.2).2.1 (opsP l (opM (o.1 : Int)) o.2.1 o.2.2).2.2).2)
def insP (l : List Nat) (p : Nat) (b : Bool) : Ins × Nat × Bool := insR l (opP l p b)
def codeP (l : List Nat) : Nat → Nat → Bool → List Ins × Nat × Bool
  | 0, p, b => ([], p, b)
  | n + 1, p, true => ([], p, true)
  | n + 1, p, false => ((insP l p false).1 :: (codeP l n (insP l p false).2.1 (insP l p false).2.2).1, (codeP l n (insP l p false).2.1 (insP l p false).2.2).2)
def frameP (l : List Nat) (al : Int) (p : Nat) (b : Bool) : Fr × Nat × Bool :=
  let a := upP l 8 p b
  let s := upP l M31 a.2.1 a.2.2
  let n := upP l 1024 s.2.1 s.2.2
  let c := codeP l n.1 n.2.1 n.2.2
  (⟨(a.1 : Int), al * (s.1 : Int), c.1⟩, c.2)
def framesP (l : List Nat) (al : Int) : Nat → Nat → Bool → List Fr × Nat × Bool
  | 0, p, b => ([], p, b)
  | n + 1, p, true => ([], p, true)
  | n + 1, p, false => ((frameP l al p false).1 :: (framesP l al n (frameP l al p false).2.1 (frameP l al p false).2.2).1, (framesP l al n (frameP l al p false).2.1 (frameP l al p false).2.2).2)
/-- the alignment, the bound, the frames, and whether something was bad -/
def targP (l : List Nat) : Int × Int × List Fr × Bool :=
  let k := upP l 24 4 false
  let b := upP l M31 k.2.1 k.2.2
  let n := upP l 80 b.2.1 b.2.2
  let f := framesP l ((2 ^ k.1 : Nat) : Int) n.1 n.2.1 n.2.2
  (((2 ^ k.1 : Nat) : Int), (b.1 : Int), f.1, f.2.2)

/-- the total function goes as the partial one -/
def Sim {α : Type} (o : Option (α × Nat)) (r : α × Nat × Bool) : Prop := match o with
  | some x => r = (x.1, x.2, false)
  | none => r.2.2 = true
section
variable {l : List Nat} {lim p k n : Nat} {al : Int}
theorem sim_up (l : List Nat) (lim p : Nat) : Sim (pU l lim p) (upP l lim p false) := by
  unfold Sim
  split
  · exact upP_some (by assumption)
  · exact upP_none (by assumption)
theorem up_bad (l : List Nat) (lim p : Nat) : (upP l lim p true).2.2 = true := by rw [upP_bad]
theorem sim_any (l : List Nat) (p : Nat) : Sim (pU l W64m p) (anyP l p false) := by
  have h := sim_up l W64m p
  have : upP l W64m p false = anyP l p false := by
    unfold upP
    rw [if_pos (by have := anyP_lt l p false; unfold W64m; omega)]
  rwa [this] at h
theorem any_bad (l : List Nat) (p : Nat) : (anyP l p true).2.2 = true := by rw [anyP_bad]
def pOps (l : List Nat) : Nat → Nat → Option (List Nat × Nat)
  | 0, p => some ([], p)
  | k + 1, p => (pOps l k p).bind fun r => (pU l M31 r.2).bind fun q => some (r.1 ++ [q.1], q.2)
theorem ops_bad (l : List Nat) (k p : Nat) : (opsP l k p true).2.2 = true := by
  induction k with
  | zero => rfl
  | succ k ih => unfold opsP; simp only; rw [ih, up_bad]
theorem sim_ops (l : List Nat) (k p : Nat) : Sim (pOps l k p) (opsP l k p false) := by
  induction k with
  | zero => rfl
  | succ k ih =>
    unfold pOps opsP
    cases h : pOps l k p with
    | none =>
      rw [h] at ih
      have ih' : (opsP l k p false).2.2 = true := ih
      show _ = true
      simp only [ih', up_bad]
    | some r =>
      rw [h] at ih
      have ih' : opsP l k p false = (r.1, r.2, false) := ih
      rw [ih']
      simp only [Option.bind_some]
      have hu := sim_up l M31 r.2
      cases h2 : pU l M31 r.2 with
      | none => rw [h2] at hu; exact hu
      | some q => rw [h2] at hu; have hu' : upP l M31 r.2 false = (q.1, q.2, false) := hu; rw [hu']; rfl
theorem imm_bad (l : List Nat) (q : Bool) (p : Nat) : (immP l q p true).2.2 = true := by
  unfold immP
  cases q
  · rfl
  · exact any_bad l p
theorem sim_imm (l : List Nat) (q : Bool) (p : Nat) : Sim (pA l q W64m p) (immP l q p false) := by
  unfold pA immP
  cases q
  · rfl
  · exact sim_any l p
theorem opM_le (o : Int) : opM o ≤ 3 := by
  unfold opM
  repeat' split
  all_goals omega
theorem pB_ops (l : List Nat) (k o p : Nat) (hk : k ≤ 3) : pB l k o p = (pOps l k p).bind fun r => (pA l (immB (o : Int)) W64m r.2).bind fun m => some (insO o r.1 m.1, m.2) := by
  have : k = 0 ∨ k = 1 ∨ k = 2 ∨ k = 3 := by omega
  rcases this with rfl | rfl | rfl | rfl <;> simp [pB, pOps, pA, insO, Option.bind_assoc]
theorem sim_insR (l : List Nat) (o p : Nat) : Sim (pB l (opM (o : Int)) o p) (insR l (o, p, false)) := by
  rw [pB_ops l _ o p (opM_le _)]
  unfold insR
  simp only
  have h1 := sim_ops l (opM (o : Int)) p
  cases h : pOps l (opM (o : Int)) p with
  | none =>
    rw [h] at h1
    have h1' : (opsP l (opM (o : Int)) p false).2.2 = true := h1
    show _ = true
    simp only [h1', imm_bad]
  | some r =>
    rw [h] at h1
    have h1' : opsP l (opM (o : Int)) p false = (r.1, r.2, false) := h1
    rw [h1']
    simp only [Option.bind_some]
    have h2 := sim_imm l (immB (o : Int)) r.2
    cases h3 : pA l (immB (o : Int)) W64m r.2 with
    | none => rw [h3] at h2; exact h2
    | some m => rw [h3] at h2; have h2' : immP l (immB (o : Int)) r.2 false = (m.1, m.2, false) := h2; rw [h2']; rfl
theorem insR_bad (l : List Nat) (o p : Nat) : (insR l (o, p, true)).2.2 = true := by
  unfold insR
  simp only
  rw [ops_bad, imm_bad]
theorem sim_ins (l : List Nat) (p : Nat) : Sim (pI false l p) (insP l p false) := by
  unfold pI insP opP
  by_cases h : p < l.length
  · rw [if_pos ⟨h, fun h => by cases h⟩, if_neg (fun hh => hh.elim (fun hh => by cases hh) (fun hh => by omega))]
    exact sim_insR l _ _
  · rw [if_neg (fun hh => h hh.1), if_pos (.inr (by omega))]
    exact insR_bad l _ _
theorem code_bad (l : List Nat) (n p : Nat) : (codeP l n p true).2.2 = true := by cases n <;> rfl
theorem sim_code (l : List Nat) : ∀ n p, Sim (pC false l n p) (codeP l n p false)
  | 0, p => rfl
  | n + 1, p => by
    unfold pC codeP
    have h1 := sim_ins l p
    cases h : pI false l p with
    | none =>
      rw [h] at h1
      have h1' : (insP l p false).2.2 = true := h1
      show _ = true
      simp only [h1', code_bad]
    | some r =>
      rw [h] at h1
      have h1' : insP l p false = (r.1, r.2, false) := h1
      rw [h1']
      simp only [Option.bind_some]
      have h2 := sim_code l n r.2
      cases h3 : pC false l n r.2 with
      | none => rw [h3] at h2; exact h2
      | some m => rw [h3] at h2; have h2' : codeP l n r.2 false = (m.1, m.2, false) := h2; rw [h2']; rfl
theorem frame_bad (l : List Nat) (al : Int) (p : Nat) : (frameP l al p true).2.2 = true := by
  unfold frameP
  simp only [up_bad, code_bad]
theorem sim_frame (l : List Nat) (al : Int) (p : Nat) : Sim (pF false l al p) (frameP l al p false) := by
  unfold pF frameP
  have h1 := sim_up l 8 p
  cases e1 : pU l 8 p with
  | none =>
    rw [e1] at h1
    have h1' : (upP l 8 p false).2.2 = true := h1
    show _ = true
    simp only [h1', up_bad, code_bad]
  | some r1 =>
    rw [e1] at h1
    have h1' : upP l 8 p false = (r1.1, r1.2, false) := h1
    rw [h1']
    simp only [Option.bind_some]
    have h2 := sim_up l M31 r1.2
    cases e2 : pU l M31 r1.2 with
    | none =>
      rw [e2] at h2
      have h2' : (upP l M31 r1.2 false).2.2 = true := h2
      show _ = true
      simp only [h2', up_bad, code_bad]
    | some r2 =>
      rw [e2] at h2
      have h2' : upP l M31 r1.2 false = (r2.1, r2.2, false) := h2
      rw [h2']
      simp only [Option.bind_some]
      have h3 := sim_up l 1024 r2.2
      cases e3 : pU l 1024 r2.2 with
      | none =>
        rw [e3] at h3
        have h3' : (upP l 1024 r2.2 false).2.2 = true := h3
        show _ = true
        simp only [h3', code_bad]
      | some r3 =>
        rw [e3] at h3
        have h3' : upP l 1024 r2.2 false = (r3.1, r3.2, false) := h3
        rw [h3']
        simp only [Option.bind_some]
        have h4 := sim_code l r3.1 r3.2
        cases e4 : pC false l r3.1 r3.2 with
        | none => rw [e4] at h4; exact h4
        | some m => rw [e4] at h4; have h4' : codeP l r3.1 r3.2 false = (m.1, m.2, false) := h4; rw [h4']; rfl
theorem frames_bad (l : List Nat) (al : Int) (n p : Nat) : (framesP l al n p true).2.2 = true := by cases n <;> rfl
theorem sim_frames (l : List Nat) (al : Int) : ∀ n p, Sim (pFs false l al n p) (framesP l al n p false)
  | 0, p => rfl
  | n + 1, p => by
    unfold pFs framesP
    have h1 := sim_frame l al p
    cases h : pF false l al p with
    | none =>
      rw [h] at h1
      have h1' : (frameP l al p false).2.2 = true := h1
      show _ = true
      simp only [h1', frames_bad]
    | some r =>
      rw [h] at h1
      have h1' : frameP l al p false = (r.1, r.2, false) := h1
      rw [h1']
      simp only [Option.bind_some]
      have h2 := sim_frames l al n r.2
      cases h3 : pFs false l al n r.2 with
      | none => rw [h3] at h2; exact h2
      | some m => rw [h3] at h2; have h2' : framesP l al n r.2 false = (m.1, m.2, false) := h2; rw [h2']; rfl
/-- what is read is what the bytes stand for -/
theorem targ_some (l : List Nat) : match pT false l with
    | some r => targP l = (r.1, r.2.1, r.2.2, false)
    | none => (targP l).2.2.2 = true := by
  unfold pT targP
  have h1 := sim_up l 24 4
  cases e1 : pU l 24 4 with
  | none =>
    rw [e1] at h1
    have h1' : (upP l 24 4 false).2.2 = true := h1
    show _ = true
    simp only [h1', up_bad, frames_bad]
  | some r1 =>
    rw [e1] at h1
    have h1' : upP l 24 4 false = (r1.1, r1.2, false) := h1
    rw [h1']
    simp only [Option.bind_some]
    have h2 := sim_up l M31 r1.2
    cases e2 : pU l M31 r1.2 with
    | none =>
      rw [e2] at h2
      have h2' : (upP l M31 r1.2 false).2.2 = true := h2
      show _ = true
      simp only [h2', up_bad, frames_bad]
    | some r2 =>
      rw [e2] at h2
      have h2' : upP l M31 r1.2 false = (r2.1, r2.2, false) := h2
      rw [h2']
      simp only [Option.bind_some]
      have h3 := sim_up l 80 r2.2
      cases e3 : pU l 80 r2.2 with
      | none =>
        rw [e3] at h3
        have h3' : (upP l 80 r2.2 false).2.2 = true := h3
        show _ = true
        simp only [h3', frames_bad]
      | some r3 =>
        rw [e3] at h3
        have h3' : upP l 80 r2.2 false = (r3.1, r3.2, false) := h3
        rw [h3']
        simp only [Option.bind_some]
        have h4 := sim_frames l ((2 ^ r1.1 : Nat) : Int) r3.1 r3.2
        cases e4 : pFs false l ((2 ^ r1.1 : Nat) : Int) r3.1 r3.2 with
        | none => rw [e4] at h4; exact h4
        | some m => rw [e4] at h4; have h4' : framesP l ((2 ^ r1.1 : Nat) : Int) r3.1 r3.2 false = (m.1, m.2, false) := h4; simp only [Option.bind_some]; rw [h4']
end
end Go.Proofs.YtinfeglhjmnlaaaDoor.pm
