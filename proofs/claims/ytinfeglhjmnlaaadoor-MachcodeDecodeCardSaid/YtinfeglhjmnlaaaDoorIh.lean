/- Bytes of targets: the reader of the reference of chapter 11. -/
import Derived.Test.YtinfeglhjmnlaaaDoorIg
import Derived.Test.YtinfeglhjmnlaaaDoorGKs
namespace Go.Proofs.YtinfeglhjmnlaaaDoor.pm
open Go.RowKit
set_option linter.unusedVariables false
set_option maxRecDepth 10000

def RqD (gr : Nat) (A : Option Addr) (n c : Nat) (k : IntKind) (r : Nat × Nat × Bool) (w : World) (e : Ending) (w' : World) : Prop :=
  e = .returned (.int k (r.1 : Int)) ∧ Blk w' gr 85 #[.slice A n c, .int .i64 (r.2.1 : Int), .bool r.2.2] ∧ w.grownBy w' (some gr)
set_option maxHeartbeats 1000000 in
theorem word11 (gr B : Nat) (A : Option Addr) (n c : Nat) (l : List Nat) (p : Nat) (ok : Bool) (w : World) (hK : Blk w gr 85 #[.slice A n c, .int .i64 (p : Int), .bool ok]) (hb : Bs w B A n l) (hn : n ≤ 2000000) (hp : p ≤ 2000000) :
    Calls Tryd.prog 85 #[.pointer (some ⟨gr, 0, none⟩)] w (RqD gr A n c .u64 (anyPQ l p ok) w) := by
  obtain ⟨v, q, er, hr⟩ : ∃ v q er, rdU l (p : Int) = (v, q, er) := ⟨_, _, _, rfl⟩
  have HU : Hid (∀ W, Bs W B A n l → Calls Tryd.prog 115 #[.slice A n c, .int .i64 (p : Int)] W fun e w' => e = .returned (.tuple #[.int .u64 (v : Int), .int .i64 (q : Int), .int .i64 (er : Int)]) ∧ W = w') := Lib.hid (fun W h => (refuint_any A n c l (p : Int) (by omega) (by omega) W B h (by omega)).mono (by
    rintro e w' ⟨rfl, hw⟩
    rw [hr]
    exact ⟨rfl, hw⟩))
  have HB := Lib.hid hb
  obtain ⟨q0, q1, q2, f0, f1, f2, qz⟩ := hK.c3
  have HK := Lib.hid hK
  have HA : Hid (anyPQ l p ok = if ok = true ∧ er = 0 then (v, q, true) else (0, p, false)) := Lib.hid (by unfold anyPQ; rw [hr])
  clear hK hb hr
  go_enter Tryd.func85, Tryd.ntmps85
  go_upto_region 1 with (fail)
  go_cut [3, 4, 5] (fun s3 s4 s5 wx => s3 = .int .u64 (v : Int) ∧ s4 = .int .i64 (q : Int) ∧ s5 = .int .i64 (er : Int) ∧ w.drew = wx)
  case first =>
    go_region_with (go_at_call 115; refine (HU.out _ ?_).mono ?_; (exact HB.out); rintro e v1 ⟨rfl, rfl⟩)
    all_goals (go_wp2_with fail; go_meet; exact ⟨rfl, rfl, rfl, rfl⟩)
  case rest =>
  obtain ⟨rfl, rfl, rfl, rfl⟩ := hcut
  obtain ⟨wd, hwd⟩ : ∃ wd, wd = w.drew := ⟨_, rfl⟩
  rw [← hwd]
  have hgd : w.grownBy wd (some gr) := by rw [hwd]; exact ⟨rfl, rfl, rfl, Nat.le_refl _, fun _ _ _ => rfl⟩
  have HK1 : Hid (Blk wd gr 85 #[.slice A n c, .int .i64 (p : Int), .bool ok]) := Lib.hid (by rw [hwd]; exact HK.out.drew)
  have HGD := Lib.hid hgd
  clear hwd hgd q0 q1 q2 f0 f1 f2 qz
  obtain ⟨q0, q1, q2, f0, f1, f2, qz⟩ := HK1.out.c3
  by_cases hok : ok = true ∧ er = 0
  · obtain ⟨rfl, rfl⟩ := hok
    have HE : Hid (anyPQ l p true = (v, q, true)) := Lib.hid (by rw [HA.out]; rfl)
    go_wp2
    go_ret
    rw [HE.out]
    exact ⟨rfl, (HK1.out.set_ 2 _).set_ 1 _, (HGD.out.trans (grown_set _ _ _)).trans (grown_set _ _ _)⟩
  · have HE : Hid (anyPQ l p ok = (0, p, false)) := Lib.hid (by rw [HA.out, if_neg hok])
    cases ok with
    | false =>
      go_wp2
      go_ret
      rw [HE.out]
      exact ⟨rfl, HK1.out.set_ 2 _, HGD.out.trans (grown_set _ _ _)⟩
    | true =>
      have her : ((er : Int) == 0) = false := by have : er ≠ 0 := fun h => hok ⟨rfl, h⟩; simpa using this
      go_wp2
      go_ret
      rw [HE.out]
      exact ⟨rfl, HK1.out.set_ 2 _, HGD.out.trans (grown_set _ _ _)⟩
set_option maxHeartbeats 1000000 in
theorem number11 (gr B : Nat) (A : Option Addr) (n c : Nat) (l : List Nat) (lim p : Nat) (ok : Bool) (w : World) (hK : Blk w gr 85 #[.slice A n c, .int .i64 (p : Int), .bool ok]) (hb : Bs w B A n l) (hn : n ≤ 2000000) (hp : p ≤ 2000000) (hl : lim ≤ 2147483647) :
    Calls Tryd.prog 50 #[.pointer (some ⟨gr, 0, none⟩), .int .i64 (lim : Int)] w (RqD gr A n c .i64 (upPQ l lim p ok) w) := by
  have HA := Lib.hid (word11 gr B A n c l p ok w hK hb hn hp)
  obtain ⟨v, q, b, hr⟩ : ∃ v q b, anyPQ l p ok = (v, q, b) := ⟨_, _, _, rfl⟩
  have hv : v < 18446744073709551616 := by have := anyP_ltQ l p ok; rw [hr] at this; exact this
  rw [hr] at HA
  have HU : Hid (upPQ l lim p ok = if v ≤ lim then (v, q, b) else (0, q, false)) := Lib.hid (by unfold upPQ; rw [hr])
  have hw : IntKind.u64.wrap (lim : Int) = (lim : Int) := IntWalk.u64_in _ (by omega)
  clear hK hb hr
  go_enter Tryd.func50, Tryd.ntmps50
  go_wp2_with fail
  refine HA.out.mono ?_
  rintro e w1 ⟨rfl, hk, hg⟩
  simp only at hk ⊢
  have HK1 := Lib.hid hk
  have HG1 := Lib.hid hg
  clear hk hg
  obtain ⟨q0, q1, q2, f0, f1, f2, qz⟩ := HK1.out.c3
  by_cases hle : v ≤ lim
  · have HE : Hid (upPQ l lim p ok = (v, q, b)) := Lib.hid (by rw [HU.out, if_pos hle])
    have hi : ¬ (lim : Int) < (v : Int) := by omega
    have hw2 : IntKind.i64.wrap (v : Int) = (v : Int) := IntWalk.i64_in _ (by omega)
    clear hle
    go_wp2
    go_ret
    rw [HE.out]
    exact ⟨rfl, HK1.out, HG1.out⟩
  · have HE : Hid (upPQ l lim p ok = (0, q, false)) := Lib.hid (by rw [HU.out, if_neg hle])
    have hi : (lim : Int) < (v : Int) := by omega
    clear hle
    go_wp2
    go_ret
    rw [HE.out]
    exact ⟨rfl, HK1.out.set_ 2 _, HG1.out.trans (grown_set _ _ _)⟩
theorem refoperands10_all (o : Nat) (h : o < 25) (w : World) :
    Calls Tryd.prog 38 #[.int .i64 (o : Int)] w fun e w' => e = .returned (.tuple #[.bool (useT o).1, .bool (useT o).2.1, .bool (useT o).2.2.1, .bool (useT o).2.2.2]) ∧ w = w' := by
  by_cases h2 : o ≠ 18 ∧ o ≠ 19
  · exact refoperands10_any o h h2.1 h2.2 w
  have HM := Lib.hid (fun W => refmem10_any (o : Int) W)
  have hb : memB (o : Int) = false := by
    have : o = 18 ∨ o = 19 := by omega
    rcases this with rfl | rfl <;> decide
  have HO := Lib.hid (fun W => operands_any o h W)
  have HE : Hid (useA o = (useT o).1 ∧ useB o = (useT o).2.1 ∧ useC o = (useT o).2.2.1 ∧ useI o = (useT o).2.2.2) := Lib.hid (by
    have h' : o = 18 ∨ o = 19 := by omega
    rcases h' with rfl | rfl <;> decide)
  rw [hb] at HM
  clear hb h h2
  go_enter Tryd.func38, Tryd.ntmps38
  go_wp2_with fail
  refine (HM.out _).mono ?_
  rintro e w1 ⟨rfl, rfl⟩
  go_wp2_with fail
  refine (HO.out _).mono ?_
  rintro e w1 ⟨rfl, rfl⟩
  go_wp2
  refine bodyPost_ret (results_tmp4 Tryd.results38 _ _ _) rfl ⟨?_, rfl⟩
  simp [HE.out.1, HE.out.2.1, HE.out.2.2.1, HE.out.2.2.2]
end Go.Proofs.YtinfeglhjmnlaaaDoor.pm
