/- Bytes of programs, the reference's reader: function. Printed by mkyv.py. -/
import Derived.Test.YtinfeglhjmnlaaaDoorYu
import Derived.Test.YtinfeglhjmnlaaaDoorYm
import Derived.Test.YtinfeglhjmnlaaaDoorYn
import Derived.Test.YtinfeglhjmnlaaaDoorYw
import Derived.Deep.CutBlock
import Derived.Deep.RegionLaw
import Derived.Deep.DrawnRows
namespace Go.Proofs.YtinfeglhjmnlaaaDoor.pm
open Go.RowKit
set_option linter.unusedVariables false
set_option maxRecDepth 10000

def RfD (gr : Nat) (A : Option Addr) (n c en : Nat) (r : (Fn × List Nat) × Nat × Nat) (w : World) (e : Ending) (w' : World) : Prop :=
  ∃ Vs cs Vi ci D cd, e = .returned (.tuple #[.agg #[.int .i64 r.1.1.params, .slice Vs r.1.1.slots.length cs, .slice Vi r.1.1.code.length ci], .slice D r.1.2.length cd]) ∧ SxT w' w.heap.size w'.heap.size Vs r.1.1.slots ∧ NxT w' w.heap.size w'.heap.size Vi r.1.1.code ∧ BxT w' w.heap.size w'.heap.size D r.1.2 ∧
    (r.1.1.slots.length ≤ cs ∧ r.1.1.code.length ≤ ci ∧ r.1.2.length ≤ cd) ∧ Blk w' gr 141 #[.slice A n c, .int .i64 (r.2.1 : Int), .int .i64 (en : Int), .int .i64 (r.2.2 : Int)] ∧ w.grownBy w' (some gr)
theorem sxT_nil (w : World) (lo hi : Nat) : SxT w lo hi none [] := ⟨Rx.nil _ _ _ _, TyA.nil _ _ _⟩
theorem nxT_nil (w : World) (lo hi : Nat) : NxT w lo hi none [] := ⟨Rx.nil _ _ _ _, TyA.nil _ _ _⟩
theorem bxT_nil (w : World) (lo hi : Nat) : BxT w lo hi none [] := ⟨Rx.nil _ _ _ _, TyA.nil _ _ _⟩
theorem BxT.of_own {w : World} {base c : Nat} {V : Option Addr} {d : List Nat} (h : w.ownsRow base 5 1 (.slice V d.length c) d.length (nb d)) : BxT w base w.heap.size V d := ⟨Rx.of_own h, TyA.of_own h⟩
theorem NxT.kp {W W' : World} {lo hi : Nat} {V : Option Addr} {ss : List Ins} (h : NxT W lo hi V ss) (hk : Kp lo hi W W') : NxT W' lo hi V ss := ⟨h.1.keep hk, TyA.keep h.2 hk (Rx.inside h.1)⟩
theorem BxT.kp {W W' : World} {lo hi : Nat} {V : Option Addr} {ss : List Nat} (h : BxT W lo hi V ss) (hk : Kp lo hi W W') : BxT W' lo hi V ss := ⟨h.1.keep hk, TyA.keep h.2 hk (Rx.inside h.1)⟩
theorem rfd_err {gr n c en p e : Nat} {A : Option Addr} {w w' : World} (hk : Blk w' gr 141 #[.slice A n c, .int .i64 (p : Int), .int .i64 (en : Int), .int .i64 (e : Int)]) (hg : w.grownBy w' (some gr)) :
    RfD gr A n c en ((Fn.z, []), p, e) w (.returned (.tuple #[.agg #[.int .i64 0, .slice none 0 0, .slice none 0 0], .slice none 0 0])) w' :=
  ⟨none, 0, none, 0, none, 0, rfl, sxT_nil _ _ _, nxT_nil _ _ _, bxT_nil _ _ _, ⟨Nat.le_refl _, Nat.le_refl _, Nat.le_refl _⟩, hk, hg⟩
set_option maxHeartbeats 8000000 in
theorem rfunction6 (gr B : Nat) (A : Option Addr) (n c en : Nat) (l : List Nat) (p : Nat) (w : World) (hK : Blk w gr 141 #[.slice A n c, .int .i64 (p : Int), .int .i64 (en : Int), .int .i64 ((0 : Nat) : Int)]) (hb : Bs w B A en l) (hgr : B ≤ gr) (hen : en < n) (hn : n ≤ 1999000) (hc : n ≤ c) (hcm : c ≤ maxLen) (hp : p ≤ en) :
    Calls Tryd.prog 103 #[.pointer (some ⟨gr, 0, none⟩)] w (RfD gr A n c en (fsR l p 0) w) := by
  have hlen : l.length = en := hb.len
  have hBw : B ≤ w.heap.size := by have := hK.lt; omega
  have HLN := Lib.hid hlen
  have HRD := Lib.hid (fun (W : World) (h : w.grownBy W (some gr)) => (⟨hb.1.grown h hBw (by intro g e; injection e with e; omega), hb.2⟩ : Bs W B A en l))
  have HNB := Lib.hid (⟨hen, hn, hc, hcm⟩ : en < n ∧ n ≤ 1999000 ∧ n ≤ c ∧ c ≤ maxLen)
  have hgw := hK.lt
  obtain ⟨W1, hW1⟩ : ∃ W1, W1 = w.alloc (.cells #[.int .i64 0, .slice none 0 0, .slice none 0 0] 97) := ⟨_, rfl⟩
  obtain ⟨g2, hg2⟩ : ∃ g, g = w.heap.size := ⟨_, rfl⟩
  have hg1 : w.grownBy W1 (some gr) := by rw [hW1]; exact galloc6 (World.grownBy.refl _ _) _
  have HK1 : Hid (Blk W1 gr 141 #[.slice A n c, .int .i64 (p : Int), .int .i64 (en : Int), .int .i64 ((0 : Nat) : Int)]) := Lib.hid (by rw [hW1]; exact hK.alloc _)
  have HF1 : Hid (Blk W1 g2 97 #[.int .i64 0, .slice none 0 0, .slice none 0 0]) := Lib.hid (by rw [hW1, hg2]; exact Blk.new _ _ _)
  have HG1 := Lib.hid hg1
  have HW1 := Lib.hid hW1
  have HG2 := Lib.hid hg2
  have hs1 : W1.heap.size = g2 + 1 := by rw [hW1, hg2]; simp
  have hwg2 : w.heap.size ≤ g2 := by omega
  have hgr2 : gr < g2 := by omega
  have HA := Lib.hid (rnumber6 gr B A n c en l p 0 W1 HK1.out (HRD.out _ hg1) (by omega) (by omega) hc hcm (by omega))
  obtain ⟨v1, p1, e1, he1⟩ : ∃ v q e, upS l M31 4 p 0 = (v, q, e) := ⟨_, _, _, rfl⟩
  have hp1 : p1 ≤ en := by have := upS_pos (l := l) (M := en) (lim := M31) (er := 4) (e := 0) hp (by omega); rw [he1] at this; exact this
  have hv31 : v1 ≤ 2147483647 := by have := (upS_le l M31 4 p 0).2; rw [he1] at this; exact this
  rw [he1] at HA
  have HSZ : Hid (sizeQ l p 0 = (v1, p1, if e1 = 0 ∧ en - p1 < v1 then 1 else e1)) := Lib.hid (by unfold sizeQ; rw [he1, hlen])
  have HEE : Hid ((sizeQ l p 0).2.2 ≠ 0 → fsR l p 0 = ((Fn.z, []), (sizeQ l p 0).2.1, (sizeQ l p 0).2.2)) := Lib.hid (fun h => by unfold fsR partR; rw [if_pos h])
  clear hg1 hW1 hK hb he1 hg2 hc hcm
  go_enter Tryd.func103, Tryd.ntmps103
  go_upto_region 1 with (fail)
  rw [← HW1.out, ← HG2.out]
  go_wp2_with fail
  refine HA.out.mono ?_
  rintro e w2 ⟨rfl, hk2, hg2⟩
  simp only at hk2 ⊢
  have HK2 := Lib.hid hk2
  have HF2 := Lib.hid (HF1.out.grown hg2 (by intro h; injection h with h; omega))
  have HG2b := Lib.hid (HG1.out.trans hg2)
  have hs2 := hg2.size
  clear hk2 hg2 HA HK1 HF1 HG1
  obtain ⟨r0, r1, r2, r3, rf0, rf1, rf2, rf3, rz⟩ := HK2.out.c4
  obtain ⟨kp, hkp⟩ : ∃ x : Int, x = (en : Int) - (p1 : Int) := ⟨_, rfl⟩
  have hwk : IntKind.i64.wrap ((en : Int) - (p1 : Int)) = kp := by rw [IntWalk.i64_in _ (by have := HNB.out; omega)]; exact hkp.symm
  go_upto_region 2 with (fail)
  by_cases h1 : e1 = 0
  case neg =>
    have hb1 : ((e1 : Int) == 0) = false := by rw [beq_eq_false_iff_ne]; omega
    have HBN := Lib.hid h1
    have HE : Hid (fsR l p 0 = ((Fn.z, []), p1, e1)) := Lib.hid (by
      have h2 : sizeQ l p 0 = (v1, p1, e1) := by rw [HSZ.out, if_neg (fun h => h1 h.1)]
      have h3 := HEE.out (by rw [h2]; exact h1)
      rw [h3, h2])
    clear h1 HSZ HEE
    go_quiet (fail)
    obtain ⟨W3, hW3⟩ : ∃ W3, W3 = w2.drewN nq := ⟨_, rfl⟩
    rw [← hW3]
    have HR : Hid (Blk W3 gr 141 #[.slice A n c, .int .i64 (p1 : Int), .int .i64 (en : Int), .int .i64 (e1 : Int)]) := Lib.hid (by rw [hW3]; exact HK2.out.drewN _)
    have HF : Hid (Blk W3 g2 97 #[.int .i64 0, .slice none 0 0, .slice none 0 0]) := Lib.hid (by rw [hW3]; exact HF2.out.drewN _)
    have HG : Hid (w.grownBy W3 (some gr)) := Lib.hid (by rw [hW3]; exact HG2b.out.trans ⟨rfl, rfl, rfl, Nat.le_refl _, fun _ _ _ => rfl⟩)
    have HUP := HG
    clear hW3 r0 r1 r2 r3 rf0 rf1 rf2 rf3 rz HK2 HF2 HG2b
    obtain ⟨r0, r1, r2, r3, -, -, -, -, rz⟩ := HR.out.c4
    obtain ⟨d0, d1, d2, df0, df1, df2, dz⟩ := HF.out.c3
    have hbn : ((e1 : Int) != 0) = true := by rw [bne_iff_ne]; have := HBN.out; omega
    have HHZ := Lib.hid (put3_6 HF.out (.int .i64 0) (.slice none 0 0) (.slice none 0 0))
    have HFIN : Hid (RfD gr A n c en (fsR l p 0) w (.returned (.tuple #[.agg #[.int .i64 0, .slice none 0 0, .slice none 0 0], .slice none 0 0])) (((W3.setCell ⟨g2, 0, none⟩ (.int .i64 0)).setCell ⟨g2, 1, none⟩ (.slice none 0 0)).setCell ⟨g2, 2, none⟩ (.slice none 0 0))) := Lib.hid (by
      rw [HE.out]
      exact rfd_err (((HR.out.far (by show gr ≠ g2; omega) _).far (by show gr ≠ g2; omega) _).far (by show gr ≠ g2; omega) _) (gsetG6 (gsetG6 (gsetG6 HG.out (by show w.heap.size ≤ g2; omega) _) (by show w.heap.size ≤ g2; omega) _) (by show w.heap.size ≤ g2; omega) _))
    clear HE HUP HRD HNB
    go_wp2
    obtain ⟨u0, u1, u2, -⟩ := HHZ.out.c3
    exact bodyPost_ret (v := .tuple #[.agg #[.int .i64 0, .slice none 0 0, .slice none 0 0], .slice none 0 0]) (by simp [results, Tryd.results103, go_sem, u0, u1, u2]) rfl HFIN.out
  case pos =>
  subst h1
  by_cases h2 : en - p1 < v1
  case pos =>
    have hi2 : kp < (v1 : Int) := by omega
    have HBN : Hid ((1 : Nat) ≠ 0) := Lib.hid (by decide)
    have HE : Hid (fsR l p 0 = ((Fn.z, []), p1, 1)) := Lib.hid (by
      have h3 : sizeQ l p 0 = (v1, p1, 1) := by rw [HSZ.out, if_pos ⟨rfl, h2⟩]
      have h4 := HEE.out (by rw [h3]; simp)
      rw [h4, h3])
    clear h2 HSZ HEE
    go_quiet (fail)
    obtain ⟨W3, hW3⟩ : ∃ W3, W3 = w2.drewN nq := ⟨_, rfl⟩
    rw [← hW3]
    have HR3 : Hid (Blk W3 gr 141 #[.slice A n c, .int .i64 (p1 : Int), .int .i64 (en : Int), .int .i64 ((0 : Nat) : Int)]) := Lib.hid (by rw [hW3]; exact HK2.out.drewN _)
    have HF3 : Hid (Blk W3 g2 97 #[.int .i64 0, .slice none 0 0, .slice none 0 0]) := Lib.hid (by rw [hW3]; exact HF2.out.drewN _)
    have HG3 : Hid (w.grownBy W3 (some gr)) := Lib.hid (by rw [hW3]; exact HG2b.out.trans ⟨rfl, rfl, rfl, Nat.le_refl _, fun _ _ _ => rfl⟩)
    have HFL := Lib.hid (rfail6 gr A n c p1 en 0 1 W3 HR3.out)
    rw [failE_z] at HFL
    clear hW3 r0 r1 r2 r3 rf0 rf1 rf2 rf3 rz HK2 HF2 HG2b
    go_wp2_with fail
    refine HFL.out.mono ?_
    rintro e w4 ⟨rfl, hk4, hg4⟩
    have HR := Lib.hid hk4
    have HF := Lib.hid (HF3.out.grown hg4 (by intro h; injection h with h; omega))
    have HG := Lib.hid (HG3.out.trans hg4)
    have HUP := HG
    clear hk4 hg4 HFL HR3 HF3 HG3
    obtain ⟨r0, r1, r2, r3, -, -, -, -, rz⟩ := HR.out.c4
    obtain ⟨d0, d1, d2, df0, df1, df2, dz⟩ := HF.out.c3
    have hbn : ((1 : Int) != 0) = true := by rw [bne_iff_ne]; have := HBN.out; omega
    have HHZ := Lib.hid (put3_6 HF.out (.int .i64 0) (.slice none 0 0) (.slice none 0 0))
    have HFIN : Hid (RfD gr A n c en (fsR l p 0) w (.returned (.tuple #[.agg #[.int .i64 0, .slice none 0 0, .slice none 0 0], .slice none 0 0])) (((w4.setCell ⟨g2, 0, none⟩ (.int .i64 0)).setCell ⟨g2, 1, none⟩ (.slice none 0 0)).setCell ⟨g2, 2, none⟩ (.slice none 0 0))) := Lib.hid (by
      rw [HE.out]
      exact rfd_err (((HR.out.far (by show gr ≠ g2; omega) _).far (by show gr ≠ g2; omega) _).far (by show gr ≠ g2; omega) _) (gsetG6 (gsetG6 (gsetG6 HG.out (by show w.heap.size ≤ g2; omega) _) (by show w.heap.size ≤ g2; omega) _) (by show w.heap.size ≤ g2; omega) _))
    clear HE HUP HRD HNB
    go_wp2
    obtain ⟨u0, u1, u2, -⟩ := HHZ.out.c3
    exact bodyPost_ret (v := .tuple #[.agg #[.int .i64 0, .slice none 0 0, .slice none 0 0], .slice none 0 0]) (by simp [results, Tryd.results103, go_sem, u0, u1, u2]) rfl HFIN.out
  case neg =>
  have hi2 : ¬ kp < (v1 : Int) := by omega
  obtain ⟨x, hx⟩ : ∃ x, x = p1 + v1 := ⟨_, rfl⟩
  have hxk : x ≤ en := by omega
  have hwx : IntKind.i64.wrap ((p1 : Int) + (v1 : Int)) = (x : Int) := by rw [IntWalk.i64_in _ (by have := HNB.out; omega)]; omega
  have HXE := Lib.hid hx
  obtain ⟨lx, hlx⟩ : ∃ y, y = l.take x := ⟨_, rfl⟩
  have HLX : Hid (lx.length = x) := Lib.hid (by rw [hlx, List.length_take]; omega)
  obtain ⟨d, hd⟩ : ∃ d, d = (l.drop p1).take v1 := ⟨_, rfl⟩
  have hdl : d.length = v1 := by rw [hd, List.length_take, List.length_drop, HLN.out]; omega
  have HDL := Lib.hid hdl
  have HFS : Hid (fsR l p 0 = (((funR lx p1).1, d), (funR lx p1).2)) := Lib.hid (by
    have h3 : sizeQ l p 0 = (v1, p1, 0) := by rw [HSZ.out, if_neg (fun h => h2 h.2)]
    unfold fsR partR
    rw [h3]
    simp only
    rw [if_neg (by simp), ← hx, ← hlx, ← hd])
  have hcp : ¬ c = p1 := by have := HNB.out; omega
  have HBX := Lib.hid (fun (W : World) (h : w.grownBy W (some gr)) => (by rw [hlx]; exact (show Bs W B A en l from HRD.out W h).take hxk : Bs W B A x lx))
  have HBD : Hid (∀ W, w.grownBy W (some gr) → Bs W B (A.map (·.add p1)) v1 d) := Lib.hid (fun W h => by
    have hb : Bs W B A en l := HRD.out W h
    have h1 := hb.1.cut (k := p1) (cap := c) (by omega) (by have := HNB.out; omega)
    rw [if_neg hcp, Nat.mul_one] at h1
    have h2 : Bs W B (A.map (·.add p1)) (en - p1) (l.drop p1) := ⟨(by rw [show nb (l.drop p1) = (nb l).drop p1 by simp [nb]]; exact h1), fun x hx => hb.2 x (List.mem_of_mem_drop hx)⟩
    rw [hd]
    exact h2.take (by omega))
  have HUP := Lib.hid (fun (W : World) (q e : Nat) (hk : Blk W gr 141 #[.slice A n c, .int .i64 (q : Int), .int .i64 (x : Int), .int .i64 (e : Int)]) (h : w.grownBy W (some gr)) (hq : q ≤ x) => rnumber6 gr B A n c x lx q e W hk (HBX.out W h) (by have := HNB.out; omega) (by have := HNB.out; omega) (by have := HNB.out; omega) (by have := HNB.out; omega) (by have := HNB.out; omega))
  have HCT := Lib.hid (fun (W : World) (lim q e : Nat) (hk : Blk W gr 141 #[.slice A n c, .int .i64 (q : Int), .int .i64 (x : Int), .int .i64 (e : Int)]) (h : w.grownBy W (some gr)) (hq : q ≤ x) (hl : lim ≤ 2147483647) => rcount6 gr B A n c x lx lim q e W hk (HBX.out W h) (by have := HNB.out; omega) (by have := HNB.out; omega) (by have := HNB.out; omega) (by have := HNB.out; omega) (by have := HNB.out; omega) hl)
  have HSLT := Lib.hid (fun (W : World) (q e : Nat) (hk : Blk W gr 141 #[.slice A n c, .int .i64 (q : Int), .int .i64 (x : Int), .int .i64 (e : Int)]) (h : w.grownBy W (some gr)) (hq : q ≤ x) => rslot6 gr B A n c x lx q e W hk (HBX.out W h) hgr (by have := HNB.out; omega) (by have := HNB.out; omega) (by have := HNB.out; omega) (by have := HNB.out; omega) (by have := HNB.out; omega))
  have HINS := Lib.hid (fun (W : World) (q e : Nat) (hk : Blk W gr 141 #[.slice A n c, .int .i64 (q : Int), .int .i64 (x : Int), .int .i64 (e : Int)]) (h : w.grownBy W (some gr)) (hq : q ≤ x) => rinstr6 gr B A n c x lx q e W hk (HBX.out W h) hgr (by have := HNB.out; omega) (by have := HNB.out; omega) (by have := HNB.out; omega) (by have := HNB.out; omega) (by have := HNB.out; omega))
  have hen2 : en ≤ 1999000 := by have := HNB.out; omega
  have hxb : x ≤ 1999000 := by omega
  have hp1x : p1 ≤ x := by omega
  have HLLX : Hid (lx.length ≤ x) := Lib.hid (by rw [HLX.out]; exact Nat.le_refl _)
  clear h2 HSZ HEE hkp hd hdl hlx hx
  go_quiet (fail)
  obtain ⟨W3, hW3⟩ : ∃ W3, W3 = w2.drewN nq := ⟨_, rfl⟩
  rw [← hW3]
  have HK3 : Hid (Blk W3 gr 141 #[.slice A n c, .int .i64 (p1 : Int), .int .i64 (en : Int), .int .i64 ((0 : Nat) : Int)]) := Lib.hid (by rw [hW3]; exact HK2.out.drewN _)
  have HF3 : Hid (Blk W3 g2 97 #[.int .i64 0, .slice none 0 0, .slice none 0 0]) := Lib.hid (by rw [hW3]; exact HF2.out.drewN _)
  have HG3 : Hid (w.grownBy W3 (some gr)) := Lib.hid (by rw [hW3]; exact HG2b.out.trans ⟨rfl, rfl, rfl, Nat.le_refl _, fun _ _ _ => rfl⟩)
  have hs3 : g2 < W3.heap.size := HF3.out.lt
  clear hW3 r0 r1 r2 r3 rf0 rf1 rf2 rf3 rz HK2 HF2 HG2b hi2 hwk hs2 hs1
  obtain ⟨r0, r1, r2, r3, rf0, rf1, rf2, rf3, rz⟩ := HK3.out.c4
  go_upto_region 6 with (fail)
  go_quiet (fail)
  obtain ⟨W4, hW4⟩ : ∃ W4, W4 = W3.drewN nq := ⟨_, rfl⟩
  rw [← hW4]
  have HK4 : Hid (Blk W4 gr 141 #[.slice A n c, .int .i64 (p1 : Int), .int .i64 (en : Int), .int .i64 ((0 : Nat) : Int)]) := Lib.hid (by rw [hW4]; exact HK3.out.drewN _)
  have HF4 : Hid (Blk W4 g2 97 #[.int .i64 0, .slice none 0 0, .slice none 0 0]) := Lib.hid (by rw [hW4]; exact HF3.out.drewN _)
  have HG4 : Hid (w.grownBy W4 (some gr)) := Lib.hid (by rw [hW4]; exact HG3.out.trans ⟨rfl, rfl, rfl, Nat.le_refl _, fun _ _ _ => rfl⟩)
  clear hW4 r0 r1 r2 r3 rf0 rf1 rf2 rf3 rz HK3 HF3 HG3 hs3
  obtain ⟨r0, r1, r2, r3, rf0, rf1, rf2, rf3, rz⟩ := HK4.out.c4
  go_upto_region 8 with (fail)
  try rw [show ((p1 : Int) + (v1 : Int)) = (x : Int) by have := HXE.out; omega]
  obtain ⟨W5, hW5⟩ : ∃ W5, W5 = W4.setCell ⟨gr, 2, none⟩ (.int .i64 (x : Int)) := ⟨_, rfl⟩
  rw [← hW5]
  have HK5 : Hid (Blk W5 gr 141 #[.slice A n c, .int .i64 (p1 : Int), .int .i64 (x : Int), .int .i64 ((0 : Nat) : Int)]) := Lib.hid (by rw [hW5]; exact HK4.out.set_ 2 _)
  have HF5 : Hid (Blk W5 g2 97 #[.int .i64 0, .slice none 0 0, .slice none 0 0]) := Lib.hid (by rw [hW5]; exact HF4.out.far (by simp; omega) _)
  have HG5 : Hid (w.grownBy W5 (some gr)) := Lib.hid (by rw [hW5]; exact HG4.out.trans (gset6 _ _ _))
  clear hW5 r0 r1 r2 r3 rf0 rf1 rf2 rf3 rz HK4 HF4 HG4
  have HN8 := Lib.hid (HUP.out W5 p1 0 HK5.out HG5.out hp1x)
  obtain ⟨a, pa, ea, hea⟩ : ∃ v q e, upS lx M31 4 p1 0 = (v, q, e) := ⟨_, _, _, rfl⟩
  have hpa : pa ≤ x := by have := upS_pos (l := lx) (M := x) (lim := M31) (er := 4) (e := 0) hp1x HLLX.out; rw [hea] at this; exact this
  rw [hea] at HN8
  have HEA := Lib.hid hea
  clear hea
  go_wp2_with fail
  refine HN8.out.mono ?_
  rintro e w6 ⟨rfl, hk6, hg6⟩
  simp only at hk6 ⊢
  go_upto_region 9 with (fail)
  obtain ⟨W7, hW7⟩ : ∃ W7, W7 = w6.alloc (.cells #[.int .i64 (a : Int), .slice none 0 0, .slice none 0 0] 97) := ⟨_, rfl⟩
  obtain ⟨g7, hg7⟩ : ∃ g, g = w6.heap.size := ⟨_, rfl⟩
  rw [← hW7, ← hg7]
  have hs6 := hg6.size
  have hg27 : g2 < g7 := by have := HF5.out.lt; omega
  obtain ⟨lo, hlo⟩ : ∃ lo, lo = g7 + 1 := ⟨_, rfl⟩
  have hlo7 : g7 < lo := by omega
  have hlo1 : lo ≤ g7 + 1 := by omega
  have HK7 : Hid (Blk W7 gr 141 #[.slice A n c, .int .i64 (pa : Int), .int .i64 (x : Int), .int .i64 (ea : Int)]) := Lib.hid (by rw [hW7]; exact hk6.alloc _)
  have HU7 : Hid (UI gr g2 g7 lo #[.int .i64 (a : Int), .slice none 0 0, .slice none 0 0] 103 2 (.slice none 0 0) 0 [] w W7) := Lib.hid (by
    rw [hW7]
    exact ⟨(HF5.out.grown hg6 (by intro h; injection h with h; omega)).alloc _, by rw [hg7]; exact Blk.new _ _ _, World.ownsRow_nil _ _ _ _, galloc6 (HG5.out.trans hg6) _⟩)
  clear hW7 hg7 hk6 hg6 HN8 HK5 HF5 HG5 hs6 hlo
  have HC9 := Lib.hid (HCT.out W7 512 pa ea HK7.out HU7.out.g hpa (by decide))
  obtain ⟨N, pn, ec, hec⟩ : ∃ v q e, upS lx 512 3 pa ea = (v, q, e) := ⟨_, _, _, rfl⟩
  have hpn : pn ≤ x := by have := upS_pos (l := lx) (M := x) (lim := 512) (er := 3) (e := ea) hpa HLLX.out; rw [hec] at this; exact this
  have hN : N ≤ 512 := by have := (upS_le lx 512 3 pa ea).1; rw [hec] at this; exact this
  rw [hec] at HC9
  have HEC := Lib.hid hec
  clear hec
  go_wp2_with (go_at_call 102; refine HC9.out.mono ?_; rintro e w8 ⟨rfl, hk8, hg8⟩)
  have HK8 := Lib.hid hk8
  have HU8 := Lib.hid (HU7.out.grown hg8 hgr2 hg27 hlo7)
  have hz8 : lo ≤ w8.heap.size := by have := HU8.out.x.lt; omega
  clear hk8 hg8 HC9 HU7 HK7
  obtain ⟨i0, hi0, hz0, hz1, hz2⟩ := info_parts info_slot
  obtain ⟨i1, hi1, hy0, hy1, hy2⟩ := info_parts info_ins
  obtain ⟨i2, hi2, hx0, hx1, hx2⟩ := info_parts info_u8
  have hsw : w.heap.size = g2 := HG2.out.symm
  go_loopw [8] (fun y wr => ∃ (m q e : Nat) (ss : List (Int × Int)) (o : Value), y = .int .i64 (m : Int) ∧ q ≤ x ∧ ss.length + m ≤ 512 ∧ Hid (manyS (slotR lx) N pn ec = (ss ++ (manyS (slotR lx) m q e).1, (manyS (slotR lx) m q e).2)) ∧
    Hid (Blk wr gr 141 #[.slice A n c, .int .i64 (q : Int), .int .i64 (x : Int), .int .i64 (e : Int)]) ∧ Hid (UI gr g2 g7 lo #[.int .i64 (a : Int), o, .slice none 0 0] 103 2 o ss.length (slV ss) w wr)) (fun y _ => (intOf y).toNat)
  case atStart => exact ⟨N, pn, ec, [], .slice none 0 0, rfl, hpn, by simpa using hN, Lib.hid (by simp), HK8, HU8⟩
  case round =>
    obtain ⟨m, q, e', ss, o, rfl, hq, hcl, HCO, HKr, HUr⟩ := hrel
    have HCL := Lib.hid hcl
    have hm31 : (m : Int) ≤ 512 := by omega
    clear hcl HK8 HU8 hz8 hpn hN
    obtain ⟨r0, r1, r2, r3, rf0, rf1, rf2, rf3, rz⟩ := HKr.out.c4
    by_cases hend : m = 0 ∨ e' ≠ 0
    · have HE : Hid (manyS (slotR lx) N pn ec = (ss, q, e')) := Lib.hid (by rw [HCO.out, manyS_stop hend]; simp)
      have HFU : Hid (∀ (M pm em : Nat), upS lx 1024 3 q e' = (M, pm, em) → funR lx p1 = (⟨(a : Int), ss, (manyS (insS lx) M pm em).1⟩, (manyS (insS lx) M pm em).2.1, endR lx (manyS (insS lx) M pm em).2.1 (manyS (insS lx) M pm em).2.2)) := Lib.hid (fun M pm em h => by
        unfold funR
        simp only [HEA.out, HEC.out, HE.out, h])
      by_cases hm0 : m = 0
      case' pos =>
        subst hm0
        clear hend
        go_upto_region 14 with (fail)
      case' neg =>
        have hb' : e' ≠ 0 := hend.resolve_left hm0
        have hbe : ((e' : Int) == 0) = false := by rw [beq_eq_false_iff_ne]; omega
        have hmi : (0 : Int) < (m : Int) := by omega
        clear hend hm0 hb'
        go_upto_region 14 with (fail)
      all_goals
        obtain ⟨V, sc, hov, hm1⟩ := own_form HUr.out.ow
        subst hov
        have hzr : lo ≤ wr.heap.size := by have := HUr.out.x.lt; omega
        have HSX : Hid (SxT wr lo wr.heap.size V ss) := Lib.hid ⟨Rx.of_own HUr.out.ow, TyA.of_own HUr.out.ow⟩
        have HSC := Lib.hid (own_cap HUr.out.ow).2
        have HSL : Hid (ss.length ≤ 512) := Lib.hid (by have := HCL.out; omega)
        have HUc : Hid (UI gr g2 g7 lo #[.int .i64 (a : Int), .slice V ss.length sc, .slice none 0 0] 58 5 (.slice none 0 0) 0 [] w wr) := Lib.hid ⟨HUr.out.f, HUr.out.x, World.ownsRow_nil _ _ _ _, HUr.out.g⟩
        have HD := Lib.hid (HCT.out wr 1024 q e' HKr.out HUr.out.g hq (by decide))
        obtain ⟨M, pm, em, hem⟩ : ∃ M pm em, upS lx 1024 3 q e' = (M, pm, em) := ⟨_, _, _, rfl⟩
        have hpm : pm ≤ x := by have := upS_pos (l := lx) (M := x) (lim := 1024) (er := 3) (e := e') hq HLLX.out; rw [hem] at this; exact this
        have hM : M ≤ 1024 := by have := (upS_le lx 1024 3 q e').1; rw [hem] at this; exact this
        rw [hem] at HD
        have HFN := Lib.hid (HFU.out M pm em hem)
        obtain ⟨sl, hsl⟩ : ∃ k, k = ss.length := ⟨_, rfl⟩
        have HSLE := Lib.hid hsl
        simp only [← hsl] at HUc HSL HSC
        clear hsl hem hm1 HFU HE HCO HCL HKr HUr hm31 r0 r1 r2 r3 rf0 rf1 rf2 rf3 rz
        go_wp2_with (go_at_call 102; refine HD.out.mono ?_; rintro e w9 ⟨rfl, hk9, hg9⟩)
        have HK9 := Lib.hid hk9
        have HU9 := Lib.hid (HUc.out.grown hg9 hgr2 hg27 hlo7)
        have hz9 : lo ≤ w9.heap.size := Nat.le_trans hzr hg9.size
        have HS9 : Hid (SxT w9 lo w9.heap.size V ss) := Lib.hid ((HSX.out.kp (Kp.of_grown hg9 (Nat.le_refl _) (.inl (by omega)))).more (Nat.le_refl _) hg9.size)
        clear hk9 hg9 HD HUc HSX hzr
        go_loopw [10] (fun y wr => ∃ (m q e : Nat) (cs : List Ins) (o : Value), y = .int .i64 (m : Int) ∧ q ≤ x ∧ cs.length + m ≤ 1024 ∧ lo ≤ wr.heap.size ∧ Hid (manyS (insS lx) M pm em = (cs ++ (manyS (insS lx) m q e).1, (manyS (insS lx) m q e).2)) ∧
          Hid (Blk wr gr 141 #[.slice A n c, .int .i64 (q : Int), .int .i64 (x : Int), .int .i64 (e : Int)]) ∧ Hid (UI gr g2 g7 lo #[.int .i64 (a : Int), .slice V sl sc, o] 58 5 o cs.length (inV cs) w wr) ∧ Hid (SxT wr lo wr.heap.size V ss)) (fun y _ => (intOf y).toNat)
        case atStart => exact ⟨M, pm, em, [], .slice none 0 0, rfl, hpm, by simpa using hM, hz9, Lib.hid (by simp), HK9, HU9, HS9⟩
        case round =>
          obtain ⟨m, q, e', cs, o, rfl, hq, hcl, hlz, HCO, HKr, HUr, HSr⟩ := hrel
          have HCL := Lib.hid hcl
          have hm31 : (m : Int) ≤ 1024 := by omega
          clear hcl HK9 HU9 HS9 hpm hM hz9
          obtain ⟨r0, r1, r2, r3, rf0, rf1, rf2, rf3, rz⟩ := HKr.out.c4
          by_cases hend : m = 0 ∨ e' ≠ 0
          · have HEc : Hid (manyS (insS lx) M pm em = (cs, q, e')) := Lib.hid (by rw [HCO.out, manyS_stop hend]; simp)
            have HFE : Hid (fsR l p 0 = ((⟨(a : Int), ss, cs⟩, d), q, endR lx q e')) := Lib.hid (by rw [HFS.out, HFN.out, HEc.out])
            obtain ⟨Vi, ic, hov, hm1⟩ := own_form HUr.out.ow
            subst hov
            have HCI := Lib.hid (own_cap HUr.out.ow).2
            have HNX : Hid (NxT wr lo wr.heap.size Vi cs) := Lib.hid ⟨Rx.of_own HUr.out.ow, TyA.of_own HUr.out.ow⟩
            obtain ⟨cl, hcl⟩ : ∃ k, k = cs.length := ⟨_, rfl⟩
            have HCLE := Lib.hid hcl
            have HXr := Lib.hid HUr.out.x
            simp only [← hcl] at HXr HCI
            clear hcl hm1 HEc HFN HCO HCL HFS
            by_cases hm0 : m = 0
            case' pos =>
              subst hm0
              clear hend
              go_upto_region 19 with (fail)
            case' neg =>
              have hb' : e' ≠ 0 := hend.resolve_left hm0
              have hbe2 : ((e' : Int) == 0) = false := by rw [beq_eq_false_iff_ne]; omega
              have hmi2 : (0 : Int) < (m : Int) := by omega
              clear hend hm0 hb'
              go_upto_region 19 with (fail)
            all_goals
              obtain ⟨er, her⟩ : ∃ er, er = endR lx q e' := ⟨_, rfl⟩
              rw [← her] at HFE
              have hcase : (e' = 0 ∧ q < x ∧ er = 2) ∨ (¬ (e' = 0 ∧ q < x) ∧ er = e') := by
                unfold endR at her
                rw [HLX.out] at her
                by_cases h : e' = 0 ∧ q < x
                · rw [if_pos h] at her; exact .inl ⟨h.1, h.2, her⟩
                · rw [if_neg h] at her; exact .inr ⟨h, her⟩
              have HCASE := Lib.hid hcase
              clear hcase her
              have HSX := Lib.hid HSr.out
              clear r0 r1 r2 r3 rf0 rf1 rf2 rf3 rz
              obtain ⟨r0, r1, r2, r3, rf0, rf1, rf2, rf3, rz⟩ := HKr.out.c4
              have hlwr : lo ≤ wr.heap.size := hlz
              obtain ⟨bq, hbq⟩ : ∃ b, b = decide (e' = 0 ∧ q < x) := ⟨_, rfl⟩
              have HBQ := Lib.hid hbq
              go_cut [119] (fun s wx => s = .bool bq ∧ ∃ k, wx = wr.drewN k)
              case first =>
                by_cases h5 : e' = 0
                case neg =>
                  have hx1 : ((e' : Int) == 0) = false := by rw [beq_eq_false_iff_ne]; omega
                  have hx2 : bq = false := by rw [hbq]; simp [h5]
                  subst hx2
                  clear hbq h5
                  go_quiet (fail)
                  go_wp2_with fail
                  go_meet
                  exact ⟨rfl, _, rfl⟩
                case pos =>
                  subst h5
                  by_cases h6 : q < x
                  case pos =>
                    have hx1 : (q : Int) < (x : Int) := by omega
                    have hx2 : bq = true := by rw [hbq]; simp [h6]
                    have hx3 : decide (q < x) = true := by simp [h6]
                    subst hx2
                    clear hbq
                    go_quiet (fail)
                    go_wp2_with fail
                    go_meet
                    exact ⟨rfl, _, rfl⟩
                  case neg =>
                    have hx1 : ¬ (q : Int) < (x : Int) := by omega
                    have hx2 : bq = false := by rw [hbq]; simp [h6]
                    have hx3 : decide (q < x) = false := by simp [h6]
                    subst hx2
                    clear hbq
                    go_quiet (fail)
                    go_wp2_with fail
                    go_meet
                    exact ⟨rfl, _, rfl⟩
              case rest =>
              obtain ⟨rfl, kk, hwc⟩ := hcut
              have HKc : Hid (Blk wc gr 141 #[.slice A n c, .int .i64 (q : Int), .int .i64 (x : Int), .int .i64 (e' : Int)]) := Lib.hid (by rw [hwc]; exact HKr.out.drewN _)
              have HUc : Hid (UI gr g2 g7 lo #[.int .i64 (a : Int), .slice V sl sc, .slice Vi cl ic] 58 5 (.slice none 0 0) 0 [] w wc) := Lib.hid (by
                rw [hwc]
                exact ⟨HUr.out.f.drewN _, HXr.out.drewN _, World.ownsRow_nil _ _ _ _, HUr.out.g.trans ⟨rfl, rfl, rfl, Nat.le_refl _, fun _ _ _ => rfl⟩⟩)
              have HSc : Hid (SxT wc lo wc.heap.size V ss) := Lib.hid (by rw [hwc]; exact HSX.out)
              have HNc : Hid (NxT wc lo wc.heap.size Vi cs) := Lib.hid (by rw [hwc]; exact HNX.out)
              have hlwc : lo ≤ wc.heap.size := by rw [hwc]; exact hlwr
              clear hwc hbq HKr HUr HSr HXr HSX HNX hlz hlwr r0 r1 r2 r3 rf0 rf1 rf2 rf3 rz
              generalize wc = w20 at *
              go_upto_if 119 with (fail)
              go_cut [] (fun wx => Blk wx gr 141 #[.slice A n c, .int .i64 (q : Int), .int .i64 (x : Int), .int .i64 (er : Int)] ∧ UI gr g2 g7 lo #[.int .i64 (a : Int), .slice V sl sc, .slice Vi cl ic] 58 5 (.slice none 0 0) 0 [] w wx ∧ SxT wx lo wx.heap.size V ss ∧ NxT wx lo wx.heap.size Vi cs ∧ lo ≤ wx.heap.size)
              case first =>
                cases bq with
                | true =>
                  have h5 : e' = 0 ∧ q < x := by simpa using HBQ.out.symm
                  have h6 : er = 2 := by
                    rcases HCASE.out with ⟨_, _, h⟩ | ⟨h, _⟩
                    · exact h
                    · exact absurd h5 h
                  obtain ⟨h7, -⟩ := h5
                  subst h7 h6
                  have HFL := Lib.hid (rfail6 gr A n c q x 0 2 w20 HKc.out)
                  rw [failE_z] at HFL
                  go_wp2_with fail
                  refine HFL.out.mono ?_
                  rintro e w21 ⟨rfl, hk21, hg21⟩
                  have hkp : Kp lo w20.heap.size w20 w21 := Kp.of_grown hg21 (Nat.le_refl _) (.inl (by omega))
                  have HX := Lib.hid (⟨hk21, HUc.out.grown hg21 hgr2 hg27 hlo7, (HSc.out.kp hkp).more (Nat.le_refl _) hg21.size, (HNc.out.kp hkp).more (Nat.le_refl _) hg21.size, Nat.le_trans hlwc hg21.size⟩ : Blk w21 gr 141 #[.slice A n c, .int .i64 (q : Int), .int .i64 (x : Int), .int .i64 ((2 : Nat) : Int)] ∧ UI gr g2 g7 lo #[.int .i64 (a : Int), .slice V sl sc, .slice Vi cl ic] 58 5 (.slice none 0 0) 0 [] w w21 ∧ SxT w21 lo w21.heap.size V ss ∧ NxT w21 lo w21.heap.size Vi cs ∧ lo ≤ w21.heap.size)
                  clear hk21 hg21 hkp HFL
                  go_wp2_with fail
                  go_meet
                  exact HX.out
                | false =>
                  have h5 : er = e' := by
                    have h6 : ¬ (e' = 0 ∧ q < x) := by have := HBQ.out; simpa using this.symm
                    rcases HCASE.out with ⟨h7, h8, _⟩ | ⟨_, h⟩
                    · exact absurd ⟨h7, h8⟩ h6
                    · exact h
                  subst h5
                  go_wp2_with fail
                  go_meet
                  exact ⟨HKc.out, HUc.out, HSc.out, HNc.out, hlwc⟩
              case rest =>
              obtain ⟨hk, hu, hs, hn2, hlz⟩ := hcut
              generalize wc = w22 at *
              have HK22 := Lib.hid hk
              have HU22 := Lib.hid hu
              have HS22 := Lib.hid hs
              have HN22 := Lib.hid hn2
              clear hk hu hs hn2 HKc HUc HSc HNc hlwc HBQ HCASE
              obtain ⟨r0, r1, r2, r3, rf0, rf1, rf2, rf3, rz⟩ := HK22.out.c4
              go_upto_region 22 with (fail)
              obtain ⟨Y, hY⟩ : ∃ Y, Y = w22.setCell ⟨gr, 2, none⟩ (.int .i64 (en : Int)) := ⟨_, rfl⟩
              rw [← hY]
              have hgY : w22.grownBy Y (some gr) := by rw [hY]; exact gset6 _ _ _
              have hkpY : Kp lo w22.heap.size w22 Y := Kp.of_grown hgY (Nat.le_refl _) (.inl (by omega))
              have HKY : Hid (Blk Y gr 141 #[.slice A n c, .int .i64 (q : Int), .int .i64 (en : Int), .int .i64 (er : Int)]) := Lib.hid (by rw [hY]; exact HK22.out.set_ 2 _)
              have HUY := Lib.hid (HU22.out.grown hgY hgr2 hg27 hlo7)
              have HSY := Lib.hid ((HS22.out.kp hkpY).more (Nat.le_refl _) hgY.size)
              have HNY := Lib.hid ((HN22.out.kp hkpY).more (Nat.le_refl _) hgY.size)
              have hlY : lo ≤ Y.heap.size := Nat.le_trans hlz hgY.size
              have RDD : Hid (Reads Y Y.heap.size 1 (A.map (·.add p1)) v1 (nb d)) := Lib.hid ((HBD.out Y (HU22.out.g.trans hgY)).1.more (by omega))
              clear hY hgY hkpY HK22 HU22 HS22 HN22 hlz r0 r1 r2 r3 rf0 rf1 rf2 rf3 rz
              obtain ⟨r0, r1, r2, r3, rf0, rf1, rf2, rf3, rz⟩ := HKY.out.c4
              obtain ⟨x0, x1, x2, -, -, -, xz⟩ := HUY.out.x.c3
              obtain ⟨d0, d1, d2, df0, df1, df2, dz⟩ := HUY.out.f.c3
              have hcx : x ≤ c := by have := HNB.out; omega
              have hcxi : (x : Int) ≤ (c : Int) := by omega
              have hx0i : (0 : Int) ≤ (x : Int) := by omega
              have hpxi : (p1 : Int) ≤ (x : Int) := by omega
              have hp0i : (0 : Int) ≤ (p1 : Int) := by omega
              have hsub : x - p1 = v1 := by have := HXE.out; omega
              have hvb : v1 ≤ 2000000 := by omega
              rename_i K9 hK9
              clear HUP HCT HSLT HINS HBX HRD HBD
              go_region_law (refine copy_a Y rfl (.tmp 135) 22 rfl 5 i2 _ 1 1 Tryd.underlying22 hi2 hx0 hx1 hx2 rfl (by omega) (A.map (·.add p1)) v1 (c - p1) (nb d) (by first | (simp [Act.eval]; done) | (simp [Act.eval, Act.put]; done)) _ (by first | exact .inl rfl | exact .inr ⟨_, rfl⟩) RDD.out (nb_one d) (by unfold maxLen; omega) (by omega) ?_; intro v2 wA hownA hbA hgA; obtain ⟨Vd, cd, rfl, hmd⟩ := own_form hownA; have HXA := HUY.out.x.after hbA; obtain ⟨x0, x1, x2, -, -, -, xz⟩ := HXA.c3; have HFA := HUY.out.f.after hbA; obtain ⟨d0, d1, d2, df0, df1, df2, dz⟩ := HFA.c3)
              all_goals
                have HHZ := Lib.hid (put3_6 HFA (.int .i64 (a : Int)) (.slice V sl sc) (.slice Vi cl ic))
                have HFIN : Hid (RfD gr A n c en (fsR l p 0) w (.returned (.tuple #[.agg #[.int .i64 (a : Int), .slice V sl sc, .slice Vi cl ic], .slice Vd v1 cd])) (((wA.setCell ⟨g2, 0, none⟩ (.int .i64 (a : Int))).setCell ⟨g2, 1, none⟩ (.slice V sl sc)).setCell ⟨g2, 2, none⟩ (.slice Vi cl ic))) := Lib.hid (by
                  rw [HFE.out]
                  have hkz : Kp lo wA.heap.size wA (((wA.setCell ⟨g2, 0, none⟩ (.int .i64 (a : Int))).setCell ⟨g2, 1, none⟩ (.slice V sl sc)).setCell ⟨g2, 2, none⟩ (.slice Vi cl ic)) := (((Kp.refl _ _ _).set (.inl (by show g2 < lo; omega)) _).set (.inl (by show g2 < lo; omega)) _).set (.inl (by show g2 < lo; omega)) _
                  have hwl : w.heap.size ≤ lo := by omega
                  have hka : Kp lo Y.heap.size Y wA := Kp.of_below hbA (Nat.le_refl _)
                  have h1 := ((HSY.out.kp hka).more (Nat.le_refl _) hbA.size).kp hkz
                  have h2 := ((HNY.out.kp hka).more (Nat.le_refl _) hbA.size).kp hkz
                  have h3 : BxT wA lo wA.heap.size Vd d := by
                    have h4 := own_less hownA hlY
                    have h5 : wA.ownsRow lo 5 1 (.slice Vd d.length cd) d.length (nb d) := by rw [HDL.out]; exact h4
                    exact BxT.of_own h5
                  have h4 := h3.kp hkz
                  refine ⟨V, sc, Vi, ic, Vd, cd, by simp only; rw [← HSLE.out, ← HCLE.out, HDL.out], h1.more hwl (by simp), h2.more hwl (by simp), h4.more hwl (by simp), ⟨by simp only; rw [← HSLE.out]; exact HSC.out, by simp only; rw [← HCLE.out]; exact HCI.out, by simp only; rw [HDL.out]; exact (own_cap hownA).2⟩, ?_, gsetG6 (gsetG6 (gsetG6 (gbel6 HUY.out.g hbA) hwg2 _) hwg2 _) hwg2 _⟩
                  exact (((HKY.out.after hbA).far (by show gr ≠ g2; omega) _).far (by show gr ≠ g2; omega) _).far (by show gr ≠ g2; omega) _)
                refine hK9 _ _ ?_
                refine wp_ret ?_
                change bodyPost Tryd.prog Tryd.f103 _ .ret _ _
                obtain ⟨e0, e1, e2, -⟩ := HHZ.out.c3
                exact bodyPost_ret (v := .tuple #[.agg #[.int .i64 (a : Int), .slice V sl sc, .slice Vi cl ic], .slice Vd v1 cd]) (by simp [results, Tryd.results103, go_sem, e0, e1, e2]) rfl HFIN.out
          · obtain ⟨hm0, hb0⟩ := not_or.1 hend
            obtain ⟨m', hm'⟩ := Nat.exists_eq_succ_of_ne_zero hm0
            have HM' : Hid (m = m' + 1) := Lib.hid hm'
            have hbf : e' = 0 := by simpa using hb0
            subst hbf
            have hmi : (0 : Int) < (m : Int) := by omega
            clear hend hm0 hb0 hm'
            generalize wr = wo at *
            have H1 := Lib.hid (HINS.out wo q 0 HKr.out HUr.out.g hq)
            obtain ⟨s, ps, es, hes⟩ : ∃ v p e, insS lx q 0 = (v, p, e) := ⟨_, _, _, rfl⟩
            have hps : ps ≤ x := by have := insS_pos (l := lx) (p := q) (e := 0) hq HLLX.out; rw [hes] at this; exact this
            rw [hes] at H1
            have HSR := Lib.hid hes
            clear hes
            go_wp2_with fail
            refine H1.out.mono ?_
            rintro e w10 ⟨rfl, hk10, hg10⟩
            simp only at hk10 ⊢
            obtain ⟨s1, s2, s3, s4, s5⟩ := s
            simp only
            clear r0 r1 r2 r3 rf0 rf1 rf2 rf3 rz
            go_upto_region 18 with (fail)
            obtain ⟨Y, hY⟩ : ∃ Y, Y = w10.alloc (.cells #[.int .i64 s1, .int .i64 s2, .int .i64 s3, .int .i64 s4, .int .u64 s5] 58) := ⟨_, rfl⟩
            obtain ⟨gx, hgx⟩ : ∃ g, g = w10.heap.size := ⟨_, rfl⟩
            rw [← hY, ← hgx]
            have hbY : Below w10.heap.size w10 Y := by rw [hY]; exact (Below.refl _ _).alloc (Nat.le_refl _) _
            have HIY : Hid (Blk Y gx 58 #[.int .i64 s1, .int .i64 s2, .int .i64 s3, .int .i64 s4, .int .u64 s5]) := Lib.hid (by rw [hY, hgx]; exact Blk.new _ _ _)
            have HKY := Lib.hid (hk10.after hbY)
            have HUY := Lib.hid ((HUr.out.grown hg10 hgr2 hg27 hlo7).bel hbY)
            have hloY : lo ≤ Y.heap.size := by have := HUY.out.x.lt; omega
            have hbo : wo.heap.size ≤ Y.heap.size := Nat.le_trans hg10.size hbY.size
            have HSY : Hid (SxT Y lo Y.heap.size V ss) := Lib.hid (((HSr.out.kp (Kp.of_grown hg10 (Nat.le_refl _) (.inl (by omega)))).kp (Kp.of_below hbY hg10.size)).more (Nat.le_refl _) hbo)
            obtain ⟨nc, hnc⟩ : ∃ k, k = cs.length := ⟨_, rfl⟩
            have HNC := Lib.hid hnc
            obtain ⟨V9, c9, ho9, hm9⟩ := own_form HUY.out.ow
            subst ho9
            have HXY : Hid (Blk Y g7 97 #[.int .i64 (a : Int), .slice V sl sc, .slice V9 nc c9]) := Lib.hid (by rw [hnc]; exact HUY.out.x)
            have hcs : nc ≤ 1024 := by have := HCL.out; omega
            have RD9 : Hid (Reads Y Y.heap.size 5 V9 nc (inV cs)) := Lib.hid (by rw [hnc]; exact Reads.of_own HUY.out.ow)
            have ONE : Hid (∀ u ∈ inV cs, u.oneCell' = true) := Lib.hid (inV_one cs)
            clear hY hgx hbY hk10 hg10 H1 HKr HUr HSr hnc hm9 hbo hlz
            obtain ⟨j0, j1, j2, j3, j4, -, -, -, -, -, jz⟩ := HIY.out.c5
            obtain ⟨x0, x1, x2, xf0, xf1, xf2, xz⟩ := HXY.out.c3
            go_region_law (first
              | (refine copy_a Y rfl (.tmp 98) 59 rfl 58 i1 _ 5 40 Tryd.underlying59 hi1 hy0 hy1 hy2 rfl (by omega) V9 nc c9 (inV cs) (by first | (simp [Act.eval]; done) | (simp [Act.eval, Act.put]; done)) _ (by first | exact .inl rfl | exact .inr ⟨_, rfl⟩) RD9.out ONE.out (by unfold maxLen; omega) (by omega) ?_; intro v2 wA hownA hbA hgA; have HXA := HIY.out.after hbA; obtain ⟨j0, j1, j2, j3, j4, -, -, -, -, -, jz⟩ := HXA.c5)
              | (refine copy_b Y rfl (.tmp 99) (.tmp 101) 59 rfl 58 i1 _ 5 40 Tryd.underlying59 hi1 hy0 hy1 hy2 rfl (by omega) nc (inV cs) [.int .i64 s1, .int .i64 s2, .int .i64 s3, .int .i64 s4, .int .u64 s5] v2 wA hownA hbA (by first | (simp [Act.eval]; done) | (simp [Act.eval, Act.put]; done)) rfl (by simp [Value.oneCell']) _ (by first | (simp [Act.eval]; rfl) | (simp [Act.eval, Act.put]; rfl)) _ 58 (by first | exact .inl ⟨rfl, rfl⟩ | exact .inr ⟨hgA, rfl, rfl⟩) (by unfold maxLen; omega) (by omega) ?_; intro V3 c3 wB hownB hbB; have HTB := HXY.out.after hbB; obtain ⟨x0, x1, x2, xf0, xf1, xf2, xz⟩ := HTB.c3))
            all_goals
              have HKZ : Hid (Blk (wB.setCell ⟨g7, 2, none⟩ (.slice V3 (nc + 1) c3)) gr 141 #[.slice A n c, .int .i64 (ps : Int), .int .i64 (x : Int), .int .i64 (es : Int)]) := Lib.hid ((HKY.out.after hbB).far (by show gr ≠ g7; omega) _)
              have HUZ : Hid (UI gr g2 g7 lo #[.int .i64 (a : Int), .slice V sl sc, .slice V3 (nc + 1) c3] 58 5 (.slice V3 (nc + 1) c3) (cs ++ [(⟨s1, s2, s3, s4, s5⟩ : Ins)]).length (inV (cs ++ [(⟨s1, s2, s3, s4, s5⟩ : Ins)])) w (wB.setCell ⟨g7, 2, none⟩ (.slice V3 (nc + 1) c3))) := Lib.hid (by
                have hl : (cs ++ [(⟨s1, s2, s3, s4, s5⟩ : Ins)]).length = nc + 1 := by simp [HNC.out]
                rw [hl, inV_app]
                exact ⟨(HUY.out.f.after hbB).far (by show g2 ≠ g7; omega) _, HTB.set_ 2 _, ooff6 (i := 2) (own_less hownB hloY) HTB (by decide) _, gsetG6 (gbel6 HUY.out.g hbB) (by show w.heap.size ≤ g7; omega) _⟩)
              have HSZ2 : Hid (SxT (wB.setCell ⟨g7, 2, none⟩ (.slice V3 (nc + 1) c3)) lo (wB.setCell ⟨g7, 2, none⟩ (.slice V3 (nc + 1) c3)).heap.size V ss) := Lib.hid (((HSY.out.kp (Kp.of_below hbB (Nat.le_refl _))).kp ((Kp.refl _ _ _).set (.inl (by show g7 < lo; omega)) _)).more (Nat.le_refl _) (by have := hbB.size; simpa using this))
              have hzZ : lo ≤ (wB.setCell ⟨g7, 2, none⟩ (.slice V3 (nc + 1) c3)).heap.size := by have := hbB.size; simp; omega
              clear hownA hbA hgA HXA hownB hbB HTB j0 j1 j2 j3 j4 jz x0 x1 x2 xf0 xf1 xf2 xz
              go_wp2_with fail
              go_roundw
              case rel =>
                refine ⟨m', ps, es, cs ++ [⟨s1, s2, s3, s4, s5⟩], _, ?_, hps, ?_, hzZ, Lib.hid ?_, HKZ, HUZ, HSZ2⟩
                · rw [show (m : Int) - 1 = (m' : Int) by have := HM'.out; omega]
                · have h1 := HCL.out
                  have h2 := HM'.out
                  simp only [List.length_append, List.length_cons, List.length_nil]
                  omega
                · have h := manyS_succ (f := insS lx) (n := m') (p := q)
                  rw [HSR.out] at h
                  rw [HCO.out, HM'.out, h]
                  simp
              case measure =>
                have := HM'.out
                simp [intOf]
                omega
    · obtain ⟨hm0, hb0⟩ := not_or.1 hend
      obtain ⟨m', hm'⟩ := Nat.exists_eq_succ_of_ne_zero hm0
      have HM' : Hid (m = m' + 1) := Lib.hid hm'
      have hbf : e' = 0 := by simpa using hb0
      subst hbf
      have hmi : (0 : Int) < (m : Int) := by omega
      clear hend hm0 hb0 hm'
      generalize wr = wo at *
      have H1 := Lib.hid (HSLT.out wo q 0 HKr.out HUr.out.g hq)
      obtain ⟨s, ps, es, hes⟩ : ∃ v p e, slotR lx q 0 = (v, p, e) := ⟨_, _, _, rfl⟩
      have hps : ps ≤ x := by have := slotR_pos (l := lx) (p := q) (e := 0) hq HLLX.out; rw [hes] at this; exact this
      rw [hes] at H1
      have HSR := Lib.hid hes
      clear hes
      go_wp2_with fail
      refine H1.out.mono ?_
      rintro e w9 ⟨rfl, hk9, hg9⟩
      simp only at hk9 ⊢
      obtain ⟨s1, s2⟩ := s
      simp only
      clear r0 r1 r2 r3 rf0 rf1 rf2 rf3 rz
      go_upto_region 13 with (fail)
      obtain ⟨Y, hY⟩ : ∃ Y, Y = w9.alloc (.cells #[.int .i64 s1, .int .i64 s2] 103) := ⟨_, rfl⟩
      obtain ⟨gx, hgx⟩ : ∃ g, g = w9.heap.size := ⟨_, rfl⟩
      rw [← hY, ← hgx]
      have hbY : Below w9.heap.size w9 Y := by rw [hY]; exact (Below.refl _ _).alloc (Nat.le_refl _) _
      have HIY : Hid (Blk Y gx 103 #[.int .i64 s1, .int .i64 s2]) := Lib.hid (by rw [hY, hgx]; exact Blk.new _ _ _)
      have HKY := Lib.hid (hk9.after hbY)
      have HUY := Lib.hid ((HUr.out.grown hg9 hgr2 hg27 hlo7).bel hbY)
      have hloY : lo ≤ Y.heap.size := by have := HUY.out.x.lt; omega
      obtain ⟨nc, hnc⟩ : ∃ k, k = ss.length := ⟨_, rfl⟩
      have HNC := Lib.hid hnc
      obtain ⟨V9, c9, ho9, hm9⟩ := own_form HUY.out.ow
      subst ho9
      have HXY : Hid (Blk Y g7 97 #[.int .i64 (a : Int), .slice V9 nc c9, .slice none 0 0]) := Lib.hid (by rw [hnc]; exact HUY.out.x)
      have hcs : nc ≤ 512 := by have := HCL.out; omega
      have RD9 : Hid (Reads Y Y.heap.size 2 V9 nc (slV ss)) := Lib.hid (by rw [hnc]; exact Reads.of_own HUY.out.ow)
      have ONE : Hid (∀ u ∈ slV ss, u.oneCell' = true) := Lib.hid (slV_one ss)
      clear hY hgx hbY hk9 hg9 H1 HKr HUr hnc hm9
      obtain ⟨j0, j1, -, -, jz⟩ := HIY.out.c2
      obtain ⟨x0, x1, x2, xf0, xf1, xf2, xz⟩ := HXY.out.c3
      go_region_law (first
        | (refine copy_a Y rfl (.tmp 76) 95 rfl 103 i0 _ 2 16 Tryd.underlying95 hi0 hz0 hz1 hz2 rfl (by omega) V9 nc c9 (slV ss) (by first | (simp [Act.eval]; done) | (simp [Act.eval, Act.put]; done)) _ (by first | exact .inl rfl | exact .inr ⟨_, rfl⟩) RD9.out ONE.out (by unfold maxLen; omega) (by omega) ?_; intro v2 wA hownA hbA hgA; have HXA := HIY.out.after hbA; obtain ⟨j0, j1, -, -, jz⟩ := HXA.c2)
        | (refine copy_b Y rfl (.tmp 77) (.tmp 79) 95 rfl 103 i0 _ 2 16 Tryd.underlying95 hi0 hz0 hz1 hz2 rfl (by omega) nc (slV ss) [.int .i64 s1, .int .i64 s2] v2 wA hownA hbA (by first | (simp [Act.eval]; done) | (simp [Act.eval, Act.put]; done)) rfl (by simp [Value.oneCell']) _ (by first | (simp [Act.eval]; rfl) | (simp [Act.eval, Act.put]; rfl)) _ 103 (by first | exact .inl ⟨rfl, rfl⟩ | exact .inr ⟨hgA, rfl, rfl⟩) (by unfold maxLen; omega) (by omega) ?_; intro V3 c3 wB hownB hbB; have HTB := HXY.out.after hbB; obtain ⟨x0, x1, x2, xf0, xf1, xf2, xz⟩ := HTB.c3))
      all_goals
        have HKZ : Hid (Blk (wB.setCell ⟨g7, 1, none⟩ (.slice V3 (nc + 1) c3)) gr 141 #[.slice A n c, .int .i64 (ps : Int), .int .i64 (x : Int), .int .i64 (es : Int)]) := Lib.hid ((HKY.out.after hbB).far (by show gr ≠ g7; omega) _)
        have HUZ : Hid (UI gr g2 g7 lo #[.int .i64 (a : Int), .slice V3 (nc + 1) c3, .slice none 0 0] 103 2 (.slice V3 (nc + 1) c3) (ss ++ [(s1, s2)]).length (slV (ss ++ [(s1, s2)])) w (wB.setCell ⟨g7, 1, none⟩ (.slice V3 (nc + 1) c3))) := Lib.hid (by
          have hl : (ss ++ [(s1, s2)]).length = nc + 1 := by simp [HNC.out]
          rw [hl, slV_app]
          exact ⟨(HUY.out.f.after hbB).far (by show g2 ≠ g7; omega) _, HTB.set_ 1 _, ooff6 (i := 1) (own_less hownB hloY) HTB (by decide) _, gsetG6 (gbel6 HUY.out.g hbB) (by show w.heap.size ≤ g7; omega) _⟩)
        clear hownA hbA hgA HXA hownB hbB HTB j0 j1 jz x0 x1 x2 xf0 xf1 xf2 xz
        go_wp2_with fail
        go_roundw
        case rel =>
          refine ⟨m', ps, es, ss ++ [(s1, s2)], _, ?_, hps, ?_, Lib.hid ?_, HKZ, HUZ⟩
          · rw [show (m : Int) - 1 = (m' : Int) by have := HM'.out; omega]
          · have h1 := HCL.out
            have h2 := HM'.out
            simp only [List.length_append, List.length_cons, List.length_nil]
            omega
          · have h := manyS_succ (f := slotR lx) (n := m') (p := q)
            rw [HSR.out] at h
            rw [HCO.out, HM'.out, h]
            simp
        case measure =>
          have := HM'.out
          simp [intOf]
          omega
end Go.Proofs.YtinfeglhjmnlaaaDoor.pm
