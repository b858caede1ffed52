/- Bytes of programs, the reference's reader: fail, word, number, count, slot. -/
import Derived.Test.YtinfeglhjmnlaaaDoorYs
import Derived.Test.YtinfeglhjmnlaaaDoorYk
namespace Go.Proofs.YtinfeglhjmnlaaaDoor.pm
open Go.RowKit
set_option linter.unusedVariables false
set_option maxRecDepth 10000

theorem qleft6 {P : Program} {f : FuncId} {args : Array Value} {w : World} {n : Nat} {v : Value}
    (h : Calls P f args (w.drewN n) fun e w' => e = .returned v ∧ w.drewN n = w') : Calls P f args (w.drewN n) fun e w'' => e = .returned v ∧ ∃ m, w'' = w.drewN m :=
  h.mono fun _ _ ⟨he, hm⟩ => ⟨he, n, hm.symm⟩
def T6D (gr : Nat) (A : Option Addr) (n c en : Nat) (k : IntKind) (r : Nat × Nat × Nat) (w : World) (e : Ending) (w' : World) : Prop :=
  e = .returned (.int k (r.1 : Int)) ∧ Blk w' gr 141 #[.slice A n c, .int .i64 (r.2.1 : Int), .int .i64 (en : Int), .int .i64 (r.2.2 : Int)] ∧ w.grownBy w' (some gr)
theorem rfail6 (gr : Nat) (A : Option Addr) (n c p en e er : Nat) (w : World) (hK : Blk w gr 141 #[.slice A n c, .int .i64 (p : Int), .int .i64 (en : Int), .int .i64 (e : Int)]) :
    Calls Tryd.prog 104 #[.pointer (some ⟨gr, 0, none⟩), .int .i64 (er : Int)] w fun e' w' => e' = .returned (.tuple #[]) ∧ Blk w' gr 141 #[.slice A n c, .int .i64 (p : Int), .int .i64 (en : Int), .int .i64 (failE e er : Int)] ∧ w.grownBy w' (some gr) := by
  obtain ⟨q0, q1, q2, q3, f0, f1, f2, f3, qz⟩ := hK.c4
  have HK := Lib.hid hK
  clear hK
  by_cases h : e = 0
  · subst h
    go_enter Tryd.func104, Tryd.ntmps104
    go_wp2
    go_end0
    exact ⟨rfl, HK.out.set_ 3 _, gset6 _ _ _⟩
  · have he : ((e : Int) == 0) = false := by rw [beq_eq_false_iff_ne]; omega
    have HE := Lib.hid h
    clear h
    go_enter Tryd.func104, Tryd.ntmps104
    go_wp2
    go_end0
    rw [failE_n HE.out]
    exact ⟨rfl, HK.out, World.grownBy.refl _ _⟩
set_option maxHeartbeats 1000000 in
theorem rword6 (gr B : Nat) (A : Option Addr) (n c en : Nat) (l : List Nat) (p e : Nat) (w : World) (hK : Blk w gr 141 #[.slice A n c, .int .i64 (p : Int), .int .i64 (en : Int), .int .i64 (e : Int)]) (hb : Bs w B A en l) (hen : en ≤ n) (hn : n ≤ 2000000) (hc : n ≤ c) (hcm : c ≤ maxLen) (hp : p ≤ 2000000) :
    Calls Tryd.prog 151 #[.pointer (some ⟨gr, 0, none⟩)] w (T6D gr A n c en .u64 (anyS l p e) w) := by
  obtain ⟨v, q, er, hr⟩ : ∃ v q er, rdU l (p : Int) = (v, q, er) := ⟨_, _, _, rfl⟩
  have HU : Hid (∀ W c', Bs W B A en l → Calls Tryd.prog 115 #[.slice A en c', .int .i64 (p : Int)] W fun e w' => e = .returned (.tuple #[.int .u64 (v : Int), .int .i64 (q : Int), .int .i64 (er : Int)]) ∧ W = w') := Lib.hid (fun W c' h => (refuint_any A en c' l (p : Int) (by omega) (by omega) W B h (by omega)).mono (by
    rintro e w' ⟨rfl, hw⟩
    rw [hr]
    exact ⟨rfl, hw⟩))
  have HB := Lib.hid hb
  obtain ⟨q0, q1, q2, q3, f0, f1, f2, f3, qz⟩ := hK.c4
  have HK := Lib.hid hK
  have HA : Hid (anyS l p e = if e ≠ 0 then (0, p, e) else if er ≠ 0 then (0, p, er) else (v, q, 0)) := Lib.hid (by unfold anyS; rw [hr])
  have hec : en ≤ c := by omega
  have heci : (en : Int) ≤ (c : Int) := by omega
  have he0 : (0 : Int) ≤ (en : Int) := by omega
  have hcc : (c : Int) ≤ 9223372036854775807 := by unfold maxLen at hcm; omega
  clear hK hb hr
  by_cases h : e = 0
  · subst h
    go_enter Tryd.func151, Tryd.ntmps151
    go_upto_region 3 with (fail)
    go_quiet ((go_at_call 115; exact qleft6 (HU.out _ _ (HB.out.drewN _))))
    obtain ⟨wd, hwd⟩ : ∃ wd, wd = w.drewN nq := ⟨_, rfl⟩
    rw [← hwd]
    have hgd : w.grownBy wd (some gr) := by rw [hwd]; exact ⟨rfl, rfl, rfl, Nat.le_refl _, fun _ _ _ => rfl⟩
    have HK1 : Hid (Blk wd gr 141 #[.slice A n c, .int .i64 (p : Int), .int .i64 (en : Int), .int .i64 ((0 : Nat) : Int)]) := Lib.hid (by rw [hwd]; exact HK.out.drewN _)
    have HGD := Lib.hid hgd
    clear hwd hgd q0 q1 q2 q3 f0 f1 f2 f3 qz
    obtain ⟨q0, q1, q2, q3, f0, f1, f2, f3, qz⟩ := HK1.out.c4
    by_cases her : er = 0
    · subst her
      have HE : Hid (anyS l p 0 = (v, q, 0)) := Lib.hid (by rw [HA.out]; rfl)
      go_wp2
      go_ret
      rw [HE.out]
      exact ⟨rfl, HK1.out.set_ 1 _, HGD.out.trans (gset6 _ _ _)⟩
    · have HE : Hid (anyS l p 0 = (0, p, er)) := Lib.hid (by rw [HA.out, if_neg (by simp), if_pos her])
      have her' : ((er : Int) != 0) = true := by simpa using her
      have HF := Lib.hid (rfail6 gr A n c p en 0 er wd HK1.out)
      clear her
      go_wp2_with fail
      refine HF.out.mono ?_
      rintro e w2 ⟨rfl, hk2, hg2⟩
      rw [failE_z] at hk2
      go_wp2
      go_ret
      rw [HE.out]
      exact ⟨rfl, hk2, HGD.out.trans hg2⟩
  · have he : ((e : Int) != 0) = true := by rw [bne_iff_ne]; omega
    have HE : Hid (anyS l p e = (0, p, e)) := Lib.hid (by rw [HA.out, if_pos h])
    clear h
    go_enter Tryd.func151, Tryd.ntmps151
    go_wp2
    go_ret
    rw [HE.out]
    exact ⟨rfl, HK.out, World.grownBy.refl _ _⟩
theorem anyS_ok {l : List Nat} {p e : Nat} (h : 0 < (anyS l p e).1) : (anyS l p e).2.2 = 0 := by
  unfold anyS at h ⊢
  split at h
  · simp at h
  split at h
  · simp at h
  · rename_i h1 h2
    rw [if_neg h1, if_neg h2]
set_option maxHeartbeats 1000000 in
theorem rnumber6 (gr B : Nat) (A : Option Addr) (n c en : Nat) (l : List Nat) (p e : Nat) (w : World) (hK : Blk w gr 141 #[.slice A n c, .int .i64 (p : Int), .int .i64 (en : Int), .int .i64 (e : Int)]) (hb : Bs w B A en l) (hen : en ≤ n) (hn : n ≤ 2000000) (hc : n ≤ c) (hcm : c ≤ maxLen) (hp : p ≤ 2000000) :
    Calls Tryd.prog 129 #[.pointer (some ⟨gr, 0, none⟩)] w (T6D gr A n c en .i64 (upS l M31 4 p e) w) := by
  have HA := Lib.hid (rword6 gr B A n c en l p e w hK hb hen hn hc hcm hp)
  have hz : 0 < (anyS l p e).1 → (anyS l p e).2.2 = 0 := anyS_ok
  have hv : (anyS l p e).1 < 18446744073709551616 := anyS_lt l p e
  obtain ⟨v, q, b, hr⟩ : ∃ v q b, anyS l p e = (v, q, b) := ⟨_, _, _, rfl⟩
  have HU : Hid (upS l M31 4 p e = if 2147483647 < v then (0, q, 4) else (v, q, b)) := Lib.hid (by
    unfold upS
    rw [hr]
    simp only
    by_cases h : 2147483647 < v
    · rw [if_pos h, if_pos h]
    · rw [if_neg h, if_neg h, if_neg (by unfold M31; omega)])
  rw [hr] at HA hz hv
  simp only at hz hv
  clear hK hb hr hc hcm
  go_enter Tryd.func129, Tryd.ntmps129
  go_wp2_with fail
  refine HA.out.mono ?_
  rintro e1 w1 ⟨rfl, hk, hg⟩
  simp only at hk ⊢
  have HK1 := Lib.hid hk
  have HG1 := Lib.hid hg
  clear hk hg
  by_cases hbig : 2147483647 < v
  · have HE : Hid (upS l M31 4 p e = (0, q, 4)) := Lib.hid (by rw [HU.out, if_pos hbig])
    have hb0 : b = 0 := hz (by omega)
    subst hb0
    have hi : (2147483647 : Int) < (v : Int) := by omega
    have HF := Lib.hid (rfail6 gr A n c q en 0 4 w1 HK1.out)
    clear hbig hz
    go_wp2_with fail
    refine HF.out.mono ?_
    rintro e w2 ⟨rfl, hk2, hg2⟩
    rw [failE_z] at hk2
    go_wp2
    go_ret
    rw [HE.out]
    exact ⟨rfl, hk2, HG1.out.trans hg2⟩
  · have hi : ¬ (2147483647 : Int) < (v : Int) := by omega
    have HE : Hid (upS l M31 4 p e = (v, q, b)) := Lib.hid (by rw [HU.out, if_neg hbig])
    have hw2 : IntKind.i64.wrap (v : Int) = (v : Int) := IntWalk.i64_in _ (by omega)
    clear hbig hz
    go_wp2
    go_ret
    rw [HE.out]
    exact ⟨rfl, HK1.out, HG1.out⟩
set_option maxHeartbeats 1000000 in
theorem rcount6 (gr B : Nat) (A : Option Addr) (n c en : Nat) (l : List Nat) (lim p e : Nat) (w : World) (hK : Blk w gr 141 #[.slice A n c, .int .i64 (p : Int), .int .i64 (en : Int), .int .i64 (e : Int)]) (hb : Bs w B A en l) (hen : en ≤ n) (hn : n ≤ 2000000) (hc : n ≤ c) (hcm : c ≤ maxLen) (hp : p ≤ 2000000) (hl : lim ≤ 2147483647) :
    Calls Tryd.prog 102 #[.pointer (some ⟨gr, 0, none⟩), .int .i64 (lim : Int)] w (T6D gr A n c en .i64 (upS l lim 3 p e) w) := by
  have HA := Lib.hid (rnumber6 gr B A n c en l p e w hK hb hen hn hc hcm hp)
  have hz : 0 < (upS l M31 4 p e).1 → (upS l M31 4 p e).2.2 = 0 := upS_pos_ok
  have hcnt := upS_count l lim p e hl
  obtain ⟨v, q, b, hr⟩ : ∃ v q b, upS l M31 4 p e = (v, q, b) := ⟨_, _, _, rfl⟩
  rw [hr] at HA hz hcnt
  simp only at hz hcnt
  have HU := Lib.hid hcnt
  clear hK hb hr hc hcm hcnt
  go_enter Tryd.func102, Tryd.ntmps102
  go_wp2_with fail
  refine HA.out.mono ?_
  rintro e1 w1 ⟨rfl, hk, hg⟩
  simp only at hk ⊢
  have HK1 := Lib.hid hk
  have HG1 := Lib.hid hg
  clear hk hg
  by_cases hle : lim < v
  · have HE : Hid (upS l lim 3 p e = (0, q, 3)) := Lib.hid (by rw [HU.out, if_pos hle])
    have hb0 : b = 0 := hz (by omega)
    subst hb0
    have hi2 : (lim : Int) < (v : Int) := by omega
    have HF := Lib.hid (rfail6 gr A n c q en 0 3 w1 HK1.out)
    clear hz hle
    go_wp2_with fail
    refine HF.out.mono ?_
    rintro e w2 ⟨rfl, hk2, hg2⟩
    rw [failE_z] at hk2
    go_wp2
    go_ret
    rw [HE.out]
    exact ⟨rfl, hk2, HG1.out.trans hg2⟩
  · have HE : Hid (upS l lim 3 p e = (v, q, b)) := Lib.hid (by rw [HU.out, if_neg hle])
    have hi2 : ¬ (lim : Int) < (v : Int) := by omega
    clear hz hle
    go_wp2
    go_ret
    rw [HE.out]
    exact ⟨rfl, HK1.out, HG1.out⟩
def SlD6 (gr : Nat) (A : Option Addr) (n c en : Nat) (r : (Int × Int) × Nat × Nat) (w : World) (e : Ending) (w' : World) : Prop :=
  e = .returned (.agg #[.int .i64 r.1.1, .int .i64 r.1.2]) ∧ Blk w' gr 141 #[.slice A n c, .int .i64 (r.2.1 : Int), .int .i64 (en : Int), .int .i64 (r.2.2 : Int)] ∧ w.grownBy w' (some gr)
theorem galc6 {w W : World} {row : Option Nat} (h : w.grownBy W row) (o : Obj) : w.grownBy (W.alloc o) row := ⟨h.os, h.tape, h.output, by have := h.size; simp; omega, fun b hb hne => (Below.heap_alloc W o b (by have := h.size; omega)).trans (h.block b hb hne)⟩
theorem gst6 {w W : World} {row : Option Nat} (h : w.grownBy W row) {a : Addr} (ha : w.heap.size ≤ a.block) (u : Value) : w.grownBy (W.setCell a u) row := ⟨h.os, h.tape, h.output, by have := h.size; simpa using this, fun b hb hne => (Below.heap_setCell W a u b (by omega)).trans (h.block b hb hne)⟩
theorem put2_6 {w : World} {g : Nat} {t : TypeId} {b0 b1 : Value} (h : Blk w g t #[b0, b1]) (a0 a1 : Value) : Blk ((w.setCell ⟨g, 0, none⟩ a0).setCell ⟨g, 1, none⟩ a1) g t #[a0, a1] := by
  have := (h.set_ 0 a0).set_ 1 a1
  simpa using this
set_option maxHeartbeats 2000000 in
theorem rslot6 (gr B : Nat) (A : Option Addr) (n c en : Nat) (l : List Nat) (p e : Nat) (w : World) (hK : Blk w gr 141 #[.slice A n c, .int .i64 (p : Int), .int .i64 (en : Int), .int .i64 (e : Int)]) (hb : Bs w B A en l) (hBg : B ≤ gr) (hen : en ≤ n) (hn : n ≤ 2000000) (hc : n ≤ c) (hcm : c ≤ maxLen) (hp : p ≤ 2000000) :
    Calls Tryd.prog 130 #[.pointer (some ⟨gr, 0, none⟩)] w (SlD6 gr A n c en (slotR l p e) w) := by
  have hBw : B ≤ w.heap.size := by have := hK.lt; omega
  have hll : l.length ≤ 2000000 := by have := hb.len; omega
  have HRD := Lib.hid (fun (W : World) (h : w.grownBy W (some gr)) => (⟨hb.1.grown h hBw (by intro g e; injection e with e; omega), hb.2⟩ : Bs W B A en l))
  obtain ⟨W1, hW1⟩ : ∃ W1, W1 = w.alloc (.cells #[.int .i64 0, .int .i64 0] 103) := ⟨_, rfl⟩
  obtain ⟨g2, hg2⟩ : ∃ g, g = w.heap.size := ⟨_, rfl⟩
  have hgr2 : gr < g2 := by rw [hg2]; exact hK.lt
  have hg1 : w.grownBy W1 (some gr) := by rw [hW1]; exact galc6 (World.grownBy.refl _ _) _
  have HK1 : Hid (Blk W1 gr 141 #[.slice A n c, .int .i64 (p : Int), .int .i64 (en : Int), .int .i64 (e : Int)]) := Lib.hid (by rw [hW1]; exact hK.alloc _)
  have HF1 : Hid (Blk W1 g2 103 #[.int .i64 0, .int .i64 0]) := Lib.hid (by rw [hW1, hg2]; exact Blk.new _ _ _)
  have HG1 := Lib.hid hg1
  have HW1 := Lib.hid hW1
  have HG2 := Lib.hid hg2
  have H1 := Lib.hid (rnumber6 gr B A n c en l p e W1 HK1.out (HRD.out _ hg1) hen hn hc hcm hp)
  obtain ⟨v1, p1, e1, he1⟩ : ∃ v q b, upS l M31 4 p e = (v, q, b) := ⟨_, _, _, rfl⟩
  have hp1 : p1 ≤ 2000000 := by have := upS_pos (lim := M31) (er := 4) (e := e) hp hll; rw [he1] at this; exact this
  obtain ⟨v2, p2, e2, he2⟩ : ∃ v q b, upS l M31 4 p1 e1 = (v, q, b) := ⟨_, _, _, rfl⟩
  have hz2 : 0 < v2 → e2 = 0 := fun h => by have := upS_pos_ok (l := l) (lim := M31) (er := 4) (p := p1) (e := e1) (by rw [he2]; exact h); rw [he2] at this; exact this
  have HSR : Hid (slotR l p e = if 24 < v2 then ((0, 0), p2, 4) else (((v1 : Int), ((2 ^ v2 : Nat) : Int)), p2, e2)) := Lib.hid (by
    unfold slotR
    rw [he1]
    simp only [he2])
  have H2 := Lib.hid (fun (W : World) (h : w.grownBy W (some gr)) (hk : Blk W gr 141 #[.slice A n c, .int .i64 (p1 : Int), .int .i64 (en : Int), .int .i64 (e1 : Int)]) => rnumber6 gr B A n c en l p1 e1 W hk (HRD.out _ h) hen hn hc hcm hp1)
  rw [he1] at H1
  rw [he2] at H2
  have hwg : w.heap.size ≤ g2 := by omega
  clear hg1 hW1 hg2 hK hb he1 he2 hc hcm hen
  go_enter Tryd.func130, Tryd.ntmps130
  go_upto_region 1 with (fail)
  rw [← HW1.out, ← HG2.out]
  go_wp2_with fail
  refine H1.out.mono ?_
  rintro e3 w2 ⟨rfl, hk2, hg2'⟩
  simp only at hk2 ⊢
  have HG2w := Lib.hid (HG1.out.trans hg2')
  have H2c := Lib.hid (H2.out w2 HG2w.out hk2)
  have HF2 := Lib.hid (HF1.out.grown hg2' (by intro h; injection h with h; omega))
  clear hk2 hg2' H1 H2 HF1 HK1 HG1
  go_wp2_with fail
  refine H2c.out.mono ?_
  rintro e3 w3 ⟨rfl, hk3, hg3⟩
  simp only at hk3 ⊢
  have HK3 := Lib.hid hk3
  have HG3 := Lib.hid (HG2w.out.trans hg3)
  have HF3 := Lib.hid (HF2.out.grown hg3 (by intro h; injection h with h; omega))
  clear hk3 hg3 H2c HF2 HG2w
  by_cases h24 : 24 < v2
  · have HE : Hid (slotR l p e = ((0, 0), p2, 4)) := Lib.hid (by rw [HSR.out, if_pos h24])
    have hi : (24 : Int) < (v2 : Int) := by omega
    have h0 := hz2 (by omega)
    subst h0
    have HFL := Lib.hid (rfail6 gr A n c p2 en 0 4 w3 HK3.out)
    clear h24 hz2
    go_wp2_with fail
    refine HFL.out.mono ?_
    rintro e3 w4 ⟨rfl, hk4, hg4⟩
    rw [failE_z] at hk4
    have HK4 := Lib.hid hk4
    have HF4 := Lib.hid (HF3.out.grown hg4 (by intro h; injection h with h; omega))
    have HG4 := Lib.hid (HG3.out.trans hg4)
    clear hk4 hg4 HFL HF3 HG3 HK3
    obtain ⟨d0, d1, df0, df1, dz⟩ := HF4.out.c2
    have HZ := Lib.hid (put2_6 HF4.out (.int .i64 0) (.int .i64 0))
    have HFIN : Hid (SlD6 gr A n c en (slotR l p e) w (.returned (.agg #[.int .i64 0, .int .i64 0])) ((w4.setCell ⟨g2, 0, none⟩ (.int .i64 0)).setCell ⟨g2, 1, none⟩ (.int .i64 0))) := Lib.hid (by
      rw [HE.out]
      exact ⟨rfl, (HK4.out.far (by show gr ≠ g2; omega) _).far (by show gr ≠ g2; omega) _, gst6 (gst6 HG4.out hwg _) hwg _⟩)
    go_wp2
    obtain ⟨e0, e1', -⟩ := HZ.out.c2
    exact bodyPost_ret (v := .agg #[.int .i64 0, .int .i64 0]) (by simp [results, Tryd.results130, go_sem, e0, e1']) rfl HFIN.out
  · have HE : Hid (slotR l p e = (((v1 : Int), ((2 ^ v2 : Nat) : Int)), p2, e2)) := Lib.hid (by rw [HSR.out, if_neg h24])
    have hi : ¬ (24 : Int) < (v2 : Int) := by omega
    obtain ⟨al, hal⟩ : ∃ al : Int, al = ((2 ^ v2 : Nat) : Int) := ⟨_, rfl⟩
    have hal24 : 1 ≤ al ∧ al ≤ 16777216 := by
      have h1 := Nat.two_pow_pos v2
      have h2 : 2 ^ v2 ≤ 2 ^ 24 := Nat.pow_le_pow_right (by decide) (by omega)
      have h3 : (2 : Nat) ^ 24 = 16777216 := by decide
      omega
    have hsh : wrap64 ((2 : Int) ^ v2) = al := by
      have h1 : ((2 : Int) ^ v2) = al := by rw [hal]; push_cast; rfl
      rw [h1]
      exact IntWalk.wrap64_in _ ⟨by omega, by omega⟩
    rw [← hal] at HE
    clear h24 hz2 hal hal24
    obtain ⟨d0, d1, df0, df1, dz⟩ := HF3.out.c2
    have HZ := Lib.hid (put2_6 HF3.out (.int .i64 (v1 : Int)) (.int .i64 al))
    have HFIN : Hid (SlD6 gr A n c en (slotR l p e) w (.returned (.agg #[.int .i64 (v1 : Int), .int .i64 al])) ((w3.setCell ⟨g2, 0, none⟩ (.int .i64 (v1 : Int))).setCell ⟨g2, 1, none⟩ (.int .i64 al))) := Lib.hid (by
      rw [HE.out]
      exact ⟨rfl, (HK3.out.far (by show gr ≠ g2; omega) _).far (by show gr ≠ g2; omega) _, gst6 (gst6 HG3.out hwg _) hwg _⟩)
    go_wp2
    obtain ⟨e0, e1', -⟩ := HZ.out.c2
    exact bodyPost_ret (v := .agg #[.int .i64 (v1 : Int), .int .i64 al]) (by simp [results, Tryd.results130, go_sem, e0, e1']) rfl HFIN.out
end Go.Proofs.YtinfeglhjmnlaaaDoor.pm
