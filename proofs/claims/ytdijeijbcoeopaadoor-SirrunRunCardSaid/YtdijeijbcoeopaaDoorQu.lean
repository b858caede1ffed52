/- The reference's machine: one step of it is one step of the machine, as plain data. -/
import Derived.Test.YtdijeijbcoeopaaDoorQt1
import Derived.Test.YtdijeijbcoeopaaDoorQt2
import Derived.Test.YtdijeijbcoeopaaDoorQt3
import Derived.Test.YtdijeijbcoeopaaDoorQt4
import Derived.Test.YtdijeijbcoeopaaDoorQt5
import Derived.Test.YtdijeijbcoeopaaDoorGQm
import Derived.Test.YtdijeijbcoeopaaDoorGQn
import Derived.Test.YtdijeijbcoeopaaDoorQm4
import Derived.Test.YtdijeijbcoeopaaDoorQm5
import Derived.Test.YtdijeijbcoeopaaDoorQs
set_option linter.unusedVariables false
set_option maxRecDepth 10000
set_option maxHeartbeats 8000000
namespace Go.Proofs.YtdijeijbcoeopaaDoor.pm
open Go.RowKit
section
variable {mb ca ct cp : Nat} {iv : Value} {As At : Option Addr} {m : Mx} {p : List Fn} {ad : Addr} {s : Sx8}
theorem kOk_nn {nf : Nat} {prm : Int} {ns nc k : Nat} {n : Int} (h : kOk nf prm ns nc k n) : 0 ≤ n := by
 unfold kOk at h
 split at h <;> omega
theorem kS_at {t np : Nat} (h : s.acts.length = t + 1) : (kS s t np).acts.getD t As8.z = { s.acts.getD t As8.z with pc := np } := by
 show (s.acts.set t _).getD t As8.z = _
 rw [List.getD_eq_getElem?_getD, List.getElem?_set_self (by omega)]
 rfl
theorem kS_len {t np : Nat} (h : s.acts.length = t + 1) : (kS s t np).acts.length = t + 1 := by
 show (s.acts.set t _).length = _
 rw [List.length_set]
 exact h
theorem adv_eq {t : Nat} (h : s.acts.length = t + 1) : s.adv p = kS s t (s.newpc p) := by
 unfold Sx8.adv
 rw [setTop_eq h, top_eq h]
 rfl
theorem newpc_else (h20 : (s.ins p).op ≠ 20) (h21 : (s.ins p).op ≠ 21) {t : Nat} (h : s.acts.length = t + 1) : s.newpc p = (s.acts.getD t As8.z).pc + 1 := by
 unfold Sx8.newpc
 rw [if_neg h20, if_neg (fun q => h21 q.1), top_eq h]
theorem plain_ops {nf : Nat} {prm : Int} {ns nc : Nat} {op a b c : Int} (h0 : 0 ≤ op) (h1 : op ≤ 14) (ka : kOk nf prm ns nc (shp op.toNat).1 a) (kb : kOk nf prm ns nc (shp op.toNat).2.1 b) (kc : kOk nf prm ns nc (shp op.toNat).2.2.1 c) : a < 8 ∧ b < 8 ∧ c < 8 := by
 have hcase : op = 0 ∨ op = 1 ∨ op = 2 ∨ op = 3 ∨ op = 4 ∨ op = 5 ∨ op = 6 ∨ op = 7 ∨ op = 8 ∨ op = 9 ∨ op = 10 ∨ op = 11 ∨ op = 12 ∨ op = 13 ∨ op = 14 := by omega
 rcases hcase with rfl | rfl | rfl | rfl | rfl | rfl | rfl | rfl | rfl | rfl | rfl | rfl | rfl | rfl | rfl
 all_goals simp [kOk, shp, shps, lim, lims] at ka kb kc
 all_goals omega
theorem sstep_x (w : World) (hp : GP p) (h : GI p m) (hna : NA m.acts) (ht : m.trace.length ≤ 1000000) (hst : m.steps ≤ 1000000) (hl6 : m.acts.length ≤ 900000) (hen : m.ended = false) (hs : SAt w mb (.slice (some ad) p.length cp) iv As ca At ct (toS p m)) (hfx : Fx w 0 mb (some ad) p) (hin : InX w mb iv m.inp) :
 Calls Tryd.prog 36 #[.pointer (some ⟨mb, 0, none⟩)] w (StD mb (.slice (some ad) p.length cp) (toS p (stepX p m)) w) := by
 have hs1 := h.wf.some_
 obtain ⟨t, ht1⟩ : ∃ t, m.acts.length = t + 1 := ⟨m.acts.length - 1, by omega⟩
 have hlen : (toS p m).acts.length = t + 1 := by
  show (m.acts.map _).length = _
  rw [List.length_map]
  exact ht1
 have hx := toS_ins (p := p) hs1
 have htop : (toS p m).acts.getD t As8.z = asH p m.hp m.top := by rw [← top_eq hlen]; exact toS_top hs1
 have hlv := h.wf.live _ (top_mem h)
 have hg := hp.fns _ hlv.1
 have hio := instr_ok (hg.ins _ (ins_mem h))
 have him := hp.imm _ hlv.1 _ (ins_mem h)
 have hpl := hp.len.2
 have hns := hg.ns
 have hnc := hg.nc.2
 have htw := two_acts hp h
 have hrg : ∀ r, W64x (sg (toS p m) r) := fun r => h.rg r
 have hprm := hg.prm
 have hsz : ∀ k : Nat, k < (p.getD m.top.f Fn.z).slots.length → -9223372036854775808 ≤ ((p.getD m.top.f Fn.z).slots.getD k (0, 0)).1 ∧ ((p.getD m.top.f Fn.z).slots.getD k (0, 0)).1 ≤ 9223372036854775807 := fun k k1 => by
  have := (hp.rng _ hlv.1 _ (getD_mem' (z := (0, 0)) k1)).1
  unfold I64 at this
  omega
 have hnsC : ∀ a : Nat, a < p.length → (p.getD a Fn.z).slots.length ≤ 1000 := fun a ha => by have := (hp.fns a ha).ns; omega
 rw [(sim_step hp h hna ht).1]
 have hxe : (p.getD m.top.f Fn.z).code.getD m.top.pc Ins.z = m.ins p := rfl
 have hr8 : (toS p m).regs.length = 8 := h.wf.regs
 have hpc : (asH p m.hp m.top).pc < (p.getD (asH p m.hp m.top).f Fn.z).code.length := hlv.2.1
 have hss : (asH p m.hp m.top).ss.length = (p.getD m.top.f Fn.z).slots.length := slotsOf_len _ _ _
 have haa : (asH p m.hp m.top).aa.length = 8 := slotsOf_len _ _ _
 have hpc6 : (asH p m.hp m.top).pc ≤ 1000000 := by have : m.top.pc < _ := hlv.2.1; show m.top.pc ≤ _; omega
 have hin' : InX w mb iv (toS p m).inp := hin
 have hst' : (toS p m).steps ≤ 1000000 := hst
 have htr' : (toS p m).trace.length ≤ 1000000 := ht
 have hen' : (toS p m).ended = false := hen
 have hf9 : (asH p m.hp m.top).f < p.length := hlv.1
 have hxe9 : (p.getD (asH p m.hp m.top).f Fn.z).code.getD (asH p m.hp m.top).pc Ins.z = m.ins p := hxe
 have hsz9 : ∀ k : Nat, k < (p.getD (asH p m.hp m.top).f Fn.z).slots.length → -9223372036854775808 ≤ ((p.getD (asH p m.hp m.top).f Fn.z).slots.getD k (0, 0)).1 ∧ ((p.getD (asH p m.hp m.top).f Fn.z).slots.getD k (0, 0)).1 ≤ 9223372036854775807 := hsz
 have hss9 : (asH p m.hp m.top).ss.length = (p.getD (asH p m.hp m.top).f Fn.z).slots.length := hss
 have hns9 : (p.getD (asH p m.hp m.top).f Fn.z).slots.length ≤ 512 := hns
 have hprv : ∀ tq, t = tq + 1 → ((toS p m).acts.getD tq As8.z).aa.length = 8 := fun tq hq => by
  show ((m.acts.map (asH p m.hp)).getD tq As8.z).aa.length = 8
  rw [List.getD_eq_getElem?_getD, List.getElem?_map, List.getElem?_eq_getElem (by omega)]
  exact slotsOf_len _ _ _
 have htw9 : 0 < (p.getD (asH p m.hp m.top).f Fn.z).params → 1 ≤ t := fun q => by have := htw q; omega
 have hio9 : (0 ≤ (m.ins p).op ∧ (m.ins p).op < 25) ∧ kOk p.length (p.getD (asH p m.hp m.top).f Fn.z).params (p.getD (asH p m.hp m.top).f Fn.z).slots.length (p.getD (asH p m.hp m.top).f Fn.z).code.length (shp (m.ins p).op.toNat).1 (m.ins p).a ∧
  kOk p.length (p.getD (asH p m.hp m.top).f Fn.z).params (p.getD (asH p m.hp m.top).f Fn.z).slots.length (p.getD (asH p m.hp m.top).f Fn.z).code.length (shp (m.ins p).op.toNat).2.1 (m.ins p).b ∧ kOk p.length (p.getD (asH p m.hp m.top).f Fn.z).params (p.getD (asH p m.hp m.top).f Fn.z).slots.length (p.getD (asH p m.hp m.top).f Fn.z).code.length (shp (m.ins p).op.toNat).2.2.1 (m.ins p).c := hio
 clear hio
 have hprm9 : (p.getD (asH p m.hp m.top).f Fn.z).params < 9 := hprm.2
 generalize m.ins p = x at hx hio9 him hxe9
 clear hxe htw hsz hns hss hnc hprm hin hst ht hen hlv hg hna
 rw [← htop] at hpc hpc6 hf9 hxe9 hsz9 hss9 hns9 haa htw9 hio9 hprm9
 clear htop
 generalize toS p m = s at *
 have htb : t < 900000 := by omega
 obtain ⟨op, a', b', c', imm⟩ := x
 obtain ⟨⟨q1, q2⟩, ka, kb, kc⟩ := hio9
 dsimp only at q1 q2 ka kb kc him
 obtain ⟨a, rfl⟩ := Int.eq_ofNat_of_zero_le (kOk_nn ka)
 obtain ⟨b, rfl⟩ := Int.eq_ofNat_of_zero_le (kOk_nn kb)
 obtain ⟨c, rfl⟩ := Int.eq_ofNat_of_zero_le (kOk_nn kc)
 have hK := kS_at (np := (s.acts.getD t As8.z).pc + 1) hlen
 have hKl := kS_len (np := (s.acts.getD t As8.z).pc + 1) hlen
 have hnpc : op ≠ 20 → op ≠ 21 → s.newpc p = (s.acts.getD t As8.z).pc + 1 := fun g1 g2 => newpc_else (by rw [hx]; exact g1) (by rw [hx]; exact g2) hlen
 have bq : ∀ k : Int, op ≠ k → (op == k) = false := fun k g => beq_eq_false_iff_ne.2 g
 by_cases h14 : op ≤ 14
 · obtain ⟨h1, h2, h3⟩ := plain_ops q1 h14 ka kb kc
   have e : stepS p s = (kS s t ((s.acts.getD t As8.z).pc + 1)).pl ⟨op, a, b, c, imm⟩ := by
    rw [stepS_pl (by rw [hx]; exact q1) (by rw [hx]; exact h14), hx, adv_eq hlen, hnpc (by omega) (by omega)]
   rw [e]
   exact sst_plain w a b c imm op hr8 hs hfx hin' hlen (by omega) hst' hpc6 hf9 (by omega) hpc hxe9 (bq 15 (by omega)) (bq 16 (by omega)) (bq 17 (by omega)) (bq 18 (by omega)) (bq 19 (by omega)) (bq 20 (by omega)) (bq 21 (by omega)) (bq 22 (by omega)) (bq 23 (by omega)) (bq 24 (by omega)) q1 h14 him.1 (by omega) (by omega) (by omega) hrg htr' hen'
 have hcase : op = 15 ∨ op = 16 ∨ op = 17 ∨ op = 18 ∨ op = 19 ∨ op = 20 ∨ op = 21 ∨ op = 22 ∨ op = 23 ∨ op = 24 := by omega
 have hadv := adv_eq (p := p) hlen
 clear h14
 obtain ⟨ns, ens⟩ : ∃ n, n = (p.getD (s.acts.getD t As8.z).f Fn.z).slots.length := ⟨_, rfl⟩
 obtain ⟨nc, enc⟩ : ∃ n, n = (p.getD (s.acts.getD t As8.z).f Fn.z).code.length := ⟨_, rfl⟩
 obtain ⟨np, enp⟩ : ∃ n, n = (p.getD (s.acts.getD t As8.z).f Fn.z).params := ⟨_, rfl⟩
 obtain ⟨nss, enss⟩ : ∃ n, n = (s.acts.getD t As8.z).ss.length := ⟨_, rfl⟩
 rw [← ens, ← enc, ← enp] at ka kb kc
 rw [← ens] at hns9
 rw [← enss, ← ens] at hss9
 rw [← enp] at htw9 hprm9
 rcases hcase with rfl | rfl | rfl | rfl | rfl | rfl | rfl | rfl | rfl | rfl
 all_goals simp [kOk, shp, shps, lim, lims] at ka kb kc
 · have e : stepS p s = (kS s t ((s.acts.getD t As8.z).pc + 1)).take a (((kS s t ((s.acts.getD t As8.z).pc + 1)).acts.getD t As8.z).ss.getD b none) := by
    unfold stepS
    dsimp only
    rw [hx, hadv, hnpc (by decide) (by decide)]
    dsimp only
    rw [if_neg (by decide), if_neg (by decide), if_neg (by decide), if_neg (by decide), if_pos rfl]
    simp only [Int.toNat_natCast, top_eq hKl]
   rw [e]
   exact sst_mem w a b c imm 15 hr8 hs hfx hin' hlen (by omega) hst' hpc6 hf9 (by omega) hpc hxe9 (bq 20 (by decide)) (bq 21 (by decide)) (bq 22 (by decide)) (bq 23 (by decide)) (bq 24 (by decide)) _ (by unfold Sx8.take; split <;> rfl) (fun W As' ca' hW hF => smem_ld (s := (kS s t ((s.acts.getD t As8.z).pc + 1))) W a b c imm hr8 hW hF hKl (by omega) (by rw [hK]; exact hf9) (by omega) (by omega) (by rw [hK]; show b < (s.acts.getD t As8.z).ss.length; rw [← enss]; omega) hen')
 · have e : stepS p s = (kS s t ((s.acts.getD t As8.z).pc + 1)).putS a (vcut (sg (kS s t ((s.acts.getD t As8.z).pc + 1)) b) ((p.getD ((kS s t ((s.acts.getD t As8.z).pc + 1)).acts.getD t As8.z).f Fn.z).slots.getD a (0, 0)).1) := by
    unfold stepS
    dsimp only
    rw [hx, hadv, hnpc (by decide) (by decide)]
    dsimp only
    rw [if_neg (by decide), if_neg (by decide), if_neg (by decide), if_neg (by decide), if_neg (by decide), if_pos rfl]
    simp only [Int.toNat_natCast, top_eq hKl]
   rw [e]
   exact sst_mem w a b c imm 16 hr8 hs hfx hin' hlen (by omega) hst' hpc6 hf9 (by omega) hpc hxe9 (bq 20 (by decide)) (bq 21 (by decide)) (bq 22 (by decide)) (bq 23 (by decide)) (bq 24 (by decide)) _ (rfl) (fun W As' ca' hW hF => smem_st (s := (kS s t ((s.acts.getD t As8.z).pc + 1))) W a b c imm hr8 hW hF hKl (by omega) (by rw [hK]; exact hf9) (by omega) (by rw [hK]; show a < (s.acts.getD t As8.z).ss.length; rw [← enss]; omega) (by omega) (by rw [hK]; show (s.acts.getD t As8.z).ss.length ≤ 1000; rw [← enss]; omega) (by rw [hK]; exact ⟨by show a < (p.getD (s.acts.getD t As8.z).f Fn.z).slots.length; rw [← ens]; omega, (hsz9 a (by rw [← ens]; omega)).1, (hsz9 a (by rw [← ens]; omega)).2, (hrg b).1, (hrg b).2⟩))
 · have e : stepS p s = (kS s t ((s.acts.getD t As8.z).pc + 1)).moveIn a (((kS s t ((s.acts.getD t As8.z).pc + 1)).acts.getD t As8.z).ss.getD b none) := by
    unfold stepS
    dsimp only
    rw [hx, hadv, hnpc (by decide) (by decide)]
    dsimp only
    rw [if_neg (by decide), if_neg (by decide), if_neg (by decide), if_neg (by decide), if_neg (by decide), if_neg (by decide), if_pos rfl]
    simp only [Int.toNat_natCast, top_eq hKl]
   rw [e]
   exact sst_mem w a b c imm 17 hr8 hs hfx hin' hlen (by omega) hst' hpc6 hf9 (by omega) hpc hxe9 (bq 20 (by decide)) (bq 21 (by decide)) (bq 22 (by decide)) (bq 23 (by decide)) (bq 24 (by decide)) _ (by unfold Sx8.moveIn; split <;> rfl) (fun W As' ca' hW hF => smem_mv (s := (kS s t ((s.acts.getD t As8.z).pc + 1))) W a b c imm hr8 hW hF hKl (by omega) (by rw [hK]; exact hf9) (by omega) (by rw [hK]; show a < (s.acts.getD t As8.z).ss.length; rw [← enss]; omega) (by rw [hK]; show b < (s.acts.getD t As8.z).ss.length; rw [← enss]; omega) (by rw [hK]; show (s.acts.getD t As8.z).ss.length ≤ 1000; rw [← enss]; omega) hen')
 · have e : stepS p s = (kS s t ((s.acts.getD t As8.z).pc + 1)).putA a (sg (kS s t ((s.acts.getD t As8.z).pc + 1)) b) := by
    unfold stepS
    dsimp only
    rw [hx, hadv, hnpc (by decide) (by decide)]
    dsimp only
    rw [if_neg (by decide), if_neg (by decide), if_neg (by decide), if_neg (by decide), if_neg (by decide), if_neg (by decide), if_neg (by decide), if_pos rfl]
    simp only [Int.toNat_natCast]
   rw [e]
   exact sst_mem w a b c imm 18 hr8 hs hfx hin' hlen (by omega) hst' hpc6 hf9 (by omega) hpc hxe9 (bq 20 (by decide)) (bq 21 (by decide)) (bq 22 (by decide)) (bq 23 (by decide)) (bq 24 (by decide)) _ (rfl) (fun W As' ca' hW hF => smem_ag (s := (kS s t ((s.acts.getD t As8.z).pc + 1))) W a b c imm hr8 hW hF hKl (by omega) (by rw [hK]; exact hf9) (by omega) (by rw [hK]; show a < (s.acts.getD t As8.z).aa.length; omega) (by omega) (by rw [hK]; show (s.acts.getD t As8.z).aa.length ≤ 1000; omega))
 · have ht1 : 1 ≤ t := htw9 (by omega)
   obtain ⟨tq, htq⟩ : ∃ tq, t = tq + 1 := ⟨t - 1, by omega⟩
   have hp8 := hprv tq htq
   have hkq : (kS s t ((s.acts.getD t As8.z).pc + 1)).acts.getD tq As8.z = s.acts.getD tq As8.z := by
    show (s.acts.set t _).getD tq As8.z = _
    rw [List.getD_eq_getElem?_getD, List.getElem?_set_ne (by omega), ← List.getD_eq_getElem?_getD]
   have e : stepS p s = (kS s t ((s.acts.getD t As8.z).pc + 1)).take a (((kS s t ((s.acts.getD t As8.z).pc + 1)).acts.getD tq As8.z).aa.getD b none) := by
    unfold stepS
    dsimp only
    rw [hx, hadv, hnpc (by decide) (by decide), hlen, show t + 1 - 2 = tq by omega]
    dsimp only
    rw [if_neg (by decide), if_neg (by decide), if_neg (by decide), if_neg (by decide), if_neg (by decide), if_neg (by decide), if_neg (by decide), if_neg (by decide), if_pos rfl]
    simp only [Int.toNat_natCast]
   rw [e]
   exact sst_mem w a b c imm 19 hr8 hs hfx hin' hlen (by omega) hst' hpc6 hf9 (by omega) hpc hxe9 (bq 20 (by decide)) (bq 21 (by decide)) (bq 22 (by decide)) (bq 23 (by decide)) (bq 24 (by decide)) _ (by unfold Sx8.take; split <;> rfl) (fun W As' ca' hW hF => smem_pm (s := (kS s t ((s.acts.getD t As8.z).pc + 1))) W a b c imm hr8 hW hF hKl (by omega) (by rw [hK]; exact hf9) (by omega) tq htq (by omega) (by rw [hkq, hp8]; omega) hen')
 · have e : stepS p s = kS s t a := by
    unfold stepS
    dsimp only
    rw [hx]
    dsimp only
    rw [if_pos (.inl rfl), hadv]
    unfold Sx8.newpc
    rw [hx]
    dsimp only
    rw [if_pos rfl, Int.toNat_natCast]
   rw [e]
   exact sst_jump w a b c imm hr8 hs hfx hin' hlen (by omega) hst' hpc6 hf9 (by omega) hpc hxe9
 · have e0 : stepS p s = kS s t (s.newpc p) := by
    unfold stepS
    dsimp only
    rw [hx]
    dsimp only
    rw [if_pos (.inr rfl), hadv]
   rw [e0]
   by_cases hv : (sg s a).1 = 0
   · have e : s.newpc p = (s.acts.getD t As8.z).pc + 1 := by
      unfold Sx8.newpc
      rw [hx]
      dsimp only
      rw [Int.toNat_natCast, if_neg (by decide), if_neg (fun q => q.2 hv), top_eq hlen]
     rw [e]
     exact sst_br0 w a b c imm hr8 hs hfx hin' hlen (by omega) hst' hpc6 hf9 (by omega) hpc hxe9 (by omega) hv
   · have e : s.newpc p = b := by
      unfold Sx8.newpc
      rw [hx]
      dsimp only
      rw [Int.toNat_natCast, if_neg (by decide), if_pos ⟨rfl, hv⟩, Int.toNat_natCast]
     rw [e]
     exact sst_br1 w a b c imm hr8 hs hfx hin' hlen (by omega) hst' hpc6 hf9 (by omega) hpc hxe9 (by omega) hv
 · have e : stepS p s = (kS s t ((s.acts.getD t As8.z).pc + 1)).enter p a := by
    unfold stepS
    dsimp only
    rw [hx, hadv, hnpc (by decide) (by decide)]
    dsimp only
    rw [if_neg (by decide), if_pos rfl]
    simp only [Int.toNat_natCast]
   rw [e]
   exact sst_call w a b c imm hr8 hs hfx hin' hlen (by omega) hst' hpc6 hf9 (by omega) hpc hxe9 (by omega) (by omega) (hnsC a (by omega))
 · by_cases h0 : t = 0
   · have e : stepS p s = ({ (kS s t ((s.acts.getD t As8.z).pc + 1)) with acts := [], res := sg (kS s t ((s.acts.getD t As8.z).pc + 1)) 0 } : Sx8).stop 0 := by
      unfold stepS
      dsimp only
      rw [hx, hadv, hnpc (by decide) (by decide), hlen]
      dsimp only
      rw [if_neg (by decide), if_neg (by decide), if_pos rfl, if_pos (by omega)]
     rw [e]
     exact sst_ret0 w a b c imm hr8 hs hfx hin' hlen (by omega) hst' hpc6 hf9 (by omega) hpc hxe9 h0
   · have e : stepS p s = { (kS s t ((s.acts.getD t As8.z).pc + 1)) with acts := (kS s t ((s.acts.getD t As8.z).pc + 1)).acts.take t } := by
      unfold stepS
      dsimp only
      rw [hx, hadv, hnpc (by decide) (by decide), hlen]
      dsimp only
      rw [if_neg (by decide), if_neg (by decide), if_pos rfl, if_neg (by omega), Nat.add_sub_cancel]
     rw [e]
     exact sst_ret1 w a b c imm hr8 hs hfx hin' hlen (by omega) hst' hpc6 hf9 (by omega) hpc hxe9 h0
 · have e : stepS p s = ({ (kS s t ((s.acts.getD t As8.z).pc + 1)) with code := imm.toNat } : Sx8).stop 1 := by
    unfold stepS
    dsimp only
    rw [hx, hadv, hnpc (by decide) (by decide)]
    dsimp only
    rw [if_neg (by decide), if_neg (by decide), if_neg (by decide), if_pos rfl]
   rw [e]
   exact sst_trap w a b c imm hr8 hs hfx hin' hlen (by omega) hst' hpc6 hf9 (by omega) hpc hxe9 him.1
end
end Go.Proofs.YtdijeijbcoeopaaDoor.pm
