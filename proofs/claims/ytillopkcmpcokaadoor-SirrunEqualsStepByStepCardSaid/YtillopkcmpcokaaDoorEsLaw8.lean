/- SirrunEqualsStepByStep: the walk of the law. -/
import Derived.Test.YtillopkcmpcokaaDoorGNr
namespace Go.Proofs.YtillopkcmpcokaaDoor.pm
open Go.RowKit
set_option linter.unusedVariables false
set_option maxRecDepth 10000
theorem es_plain {p : List Fn} {m : Mx} (hm : m.ended = false) (hs : m.steps = 0) (n : Nat) (h : ∀ k, k < n → (itX p k m).ended = false) :
    (((itX p n m).fin).kind ≠ 4 → 1 ≤ n ∧ ((itX p n m).fin).steps = n) ∧ (((itX p n m).fin).kind = 4 → ((itX p n m).fin).steps = n ∧ ∀ k, k < n + 1 → (itX p k m).ended = false) := by
  have hf2 : ∀ x : Mx, x.fin.steps = x.steps := fun x => by unfold Mx.fin; split <;> rfl
  rw [hf2]
  by_cases he : (itX p n m).ended = true
  · have hf : (itX p n m).fin = itX p n m := by unfold Mx.fin; rw [if_pos he]
    rw [hf]
    have hk := kx_it (p := p) n (m := m) (.inl hm)
    refine ⟨fun _ => ?_, fun h4 => ?_⟩
    · cases n with
      | zero =>
        have : (itX p 0 m) = m := rfl
        rw [this, hm] at he
        cases he
      | succ n =>
        have h1 := h n (by omega)
        have e := itX_add (p := p) n 1 m
        have e2 : itX p 1 (itX p n m) = stepX p (itX p n m) := by
          show (if (itX p n m).ended = true then _ else _) = _
          rw [if_neg (by rw [h1]; decide)]
          rfl
        rw [e, e2, steps_stepX, (itX_steps (p := p) n m).2.2 h1, hs]
        exact ⟨by omega, by omega⟩
    · rcases hk with h | h
      · rw [h] at he; cases he
      · exact absurd h4 h
  · have he' : (itX p n m).ended = false := by simpa using he
    have hf : (itX p n m).fin = (itX p n m).stop 4 := by unfold Mx.fin; rw [if_neg he]
    rw [hf]
    refine ⟨fun h4 => absurd rfl h4, fun _ => ⟨by rw [(itX_steps (p := p) n m).2.2 he', hs]; omega, fun k hk => ?_⟩⟩
    rcases Nat.lt_or_ge k n with h1 | h1
    · exact h k h1
    · obtain rfl : k = n := by omega
      exact he'
set_option maxHeartbeats 4000000 in
theorem es_law (A : Option Addr) (n c : Nat) (l : List Nat) (w : World) (hT : Tb w) (hb : Bs w w.heap.size A n l) (hn : n ≤ maxLen) (hc : n ≤ c) :
    Calls Tryd.prog 4 #[.slice A n c] w fun e w' => e = .returned (.bool true) ∧ Below w.heap.size w w' := by
  have HT := Lib.hid hT
  have HB := Lib.hid hb
  clear hT hb
  go_enter Tryd.func4, Tryd.ntmps4
  go_wp2_with fail
  refine (awake8 _ HT.out).mono ?_
  rintro e w1 ⟨rfl, b1⟩
  have HB1 := Lib.hid b1
  have hs1 := b1.size
  have HBS1 : Hid (Bs w1 w1.heap.size A n l) := Lib.hid ((HB.out.below b1).more hs1)
  clear b1
  go_wp2_with fail
  refine (scene_any A n c l w1 HBS1.out hn hc).mono ?_
  rintro e w2 ⟨p, inp, F, Ap, cp, iv, p', rfl, hpo, hF, hiw, hfx, hix, hcp, -, b2⟩
  obtain ⟨ad, -, -, -, -, rfl, -⟩ := hfx.at_ hpo.1
  have HPO := Lib.hid hpo
  have HIW := Lib.hid hiw
  have HFX := Lib.hid hfx
  have HIX := Lib.hid hix
  have HB2 : Hid (Below w.heap.size w w2) := Lib.hid (HB1.out.trans (b2.mono hs1))
  clear hpo hiw hfx hix b2
  obtain ⟨Ai, ci, rfl, -⟩ := HIX.out
  go_upto_region 4 with (fail)
  obtain ⟨W3, hW3⟩ : ∃ W3, W3 = w2.alloc (.cells #[.slice (some ad) p.length cp] 26) := ⟨_, rfl⟩
  rw [← hW3]
  have HK5 : Hid (Blk W3 w2.heap.size 26 #[.slice (some ad) p.length cp]) := Lib.hid (by rw [hW3]; exact Blk.new _ _ _)
  have hB3 : Below w2.heap.size w2 W3 := by rw [hW3]; exact (Below.refl _ _).alloc (Nat.le_refl _) _
  have HB3 : Hid (Below w.heap.size w W3) := Lib.hid (HB2.out.trans (hB3.mono HB2.out.size))
  have HFX3 : Hid (Fx W3 0 W3.heap.size (some ad) p) := Lib.hid ((HFX.out.keep (Kp.of_below hB3 (Nat.le_refl _))).more (Nat.zero_le _) hB3.size)
  have HIX3 : Hid (InX W3 W3.heap.size (.slice Ai inp.length ci) inp) := Lib.hid ((HIX.out.after hB3).more hB3.size)
  have HT3 := Lib.hid (HT.out.below HB3.out)
  have hg5 : w2.heap.size < W3.heap.size := HK5.out.lt
  obtain ⟨g5, hg5e⟩ : ∃ g5, g5 = w2.heap.size := ⟨_, rfl⟩
  rw [← hg5e] at HK5 hg5 ⊢
  have hs3 := HB3.out.size
  clear hW3 hB3 HFX HIX hg5e
  have HES := Lib.hid (fun n h => es_plain (p := p) (m := (Mx.start inp).call 0) (start_call inp).1 (start_call inp).2 n h)
  have HRUN := Lib.hid (fun F hF w hT hf hin => run_o HPO.out ad cp (.slice Ai inp.length ci) inp HIW.out F hF w hT hf hin)
  have HM0 : Hid (((Mx.start inp).call 0).ended = false) := Lib.hid (start_call inp).1
  generalize (Mx.start inp).call 0 = m0 at *
  go_wp2
  go_loopw [7] (fun x wr => ∃ n : Nat, x = .int .i64 n ∧ n ≤ 60 ∧ Hid (Below w.heap.size w wr) ∧ Hid (Blk wr g5 26 #[.slice (some ad) p.length cp]) ∧ Hid (Fx wr 0 wr.heap.size (some ad) p) ∧ Hid (InX wr wr.heap.size (.slice Ai inp.length ci) inp) ∧ Hid (∀ k, k < n → (itX p k m0).ended = false)) (fun x _ => 60 - (intOf x).toNat)
  case atStart => exact ⟨0, rfl, by omega, HB3, HK5, HFX3, HIX3, Lib.hid (fun k hk => absurd hk (by omega))⟩
  case round =>
    obtain ⟨k, rfl, hk, HBr, HKr, HFr, HIr, HEr⟩ := hrel
    clear HB3 HK5 HFX3 HIX3 HT3 hs3 hg5
    have hk0 : (0 : Int) ≤ (k : Int) := by omega
    have hkl : (k : Int) ≤ 60 := by omega
    have HTr := Lib.hid (HT.out.below HBr.out)
    have hsr := HBr.out.size
    obtain ⟨q0, -, qz⟩ := Blk.one HKr.out
    rcases Nat.lt_or_ge k 60 with hlt | hge
    · have hki : (k : Int) < 60 := by omega
      go_wp2_with fail
      refine (HRUN.out k (by omega) wr HTr.out HFr.out HIr.out).mono ?_
      rintro e w4 ⟨At, ct, rfl, b4, o4⟩
      rw [ocO_v]
      unfold ocs
      obtain ⟨hne, heq⟩ := HES.out k HEr.out
      obtain ⟨a, ha⟩ : ∃ a, a = (itX p k m0).fin := ⟨_, rfl⟩
      rw [← ha] at hne heq ⊢
      have HNE := Lib.hid hne
      have HEQ := Lib.hid heq
      have HB4 : Hid (Below w.heap.size w w4) := Lib.hid (HBr.out.trans (b4.mono hsr))
      have HK4 := Lib.hid (HKr.out.after b4)
      have HF4 := Lib.hid ((HFr.out.keep (Kp.of_below b4 (Nat.le_refl _))).more (Nat.zero_le _) b4.size)
      have HI4 := Lib.hid ((HIr.out.after b4).more b4.size)
      clear b4 o4 q0 qz HFr HIr HKr hne heq ha
      go_upto_region 8 with (fail)
      obtain ⟨W5, hW5⟩ : ∃ W5, W5 = w4.alloc (.cells #[.int .i64 (ocO a).kind, .int .u64 (ocO a).code, .int .u64 (ocO a).lo, .int .u64 (ocO a).hi, .slice At (ocO a).tr.length ct, .int .i64 (ocO a).st] 36) := ⟨_, rfl⟩
      rw [← hW5]
      have HK9 : Hid (Blk W5 w4.heap.size 36 #[.int .i64 (ocO a).kind, .int .u64 (ocO a).code, .int .u64 (ocO a).lo, .int .u64 (ocO a).hi, .slice At (ocO a).tr.length ct, .int .i64 (ocO a).st]) := Lib.hid (by rw [hW5]; exact Blk.new _ _ _)
      have hB5 : Below w4.heap.size w4 W5 := by rw [hW5]; exact (Below.refl _ _).alloc (Nat.le_refl _) _
      have HB5 : Hid (Below w.heap.size w W5) := Lib.hid (HB4.out.trans (hB5.mono HB4.out.size))
      have HK5 := Lib.hid (HK4.out.after hB5)
      have HF5 := Lib.hid ((HF4.out.keep (Kp.of_below hB5 (Nat.le_refl _))).more (Nat.zero_le _) hB5.size)
      have HI5 := Lib.hid ((HI4.out.after hB5).more hB5.size)
      obtain ⟨g9, hg9e⟩ : ∃ g9, g9 = w4.heap.size := ⟨_, rfl⟩
      rw [← hg9e] at HK9 ⊢
      clear hW5 hB5 HF4 HI4 HK4 hg9e
      obtain ⟨x0, x1, x2, x3, x4, x5, -, -, -, -, -, -, xz⟩ := HK9.out.c6
      rcases hk4 : ((ocO a).kind == 4) with _ | _
      · have hne : a.kind ≠ 4 := by rw [beq_eq_false_iff_ne] at hk4; exact hk4
        obtain ⟨h1, h2⟩ := HNE.out hne
        have h2i : (ocO a).st = (k : Int) := by show (a.steps : Int) = k; omega
        have hk1 : ¬ ((k : Int) = 0) := by omega
        rw [h2i] at x5
        clear hne h1 h2
        go_wp2
        go_ret
        exact ⟨ret_bool (by simp), HB5.out⟩
      · have he4 : a.kind = 4 := by rw [beq_iff_eq] at hk4; exact hk4
        obtain ⟨h1, h2⟩ := HEQ.out he4
        have h2i : (ocO a).st = (k : Int) := by show (a.steps : Int) = k; omega
        rw [h2i] at x5
        have HN := Lib.hid h2
        clear he4 h1 h2
        go_wp2
        go_roundw
        case rel => exact ⟨k + 1, by simp, by omega, HB5, HK5, HF5, HI5, HN⟩
        case measure => simp [intOf]; omega
    · have hki : ¬ (k : Int) < 60 := by omega
      go_wp2
      go_ret
      exact ⟨ret_bool (by simp), HBr.out⟩
end Go.Proofs.YtillopkcmpcokaaDoor.pm
