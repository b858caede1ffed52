/- The runs that the laws of chapter 12 compare: plain mathematics. -/
import Derived.Test.YtgakphichcihjaaGJp
import Derived.Test.YtgakphichcihjaaGJj
import Derived.Test.YtgakphichcihjaaGVe
namespace Go.Proofs.Ytgakphichcihjaa.pm
open Go.RowKit
set_option linter.unusedVariables false
set_option maxRecDepth 10000
section
variable {p : List Fr} {al : Int} {inp : List Nat}
/-- the machine at the end of a run -/
def endX (p : List Fr) (inp : List Nat) (size tp F : Nat) : Mx := (itX p F (startX p inp size tp F)).fin
theorem start_steps (size tp F : Nat) : (startX p inp size tp F).steps = 0 := by
  unfold startX
  split
  · rw [steps_call]; rfl
  · rfl
theorem run_end (size tp F : Nat) : runX p F (F + 2) (startX p inp size tp F) = endX p inp size tp F := runX_it F F _ (by rw [start_steps]; omega)
theorem start_kx (size tp F : Nat) : KX (startX p inp size tp F) := by
  unfold startX
  split
  · exact kx_call rfl _ _
  · exact .inl rfl
theorem end_wild (size tp F : Nat) : (endX p inp size tp F).kind ≠ 6 := wild_law _ (start_kx size tp F) F
theorem end_fuel (size tp F d : Nat) :
    (endX p inp size tp F).steps ≤ (endX p inp size tp (F + d)).steps ∧ (endX p inp size tp F).steps ≤ F ∧ (∃ t, (endX p inp size tp (F + d)).trace = (endX p inp size tp F).trace ++ t) ∧ ((endX p inp size tp F).kind ≠ 4 → endX p inp size tp F = endX p inp size tp (F + d)) ∧ ((endX p inp size tp F).kind = 4 → (endX p inp size tp F).steps = F) := by
  by_cases h0 : 0 < F
  · have e : startX p inp size tp (F + d) = startX p inp size tp F := by unfold startX; rw [if_pos h0, if_pos (by omega)]
    unfold endX
    rw [e]
    exact fuel_law _ (start_kx size tp F) (start_steps size tp F) F d
  · obtain rfl : F = 0 := by omega
    have e : endX p inp size tp 0 = (Mx.start inp size tp).stop 4 := rfl
    rw [e]
    exact ⟨Nat.zero_le _, Nat.le_refl _, ⟨_, rfl⟩, fun h => absurd rfl h, fun _ => rfl⟩
/-- an outcome -/
def ocO (m : Mx) : Oc := ⟨m.kind, m.code, m.res.1, m.res.2, m.trace.map fun v => ((v.1 : Int), (v.2 : Int)), m.steps⟩
theorem ocO_u {w : World} {lo hi : Nat} {At : Option Addr} {m : Mx} (h : Rx w lo hi 2 At m.trace.length (m.trace.flatMap vcl)) : Ux w lo hi At (ocO m).tr := by
  have e : (ocO m).tr.flatMap ucells = m.trace.flatMap vcl := by
    unfold ocO
    rw [List.flatMap_map]
    rfl
  unfold Ux
  rw [e, show (ocO m).tr.length = m.trace.length from List.length_map ..]
  exact h
theorem sameO_refl (a : Oc) : sameO a a = true := by
  unfold sameO
  rw [eqL_all (z := (0, 0)) rfl fun j _ => by simp [slEq]]
  simp
theorem start_sim (N N' tp D : Nat) (h1 : tp ≤ N) (h2 : tp + D ≤ N') : Sim D (Mx.start inp N tp) (Mx.start inp N' (tp + D)) := by
  refine ⟨List.replicate N' 0, List.replicate N' false, rfl, ⟨?_, ?_, fun i hi => ?_⟩, ⟨?_, ?_, fun i hi => ?_⟩⟩
  · show tp ≤ (List.replicate N 0).length; rw [List.length_replicate]; exact h1
  · show tp + D ≤ _; rw [List.length_replicate]; exact h2
  · have hi' : i < tp := hi
    show _ = (List.replicate N 0)[i]?
    rw [List.getElem?_replicate, List.getElem?_replicate, if_pos (by omega), if_pos (by omega)]
  · show tp ≤ (List.replicate N false).length; rw [List.length_replicate]; exact h1
  · show tp + D ≤ _; rw [List.length_replicate]; exact h2
  · have hi' : i < tp := hi
    show _ = (List.replicate N false)[i]?
    rw [List.getElem?_replicate, List.getElem?_replicate, if_pos (by omega), if_pos (by omega)]
theorem call_ov {s : Mx} {f z : Nat} (h : ¬ Ov (s.call f z)) : ¬ s.sp < z := fun hz => h (by unfold Mx.call; rw [if_pos hz]; exact ⟨rfl, rfl⟩)
theorem fin_ov (m : Mx) (h : m.fin.kind ≠ 5) : ¬ Ov m := fun ho => h (by unfold Mx.fin; rw [if_pos ho.1]; exact ho.2)
theorem ov_fin (m : Mx) (h : Ov m) : m.fin.kind = 5 := by unfold Mx.fin; rw [if_pos h.1]; exact h.2
theorem fin_deep (m : Mx) : m.fin.deep = m.deep := by unfold Mx.fin; split <;> rfl
theorem sim_fin {s b : Mx} {D : Nat} (h : Sim D s b) : ocO b.fin = ocO s.fin ∧ b.fin.deep = s.fin.deep := by
  obtain ⟨M, U, rfl, -⟩ := h
  unfold Mx.fin
  have e : (s.ext D M U).ended = s.ended := rfl
  rw [e]
  split <;> exact ⟨rfl, rfl⟩
/-- a run that does not overflow is the same on a greater stack -/
theorem end_more (hp : RT al p) (hi : ∀ v ∈ inp, v < 18446744073709551616) {N N' tp D F : Nat} (h1 : tp ≤ N) (h2 : tp + D ≤ N') (hk : (endX p inp N tp F).kind ≠ 5) :
    ocO (endX p inp N' (tp + D) F) = ocO (endX p inp N tp F) ∧ (endX p inp N' (tp + D) F).deep = (endX p inp N tp F).deep := by
  have hs := start_sim (inp := inp) N N' tp D h1 h2
  unfold endX at hk ⊢
  have ho := fin_ov _ hk
  unfold startX at ho ⊢
  split
  · rename_i h0
    rw [if_pos h0] at ho
    have ho1 : ¬ Ov ((Mx.start inp N tp).call 0 (szF p 0)) := fun h => ho (h.it F)
    obtain ⟨M, U, hb, hM, hU⟩ := hs
    rw [hb]
    refine sim_fin (sim_it hp F ?_ (sim_call hM hU (call_ov ho1) (Nat.le_refl _)) ho)
    rcases (good_start hp hi h1).1 with h | ⟨h, -⟩
    · exact .inl h
    · exact .inr h
  · rename_i h0
    obtain rfl : F = 0 := by omega
    exact sim_fin hs
/-- a stack that is as deep as the run is deep enough -/
theorem end_exact (hp : RT al p) (hi : ∀ v ∈ inp, v < 18446744073709551616) {N N' tp D F : Nat} (h1 : tp ≤ N) (h2 : tp + D ≤ N') (hk : (endX p inp N' (tp + D) F).kind ≠ 5) (hd : (endX p inp N' (tp + D) F).deep ≤ tp) :
    (endX p inp N tp F).kind ≠ 5 := by
  have hs := start_sim (inp := inp) N N' tp D h1 h2
  unfold endX at hk hd ⊢
  have hb := fin_ov _ hk
  rw [fin_deep] at hd
  intro hc
  by_cases h0 : 0 < F
  · unfold startX at hb hd hc
    rw [if_pos h0] at hb hd hc
    have hb1 : ¬ Ov ((Mx.start inp N' (tp + D)).call 0 (szF p 0)) := fun h => hb (h.it F)
    obtain ⟨M, U, he, hM, hU⟩ := hs
    rw [he] at hb hd hb1
    have hs1 : ¬ Ov ((Mx.start inp N tp).call 0 (szF p 0)) := fun hov => by
      have := ov_call (s := Mx.start inp N tp) hov (fun h => by cases h.1) hb1 (Nat.le_refl _)
      have h3 := (deep_it (p := p) F (((Mx.start inp N tp).ext D M U).call 0 (szF p 0))).1
      have h4 : (Mx.start inp N tp).tp = tp := rfl
      omega
    have hgs : GS al p ((Mx.start inp N tp).call 0 (szF p 0)) := by
      rcases (good_start hp hi h1).1 with h | ⟨h, -⟩
      · exact .inl h
      · exact .inr h
    have htp : ((Mx.start inp N tp).call 0 (szF p 0)).tp = tp := by unfold Mx.call; split <;> rfl
    have hno := ov_it hp F hgs hs1 (sim_call hM hU (call_ov hs1) (Nat.le_refl _)) hb (by rw [htp]; exact hd)
    refine hno ?_
    generalize itX p F ((Mx.start inp N tp).call 0 (szF p 0)) = e at *
    unfold Mx.fin at hc
    split at hc
    · exact ⟨‹_›, hc⟩
    · cases hc
  · obtain rfl : F = 0 := by omega
    cases hc
/-- how deep a run goes -/
theorem end_deep (N tp F : Nat) : (endX p inp N tp F).deep ≤ tp := by
  unfold endX
  rw [fin_deep]
  have h := (deep_it (p := p) F (startX p inp N tp F)).2.2
  have e : (startX p inp N tp F).tp = tp := by
    unfold startX
    split
    · unfold Mx.call; split <;> rfl
    · rfl
  rw [e] at h
  refine h ?_
  unfold startX
  split
  · unfold Mx.call
    split
    · exact Nat.zero_le _
    · show (if 0 < tp - (tp - szF p 0) then tp - (tp - szF p 0) else 0) ≤ tp
      split <;> omega
  · exact Nat.zero_le _
/-- the stack's numbers are multiples of the alignment -/
def Mu (a : Nat) (m : Mx) : Prop := a ∣ m.sp ∧ a ∣ m.tp ∧ a ∣ m.deep
theorem sz_mul (hp : RT al p) {f : Nat} (hf : f < p.length) : al.toNat ∣ szF p f := by
  have h1 := (hp.fr f hf).mult
  have h2 := szF_def hp hf
  have h3 := hp.pw.2
  have h4 : ((al.toNat : Nat) : Int) = al := by omega
  have : (al.toNat : Int) ∣ (szF p f : Int) := by rw [h4, h2]; exact Int.dvd_of_emod_eq_zero h1
  exact Int.natCast_dvd_natCast.1 this
theorem mu_call {a : Nat} {m : Mx} (h : Mu a m) {f z : Nat} (hz : a ∣ z) : Mu a (m.call f z) := by
  obtain ⟨h1, h2, h3⟩ := h
  unfold Mx.call
  split
  · exact ⟨h1, h2, h3⟩
  · have h4 : a ∣ m.sp - z := Nat.dvd_sub h1 hz
    refine ⟨h4, h2, ?_⟩
    show a ∣ (if m.deep < m.tp - (m.sp - z) then m.tp - (m.sp - z) else m.deep)
    split
    · exact Nat.dvd_sub h2 h4
    · exact h3
theorem mu_step (hp : RT al p) {m : Mx} (h : GI al p m) (hm : Mu al.toNat m) : Mu al.toNat (stepX p m) := by
  have hl := h.wf.live _ (top_mem h.wf.some_)
  have gx := inE_gx ((hp.fr _ hl.1).ins _ (ins_mem h.wf))
  have hn : Mu al.toNat m.next := hm
  have hself : ∀ k : Mx, k.sp = m.sp → k.tp = m.tp → k.deep = m.deep → Mu al.toNat k := fun k a b c => by unfold Mu; rw [a, b, c]; exact hm
  have hpl : ∀ x, Mu al.toNat (m.next.plain x) := fun x => by
    unfold Mx.plain
    repeat' split
    all_goals exact hself _ rfl rfl rfl
  unfold stepX
  generalize m.ins p = x at *
  unfold doX
  split
  · unfold Mx.load; split <;> exact hself _ rfl rfl rfl
  split
  · exact hself _ rfl rfl rfl
  split
  · unfold Mx.moveIn; split <;> exact hself _ rfl rfl rfl
  split
  · exact hself _ rfl rfl rfl
  split
  · split <;> exact hself _ rfl rfl rfl
  split
  · rename_i ho
    have hc := gx.ca ho
    exact mu_call hn (sz_mul hp (by omega))
  split
  · have hz : al.toNat ∣ szF p m.next.top.f := by rw [next_top h.wf.some_]; exact sz_mul hp hl.1
    obtain ⟨h1, h2, h3⟩ := hn
    unfold Mx.leave
    split
    · exact ⟨Nat.dvd_add h1 hz, h2, h3⟩
    · exact ⟨Nat.dvd_add h1 hz, h2, h3⟩
  split
  · exact hself _ rfl rfl rfl
  · exact hpl x
theorem mu_it (hp : RT al p) (n : Nat) {m : Mx} (h : GS al p m) (hm : Mu al.toNat m) : Mu al.toNat (itX p n m) := by
  induction n generalizing m with
  | zero => exact hm
  | succ n ih =>
    by_cases h1 : m.ended = true
    · rw [itX_end h1]; exact hm
    · rw [itX_succ, if_neg h1]
      rcases h with h | h
      · exact absurd h h1
      · exact ih (h.doX hp) (mu_step hp h hm)
theorem tpOf_nat (hp : RT al p) (N : Nat) : tpOf al N = N - N % al.toNat := by
  have h3 := hp.pw.2
  have h4 : al = ((al.toNat : Nat) : Int) := by omega
  unfold tpOf
  conv => lhs; rw [h4]
  have : N % al.toNat ≤ N := Nat.mod_le _ _
  omega
theorem tpOf_dvd (hp : RT al p) (N : Nat) : al.toNat ∣ tpOf al N := by rw [tpOf_nat hp]; exact Nat.dvd_sub_mod N
theorem tpOf_mono (hp : RT al p) {N N' : Nat} (h : N ≤ N') : tpOf al N ≤ tpOf al N' := by
  have e : ∀ n, n - n % al.toNat = al.toNat * (n / al.toNat) := fun n => by have := Nat.div_add_mod n al.toNat; omega
  rw [tpOf_nat hp, tpOf_nat hp, e, e]
  exact Nat.mul_le_mul_left _ (Nat.div_le_div_right h)
theorem tpOf_self (hp : RT al p) {d : Nat} (h : al.toNat ∣ d) : tpOf al d = d := by
  rw [tpOf_nat hp, Nat.mod_eq_zero_of_dvd h]; omega
theorem end_dvd (hp : RT al p) (hi : ∀ v ∈ inp, v < 18446744073709551616) (N F : Nat) : al.toNat ∣ (endX p inp N (tpOf al N) F).deep := by
  have h3 := hp.pw.2
  have hle := tpOf_le al (by omega) N
  have hd := tpOf_dvd hp N
  have hm0 : Mu al.toNat (Mx.start inp N (tpOf al N)) := ⟨hd, hd, Nat.dvd_zero _⟩
  unfold endX
  rw [fin_deep]
  unfold startX
  split
  · refine (mu_it hp F ?_ (mu_call hm0 (sz_mul hp hp.len.1))).2.2
    rcases (good_start hp hi hle).1 with h | ⟨h, -⟩
    · exact .inl h
    · exact .inr h
  · rename_i h0
    obtain rfl : F = 0 := by omega
    exact Nat.dvd_zero _
/-- the law on greater and smaller stacks -/
theorem room_law (hp : RT al p) (hi : ∀ v ∈ inp, v < 18446744073709551616) (N more F : Nat) :
    let A := fun n => endX p inp n (tpOf al n) F
    (A N).deep ≤ N ∧ ((A N).kind ≠ 5 → ocO (A (N + more)) = ocO (A N) ∧ (A (N + more)).deep = (A N).deep ∧ ocO (A (A N).deep) = ocO (A N) ∧ ((A N).deep ≠ 0 → (A ((A N).deep - 1)).kind = 5)) := by
  have h3 := hp.pw.2
  have hle := fun n => tpOf_le al (by omega) n
  have hmono := fun {a b : Nat} (h : a ≤ b) => tpOf_mono hp h
  have hdp := end_deep (p := p) (inp := inp) N (tpOf al N) F
  have hdv := end_dvd hp hi N F
  dsimp only
  obtain ⟨d, hd⟩ : ∃ d, d = (endX p inp N (tpOf al N) F).deep := ⟨_, rfl⟩
  rw [← hd] at hdp hdv ⊢
  have hdN := hle N
  refine ⟨by omega, fun hk => ?_⟩
  have g : ∀ n n', n ≤ n' → (endX p inp n (tpOf al n) F).kind ≠ 5 → ocO (endX p inp n' (tpOf al n') F) = ocO (endX p inp n (tpOf al n) F) ∧ (endX p inp n' (tpOf al n') F).deep = (endX p inp n (tpOf al n) F).deep := fun n n' hn hk => by
    have e : tpOf al n' = tpOf al n + (tpOf al n' - tpOf al n) := by have := hmono hn; omega
    rw [e]
    exact end_more hp hi (hle n) (by rw [← e]; exact hle n') hk
  have x : ∀ n, n ≤ N → d ≤ tpOf al n → (endX p inp n (tpOf al n) F).kind ≠ 5 := fun n hn hdn => by
    have e : tpOf al N = tpOf al n + (tpOf al N - tpOf al n) := by have := hmono hn; omega
    refine end_exact hp hi (N := n) (N' := N) (tp := tpOf al n) (D := tpOf al N - tpOf al n) (hle n) (by rw [← e]; exact hle N) (by rw [← e]; exact hk) (by rw [← e, ← hd]; exact hdn)
  obtain ⟨a1, a2⟩ := g N (N + more) (by omega) hk
  have xd := x d (by omega) (by rw [tpOf_self hp hdv]; exact Nat.le_refl _)
  refine ⟨a1, by rw [a2, ← hd], (g d N (by omega) xd).1.symm, fun h0 => ?_⟩
  apply Classical.byContradiction
  intro hn5
  have := (g (d - 1) N (by omega) hn5).2
  have h5 := end_deep (p := p) (inp := inp) (d - 1) (tpOf al (d - 1)) F
  have h6 := hle (d - 1)
  rw [← hd] at this
  omega
end
end Go.Proofs.Ytgakphichcihjaa.pm
