/- The two machines of chapter 8 go the same way: plain mathematics. -/
import Derived.Test.YtdijeijbcoeopaaDoorGQa
import Derived.Test.YtdijeijbcoeopaaDoorGNo
set_option linter.unusedVariables false
set_option maxRecDepth 10000
namespace Go.Proofs.YtdijeijbcoeopaaDoor.pm
open Go.RowKit
def slotsOf (hp : List (List (Int × (Nat × Nat)))) (o : Option Nat) (n : Nat) : List (Option (Nat × Nat)) := (List.range n).map fun (k : Nat) => match o with | none => none | some i => (hp.getD i []).lookup (k : Int)
def asH (p : List Fn) (hp : List (List (Int × (Nat × Nat)))) (a : Ac) : As8 := ⟨a.f, a.pc, slotsOf hp a.ms (p.getD a.f Fn.z).slots.length, slotsOf hp a.ma 8⟩
def toS (p : List Fn) (m : Mx) : Sx8 := ⟨m.regs, m.acts.map (asH p m.hp), m.deep, m.inp, m.kind, m.code, m.res, m.steps, m.trace, m.ended⟩
structure NA (l : List Ac) : Prop where
 ss : ∀ i j, i < l.length → j < l.length → ∀ q, (l.getD i Ac.z).ms = some q → (l.getD j Ac.z).ms = some q → i = j
 aa : ∀ i j, i < l.length → j < l.length → ∀ q, (l.getD i Ac.z).ma = some q → (l.getD j Ac.z).ma = some q → i = j
 sa : ∀ i j, i < l.length → j < l.length → ∀ q, (l.getD i Ac.z).ms = some q → (l.getD j Ac.z).ma ≠ some q
theorem getD_set' {α : Type} {l : List α} {i j : Nat} {a z : α} (hj : j < l.length) : (l.set i a).getD j z = if i = j then a else l.getD j z := by
 rw [List.getD_eq_getElem?_getD, List.getElem?_set]
 split
 · simp_all
 · rw [List.getD_eq_getElem?_getD]
theorem NA.one : NA [⟨0, 0, none, none⟩] := by
 refine ⟨?_, ?_, ?_⟩ <;> intro i j hi hj q h <;> (have : i = 0 := by simpa using hi) <;> subst this <;> simp at h
theorem NA.app {l : List Ac} (h : NA l) (f : Nat) : NA (l ++ [⟨f, 0, none, none⟩]) := by
 have g : ∀ i, i < (l ++ [(⟨f, 0, none, none⟩ : Ac)]).length → (i < l.length ∧ (l ++ [(⟨f, 0, none, none⟩ : Ac)]).getD i Ac.z = l.getD i Ac.z) ∨ (l ++ [(⟨f, 0, none, none⟩ : Ac)]).getD i Ac.z = ⟨f, 0, none, none⟩ := fun i hi => by
  rcases Nat.lt_or_ge i l.length with h1 | h1
  · exact .inl ⟨h1, by rw [List.getD_eq_getElem?_getD, List.getElem?_append_left h1, ← List.getD_eq_getElem?_getD]⟩
  · right
    have : i = l.length := by simp at hi; omega
    subst this
    simp
 refine ⟨fun i j hi hj q h1 h2 => ?_, fun i j hi hj q h1 h2 => ?_, fun i j hi hj q h1 h2 => ?_⟩
 all_goals
  rcases g i hi with ⟨a1, a2⟩ | a2 <;> rw [a2] at h1
  · rcases g j hj with ⟨b1, b2⟩ | b2 <;> rw [b2] at h2
    · first | exact h.ss i j a1 b1 q h1 h2 | exact h.aa i j a1 b1 q h1 h2 | exact h.sa i j a1 b1 q h1 h2
    · cases h2
  · cases h1
theorem NA.take {l : List Ac} (h : NA l) (n : Nat) : NA (l.take n) := by
 have g : ∀ i, i < (l.take n).length → i < l.length ∧ (l.take n).getD i Ac.z = l.getD i Ac.z := fun i hi => by
  rw [List.length_take] at hi
  exact ⟨by omega, by rw [List.getD_eq_getElem?_getD, List.getElem?_take_of_lt (by omega), ← List.getD_eq_getElem?_getD]⟩
 refine ⟨fun i j hi hj q h1 h2 => ?_, fun i j hi hj q h1 h2 => ?_, fun i j hi hj q h1 h2 => ?_⟩
 all_goals
  obtain ⟨a1, a2⟩ := g i hi
  obtain ⟨b1, b2⟩ := g j hj
  rw [a2] at h1
  rw [b2] at h2
  first | exact h.ss i j a1 b1 q h1 h2 | exact h.aa i j a1 b1 q h1 h2 | exact h.sa i j a1 b1 q h1 h2
theorem NA.put {l : List Ac} (h : NA l) {t : Nat} (ht : t < l.length) {a : Ac} {N : Nat} (hN : ∀ i, i < l.length → (∀ q, (l.getD i Ac.z).ms = some q → q < N) ∧ (∀ q, (l.getD i Ac.z).ma = some q → q < N))
 (hs : a.ms = (l.getD t Ac.z).ms ∨ (a.ms = some N ∧ a.ma = (l.getD t Ac.z).ma)) (ha : a.ma = (l.getD t Ac.z).ma ∨ (a.ma = some N ∧ a.ms = (l.getD t Ac.z).ms)) : NA (l.set t a) := by
 have g : ∀ i, i < (l.set t a).length → i < l.length ∧ (l.set t a).getD i Ac.z = if t = i then a else l.getD i Ac.z := fun i hi => by
  rw [List.length_set] at hi
  exact ⟨hi, getD_set' hi⟩
 refine ⟨fun i j hi hj q h1 h2 => ?_, fun i j hi hj q h1 h2 => ?_, fun i j hi hj q h1 h2 => ?_⟩
 all_goals
  obtain ⟨a1, a2⟩ := g i hi
  obtain ⟨b1, b2⟩ := g j hj
  rw [a2] at h1
  rw [b2] at h2
 · split at h1 <;> split at h2
   · omega
   · rename_i e1 e2
     subst e1
     rcases hs with hs | ⟨hs, -⟩
     · rw [hs] at h1; exact h.ss _ j ht b1 q h1 h2
     · rw [hs] at h1; injection h1 with h1; have := (hN j b1).1 q h2; omega
   · rename_i e1 e2
     subst e2
     rcases hs with hs | ⟨hs, -⟩
     · rw [hs] at h2; exact h.ss i _ a1 ht q h1 h2
     · rw [hs] at h2; injection h2 with h2; have := (hN i a1).1 q h1; omega
   · exact h.ss i j a1 b1 q h1 h2
 · split at h1 <;> split at h2
   · omega
   · rename_i e1 e2
     subst e1
     rcases ha with ha | ⟨ha, -⟩
     · rw [ha] at h1; exact h.aa _ j ht b1 q h1 h2
     · rw [ha] at h1; injection h1 with h1; have := (hN j b1).2 q h2; omega
   · rename_i e1 e2
     subst e2
     rcases ha with ha | ⟨ha, -⟩
     · rw [ha] at h2; exact h.aa i _ a1 ht q h1 h2
     · rw [ha] at h2; injection h2 with h2; have := (hN i a1).2 q h1; omega
   · exact h.aa i j a1 b1 q h1 h2
 · split at h1 <;> split at h2
   · rename_i e1 e2
     subst e1
     rcases hs with hs | ⟨hs, hs2⟩
     · rcases ha with ha | ⟨ha, -⟩
       · rw [hs] at h1; rw [ha] at h2; exact h.sa _ _ ht ht q h1 h2
       · rw [hs] at h1; rw [ha] at h2; injection h2 with h2; have := (hN _ ht).1 q h1; omega
     · rw [hs] at h1; injection h1 with h1
       rw [hs2] at h2
       have := (hN _ ht).2 q h2; omega
   · rename_i e1 e2
     subst e1
     rcases hs with hs | ⟨hs, -⟩
     · rw [hs] at h1; exact h.sa _ j ht b1 q h1 h2
     · rw [hs] at h1; injection h1 with h1; have := (hN j b1).2 q h2; omega
   · rename_i e1 e2
     subst e2
     rcases ha with ha | ⟨ha, -⟩
     · rw [ha] at h2; exact h.sa i _ a1 ht q h1 h2
     · rw [ha] at h2; injection h2 with h2; have := (hN i a1).1 q h1; omega
   · exact h.sa i j a1 b1 q h1 h2
section
variable {p : List Fn} {m k : Mx}
theorem slotsOf_len (hp : List (List (Int × (Nat × Nat)))) (o : Option Nat) (n : Nat) : (slotsOf hp o n).length = n := by unfold slotsOf; rw [List.length_map, List.length_range]
theorem slotsOf_at (hp : List (List (Int × (Nat × Nat)))) (o : Option Nat) {n k : Nat} (hk : k < n) : (slotsOf hp o n).getD k none = match o with | none => none | some i => (hp.getD i []).lookup (k : Int) := by
 unfold slotsOf
 rw [List.getD_eq_getElem?_getD, List.getElem?_map, List.getElem?_range hk]
 rfl
theorem slotsOf_look {o : Option Nat} {n : Nat} {b : Int} (h0 : 0 ≤ b) (h1 : b < n) : (slotsOf m.hp o n).getD b.toNat none = m.look o b := by
 rw [slotsOf_at _ _ (by omega)]
 have e : ((b.toNat : Nat) : Int) = b := by omega
 rw [e]
 rfl
theorem slotsOf_none (hp : List (List (Int × (Nat × Nat)))) (n : Nat) : slotsOf hp none n = List.replicate n none := by
 unfold slotsOf
 rw [List.map_const', List.length_range]
theorem ext_getD {α : Type} {z : α} {l l' : List α} (hl : l.length = l'.length) (h : ∀ i, i < l.length → l.getD i z = l'.getD i z) : l = l' := by
 apply List.ext_getElem hl
 intro i h1 h2
 have := h i h1
 rw [List.getD_eq_getElem?_getD, List.getD_eq_getElem?_getD, List.getElem?_eq_getElem h1, List.getElem?_eq_getElem h2] at this
 exact this
theorem slotsOf_set {hp : List (List (Int × (Nat × Nat)))} {o : Option Nat} {j n : Nat} (h : o ≠ some j) (L : List (Int × (Nat × Nat))) : slotsOf (hp.set j L) o n = slotsOf hp o n := by
 unfold slotsOf
 congr 1
 funext k
 cases o with
 | none => rfl
 | some i =>
  have hij : j ≠ i := fun e => h (by rw [e])
  show (((hp.set j L).getD i []).lookup _) = _
  rw [List.getD_eq_getElem?_getD, List.getElem?_set_ne hij, ← List.getD_eq_getElem?_getD]
theorem slotsOf_app {hp : List (List (Int × (Nat × Nat)))} {o : Option Nat} {n : Nat} (h : ∀ i, o = some i → i < hp.length) (L : List (Int × (Nat × Nat))) : slotsOf (hp ++ [L]) o n = slotsOf hp o n := by
 unfold slotsOf
 congr 1
 funext k
 cases o with
 | none => rfl
 | some i =>
  have hi := h i rfl
  show (((hp ++ [L]).getD i []).lookup _) = _
  rw [List.getD_eq_getElem?_getD, List.getElem?_append_left hi, ← List.getD_eq_getElem?_getD]
theorem lookup_cons_nat (a k : Nat) (v : Nat × Nat) (L : List (Int × (Nat × Nat))) : (((a : Int), v) :: L).lookup (k : Int) = if a = k then some v else L.lookup (k : Int) := by
 rw [List.lookup_cons]
 by_cases h : a = k
 · subst h; simp
 · rw [if_neg h]
   have : ((k : Int) == (a : Int)) = false := by rw [beq_eq_false_iff_ne]; omega
   rw [this]
theorem slotsOf_put {hp : List (List (Int × (Nat × Nat)))} {j n a : Nat} (hj : j < hp.length) (v : Nat × Nat) : slotsOf (hp.set j (((a : Int), v) :: hp.getD j [])) (some j) n = (slotsOf hp (some j) n).set a (some v) := by
 refine ext_getD (z := none) (by rw [List.length_set, slotsOf_len, slotsOf_len]) fun k hk => ?_
 rw [slotsOf_len] at hk
 rw [slotsOf_at _ _ hk, getD_set' (by rw [slotsOf_len]; exact hk), slotsOf_at _ _ hk]
 show (((hp.set j _).getD j []).lookup _) = _
 rw [List.getD_eq_getElem?_getD, List.getElem?_set_self hj, Option.getD_some, lookup_cons_nat]
theorem slotsOf_new {hp : List (List (Int × (Nat × Nat)))} {n a : Nat} (v : Nat × Nat) : slotsOf (hp ++ [[((a : Int), v)]]) (some hp.length) n = (slotsOf hp none n).set a (some v) := by
 refine ext_getD (z := none) (by rw [List.length_set, slotsOf_len, slotsOf_len]) fun k hk => ?_
 rw [slotsOf_len] at hk
 rw [slotsOf_at _ _ hk, getD_set' (by rw [slotsOf_len]; exact hk), slotsOf_at _ _ hk]
 show (((hp ++ [[((a : Int), v)]]).getD hp.length []).lookup _) = _
 rw [List.getD_eq_getElem?_getD, List.getElem?_append_right nL, Nat.sub_self]
 show (([((a : Int), v)] : List (Int × (Nat × Nat))).lookup _) = _
 rw [lookup_cons_nat]
 rfl
theorem toS_top (h : 1 ≤ m.acts.length) : (toS p m).top = asH p m.hp m.top := by
 unfold Sx8.top Mx.top toS
 dsimp only
 rw [List.length_map, List.getD_eq_getElem?_getD, List.getElem?_map, List.getD_eq_getElem?_getD, List.getElem?_eq_getElem (by omega)]
 rfl
theorem toS_setTop (a : Ac) : toS p (m.setTop a) = (toS p m).setTop (asH p m.hp a) := by
 unfold Mx.setTop Sx8.setTop toS
 dsimp only
 rw [List.length_map, List.map_set]
theorem toS_ins (h : 1 ≤ m.acts.length) : (toS p m).ins p = m.ins p := by
 unfold Sx8.ins Mx.ins
 rw [toS_top h]
 rfl
theorem toS_call (f : Nat) : toS p (m.call f) = (toS p m).enter p f := by
 unfold Mx.call Sx8.enter toS
 dsimp only
 rw [List.map_append, List.length_map]
 show Sx8.mk _ (_ ++ [asH p m.hp ⟨f, 0, none, none⟩]) _ _ _ _ _ _ _ _ = _
 unfold asH
 rw [slotsOf_none, slotsOf_none]
theorem toS_take (r : Nat) (o : Option (Nat × Nat)) : toS p (m.take r o) = (toS p m).take r o := by
 unfold Mx.take Sx8.take
 cases o <;> rfl
theorem toS_defS (h : GI p k) (hna : NA k.acts) (a : Nat) (v : Nat × Nat) : toS p (k.defS (a : Int) v) = (toS p k).putS a v := by
 have h1 := h.wf.some_
 have htm := h.wf.live _ (top_mem h)
 unfold Sx8.putS
 rw [toS_top h1]
 unfold Mx.defS
 split
 · rename_i j hj
   have hjl := htm.2.2.1 j hj
   have e : (k.acts.map (asH p (k.hp.set j (((a : Int), v) :: k.hp.getD j [])))) = (k.acts.map (asH p k.hp)).set (k.acts.length - 1) { asH p k.hp k.top with ss := (asH p k.hp k.top).ss.set a (some v) } := by
    refine ext_getD (z := As8.z) (by simp) fun i hi => ?_
    rw [List.length_map] at hi
    rw [getD_set' (by rw [List.length_map]; exact hi)]
    have g : ∀ H, (k.acts.map (asH p H)).getD i As8.z = asH p H (k.acts.getD i Ac.z) := fun H => by
     rw [List.getD_eq_getElem?_getD, List.getElem?_map, List.getElem?_eq_getElem hi, List.getD_eq_getElem?_getD, List.getElem?_eq_getElem hi]; rfl
    rw [g, g]
    have hjt : (k.acts.getD (k.acts.length - 1) Ac.z).ms = some j := hj
    split
    · rename_i hii
      subst hii
      show asH p _ k.top = _
      unfold asH
      have hmt : k.top.ma ≠ some j := fun e => hna.sa _ _ (show k.acts.length - 1 < k.acts.length by omega) (show k.acts.length - 1 < k.acts.length by omega) j hjt e
      rw [hj, slotsOf_put hjl, slotsOf_set hmt]
    · rename_i hii
      unfold asH
      rw [slotsOf_set (fun e => hii (hna.ss _ _ (by omega) hi j hjt e)), slotsOf_set (fun e => hna.sa _ _ (by omega) hi j hjt e)]
   show Sx8.mk _ (k.acts.map (asH p (k.hp.set j _))) _ _ _ _ _ _ _ _ = _
   rw [e]
   unfold Sx8.setTop toS
   dsimp only
   rw [List.length_map]
 · rename_i hj
   have e : ((k.acts.set (k.acts.length - 1) { k.top with ms := some k.hp.length }).map (asH p (k.hp ++ [[((a : Int), v)]]))) = (k.acts.map (asH p k.hp)).set (k.acts.length - 1) { asH p k.hp k.top with ss := (asH p k.hp k.top).ss.set a (some v) } := by
    refine ext_getD (z := As8.z) (by simp) fun i hi => ?_
    rw [List.length_map, List.length_set] at hi
    rw [getD_set' (by rw [List.length_map]; exact hi)]
    have g : ∀ H (l : List Ac), i < l.length → (l.map (asH p H)).getD i As8.z = asH p H (l.getD i Ac.z) := fun H l hi => by
     rw [List.getD_eq_getElem?_getD, List.getElem?_map, List.getElem?_eq_getElem hi, List.getD_eq_getElem?_getD, List.getElem?_eq_getElem hi]; rfl
    rw [g _ _ (by rw [List.length_set]; exact hi), g _ _ hi, getD_set' hi]
    split
    · unfold asH
      dsimp only
      rw [slotsOf_new, hj, slotsOf_app htm.2.2.2]
    · have hl := h.wf.live _ (getD_mem' (z := Ac.z) hi)
      unfold asH
      rw [slotsOf_app hl.2.2.1, slotsOf_app hl.2.2.2]
   show Sx8.mk _ ((k.acts.set (k.acts.length - 1) { k.top with ms := some k.hp.length }).map (asH p (k.hp ++ [[((a : Int), v)]]))) _ _ _ _ _ _ _ _ = _
   rw [e]
   unfold Sx8.setTop toS
   dsimp only
   rw [List.length_map]
   rfl
theorem toS_defA (h : GI p k) (hna : NA k.acts) (a : Nat) (v : Nat × Nat) : toS p (k.defA (a : Int) v) = (toS p k).putA a v := by
 have h1 := h.wf.some_
 have htm := h.wf.live _ (top_mem h)
 unfold Sx8.putA
 rw [toS_top h1]
 unfold Mx.defA
 split
 · rename_i j hj
   have hjl := htm.2.2.2 j hj
   have e : (k.acts.map (asH p (k.hp.set j (((a : Int), v) :: k.hp.getD j [])))) = (k.acts.map (asH p k.hp)).set (k.acts.length - 1) { asH p k.hp k.top with aa := (asH p k.hp k.top).aa.set a (some v) } := by
    refine ext_getD (z := As8.z) (by simp) fun i hi => ?_
    rw [List.length_map] at hi
    rw [getD_set' (by rw [List.length_map]; exact hi)]
    have g : ∀ H, (k.acts.map (asH p H)).getD i As8.z = asH p H (k.acts.getD i Ac.z) := fun H => by
     rw [List.getD_eq_getElem?_getD, List.getElem?_map, List.getElem?_eq_getElem hi, List.getD_eq_getElem?_getD, List.getElem?_eq_getElem hi]; rfl
    rw [g, g]
    have hjt : (k.acts.getD (k.acts.length - 1) Ac.z).ma = some j := hj
    split
    · rename_i hii
      subst hii
      show asH p _ k.top = _
      unfold asH
      have hmt : k.top.ms ≠ some j := fun e => hna.sa _ _ (show k.acts.length - 1 < k.acts.length by omega) (show k.acts.length - 1 < k.acts.length by omega) j e hjt
      rw [hj, slotsOf_put hjl, slotsOf_set hmt]
    · rename_i hii
      unfold asH
      rw [slotsOf_set (fun e => hna.sa _ _ hi (by omega) j e hjt), slotsOf_set (fun e => hii (hna.aa _ _ (by omega) hi j hjt e))]
   show Sx8.mk _ (k.acts.map (asH p (k.hp.set j _))) _ _ _ _ _ _ _ _ = _
   rw [e]
   unfold Sx8.setTop toS
   dsimp only
   rw [List.length_map]
 · rename_i hj
   have e : ((k.acts.set (k.acts.length - 1) { k.top with ma := some k.hp.length }).map (asH p (k.hp ++ [[((a : Int), v)]]))) = (k.acts.map (asH p k.hp)).set (k.acts.length - 1) { asH p k.hp k.top with aa := (asH p k.hp k.top).aa.set a (some v) } := by
    refine ext_getD (z := As8.z) (by simp) fun i hi => ?_
    rw [List.length_map, List.length_set] at hi
    rw [getD_set' (by rw [List.length_map]; exact hi)]
    have g : ∀ H (l : List Ac), i < l.length → (l.map (asH p H)).getD i As8.z = asH p H (l.getD i Ac.z) := fun H l hi => by
     rw [List.getD_eq_getElem?_getD, List.getElem?_map, List.getElem?_eq_getElem hi, List.getD_eq_getElem?_getD, List.getElem?_eq_getElem hi]; rfl
    rw [g _ _ (by rw [List.length_set]; exact hi), g _ _ hi, getD_set' hi]
    split
    · unfold asH
      dsimp only
      rw [slotsOf_new, hj, slotsOf_app htm.2.2.1]
    · have hl := h.wf.live _ (getD_mem' (z := Ac.z) hi)
      unfold asH
      rw [slotsOf_app hl.2.2.1, slotsOf_app hl.2.2.2]
   show Sx8.mk _ ((k.acts.set (k.acts.length - 1) { k.top with ma := some k.hp.length }).map (asH p (k.hp ++ [[((a : Int), v)]]))) _ _ _ _ _ _ _ _ = _
   rw [e]
   unfold Sx8.setTop toS
   dsimp only
   rw [List.length_map]
   rfl
theorem toS_moveIn (h : GI p k) (hna : NA k.acts) (a : Nat) (o : Option (Nat × Nat)) : toS p (k.moveIn (a : Int) o) = (toS p k).moveIn a o := by
 unfold Mx.moveIn Sx8.moveIn
 cases o with
 | none => rfl
 | some v => exact toS_defS h hna a v
theorem core_pl (x : Ins) (h : x.op ≠ 0) : ∀ m : Mx, ((toS p m).core.pl0 x).regs = (m.plain x).regs ∧ ((toS p m).core.pl0 x).inp = (m.plain x).inp ∧ ((toS p m).core.pl0 x).trace = (m.plain x).trace ∧ ((toS p m).core.pl0 x).kind = (m.plain x).kind ∧ ((toS p m).core.pl0 x).ended = (m.plain x).ended := fun m => by
 unfold Mx.pl0
 rw [if_neg h]
 by_cases h1 : x.op = 1
 · simp only [Mx.plain, if_pos h1]; exact ⟨rfl, rfl, rfl, rfl, rfl⟩
 by_cases h2 : x.op = 11
 · simp only [Mx.plain, if_neg h1, if_pos h2]; exact ⟨rfl, rfl, rfl, rfl, rfl⟩
 by_cases h3 : x.op = 12
 · simp only [Mx.plain, if_neg h1, if_neg h2, if_pos h3]; exact ⟨rfl, rfl, rfl, rfl, rfl⟩
 by_cases h4 : x.op = 13
 · simp only [Mx.plain, if_neg h1, if_neg h2, if_neg h3, if_pos h4]; exact ⟨rfl, rfl, rfl, rfl, rfl⟩
 by_cases h5 : x.op = 14
 · simp only [Mx.plain, if_neg h1, if_neg h2, if_neg h3, if_neg h4, if_pos h5]; exact ⟨rfl, rfl, rfl, rfl, rfl⟩
 have er : ∀ r, rg (toS p m).core r = rg m r := fun r => rfl
 by_cases h6 : (apV x.op (rg m x.b.toNat).1 (rg m x.b.toNat).2 (rg m x.c.toNat).1 (rg m x.c.toNat).2).2 = true
 · simp only [Mx.plain, if_neg h1, if_neg h2, if_neg h3, if_neg h4, if_neg h5, er, if_pos h6]; exact ⟨rfl, rfl, rfl, rfl, rfl⟩
 · simp only [Mx.plain, if_neg h1, if_neg h2, if_neg h3, if_neg h4, if_neg h5, er, if_neg h6]; exact ⟨rfl, rfl, rfl, rfl, rfl⟩
theorem plain_acts (m : Mx) (x : Ins) : (m.plain x).acts = m.acts ∧ (m.plain x).hp = m.hp ∧ (m.plain x).deep = m.deep ∧ (m.plain x).code = m.code ∧ (m.plain x).res = m.res ∧ (m.plain x).steps = m.steps := by
 unfold Mx.plain
 repeat' split
 all_goals exact ⟨rfl, rfl, rfl, rfl, rfl, rfl⟩
theorem toS_plain (x : Ins) (h : x.op ≠ 0) (m : Mx) : toS p (m.plain x) = (toS p m).pl x := by
 obtain ⟨h1, h2, h3, h4, h5⟩ := core_pl (p := p) x h m
 obtain ⟨g1, g2, g3, g4, g5, g6⟩ := plain_acts m x
 unfold Sx8.pl
 rw [h1, h2, h3, h4, h5]
 unfold toS
 rw [g1, g2, g3, g4, g5, g6]
theorem toS_const (x : Ins) (h : x.op = 0) (m : Mx) : toS p { m with regs := m.regs.set x.a.toNat (x.imm.toNat, 0) } = (toS p m).pl x := by
 unfold Sx8.pl Mx.pl0
 rw [if_pos h]
 rfl
theorem toS_next (h : 1 ≤ m.acts.length) (h20 : (m.ins p).op ≠ 20) (h21 : (m.ins p).op = 21 → (rg m (m.ins p).a.toNat).1 = 0) : toS p m.next = (toS p m).adv p := by
 have hp : (toS p m).newpc p = m.top.pc + 1 := by
  unfold Sx8.newpc
  rw [toS_ins h, toS_top h, if_neg h20, if_neg (fun ⟨e, g⟩ => g (h21 e))]
  rfl
 unfold Sx8.adv
 rw [hp, toS_top h]
 show toS p { m.setTop { m.top with pc := m.top.pc + 1 } with steps := m.steps + 1 } = _
 have e := toS_setTop (p := p) (m := m) { m.top with pc := m.top.pc + 1 }
 show { toS p (m.setTop { m.top with pc := m.top.pc + 1 }) with steps := m.steps + 1 } = _
 rw [e]
 rfl
theorem toS_goto (h : 1 ≤ m.acts.length) {pc : Nat} (hp : (toS p m).newpc p = pc) : toS p { m.setTop { m.top with pc := pc } with steps := m.steps + 1 } = (toS p m).adv p := by
 unfold Sx8.adv
 rw [hp, toS_top h]
 have e := toS_setTop (p := p) (m := m) { m.top with pc := pc }
 show { toS p (m.setTop { m.top with pc := pc }) with steps := m.steps + 1 } = _
 rw [e]
 rfl
theorem na_next (h : NA m.acts) (h1 : 1 ≤ m.acts.length) {N : Nat} (hN : ∀ i, i < m.acts.length → (∀ q, (m.acts.getD i Ac.z).ms = some q → q < N) ∧ (∀ q, (m.acts.getD i Ac.z).ma = some q → q < N)) (pc : Nat) : NA (m.acts.set (m.acts.length - 1) { m.top with pc := pc }) :=
 h.put (by omega) hN (.inl rfl) (.inl rfl)
theorem GI.hN (h : GI p k) : ∀ i, i < k.acts.length → (∀ q, (k.acts.getD i Ac.z).ms = some q → q < k.hp.length) ∧ (∀ q, (k.acts.getD i Ac.z).ma = some q → q < k.hp.length) := fun i hi => by
 have := h.wf.live _ (getD_mem' (z := Ac.z) hi)
 exact ⟨this.2.2.1, this.2.2.2⟩
theorem na_defS (h : GI p k) (hna : NA k.acts) (a : Int) (v : Nat × Nat) : NA (k.defS a v).acts := by
 unfold Mx.defS
 split
 · exact hna
 · exact hna.put (show k.acts.length - 1 < k.acts.length by have := h.wf.some_; omega) h.hN (.inr ⟨rfl, rfl⟩) (.inl rfl)
theorem na_defA (h : GI p k) (hna : NA k.acts) (a : Int) (v : Nat × Nat) : NA (k.defA a v).acts := by
 unfold Mx.defA
 split
 · exact hna
 · exact hna.put (show k.acts.length - 1 < k.acts.length by have := h.wf.some_; omega) h.hN (.inl rfl) (.inr ⟨rfl, rfl⟩)
theorem na_take (hna : NA k.acts) (r : Nat) (o : Option (Nat × Nat)) : NA (k.take r o).acts := by
 rw [acts_take]; exact hna
theorem na_moveIn (h : GI p k) (hna : NA k.acts) (a : Int) (o : Option (Nat × Nat)) : NA (k.moveIn a o).acts := by
 unfold Mx.moveIn
 split
 · exact na_defS h hna _ _
 · exact hna
theorem stepS_pl {s : Sx8} (h0 : 0 ≤ (s.ins p).op) (h : (s.ins p).op ≤ 14) : stepS p s = (s.adv p).pl (s.ins p) := by
 unfold stepS
 dsimp only
 rw [if_neg (by omega), if_neg (by omega), if_neg (by omega), if_neg (by omega), if_neg (by omega), if_neg (by omega), if_neg (by omega), if_neg (by omega), if_neg (by omega)]
theorem sim_step (hp : GP p) (h : GI p m) (hna : NA m.acts) (ht : m.trace.length ≤ 1000000) : toS p (stepX p m) = stepS p (toS p m) ∧ NA (stepX p m).acts := by
 have hl := h.wf.live _ (top_mem h)
 have hg := hp.fns _ hl.1
 obtain ⟨⟨q1, q2⟩, ka, kb, -⟩ := instr_ok (hg.ins _ (ins_mem h))
 have hnl := not_last hp h
 have hs := h.wf.some_
 have hx := toS_ins (p := p) hs
 have hal : (toS p m).acts.length = m.acts.length := List.length_map ..
 have hnn : NA m.next.acts := na_next hna hs h.hN _
 have hns : 1 ≤ m.next.acts.length := by rw [acts_next]; exact hs
 unfold stepX
 rcases ok_x hp h ht with ⟨⟨o1, o2⟩, -⟩ | ⟨hn, hok⟩
 · rw [if_pos ⟨o1, o2⟩, stepS_pl (by rw [hx]; omega) (by rw [hx]; omega), hx, ← toS_next hs (by omega) (by omega), toS_plain _ (by omega), (plain_acts _ _).1]
   exact ⟨rfl, hnn⟩
 · rw [if_neg hn]
   rcases hok with ⟨ho, ⟨ha0, ha1⟩, hi⟩ | ⟨ho, ha0, ha1⟩ | ho | ⟨ho, ⟨ha0, ha1⟩, hb0, hb1⟩ | ⟨ho, ⟨ha0, ha1, ha2⟩, ⟨hb0, hb1⟩, ⟨hv1, hv2⟩, hs0, hs1⟩ | ⟨ho, ⟨ha0, ha1⟩, hb0, hb1⟩ | ⟨ho, ⟨ha0, ha1⟩, ⟨hb0, hb1⟩, hl2⟩ | ⟨ho, ⟨ha0, ha1⟩, hb0⟩ | ⟨ho, ⟨ha0, ha1⟩, hb0, hb1⟩ | ⟨ho, ha0⟩ | ⟨ho, hi⟩
   ·
     have e : stepM p m = { m.next with regs := m.next.regs.set (m.ins p).a.toNat ((m.ins p).imm.toNat, 0) } := by unfold stepM; simp only [ho, if_true]
     rw [e, stepS_pl (by rw [hx]; omega) (by rw [hx]; omega), hx, ← toS_next hs (by omega) (by omega)]
     exact ⟨toS_const _ ho _, hnn⟩
   all_goals
    have hk : (m.ins p).op ≠ 20 → ((m.ins p).op = 21 → (rg m (m.ins p).a.toNat).1 = 0) → (toS p m).adv p = toS p m.next := fun a b => (toS_next hs a b).symm
   · have e : stepM p m = m.next.call (m.ins p).a.toNat := by unfold stepM; simp only [ho]; rfl
     have e2 : stepS p (toS p m) = ((toS p m).adv p).enter p (m.ins p).a.toNat := by unfold stepS; simp only [hx, ho]; rfl
     rw [e, e2, hk (by omega) (by omega), toS_call]
     exact ⟨rfl, hnn.app _⟩
   · have e : stepM p m = if m.acts.length = 1 then ({ m.next with acts := m.next.acts.take 0, res := rg m.next 0 } : Mx).stop 0 else { m.next with acts := m.next.acts.take (m.acts.length - 1) } := by unfold stepM; simp only [ho]; rfl
     have e2 : stepS p (toS p m) = if m.acts.length = 1 then ({ (toS p m).adv p with acts := [], res := sg ((toS p m).adv p) 0 } : Sx8).stop 0 else { (toS p m).adv p with acts := ((toS p m).adv p).acts.take (m.acts.length - 1) } := by unfold stepS; simp only [hx, ho, hal]; rfl
     rw [e, e2, hk (by omega) (by omega)]
     split
     · exact ⟨rfl, hnn.take 0⟩
     · refine ⟨?_, hnn.take _⟩
       show Sx8.mk _ ((m.next.acts.take (m.acts.length - 1)).map _) _ _ _ _ _ _ _ _ = _
       rw [List.map_take]
       rfl
   · have e : stepM p m = m.next.take (m.ins p).a.toNat (m.next.look m.top.ms (m.ins p).b) := by unfold stepM; simp only [ho]; rfl
     have e2 : stepS p (toS p m) = ((toS p m).adv p).take (m.ins p).a.toNat (((toS p m).adv p).top.ss.getD (m.ins p).b.toNat none) := by unfold stepS; simp only [hx, ho]; rfl
     have kb' : 0 ≤ (m.ins p).b ∧ (m.ins p).b < (p.getD m.top.f Fn.z).slots.length := by rw [ho] at kb; exact kb
     rw [e, e2, hk (by omega) (by omega), toS_take, toS_top hns]
     refine ⟨?_, na_take hnn _ _⟩
     have et : m.next.top.ms = m.top.ms ∧ m.next.top.f = m.top.f := by rw [next_top hs]; exact ⟨rfl, rfl⟩
     congr 1
     show _ = (slotsOf m.next.hp m.next.top.ms (p.getD m.next.top.f Fn.z).slots.length).getD _ none
     rw [et.1, et.2, slotsOf_look kb'.1 kb'.2]
   · have e : stepM p m = m.next.defS (m.ins p).a (vcut (rg m.next (m.ins p).b.toNat) (szOf8 p m (m.ins p))) := by unfold stepM; simp only [ho]; rfl
     have e2 : stepS p (toS p m) = ((toS p m).adv p).putS (m.ins p).a.toNat (vcut (sg ((toS p m).adv p) (m.ins p).b.toNat) ((p.getD ((toS p m).adv p).top.f Fn.z).slots.getD (m.ins p).a.toNat (0, 0)).1) := by unfold stepS; simp only [hx, ho]; rfl
     have hgn := h.next (hnl (by rw [ho]; rfl))
     have ea : ((m.ins p).a.toNat : Int) = (m.ins p).a := by omega
     have et : ((toS p m.next).top).f = m.top.f := by rw [toS_top hns, next_top hs]; rfl
     have hd := toS_defS hgn hnn (m.ins p).a.toNat (vcut (rg m.next (m.ins p).b.toNat) (szOf8 p m (m.ins p)))
     rw [ea] at hd
     rw [e, e2, hk (by omega) (by omega), hd, et]
     exact ⟨rfl, na_defS hgn hnn _ _⟩
   · have e : stepM p m = m.next.defA (m.ins p).a (rg m.next (m.ins p).b.toNat) := by unfold stepM; simp only [ho]; rfl
     have e2 : stepS p (toS p m) = ((toS p m).adv p).putA (m.ins p).a.toNat (sg ((toS p m).adv p) (m.ins p).b.toNat) := by unfold stepS; simp only [hx, ho]; rfl
     have hgn := h.next (hnl (by rw [ho]; rfl))
     have ea : ((m.ins p).a.toNat : Int) = (m.ins p).a := by omega
     have hd := toS_defA hgn hnn (m.ins p).a.toNat (rg m.next (m.ins p).b.toNat)
     rw [ea] at hd
     rw [e, e2, hk (by omega) (by omega), hd]
     exact ⟨rfl, na_defA hgn hnn _ _⟩
   · have e : stepM p m = m.next.take (m.ins p).a.toNat (m.next.look (m.acts.getD (m.acts.length - 2) Ac.z).ma (m.ins p).b) := by unfold stepM; simp only [ho]; rfl
     have e2 : stepS p (toS p m) = ((toS p m).adv p).take (m.ins p).a.toNat ((((toS p m).adv p).acts.getD (m.acts.length - 2) As8.z).aa.getD (m.ins p).b.toNat none) := by unfold stepS; simp only [hx, ho, hal]; rfl
     have kb' : 0 ≤ (m.ins p).b ∧ (m.ins p).b < (p.getD m.top.f Fn.z).params := by rw [ho] at kb; exact kb
     have hprm := hg.prm
     rw [e, e2, hk (by omega) (by omega), toS_take]
     refine ⟨?_, na_take hnn _ _⟩
     congr 1
     have e3 : ((toS p m.next).acts.getD (m.acts.length - 2) As8.z).aa = slotsOf m.next.hp (m.acts.getD (m.acts.length - 2) Ac.z).ma 8 := by
      show ((m.next.acts.map (asH p m.next.hp)).getD (m.acts.length - 2) As8.z).aa = _
      have hlt : m.acts.length - 2 < m.next.acts.length := by rw [acts_next]; omega
      rw [List.getD_eq_getElem?_getD, List.getElem?_map, List.getElem?_eq_getElem hlt]
      show slotsOf _ (m.next.acts[m.acts.length - 2]).ma 8 = _
      have e4 : m.next.acts[m.acts.length - 2] = m.acts.getD (m.acts.length - 2) Ac.z := by
       have : m.next.acts[m.acts.length - 2]? = m.acts[m.acts.length - 2]? := by
        show (m.acts.set (m.acts.length - 1) _)[m.acts.length - 2]? = _
        rw [List.getElem?_set_ne (by omega)]
       rw [List.getD_eq_getElem?_getD, ← this, List.getElem?_eq_getElem hlt]
       rfl
      rw [e4]
     rw [e3, slotsOf_look kb'.1 (by omega)]
   · have e : stepM p m = if (rg m.next (m.ins p).a.toNat).1 = 0 then m.next else m.next.setTop { m.next.top with pc := (m.ins p).b.toNat } := by unfold stepM; simp only [ho]; rfl
     have e2 : stepS p (toS p m) = (toS p m).adv p := by unfold stepS; simp only [hx, ho]; rfl
     rw [e, e2]
     by_cases hz : (rg m.next (m.ins p).a.toNat).1 = 0
     · rw [if_pos hz]
       exact ⟨toS_next hs (by omega) (fun _ => hz), hnn⟩
     · rw [if_neg hz, next_setTop hs]
       refine ⟨toS_goto hs ?_, na_next hna hs h.hN _⟩
       unfold Sx8.newpc
       rw [hx, if_neg (by omega), if_pos ⟨ho, hz⟩]
   · have e : stepM p m = m.next.moveIn (m.ins p).a (m.next.look m.top.ms (m.ins p).b) := by unfold stepM; simp only [ho]; rfl
     have e2 : stepS p (toS p m) = ((toS p m).adv p).moveIn (m.ins p).a.toNat (((toS p m).adv p).top.ss.getD (m.ins p).b.toNat none) := by unfold stepS; simp only [hx, ho]; rfl
     have kb' : 0 ≤ (m.ins p).b ∧ (m.ins p).b < (p.getD m.top.f Fn.z).slots.length := by rw [ho] at kb; exact kb
     have hgn := h.next (hnl (by rw [ho]; rfl))
     have ea : ((m.ins p).a.toNat : Int) = (m.ins p).a := by omega
     have hd := toS_moveIn hgn hnn (m.ins p).a.toNat (m.next.look m.top.ms (m.ins p).b)
     rw [ea] at hd
     rw [e, e2, hk (by omega) (by omega), hd, toS_top hns]
     refine ⟨?_, na_moveIn hgn hnn _ _⟩
     have et : m.next.top.ms = m.top.ms ∧ m.next.top.f = m.top.f := by rw [next_top hs]; exact ⟨rfl, rfl⟩
     congr 1
     show _ = (slotsOf m.next.hp m.next.top.ms (p.getD m.next.top.f Fn.z).slots.length).getD _ none
     rw [et.1, et.2, slotsOf_look kb'.1 kb'.2]
   · have e : stepM p m = m.next.setTop { m.next.top with pc := (m.ins p).a.toNat } := by unfold stepM; simp only [ho]; rfl
     have e2 : stepS p (toS p m) = (toS p m).adv p := by unfold stepS; simp only [hx, ho]; rfl
     rw [e, e2, next_setTop hs]
     refine ⟨toS_goto hs ?_, na_next hna hs h.hN _⟩
     unfold Sx8.newpc
     rw [hx, if_pos ho]
   · have e : stepM p m = ({ m.next with code := (m.ins p).imm.toNat } : Mx).stop 1 := by unfold stepM; simp only [ho]; rfl
     have e2 : stepS p (toS p m) = ({ (toS p m).adv p with code := (m.ins p).imm.toNat } : Sx8).stop 1 := by unfold stepS; simp only [hx, ho]; rfl
     rw [e, e2, hk (by omega) (by omega)]
     exact ⟨rfl, hnn⟩
end
end Go.Proofs.YtdijeijbcoeopaaDoor.pm
