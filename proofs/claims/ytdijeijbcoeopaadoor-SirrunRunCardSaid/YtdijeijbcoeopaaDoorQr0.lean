/- The reference's machine: words for one step. -/
import Derived.Test.YtdijeijbcoeopaaDoorGQm
import Derived.Test.YtdijeijbcoeopaaDoorQk
set_option linter.unusedVariables false
set_option maxRecDepth 10000
namespace Go.Proofs.YtdijeijbcoeopaaDoor.pm
open Go.RowKit
section
variable {w w' : World} {mb ca ct : Nat} {pv iv : Value} {As At : Option Addr} {s s1 : Sx8} {vs : List Value}
theorem own_ne {base g n c size : Nat} {e : TypeId} {xs : List Value} (h : w.ownsRow base e size (.slice (some ⟨g, 0, none⟩) n c) n xs) {q : Nat} (hq : g ≠ q) (j : Nat) (u : Value) : (w.setCell ⟨q, j, none⟩ u).ownsRow base e size (.slice (some ⟨g, 0, none⟩) n c) n xs :=
 h.kept (grown_mb w q j u) (.inr (fun e => hq (by simpa [Value.ownBlock] using e)))
theorem SAt.relay2 {W : World} {g c : Nat} (h : SAt w mb pv iv As ca At ct s) (hg : w.grownBy W (some mb)) (hb : Blk W mb 83 (rcs pv iv (.slice As s.acts.length ca) (.slice At s.trace.length ct) s1)) (e1 : s1.acts = s.acts) (e2 : s1.trace = s.trace)
 (hrx : Rx w (mb + 1) w.heap.size 4 As s.acts.length vs) (hv : SVx w (mb + 1) w.heap.size vs s.acts)
 (own : W.ownsRow w.heap.size 100 4 (.slice (some ⟨g, 0, none⟩) s.acts.length c) s.acts.length vs) {t : Nat} (ht : t < s.acts.length) (a : As8) {Sl Ar : Option Addr} {c1 c2 : Nat}
 (hs : CX w (mb + 1) w.heap.size Sl a.ss) (ha : CX w (mb + 1) w.heap.size Ar a.aa) (k1 : a.ss.length ≤ c1 ∧ a.ss.length ≤ maxLen) (k2 : a.aa.length ≤ c2 ∧ a.aa.length ≤ maxLen) :
 SAt (((((W.setCell ⟨g, t * 4, none⟩ (.int .i64 a.f)).setCell ⟨g, t * 4 + 1, none⟩ (.int .i64 a.pc)).setCell ⟨g, t * 4 + 2, none⟩ (.slice Sl a.ss.length c1)).setCell ⟨g, t * 4 + 3, none⟩ (.slice Ar a.aa.length c2)).setCell ⟨mb, 17, none⟩ (.slice (some ⟨g, 0, none⟩) s.acts.length c)) mb pv iv (some ⟨g, 0, none⟩) c At ct { s1 with acts := s.acts.set t a } ∧
 w.grownBy (((((W.setCell ⟨g, t * 4, none⟩ (.int .i64 a.f)).setCell ⟨g, t * 4 + 1, none⟩ (.int .i64 a.pc)).setCell ⟨g, t * 4 + 2, none⟩ (.slice Sl a.ss.length c1)).setCell ⟨g, t * 4 + 3, none⟩ (.slice Ar a.aa.length c2)).setCell ⟨mb, 17, none⟩ (.slice (some ⟨g, 0, none⟩) s.acts.length c)) (some mb) := by
 have hmb : mb < w.heap.size := h.blk.lt
 have hgw : w.heap.size ≤ g := (own.lt g rfl).1
 have own6 := own_set4 own t (.int .i64 a.f) (.int .i64 a.pc) (.slice Sl a.ss.length c1) (.slice Ar a.aa.length c2)
 have hne : mb ≠ g := by omega
 have hb6 := (((hb.far (p := ⟨g, t * 4, none⟩) hne (.int .i64 a.f)).far (p := ⟨g, t * 4 + 1, none⟩) hne (.int .i64 a.pc)).far (p := ⟨g, t * 4 + 2, none⟩) hne (.slice Sl a.ss.length c1)).far (p := ⟨g, t * 4 + 3, none⟩) hne (.slice Ar a.aa.length c2)
 have hg6 := grownBy_set (grownBy_set (grownBy_set (grownBy_set hg (p := ⟨g, t * 4, none⟩) hgw (.int .i64 a.f)) (p := ⟨g, t * 4 + 1, none⟩) hgw (.int .i64 a.pc)) (p := ⟨g, t * 4 + 2, none⟩) hgw (.slice Sl a.ss.length c1)) (p := ⟨g, t * 4 + 3, none⟩) hgw (.slice Ar a.aa.length c2)
 generalize (((W.setCell ⟨g, t * 4, none⟩ (.int .i64 a.f)).setCell ⟨g, t * 4 + 1, none⟩ (.int .i64 a.pc)).setCell ⟨g, t * 4 + 2, none⟩ (.slice Sl a.ss.length c1)).setCell ⟨g, t * 4 + 3, none⟩ (.slice Ar a.aa.length c2) = W6 at own6 hb6 hg6 ⊢
 have hg7 : w.grownBy (W6.setCell ⟨mb, 17, none⟩ (.slice (some ⟨g, 0, none⟩) s.acts.length c)) (some mb) := grownBy_trans hg6 (grown_mb _ _ _ _)
 have hvl : vs.length = s.acts.length * 4 := hrx.1.1
 have hl : (s.acts.set t a).length = s.acts.length := List.length_set ..
 have hk := Kp.of_grown (lo := mb + 1) hg7 nL (.inl (by omega))
 have hz : (W6.setCell ⟨mb, 17, none⟩ (.slice (some ⟨g, 0, none⟩) s.acts.length c)).heap.size = W6.heap.size := by simp [World.setCell]
 refine ⟨⟨?_, ⟨_, ?_, SVx.set ((hv.keep hk).more nL hg7.size) hvl ht a ((hs.keep hk).more nL hg7.size) ((ha.keep hk).more nL hg7.size) k1 k2⟩, ?_, ?_⟩, hg7⟩
 · have h7 := hb6.set_ 17 (.slice (some ⟨g, 0, none⟩) s.acts.length c)
   show Blk _ mb _ (rcs pv iv (.slice (some ⟨g, 0, none⟩) (s.acts.set t a).length c) (.slice At s1.trace.length ct) _)
   rw [hl, e2]
   exact h7
 · show Rx _ (mb + 1) _ 4 _ (s.acts.set t a).length _
   rw [hl, hz]
   exact ((Rx.of_own own6).more (by omega) nL).keep ((Kp.refl _ _ _).set (p := ⟨mb, 17, none⟩) (.inl (by show mb < mb + 1; omega)) _)
 · show Rx _ (mb + 1) _ 2 At s1.trace.length (s1.trace.flatMap vcl)
   rw [e2]
   exact (h.tr.keep hk).more nL hg7.size
 · show (s.acts.set t a).length ≤ c ∧ s1.trace.length ≤ ct
   rw [hl, e2]
   exact ⟨(own_cap own).2, h.caps.2⟩
end
def kS (s : Sx8) (t np : Nat) : Sx8 := { s with steps := s.steps + 1, acts := s.acts.set t { s.acts.getD t As8.z with pc := np } }
def StD (mb : Nat) (pv : Value) (s : Sx8) (w : World) (e : Ending) (w' : World) : Prop :=
 e = .returned (.tuple #[]) ∧ w.grownBy w' (some mb) ∧ ∃ iv' As' ca' At' ct', SAt w' mb pv iv' As' ca' At' ct' s ∧ InX w' mb iv' s.inp
theorem InX.grown {w w' : World} {mb : Nat} {iv : Value} {inp : List Nat} (h : InX w mb iv inp) (hg : w.grownBy w' (some mb)) (hm : mb < w.heap.size) : InX w' mb iv inp :=
 h.after ⟨hg.os, hg.tape, hg.output, hg.size, fun i hi => hg.block i (by omega) (fun e => by injection e; omega)⟩
section
variable {W1 W5 W6 W7 W8 : World} {mb ca ct g g4 g5 cap t f pc np d3 d4 : Nat} {pv iv : Value} {As At Sl Ar : Option Addr} {s : Sx8} {vs : List Value} {u1 u2 u3 : Value} {x : Array Value} {a0 : As8}
theorem mid6 (hB : Below W1.heap.size W1 W5) (h : SAt W1 mb pv iv As ca At ct s) (hK4 : Blk W5 g4 100 #[u1, .int .i64 (pc : Int), u2, u3]) (hK5 : Blk W5 g5 50 x)
 (ho : W5.ownsRow W1.heap.size 100 4 (.slice (some ⟨g, 0, none⟩) (t + 1) cap) (t + 1) vs) (h1 : W1.heap.size ≤ g4) (hg : g < g4) (h45 : g4 < g5)
 (hW : W6 = (W5.setCell ⟨mb, 26, none⟩ (.int .i64 ((s.steps : Int) + 1))).setCell ⟨g4, 1, none⟩ (.int .i64 ((pc : Int) + 1))) :
 Blk W6 mb 83 (rcs pv iv (.slice As s.acts.length ca) (.slice At s.trace.length ct) { s with steps := s.steps + 1 }) ∧ Blk W6 g4 100 #[u1, .int .i64 ((pc + 1 : Nat) : Int), u2, u3] ∧ Blk W6 g5 50 x ∧
 W6.ownsRow W1.heap.size 100 4 (.slice (some ⟨g, 0, none⟩) (t + 1) cap) (t + 1) vs ∧ W1.grownBy W6 (some mb) := by
 have hlt := h.blk.lt
 have e1 : mb ≠ g4 := by omega
 have e2 : g4 ≠ mb := by omega
 have e3 : g5 ≠ mb := by omega
 have e4 : g5 ≠ g4 := by omega
 subst hW
 exact ⟨((h.after hB).blk.set_ 26 _).far (p := ⟨g4, 1, none⟩) e1 _, (hK4.far (p := ⟨mb, 26, none⟩) e2 _).set_ 1 _, (hK5.far (p := ⟨mb, 26, none⟩) e3 _).far (p := ⟨g4, 1, none⟩) e4 _, own_ne (own_far ho ⟨mb, 26, none⟩ hlt _) (by omega) _ _, grownBy_set (grownBy_trans (grownBy_of_below hB _) (grown_mb _ _ _ _)) (p := ⟨g4, 1, none⟩) h1 _⟩
theorem fin8 (h : SAt W1 mb pv iv As ca At ct s) (hg : W1.grownBy W7 (some mb)) (hb : Blk W7 mb 83 (rcs pv iv (.slice As s.acts.length ca) (.slice At s.trace.length ct) { s with steps := s.steps + 1 }))
 (hrx : Rx W1 (mb + 1) W1.heap.size 4 As s.acts.length vs) (hv : SVx W1 (mb + 1) W1.heap.size vs s.acts) (ho : W7.ownsRow W1.heap.size 100 4 (.slice (some ⟨g, 0, none⟩) (t + 1) cap) (t + 1) vs) (ht : s.acts.length = t + 1) (ha0 : a0 = s.acts.getD t As8.z)
 (hs : CX W1 (mb + 1) W1.heap.size Sl a0.ss) (ha : CX W1 (mb + 1) W1.heap.size Ar a0.aa) (hk : (a0.ss.length ≤ d3 ∧ a0.ss.length ≤ maxLen) ∧ (a0.aa.length ≤ d4 ∧ a0.aa.length ≤ maxLen)) (hin : InX W1 mb iv s.inp) (h5 : Blk W7 g5 50 x) (h5m : ¬ g5 = mb) (h5g : g < g5)
 (hW : W8 = ((((W7.setCell ⟨g, t * 4, none⟩ (.int .i64 (a0.f : Int))).setCell ⟨g, t * 4 + 1, none⟩ (.int .i64 (np : Int))).setCell ⟨g, t * 4 + 2, none⟩ (.slice Sl a0.ss.length d3)).setCell ⟨g, t * 4 + 3, none⟩ (.slice Ar a0.aa.length d4)).setCell ⟨mb, 17, none⟩ (.slice (some ⟨g, 0, none⟩) (t + 1) cap)) :
 ∃ K, K = kS s t np ∧ SAt W8 mb pv iv (some ⟨g, 0, none⟩) cap At ct K ∧ W1.grownBy W8 (some mb) ∧ InX W8 mb iv s.inp ∧ Blk W8 g5 50 x ∧ K.acts.length = t + 1 ∧ (K.regs = s.regs ∧ K.inp = s.inp ∧ K.trace = s.trace ∧ K.ended = s.ended ∧ K.deep = s.deep) := by
 have hfin := h.relay2 hg hb rfl rfl hrx hv (by rw [ht]; exact ho) (t := t) (Nat.lt_of_lt_of_eq (Nat.lt_succ_self t) ht.symm) { a0 with pc := np } hs ha hk.1 hk.2
 rw [ht] at hfin
 have e : g5 ≠ g := by omega
 refine ⟨kS s t np, rfl, ?_, by rw [hW]; exact hfin.2, hin.grown (by rw [hW]; exact hfin.2) h.blk.lt, ?_, ?_, rfl, rfl, rfl, rfl, rfl⟩
 · have := hfin.1
   rw [ha0] at this
   rw [hW, ha0]
   exact this
 · rw [hW]
   exact ((((h5.far (p := ⟨g, t * 4, none⟩) e _).far (p := ⟨g, t * 4 + 1, none⟩) e _).far (p := ⟨g, t * 4 + 2, none⟩) e _).far (p := ⟨g, t * 4 + 3, none⟩) e _).far (p := ⟨mb, 17, none⟩) h5m _
 · show (s.acts.set t _).length = _
   rw [List.length_set]
   exact ht
end
end Go.Proofs.YtdijeijbcoeopaaDoor.pm
