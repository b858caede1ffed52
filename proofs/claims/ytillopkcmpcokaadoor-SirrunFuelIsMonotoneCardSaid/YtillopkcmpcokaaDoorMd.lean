/- The machine's maps: a store in memory; 'define'. -/
import Derived.Test.YtillopkcmpcokaaDoorMs
namespace Go.Proofs.YtillopkcmpcokaaDoor.pm
open Go.RowKit
open Go.Maps (Keyed)
set_option linter.unusedVariables false
set_option maxRecDepth 10000
theorem Mp.store {w : World} {b n : Nat} {L : List (Int × (Nat × Nat))} (h : Mp w b n L) (hn : n < maxLen) {k : Int} (hk : (Lit.int .i64 k).wf = true) (y : Nat × Nat) :
    ∃ w', (Instr.mapUpdate 94 (.map (some b)) (.int .i64 k) (.agg #[.int .u64 y.1, .int .u64 y.2])).run Tryd.prog w = .ok () w' ∧ Mp w' b (n + 1) ((k, y) :: L) ∧ w.grownBy w' (some b) := by
  obtain ⟨D, h1, h2⟩ := h
  obtain ⟨w', hrun, h3, h4⟩ := h1.store keyl Tryd.underlying94 hn (Go.Maps.keyOf_int_mk Tryd.underlying3 hk) (valR_mk (y.1 : Int) (y.2 : Int))
  refine ⟨w', hrun, ⟨_, h3, fun j hj => ?_⟩, h4.grown⟩
  have hm : Maps.IsMap D := World.ownsMap.isMap h1
  have hkl : WideAt.IsKeyLit (.int .i64 k) := by first | trivial | simp [WideAt.IsKeyLit]
  rw [List.lookup_cons]
  by_cases e : j = k
  · subst e
    rw [Maps.has_put_same hm hkl, Maps.atKey_put_same hm hkl]
    simp [dV]
  · have hne : (Lit.int .i64 j) ≠ .int .i64 k := fun h => e (by injection h)
    rw [Maps.has_put_other hne, Maps.atKey_put_other hne]
    have e' : (j == k) = false := by simpa using e
    rw [e']
    exact h2 j hj
theorem eqn_map (W : World) (o : Option Nat) : (binOp .eql 94 (.map o) (.map none)).run Tryd.prog W = .ok (.bool o.isNone) W := by
  cases o <;> kernel_rfl
section
variable {w w' : World} {B n mb cs ct : Nat} {ad : Addr} {pv iv : Value} {As At : Option Addr} {bl : List Nat} {m : Mx}
theorem nodup_getD {bl : List Nat} (h : bl.Nodup) {i j : Nat} (hi : i < bl.length) (hj : j < bl.length) (hne : i ≠ j) : bl.getD i 0 ≠ bl.getD j 0 := fun e => by
  rw [List.getD_eq_getElem?_getD, List.getD_eq_getElem?_getD, List.getElem?_eq_getElem hi, List.getElem?_eq_getElem hj] at e
  have e' : bl[i] = bl[j] := by simpa using e
  have hp := List.pairwise_iff_getElem.1 h
  rcases Nat.lt_or_gt_of_ne hne with hlt | hlt
  · exact hp i j hi hj hlt e'
  · exact hp j i hj hi hlt e'.symm
/-- a map of the machine is written -/
theorem MAt.mput (h : MAt w B n mb ad pv iv As cs At ct bl m) {i : Nat} (hi : i < m.hp.length) {L : List (Int × (Nat × Nat))} (hg : w.grownBy w' (some (bl.getD i 0))) (hm : Mp w' (bl.getD i 0) (n + 1) L) :
    MAt w' B (n + 1) mb ad pv iv As cs At ct bl { m with hp := m.hp.set i L } := by
  have hib : i < bl.length := by rw [h.bll]; exact hi
  have hmi := (h.maps i hib).2
  have hbb : w.heap[mb]? = some (.cells (mcs pv iv (.slice As m.acts.length cs) (.slice At m.trace.length ct) m) 73 (0, 0)) := h.blk
  refine ⟨h.blk.grown hg (fun e => hmi.ne_cells hbb (by injection e with e; exact e.symm)), h.hmb, h.own.kept hg ?_, h.tr.kept hg ?_, by simpa using h.bll, h.nd, fun j hj => ?_⟩
  · cases hv : (Value.slice As m.acts.length cs).ownBlock with
    | none => exact .inl rfl
    | some g =>
      obtain ⟨cur, h2⟩ := own_heap h.own hv
      exact .inr fun e => hmi.ne_cells h2 (by injection e with e; exact e.symm)
  · cases hv : (Value.slice At m.trace.length ct).ownBlock with
    | none => exact .inl rfl
    | some g =>
      obtain ⟨cur, h2⟩ := own_heap h.tr hv
      exact .inr fun e => hmi.ne_cells h2 (by injection e with e; exact e.symm)
  · refine ⟨(h.maps j hj).1, ?_⟩
    by_cases e : j = i
    · subst e
      show Mp w' (bl.getD j 0) (n + 1) ((m.hp.set j L).getD j [])
      rw [show (m.hp.set j L).getD j [] = L by rw [List.getD_eq_getElem?_getD, List.getElem?_set_self hi]; rfl]
      exact hm
    · show Mp w' (bl.getD j 0) (n + 1) ((m.hp.set i L).getD j [])
      rw [show (m.hp.set i L).getD j [] = m.hp.getD j [] by rw [List.getD_eq_getElem?_getD, List.getElem?_set_ne (fun e' => e e'.symm), ← List.getD_eq_getElem?_getD]]
      exact ((h.maps j hj).2.kept hg (fun e' => nodup_getD h.nd hj hib e (by injection e'))).mono (Nat.le_succ _)
theorem acV_more (ad : Addr) {bl : List Nat} {a : Ac} (h1 : ∀ i, a.ms = some i → i < bl.length) (h2 : ∀ i, a.ma = some i → i < bl.length) (b : Nat) : acV ad (bl ++ [b]) a = acV ad bl a := by
  have e : ∀ i, i < bl.length → (bl ++ [b]).getD i 0 = bl.getD i 0 := fun i hi => by
    rw [List.getD_eq_getElem?_getD, List.getElem?_append_left hi, ← List.getD_eq_getElem?_getD]
  have es : a.ms.map (fun i => (bl ++ [b]).getD i 0) = a.ms.map (fun i => bl.getD i 0) := by
    cases hs : a.ms with
    | none => rfl
    | some i => exact congrArg some (e i (h1 i hs))
  have ea : a.ma.map (fun i => (bl ++ [b]).getD i 0) = a.ma.map (fun i => bl.getD i 0) := by
    cases ha : a.ma with
    | none => rfl
    | some i => exact congrArg some (e i (h2 i ha))
  unfold acV
  rw [es, ea]
/-- a new map is made -/
theorem MAt.mnew (h : MAt w B n mb ad pv iv As cs At ct bl m) (hB : B ≤ w.heap.size) (hl : ∀ a ∈ m.acts, (∀ i, a.ms = some i → i < m.hp.length) ∧ (∀ i, a.ma = some i → i < m.hp.length)) :
    MAt (w.alloc (.map #[] 0)) B n mb ad pv iv As cs At ct (bl ++ [w.heap.size]) { m with hp := m.hp ++ [[]] } := by
  have hfl : m.acts.flatMap (acV ad (bl ++ [w.heap.size])) = m.acts.flatMap (acV ad bl) := by
    have : ∀ l : List Ac, (∀ a ∈ l, (∀ i, a.ms = some i → i < m.hp.length) ∧ (∀ i, a.ma = some i → i < m.hp.length)) → l.flatMap (acV ad (bl ++ [w.heap.size])) = l.flatMap (acV ad bl) := by
      intro l
      induction l with
      | nil => intro _; rfl
      | cons x r ih =>
        intro hl
        rw [List.flatMap_cons, List.flatMap_cons, ih (fun a ha => hl a (by simp [ha])), acV_more ad (by rw [h.bll]; exact (hl x (by simp)).1) (by rw [h.bll]; exact (hl x (by simp)).2)]
    exact this m.acts hl
  have hlt : ∀ i, i < bl.length → bl.getD i 0 < w.heap.size := fun i hi => (h.maps i hi).2.lt
  refine ⟨h.blk.alloc _, h.hmb, ?_, h.tr.alloc _, by simpa using h.bll, ?_, fun i hi => ?_⟩
  · show World.ownsRow _ B _ 4 _ m.acts.length (m.acts.flatMap (acV ad (bl ++ [w.heap.size])))
    rw [hfl]; exact h.own.alloc _
  · rw [List.nodup_append]
    refine ⟨h.nd, by simp, fun a ha b hb => ?_⟩
    simp at hb
    subst hb
    intro e
    obtain ⟨i, hi, rfl⟩ := List.mem_iff_getElem.1 ha
    have := hlt i hi
    rw [List.getD_eq_getElem?_getD, List.getElem?_eq_getElem hi] at this
    simp at this
    omega
  · rw [List.length_append] at hi
    by_cases e : i < bl.length
    · have e1 : (bl ++ [w.heap.size]).getD i 0 = bl.getD i 0 := by rw [List.getD_eq_getElem?_getD, List.getElem?_append_left e, ← List.getD_eq_getElem?_getD]
      have e2 : (m.hp ++ [[]]).getD i [] = m.hp.getD i [] := by rw [List.getD_eq_getElem?_getD, List.getElem?_append_left (by rw [← h.bll]; exact e), ← List.getD_eq_getElem?_getD]
      show B ≤ (bl ++ [w.heap.size]).getD i 0 ∧ Mp _ ((bl ++ [w.heap.size]).getD i 0) n ((m.hp ++ [[]]).getD i [])
      rw [e1, e2]
      exact ⟨(h.maps i e).1, (h.maps i e).2.alloc _⟩
    · obtain rfl : i = bl.length := by simp at hi; omega
      have e1 : (bl ++ [w.heap.size]).getD bl.length 0 = w.heap.size := by simp
      have e2 : (m.hp ++ [[]]).getD bl.length [] = [] := by rw [h.bll]; simp
      show B ≤ (bl ++ [w.heap.size]).getD bl.length 0 ∧ Mp _ ((bl ++ [w.heap.size]).getD bl.length 0) n ((m.hp ++ [[]]).getD bl.length [])
      rw [e1, e2]
      exact ⟨hB, (Mp.made w).mono (Nat.zero_le _)⟩
def StepD (w : World) (B n mb : Nat) (ad : Addr) (pv iv : Value) (m : Mx) (e : Ending) (w' : World) : Prop :=
  e = .returned (.tuple #[]) ∧ Below B w w' ∧ ∃ As' cs' At' ct' bl', MAt w' B (n + 1) mb ad pv iv As' cs' At' ct' bl' m
/-- blocks of cells, but for the activations, stand as they stood -/
def Frm (w w' : World) : Prop := ∀ (b : Nat) (cs : Array Value) (t : TypeId) (f : Nat × Nat), w.heap[b]? = some (Obj.cells cs t f) → t ≠ 96 → w'.heap[b]? = some (Obj.cells cs t f)
def DefD (w : World) (B n mb : Nat) (ad : Addr) (pv iv : Value) (g t : Nat) (m : Mx) (e : Ending) (w' : World) : Prop :=
  StepD w B n mb ad pv iv m e w' ∧ Frm w w' ∧ w'.cell? ⟨g, t * 4, none⟩ = w.cell? ⟨g, t * 4, none⟩
theorem Frm.trans {a b c : World} (h : Frm a b) (k : Frm b c) : Frm a c := fun i cs t f hi ht => k i cs t f (h i cs t f hi ht) ht
theorem Frm.of_below {a b : World} (h : Below a.heap.size a b) : Frm a b := fun i cs t f hi _ => by
  rw [h.block i (Array.getElem?_eq_some_iff.1 hi).1]; exact hi
theorem Frm.of_map {a b : World} {k n : Nat} {L : List (Int × (Nat × Nat))} (hm : Mp a k n L) (h : a.grownBy b (some k)) : Frm a b := fun i cs t f hi _ => by
  rw [h.block i (Array.getElem?_eq_some_iff.1 hi).1 (fun e => hm.ne_cells hi (by injection e with e; exact e.symm))]; exact hi
theorem Frm.set {a : World} {g j : Nat} {u : Value} {b' k : Nat} {v : Value} {xs : List Value} (ho : a.ownsRow b' 96 4 v k xs) (hv : v.ownBlock = some g) : Frm a (a.setCell ⟨g, j, none⟩ u) := fun i cs t f hi ht => by
  obtain ⟨cur, h2⟩ := own_heap ho hv
  have hne : i ≠ g := fun e => by
    subst e
    rw [h2] at hi
    injection hi with hi
    injection hi with _ hi
    exact ht hi.symm
  rw [Below.heap_setCell a ⟨g, j, none⟩ u i hne]; exact hi
theorem cell_of_map {a b : World} {k n : Nat} {L : List (Int × (Nat × Nat))} (hm : Mp a k n L) (h : a.grownBy b (some k)) {p : Addr} {v : Value} (hc : a.cell? p = some v) {cur : Array Value} {t : TypeId} {f : Nat × Nat} (hp : a.heap[p.block]? = some (.cells cur t f)) : b.cell? p = some v := by
  rw [← hc]
  exact World.cell?_of_block (h.block p.block (cell_lt hc) (fun e => hm.ne_cells hp (by injection e with e; exact e.symm)))
set_option maxHeartbeats 1000000 in
theorem define_s (w : World) (g t : Nat) (h : MAt w B n mb ad pv iv (some ⟨g, 0, none⟩) cs At ct bl m) (ht : m.acts.length = t + 1) (hl : ∀ a ∈ m.acts, (∀ i, a.ms = some i → i < m.hp.length) ∧ (∀ i, a.ma = some i → i < m.hp.length)) (hB : B ≤ w.heap.size) (hn : n ≤ 10000000) (k : Int) (hk : (Lit.int .i64 k).wf = true) (v : Nat × Nat) :
    Calls Tryd.prog 49 #[.pointer (some ⟨g, t * 4 + 2, none⟩), .int .i64 k, .agg #[.int .u64 v.1, .int .u64 v.2]] w (DefD w B n mb ad pv iv g t (m.defS k v)) := by
  obtain ⟨W1, hW1⟩ : ∃ W1, W1 = w.alloc (.cells #[.int .u64 v.1, .int .u64 v.2] 33) := ⟨_, rfl⟩
  have hB1 : Below w.heap.size w W1 := by rw [hW1]; exact (Below.refl _ _).alloc (Nat.le_refl _) _
  have HK : Hid (Blk W1 w.heap.size 33 #[.int .u64 v.1, .int .u64 v.2]) := Lib.hid (by rw [hW1]; exact Blk.new _ _ _)
  have hgB : B ≤ g := (h.own.lt g rfl).1
  have hgw : g < w.heap.size := (h.own.lt g rfl).2
  have hs1 := hB1.size
  have HM := Lib.hid (h.after hB1)
  have HB1 : Hid (Below B w W1) := Lib.hid (hB1.mono hB)
  have HW1 := Lib.hid hW1
  have HL := Lib.hid hl
  have HT := Lib.hid ht
  have et : m.top = m.acts.getD t Ac.z := by unfold Mx.top; rw [show m.acts.length - 1 = t by omega]
  have htop : m.top ∈ m.acts := by
    rw [et, List.getD_eq_getElem?_getD, List.getElem?_eq_getElem (by omega)]
    exact List.getElem_mem (by omega)
  have HLT := Lib.hid (hl _ htop)
  have c0 : W1.cell? ⟨g, t * 4 + 2, none⟩ = some (.map (m.top.ms.map fun i => bl.getD i 0)) := by
    rw [et]
    have := (HM.out.own.cellAt (t * 4 + 2) (by omega)).trans (flat_get (acV_len ad bl) Ac.z m.acts t 2 (by omega) (by omega))
    simpa [acV] using this
  have f0 : W1.frozen? ⟨g, t * 4 + 2, none⟩ = false := HM.out.own.frozenAt _
  have gz : g < W1.heap.size := (HM.out.own.lt g rfl).2
  obtain ⟨pv0, hpv0⟩ : ∃ u, W1.cell? ⟨g, t * 4, none⟩ = some u := ⟨_, (HM.out.own.cellAt (t * 4 + 0) (by omega)).trans (flat_get (acV_len ad bl) Ac.z m.acts t 0 (by omega) (by omega))⟩
  have HPV : Hid (W1.cell? ⟨g, t * 4, none⟩ = some pv0) := Lib.hid hpv0
  have HPW : Hid (w.cell? ⟨g, t * 4, none⟩ = some pv0) := Lib.hid (by rw [← hpv0]; exact (hB1.cell (p := ⟨g, t * 4, none⟩) hgw).symm)
  have HFR1 : Hid (Frm w W1) := Lib.hid (Frm.of_below hB1)
  obtain ⟨gcur, hgcur⟩ := own_heap HM.out.own (gb := g) rfl
  have HGC := Lib.hid hgcur
  clear h hW1 hB1 hl ht et htop hpv0 hgcur
  obtain ⟨x0, x1, -, -, xz⟩ := HK.out.c2
  cases hms : m.top.ms with
  | some i =>
    rw [hms] at c0
    have hi : i < m.hp.length := HLT.out.1 i hms
    have HE : Hid (m.defS k v = { m with hp := m.hp.set i ((k, v) :: m.hp.getD i []) }) := Lib.hid (by unfold Mx.defS; rw [hms])
    obtain ⟨b, hb⟩ : ∃ b, b = bl.getD i 0 := ⟨_, rfl⟩
    obtain ⟨hbi, hmp⟩ := HM.out.maps i (by rw [HM.out.bll]; exact hi)
    rw [← hb] at hbi hmp
    obtain ⟨w2, hr2, m2, g2⟩ := hmp.store (by unfold maxLen; omega) hk v
    obtain ⟨w3, hr3, m3, g3⟩ := (show Mp W1.drew b n (m.hp.getD i []) from hmp).store (by unfold maxLen; omega) hk v
    have c0' : W1.cell? ⟨g, t * 4 + 2, none⟩ = some (.map (some b)) := by rw [hb]; exact c0
    have g3' := grownBy_transR (grownBy_of_below ((Below.refl W1.heap.size W1).drew) (some b)) g3
    have HM2 := Lib.hid (HM.out.mput hi (by rw [← hb]; exact g2) (by rw [← hb]; exact m2))
    have HM3 := Lib.hid (HM.out.mput hi (by rw [← hb]; exact g3') (by rw [← hb]; exact m3))
    have HX2 : Hid (Frm W1 w2 ∧ w2.cell? ⟨g, t * 4, none⟩ = some pv0) := Lib.hid ⟨Frm.of_map hmp g2, cell_of_map hmp g2 HPV.out HGC.out⟩
    have HX3 : Hid (Frm W1 w3 ∧ w3.cell? ⟨g, t * 4, none⟩ = some pv0) := Lib.hid ⟨Frm.of_map hmp g3', cell_of_map hmp g3' HPV.out HGC.out⟩
    have HB2 : Hid (Below B W1 w2) := Lib.hid (below_of_grownR g2 (fun q e => by injection e with e; omega) (by omega))
    have HB3 : Hid (Below B W1 w3) := Lib.hid (below_of_grownR g3' (fun q e => by injection e with e; omega) (by omega))
    have heq : ∀ W, (binOp .eql 94 (.map (some b)) (.map none)).run Tryd.prog W = .ok (.bool false) W := fun W => eqn_map W _
    clear c0 hmp m2 m3 g2 g3 g3' hb hbi
    go_enter Tryd.func49, Tryd.ntmps49
    go_upto_region 1 with (fail)
    rw [← HW1.out]
    go_upto_region 3 with (fail)
    go_region_with (fail)
    all_goals go_wp2
    all_goals go_end0
    all_goals rw [HE.out]
    all_goals
      first
      | exact ⟨⟨rfl, HB1.out.trans HB2.out, _, _, _, _, _, HM2.out⟩, HFR1.out.trans HX2.out.1, HX2.out.2.trans HPW.out.symm⟩
      | exact ⟨⟨rfl, HB1.out.trans HB3.out, _, _, _, _, _, HM3.out⟩, HFR1.out.trans HX3.out.1, HX3.out.2.trans HPW.out.symm⟩
      | exact ⟨⟨rfl, HB1.out.trans HB2.out.drew, _, _, _, _, _, HM2.out.after ((Below.refl _ _).drew)⟩, HFR1.out.trans HX2.out.1, HX2.out.2.trans HPW.out.symm⟩
      | exact ⟨⟨rfl, HB1.out.trans HB3.out.drew, _, _, _, _, _, HM3.out.after ((Below.refl _ _).drew)⟩, HFR1.out.trans HX3.out.1, HX3.out.2.trans HPW.out.symm⟩
  | none =>
    rw [hms] at c0
    have c0' : W1.cell? ⟨g, t * 4 + 2, none⟩ = some (.map none) := c0
    have HE : Hid (m.defS k v = { m.setTop { m.top with ms := some m.hp.length } with hp := m.hp ++ [[(k, v)]] }) := Lib.hid (by unfold Mx.defS; rw [hms])
    have hmm := @run_makeMap Tryd.prog
    clear c0
    have heq : ∀ W, (binOp .eql 94 (.map none) (.map none)).run Tryd.prog W = .ok (.bool true) W := fun W => eqn_map W _
    go_enter Tryd.func49, Tryd.ntmps49
    go_upto_region 1 with (fail)
    rw [← HW1.out]
    go_upto_region 3 with (fail)
    obtain ⟨W2, hW2⟩ : ∃ W2, W2 = (W1.setCell ⟨g, t * 4 + 2, none⟩ (.map (some W1.heap.size))).alloc (.map #[] 0) := ⟨_, rfl⟩
    rw [← hW2]
    have hB1' : B ≤ W1.heap.size := by omega
    have hm2 : MAt W2 B n mb ad pv iv (some ⟨g, 0, none⟩) cs At ct (bl ++ [W1.heap.size]) { m.setTop { m.top with ms := some m.hp.length } with hp := m.hp ++ [[]] } := by
      have h0 := HM.out.mnew hB1' HL.out
      have h1 := h0.aset (g := g) (t := t) HT.out (j := 2) (by omega) (.map (some W1.heap.size)) { m.top with ms := some m.hp.length } (by
        have e1 : ({ m with hp := m.hp ++ [[]] } : Mx).top = m.top := rfl
        have e2 : (bl ++ [W1.heap.size]).getD m.hp.length 0 = W1.heap.size := by rw [← HM.out.bll]; simp
        rw [e1]
        unfold acV
        simp only [Option.map_some, e2]
        rfl)
      rw [hW2, ← World.setCell_alloc_past _ _ _ _ gz]
      exact h1
    have hi2 : m.hp.length < (m.hp ++ [([] : List (Int × (Nat × Nat)))]).length := by simp
    have hbl2 : (bl ++ [W1.heap.size]).getD m.hp.length 0 = W1.heap.size := by rw [← HM.out.bll]; simp
    have hmp := (hm2.maps m.hp.length (by rw [hm2.bll]; exact hi2)).2
    have hge : (m.hp ++ [([] : List (Int × (Nat × Nat)))]).getD m.hp.length [] = [] := by simp
    rw [hbl2] at hmp
    have hmp' : Mp W2 W1.heap.size n [] := by
      have := hmp
      rw [show ({ m.setTop { m.top with ms := some m.hp.length } with hp := m.hp ++ [[]] } : Mx).hp.getD m.hp.length [] = [] from hge] at this
      exact this
    obtain ⟨b, hb⟩ : ∃ b, b = W1.heap.size := ⟨_, rfl⟩
    have hblb : (bl ++ [W1.heap.size]).getD m.hp.length 0 = b := by rw [hb]; exact hbl2
    rw [← hb] at hmp' ⊢
    obtain ⟨w2, hr2, m2, g2⟩ := hmp'.store (by unfold maxLen; omega) hk v
    obtain ⟨w3, hr3, m3, g3⟩ := (show Mp W2.drew b n [] from hmp').store (by unfold maxLen; omega) hk v
    have g3' := grownBy_transR (grownBy_of_below ((Below.refl W2.heap.size W2).drew) (some b)) g3
    have ehp : (m.hp ++ [([] : List (Int × (Nat × Nat)))]).set m.hp.length [(k, v)] = m.hp ++ [[(k, v)]] := by rw [List.set_append_right _ _ (Nat.le_refl _)]; simp
    have HM2 := Lib.hid (hm2.mput hi2 (by rw [hblb]; exact g2) (by rw [hblb]; exact m2))
    have HM3 := Lib.hid (hm2.mput hi2 (by rw [hblb]; exact g3') (by rw [hblb]; exact m3))
    have hb2 : Below B W1 W2 := by rw [hW2]; exact (below_set (p := ⟨g, t * 4 + 2, none⟩) hgB _).alloc (by simpa using hB1') _
    have hs2 := hb2.size
    have HB2 : Hid (Below B W1 w2) := Lib.hid (hb2.trans (below_of_grownR g2 (fun q e => by injection e with e; omega) (by omega)))
    have HB3 : Hid (Below B W1 w3) := Lib.hid (hb2.trans (below_of_grownR g3' (fun q e => by injection e with e; omega) (by omega)))
    have c1 : W2.cell? ⟨g, t * 4 + 2, none⟩ = some (.map (some b)) := by
      rw [hW2, hb]
      go_simp
    have hk2 : Blk W2 w.heap.size 33 #[.int .u64 v.1, .int .u64 v.2] := by
      rw [hW2]
      exact (HK.out.far (p := ⟨g, t * 4 + 2, none⟩) (by show ¬ w.heap.size = g; omega) _).alloc _
    obtain ⟨x0', x1', -, -, xz'⟩ := hk2.c2
    have hf2 : Frm W1 W2 := by
      rw [hW2]
      exact (Frm.set HM.out.own rfl).trans (Frm.of_below ((Below.refl _ _).alloc (Nat.le_refl _) _))
    have hpc2 : W2.cell? ⟨g, t * 4, none⟩ = some pv0 := by
      have h0 := HPV.out
      rw [hW2]
      go_simp
    have hgc2 : ∃ cur, W2.heap[g]? = some (.cells cur 96 (0, 0)) := own_heap hm2.own (gb := g) rfl
    obtain ⟨gcur2, hgc2⟩ := hgc2
    have HX2 : Hid (Frm W1 w2 ∧ w2.cell? ⟨g, t * 4, none⟩ = some pv0) := Lib.hid ⟨hf2.trans (Frm.of_map hmp' g2), cell_of_map hmp' g2 hpc2 hgc2⟩
    have HX3 : Hid (Frm W1 w3 ∧ w3.cell? ⟨g, t * 4, none⟩ = some pv0) := Lib.hid ⟨hf2.trans (Frm.of_map hmp' g3'), cell_of_map hmp' g3' hpc2 hgc2⟩
    clear hf2 hpc2 hgc2
    clear hk2 hW2 hm2 hmp hmp' m2 m3 g2 g3 g3' hb hbl2 hblb c0' x0 x1 f0 hge
    go_region_with (fail)
    all_goals go_wp2
    all_goals go_end0
    all_goals rw [HE.out]
    all_goals
      first
      | exact ⟨⟨rfl, HB1.out.trans HB2.out, _, _, _, _, _, by have := HM2.out; rw [ehp] at this; exact this⟩, HFR1.out.trans HX2.out.1, HX2.out.2.trans HPW.out.symm⟩
      | exact ⟨⟨rfl, HB1.out.trans HB3.out, _, _, _, _, _, by have := HM3.out; rw [ehp] at this; exact this⟩, HFR1.out.trans HX3.out.1, HX3.out.2.trans HPW.out.symm⟩
      | exact ⟨⟨rfl, HB1.out.trans HB2.out.drew, _, _, _, _, _, by have := HM2.out.after ((Below.refl _ _).drew); rw [ehp] at this; exact this⟩, HFR1.out.trans HX2.out.1, HX2.out.2.trans HPW.out.symm⟩
      | exact ⟨⟨rfl, HB1.out.trans HB3.out.drew, _, _, _, _, _, by have := HM3.out.after ((Below.refl _ _).drew); rw [ehp] at this; exact this⟩, HFR1.out.trans HX3.out.1, HX3.out.2.trans HPW.out.symm⟩
set_option maxHeartbeats 1000000 in
theorem define_a (w : World) (g t : Nat) (h : MAt w B n mb ad pv iv (some ⟨g, 0, none⟩) cs At ct bl m) (ht : m.acts.length = t + 1) (hl : ∀ a ∈ m.acts, (∀ i, a.ms = some i → i < m.hp.length) ∧ (∀ i, a.ma = some i → i < m.hp.length)) (hB : B ≤ w.heap.size) (hn : n ≤ 10000000) (k : Int) (hk : (Lit.int .i64 k).wf = true) (v : Nat × Nat) :
    Calls Tryd.prog 49 #[.pointer (some ⟨g, t * 4 + 3, none⟩), .int .i64 k, .agg #[.int .u64 v.1, .int .u64 v.2]] w (DefD w B n mb ad pv iv g t (m.defA k v)) := by
  obtain ⟨W1, hW1⟩ : ∃ W1, W1 = w.alloc (.cells #[.int .u64 v.1, .int .u64 v.2] 33) := ⟨_, rfl⟩
  have hB1 : Below w.heap.size w W1 := by rw [hW1]; exact (Below.refl _ _).alloc (Nat.le_refl _) _
  have HK : Hid (Blk W1 w.heap.size 33 #[.int .u64 v.1, .int .u64 v.2]) := Lib.hid (by rw [hW1]; exact Blk.new _ _ _)
  have hgB : B ≤ g := (h.own.lt g rfl).1
  have hgw : g < w.heap.size := (h.own.lt g rfl).2
  have hs1 := hB1.size
  have HM := Lib.hid (h.after hB1)
  have HB1 : Hid (Below B w W1) := Lib.hid (hB1.mono hB)
  have HW1 := Lib.hid hW1
  have HL := Lib.hid hl
  have HT := Lib.hid ht
  have et : m.top = m.acts.getD t Ac.z := by unfold Mx.top; rw [show m.acts.length - 1 = t by omega]
  have htop : m.top ∈ m.acts := by
    rw [et, List.getD_eq_getElem?_getD, List.getElem?_eq_getElem (by omega)]
    exact List.getElem_mem (by omega)
  have HLT := Lib.hid (hl _ htop)
  have c0 : W1.cell? ⟨g, t * 4 + 3, none⟩ = some (.map (m.top.ma.map fun i => bl.getD i 0)) := by
    rw [et]
    have := (HM.out.own.cellAt (t * 4 + 3) (by omega)).trans (flat_get (acV_len ad bl) Ac.z m.acts t 3 (by omega) (by omega))
    simpa [acV] using this
  have f0 : W1.frozen? ⟨g, t * 4 + 3, none⟩ = false := HM.out.own.frozenAt _
  have gz : g < W1.heap.size := (HM.out.own.lt g rfl).2
  obtain ⟨pv0, hpv0⟩ : ∃ u, W1.cell? ⟨g, t * 4, none⟩ = some u := ⟨_, (HM.out.own.cellAt (t * 4 + 0) (by omega)).trans (flat_get (acV_len ad bl) Ac.z m.acts t 0 (by omega) (by omega))⟩
  have HPV : Hid (W1.cell? ⟨g, t * 4, none⟩ = some pv0) := Lib.hid hpv0
  have HPW : Hid (w.cell? ⟨g, t * 4, none⟩ = some pv0) := Lib.hid (by rw [← hpv0]; exact (hB1.cell (p := ⟨g, t * 4, none⟩) hgw).symm)
  have HFR1 : Hid (Frm w W1) := Lib.hid (Frm.of_below hB1)
  obtain ⟨gcur, hgcur⟩ := own_heap HM.out.own (gb := g) rfl
  have HGC := Lib.hid hgcur
  clear h hW1 hB1 hl ht et htop hpv0 hgcur
  obtain ⟨x0, x1, -, -, xz⟩ := HK.out.c2
  cases hms : m.top.ma with
  | some i =>
    rw [hms] at c0
    have hi : i < m.hp.length := HLT.out.2 i hms
    have HE : Hid (m.defA k v = { m with hp := m.hp.set i ((k, v) :: m.hp.getD i []) }) := Lib.hid (by unfold Mx.defA; rw [hms])
    obtain ⟨b, hb⟩ : ∃ b, b = bl.getD i 0 := ⟨_, rfl⟩
    obtain ⟨hbi, hmp⟩ := HM.out.maps i (by rw [HM.out.bll]; exact hi)
    rw [← hb] at hbi hmp
    obtain ⟨w2, hr2, m2, g2⟩ := hmp.store (by unfold maxLen; omega) hk v
    obtain ⟨w3, hr3, m3, g3⟩ := (show Mp W1.drew b n (m.hp.getD i []) from hmp).store (by unfold maxLen; omega) hk v
    have c0' : W1.cell? ⟨g, t * 4 + 3, none⟩ = some (.map (some b)) := by rw [hb]; exact c0
    have g3' := grownBy_transR (grownBy_of_below ((Below.refl W1.heap.size W1).drew) (some b)) g3
    have HM2 := Lib.hid (HM.out.mput hi (by rw [← hb]; exact g2) (by rw [← hb]; exact m2))
    have HM3 := Lib.hid (HM.out.mput hi (by rw [← hb]; exact g3') (by rw [← hb]; exact m3))
    have HX2 : Hid (Frm W1 w2 ∧ w2.cell? ⟨g, t * 4, none⟩ = some pv0) := Lib.hid ⟨Frm.of_map hmp g2, cell_of_map hmp g2 HPV.out HGC.out⟩
    have HX3 : Hid (Frm W1 w3 ∧ w3.cell? ⟨g, t * 4, none⟩ = some pv0) := Lib.hid ⟨Frm.of_map hmp g3', cell_of_map hmp g3' HPV.out HGC.out⟩
    have HB2 : Hid (Below B W1 w2) := Lib.hid (below_of_grownR g2 (fun q e => by injection e with e; omega) (by omega))
    have HB3 : Hid (Below B W1 w3) := Lib.hid (below_of_grownR g3' (fun q e => by injection e with e; omega) (by omega))
    have heq : ∀ W, (binOp .eql 94 (.map (some b)) (.map none)).run Tryd.prog W = .ok (.bool false) W := fun W => eqn_map W _
    clear c0 hmp m2 m3 g2 g3 g3' hb hbi
    go_enter Tryd.func49, Tryd.ntmps49
    go_upto_region 1 with (fail)
    rw [← HW1.out]
    go_upto_region 3 with (fail)
    go_region_with (fail)
    all_goals go_wp2
    all_goals go_end0
    all_goals rw [HE.out]
    all_goals
      first
      | exact ⟨⟨rfl, HB1.out.trans HB2.out, _, _, _, _, _, HM2.out⟩, HFR1.out.trans HX2.out.1, HX2.out.2.trans HPW.out.symm⟩
      | exact ⟨⟨rfl, HB1.out.trans HB3.out, _, _, _, _, _, HM3.out⟩, HFR1.out.trans HX3.out.1, HX3.out.2.trans HPW.out.symm⟩
      | exact ⟨⟨rfl, HB1.out.trans HB2.out.drew, _, _, _, _, _, HM2.out.after ((Below.refl _ _).drew)⟩, HFR1.out.trans HX2.out.1, HX2.out.2.trans HPW.out.symm⟩
      | exact ⟨⟨rfl, HB1.out.trans HB3.out.drew, _, _, _, _, _, HM3.out.after ((Below.refl _ _).drew)⟩, HFR1.out.trans HX3.out.1, HX3.out.2.trans HPW.out.symm⟩
  | none =>
    rw [hms] at c0
    have c0' : W1.cell? ⟨g, t * 4 + 3, none⟩ = some (.map none) := c0
    have HE : Hid (m.defA k v = { m.setTop { m.top with ma := some m.hp.length } with hp := m.hp ++ [[(k, v)]] }) := Lib.hid (by unfold Mx.defA; rw [hms])
    have hmm := @run_makeMap Tryd.prog
    clear c0
    have heq : ∀ W, (binOp .eql 94 (.map none) (.map none)).run Tryd.prog W = .ok (.bool true) W := fun W => eqn_map W _
    go_enter Tryd.func49, Tryd.ntmps49
    go_upto_region 1 with (fail)
    rw [← HW1.out]
    go_upto_region 3 with (fail)
    obtain ⟨W2, hW2⟩ : ∃ W2, W2 = (W1.setCell ⟨g, t * 4 + 3, none⟩ (.map (some W1.heap.size))).alloc (.map #[] 0) := ⟨_, rfl⟩
    rw [← hW2]
    have hB1' : B ≤ W1.heap.size := by omega
    have hm2 : MAt W2 B n mb ad pv iv (some ⟨g, 0, none⟩) cs At ct (bl ++ [W1.heap.size]) { m.setTop { m.top with ma := some m.hp.length } with hp := m.hp ++ [[]] } := by
      have h0 := HM.out.mnew hB1' HL.out
      have h1 := h0.aset (g := g) (t := t) HT.out (j := 3) (by omega) (.map (some W1.heap.size)) { m.top with ma := some m.hp.length } (by
        have e1 : ({ m with hp := m.hp ++ [[]] } : Mx).top = m.top := rfl
        have e2 : (bl ++ [W1.heap.size]).getD m.hp.length 0 = W1.heap.size := by rw [← HM.out.bll]; simp
        rw [e1]
        unfold acV
        simp only [Option.map_some, e2]
        rfl)
      rw [hW2, ← World.setCell_alloc_past _ _ _ _ gz]
      exact h1
    have hi2 : m.hp.length < (m.hp ++ [([] : List (Int × (Nat × Nat)))]).length := by simp
    have hbl2 : (bl ++ [W1.heap.size]).getD m.hp.length 0 = W1.heap.size := by rw [← HM.out.bll]; simp
    have hmp := (hm2.maps m.hp.length (by rw [hm2.bll]; exact hi2)).2
    have hge : (m.hp ++ [([] : List (Int × (Nat × Nat)))]).getD m.hp.length [] = [] := by simp
    rw [hbl2] at hmp
    have hmp' : Mp W2 W1.heap.size n [] := by
      have := hmp
      rw [show ({ m.setTop { m.top with ma := some m.hp.length } with hp := m.hp ++ [[]] } : Mx).hp.getD m.hp.length [] = [] from hge] at this
      exact this
    obtain ⟨b, hb⟩ : ∃ b, b = W1.heap.size := ⟨_, rfl⟩
    have hblb : (bl ++ [W1.heap.size]).getD m.hp.length 0 = b := by rw [hb]; exact hbl2
    rw [← hb] at hmp' ⊢
    obtain ⟨w2, hr2, m2, g2⟩ := hmp'.store (by unfold maxLen; omega) hk v
    obtain ⟨w3, hr3, m3, g3⟩ := (show Mp W2.drew b n [] from hmp').store (by unfold maxLen; omega) hk v
    have g3' := grownBy_transR (grownBy_of_below ((Below.refl W2.heap.size W2).drew) (some b)) g3
    have ehp : (m.hp ++ [([] : List (Int × (Nat × Nat)))]).set m.hp.length [(k, v)] = m.hp ++ [[(k, v)]] := by rw [List.set_append_right _ _ (Nat.le_refl _)]; simp
    have HM2 := Lib.hid (hm2.mput hi2 (by rw [hblb]; exact g2) (by rw [hblb]; exact m2))
    have HM3 := Lib.hid (hm2.mput hi2 (by rw [hblb]; exact g3') (by rw [hblb]; exact m3))
    have hb2 : Below B W1 W2 := by rw [hW2]; exact (below_set (p := ⟨g, t * 4 + 3, none⟩) hgB _).alloc (by simpa using hB1') _
    have hs2 := hb2.size
    have HB2 : Hid (Below B W1 w2) := Lib.hid (hb2.trans (below_of_grownR g2 (fun q e => by injection e with e; omega) (by omega)))
    have HB3 : Hid (Below B W1 w3) := Lib.hid (hb2.trans (below_of_grownR g3' (fun q e => by injection e with e; omega) (by omega)))
    have c1 : W2.cell? ⟨g, t * 4 + 3, none⟩ = some (.map (some b)) := by
      rw [hW2, hb]
      go_simp
    have hk2 : Blk W2 w.heap.size 33 #[.int .u64 v.1, .int .u64 v.2] := by
      rw [hW2]
      exact (HK.out.far (p := ⟨g, t * 4 + 3, none⟩) (by show ¬ w.heap.size = g; omega) _).alloc _
    obtain ⟨x0', x1', -, -, xz'⟩ := hk2.c2
    have hf2 : Frm W1 W2 := by
      rw [hW2]
      exact (Frm.set HM.out.own rfl).trans (Frm.of_below ((Below.refl _ _).alloc (Nat.le_refl _) _))
    have hpc2 : W2.cell? ⟨g, t * 4, none⟩ = some pv0 := by
      have h0 := HPV.out
      rw [hW2]
      go_simp
    have hgc2 : ∃ cur, W2.heap[g]? = some (.cells cur 96 (0, 0)) := own_heap hm2.own (gb := g) rfl
    obtain ⟨gcur2, hgc2⟩ := hgc2
    have HX2 : Hid (Frm W1 w2 ∧ w2.cell? ⟨g, t * 4, none⟩ = some pv0) := Lib.hid ⟨hf2.trans (Frm.of_map hmp' g2), cell_of_map hmp' g2 hpc2 hgc2⟩
    have HX3 : Hid (Frm W1 w3 ∧ w3.cell? ⟨g, t * 4, none⟩ = some pv0) := Lib.hid ⟨hf2.trans (Frm.of_map hmp' g3'), cell_of_map hmp' g3' hpc2 hgc2⟩
    clear hf2 hpc2 hgc2
    clear hk2 hW2 hm2 hmp hmp' m2 m3 g2 g3 g3' hb hbl2 hblb c0' x0 x1 f0 hge
    go_region_with (fail)
    all_goals go_wp2
    all_goals go_end0
    all_goals rw [HE.out]
    all_goals
      first
      | exact ⟨⟨rfl, HB1.out.trans HB2.out, _, _, _, _, _, by have := HM2.out; rw [ehp] at this; exact this⟩, HFR1.out.trans HX2.out.1, HX2.out.2.trans HPW.out.symm⟩
      | exact ⟨⟨rfl, HB1.out.trans HB3.out, _, _, _, _, _, by have := HM3.out; rw [ehp] at this; exact this⟩, HFR1.out.trans HX3.out.1, HX3.out.2.trans HPW.out.symm⟩
      | exact ⟨⟨rfl, HB1.out.trans HB2.out.drew, _, _, _, _, _, by have := HM2.out.after ((Below.refl _ _).drew); rw [ehp] at this; exact this⟩, HFR1.out.trans HX2.out.1, HX2.out.2.trans HPW.out.symm⟩
      | exact ⟨⟨rfl, HB1.out.trans HB3.out.drew, _, _, _, _, _, by have := HM3.out.after ((Below.refl _ _).drew); rw [ehp] at this; exact this⟩, HFR1.out.trans HX3.out.1, HX3.out.2.trans HPW.out.symm⟩
end
end Go.Proofs.YtillopkcmpcokaaDoor.pm
