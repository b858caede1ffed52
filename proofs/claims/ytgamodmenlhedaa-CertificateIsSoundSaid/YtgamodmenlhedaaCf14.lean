/- The program's Broken: a range over a function in a loop. -/
import Derived.Test.YtgamodmenlhedaaCf13
namespace Go.Proofs.Ytgamodmenlhedaa.cf
open Go.RowKit Go.Shelf
set_option linter.unusedVariables false
set_option maxRecDepth 10000
attribute [local go_sem] Oper.semAt_some

/-- marks among the deferred calls: what ranges over functions leave behind; their blocks lie from lo on and below hi -/
def Marks (lo hi : Nat) : List Deferred → World → Prop
  | [], _ => True
  | d :: ds, w => ∃ r, d = { target := .collected r, args := #[] } ∧ lo ≤ r ∧ r < hi ∧ w.heap[r]? = some (.deferred (some [])) ∧ Marks lo r ds w
theorem Marks.keep {lo : Nat} : ∀ {ds : List Deferred} {hi : Nat} {w w' : World}, Marks lo hi ds w → (∀ r, lo ≤ r → r < hi → w.heap[r]? = some (.deferred (some [])) → w'.heap[r]? = some (.deferred (some []))) → Marks lo hi ds w'
  | [], _, _, _, _, _ => trivial
  | d :: ds, hi, w, w', ⟨r, h1, h2, h3, h4, h5⟩, hk => ⟨r, h1, h2, h3, hk r h2 h3 h4, h5.keep fun q a b e => hk q a (by omega) e⟩
theorem Marks.more {lo hi hi' : Nat} {w : World} : ∀ {ds : List Deferred}, Marks lo hi ds w → hi ≤ hi' → Marks lo hi' ds w
  | [], _, _ => trivial
  | d :: ds, ⟨r, h1, h2, h3, h4, h5⟩, hk => ⟨r, h1, h2, by omega, h4, h5⟩
theorem Marks.below {lo hi B : Nat} {w w' : World} {ds : List Deferred} (h : Marks lo hi ds w) (hb : Below B w w') (hB : hi ≤ B) : Marks lo hi ds w' := h.keep fun r _ h2 e => (hb.block r (by omega)).trans e
theorem Marks.others {lo hi : Nat} {w w' : World} {ds : List Deferred} (h : Marks lo hi ds w) (hb : KeepsOthers w w') : Marks lo hi ds w' := h.keep fun r _ _ e => hb.same r _ e rfl
theorem marks_own {β : Type} {lo hi B : Nat} {ds : List Deferred} (hB : hi ≤ B) : OwnFrom B (fun (_ : β) W => Marks lo hi ds W) :=
  fun _ _ W' row hs hg hr => hs.keep fun r h1 h2 e => (hg.block r (Array.getElem?_eq_some_iff.1 e).1 (fun e2 => by have := (hr r e2.symm).1; omega)).trans e
/-- the way out over the marks -/
theorem leaves_marks {F : Fence} {n : Nat} {P : Program} {fn : Func} {tmps : Array Value} {R : Ending → World → Prop} {lo : Nat} : ∀ {ds : List Deferred} {hi : Nat} {w : World}, Marks lo hi ds w →
    (∀ w', Below lo w w' → (∀ p, w'.cell? p = w.cell? p) → LeavesInM F n P fn tmps R [] .returning w') → LeavesInM F n P fn tmps R ds .returning w
  | [], _, w, _, h => h w (Below.refl _ _) (fun _ => rfl)
  | d :: ds, hi, w, ⟨r, h1, h2, h3, h4, h5⟩, h => by
    have hlt : r < w.heap.size := (Array.getElem?_eq_some_iff.1 h4).1
    have hb : Below lo w (w.putObj r (.deferred none)) := (Below.refl lo w).grown (grownBy_putObj' w r _) (by omega) (fun k e => by injection e with e; omega)
    refine ⟨by simp, .inl ⟨r, _, by rw [h1], run_takeDeferred h4, ?_⟩⟩
    refine leaves_marks (h5.keep fun q _ hq e => ((grownBy_putObj' w r (.deferred none)).block q (by omega) (by intro e; injection e; omega)).trans e) fun w' hw' hc => h w' (hb.trans hw') fun p => ?_
    rw [hc p]
    by_cases hp : p.block = r
    · have h6 : ∀ W : World, W.heap[r]? = some (.deferred (some [])) ∨ W.heap[r]? = some (.deferred none) → W.cell? p = none := fun W hW => by
        unfold World.cell?
        rw [hp]
        rcases hW with e | e <;> rw [e]
      rw [h6 w (.inl h4), h6 _ (.inr (by simp [World.putObj, hlt]))]
    · rcases Nat.lt_or_ge p.block w.heap.size with h7 | h7
      · exact World.cell?_of_block ((grownBy_putObj' w r _).block p.block h7 (fun e => by injection e with e; exact hp e))
      · have h8 : ∀ W : World, W.heap.size = w.heap.size → W.cell? p = none := fun W hW => by
          unfold World.cell?
          rw [Array.getElem?_eq_none (by omega)]
        rw [h8 w rfl, h8 _ (by simp [World.putObj])]

theorem needs_wrong {g : List (List Int)} {v c : List Int} {k : Nat} {x : Int} (hx : x ∈ needVals g c k) (h : c.getD k 0 - v.getD k 0 < x) : Wrong g v c k := by
  unfold needVals at hx
  rcases List.mem_cons.1 hx with rfl | hx
  · exact .inr (.inl (by omega))
  · obtain ⟨j, hj, rfl⟩ := List.mem_map.1 hx
    obtain ⟨q, hq, e⟩ := mem_getD.1 hj
    exact .inr (.inr ⟨q, hq, by rw [e]; exact h⟩)
theorem needs_not_wrong {g : List (List Int)} {v c : List Int} {k : Nat} (hb : Bd (c.getD k 0)) (h : ∀ x, x ∈ needVals g c k → ¬ c.getD k 0 - v.getD k 0 < x) : ¬ Wrong g v c k := by
  rintro (hw | hw | ⟨q, hq, hw⟩)
  · exact hw hb
  · exact h 0 (by simp [needVals]) (by omega)
  · exact h _ (by unfold needVals; exact List.mem_cons_of_mem _ (List.mem_map_of_mem (mem_getD.2 ⟨q, hq, rfl⟩))) hw

set_option maxRecDepth 100000 in
set_option maxHeartbeats 4000000 in
theorem broken_any (Ag Aw Ac : Option Addr) (ng cg nw cw nc cc : Nat) (g : List (List Int)) (v c : List Int) (w : World) (hg : Gz w Ag ng g) (hv : Iz w Aw nw v) (hc : Iz w Ac nc c) (n1 : ng ≤ maxLen) (n2 : nw ≤ maxLen) (n3 : nc ≤ maxLen) :
    Calls Try.prog 15 #[.slice Ag ng cg, .slice Aw nw cw, .slice Ac nc cc] w fun e w' => (∃ r : Int × Bool, BrokenR g v c r ∧ e = .returned (.tuple #[.int .i64 r.1, .bool r.2])) ∧ Below w.heap.size w w' := by
  have HMT := Lib.hid (fun W (a : Gz W Ag ng g) (b : Iz W Aw nw v) (d : Iz W Ac nc c) => matched_any Ag Aw Ac ng cg nw cw nc cc g v c W a b d n1 n2 n3)
  unfold maxLen at n1 n2 n3
  have l1 := Lib.hid hg.len
  have l2 := Lib.hid hv.len
  have l3 := Lib.hid hc.len
  have HV := Lib.hid hv
  have HGz := Lib.hid hg
  have HC := Lib.hid hc
  clear hg hv hc
  refine (callsIn_wide (n := 9)).1 ?_
  by_cases hm : Matched g v c
  · rw [mtB_iff.2 hm] at HMT
    have HM := Lib.hid hm
    have hng : ng ≤ 80 := by have := hm.1.1.2.1; rw [l1.out] at this; exact this
    have e1 : nw = ng := by have := hm.1.2.1; rw [l1.out, l2.out] at this; exact this
    have e2 : nc = ng := by have := hm.2; rw [l1.out, l3.out] at this; exact this
    subst e1
    subst e2
    clear hm
    have HA : Below w.heap.size w ((((w.alloc (.cells #[.slice Aw nc cw] 24)).alloc (.cells #[.slice Ac nc cc] 24)).alloc (.cells #[.int .i64 0] 3)).alloc (.cells #[.bool false] 4)) := by go_grown
    have HB := Lib.hid HA
    clear HA
    refine callsIn_of_wp_marks Try.func15 rfl trivial ?_ rfl
    simp only [Try.ntmps15, List.size_toArray, List.length_cons, List.length_nil, Nat.reduceAdd, Nat.reduceSub, Array.replicate_succ, Array.replicate_zero, List.push_toArray, List.append_toArray, List.nil_append, List.cons_append]
    gi_wp2_with ((first | refine ⟨trivial, ?_⟩ | skip); gi_at_call 49; refine (callsIn_wide.2 (HMT.out _ (HGz.out.below HB.out) (HV.out.below HB.out) (HC.out.below HB.out))).mono ?_; rintro e w' ⟨rfl, rfl⟩)
    -- LOOP
    have HK0 : Hid ((0 ≤ nc ∧ Hid (∀ j, j < 0 → ¬ Wrong g v c j) ∧ Hid (Below w.heap.size w ((((w.alloc (.cells #[.slice Aw nc cw] 24)).alloc (.cells #[.slice Ac nc cc] 24)).alloc (.cells #[.int .i64 0] 3)).alloc (.cells #[.bool false] 4))) ∧ Hid (Marks w.heap.size ((((w.alloc (.cells #[.slice Aw nc cw] 24)).alloc (.cells #[.slice Ac nc cc] 24)).alloc (.cells #[.int .i64 0] 3)).alloc (.cells #[.bool false] 4)).heap.size [] ((((w.alloc (.cells #[.slice Aw nc cw] 24)).alloc (.cells #[.slice Ac nc cc] 24)).alloc (.cells #[.int .i64 0] 3)).alloc (.cells #[.bool false] 4))) ∧ Hid (Blk ((((w.alloc (.cells #[.slice Aw nc cw] 24)).alloc (.cells #[.slice Ac nc cc] 24)).alloc (.cells #[.int .i64 0] 3)).alloc (.cells #[.bool false] 4)) w.heap.size 24 #[.slice Aw nc cw]) ∧ Hid (Blk ((((w.alloc (.cells #[.slice Aw nc cw] 24)).alloc (.cells #[.slice Ac nc cc] 24)).alloc (.cells #[.int .i64 0] 3)).alloc (.cells #[.bool false] 4)) (w.heap.size + 1) 24 #[.slice Ac nc cc]) ∧ Hid (Blk ((((w.alloc (.cells #[.slice Aw nc cw] 24)).alloc (.cells #[.slice Ac nc cc] 24)).alloc (.cells #[.int .i64 0] 3)).alloc (.cells #[.bool false] 4)) (w.heap.size + 1 + 1) 3 #[.int .i64 0]) ∧ Hid (Blk ((((w.alloc (.cells #[.slice Aw nc cw] 24)).alloc (.cells #[.slice Ac nc cc] 24)).alloc (.cells #[.int .i64 0] 3)).alloc (.cells #[.bool false] 4)) (w.heap.size + 1 + 1 + 1) 4 #[.bool false]))) := Lib.hid ⟨Nat.zero_le _, Lib.hid (fun j hj => by omega), HB, Lib.hid trivial, Lib.hid ((((Blk.new w _ _).alloc _).alloc _).alloc _), Lib.hid (((Blk.newAt (by simp)).alloc _).alloc _), Lib.hid ((Blk.newAt (by simp)).alloc _), Lib.hid (Blk.newAt (by simp))⟩
    refine wpIn_loop (fun a W => ∃ (k : Nat) (ds : List Deferred) (u8 u9 u18 u19 u20 u21 u22 u23 u24 u25 u26 u27 u28 u29 u30 u31 u32 u33 u34 u35 u36 u37 u38 u39 u40 u41 u42 u43 u44 : Value), (k ≤ nc ∧ Hid (∀ j, j < k → ¬ Wrong g v c j) ∧ Hid (Below w.heap.size w W) ∧ Hid (Marks w.heap.size W.heap.size ds W) ∧ Hid (Blk W w.heap.size 24 #[.slice Aw nc cw]) ∧ Hid (Blk W (w.heap.size + 1) 24 #[.slice Ac nc cc]) ∧ Hid (Blk W (w.heap.size + 1 + 1) 3 #[.int .i64 0]) ∧ Hid (Blk W (w.heap.size + 1 + 1 + 1) 4 #[.bool false])) ∧ a = { tmps := #[.slice Ag nc cg, .slice Aw nc cw, .slice Ac nc cc, undef, .pointer (some ⟨w.heap.size, 0, none⟩), .pointer (some ⟨w.heap.size + 1, 0, none⟩), .pointer (some ⟨w.heap.size + 1 + 1, 0, none⟩), .pointer (some ⟨w.heap.size + 1 + 1 + 1, 0, none⟩), u8, u9, .slice Ag nc cg, .slice Aw nc cw, .slice Ac nc cc, .bool true, .bool false, .slice Ag nc cg, .int .i64 (nc : Int), .int .i64 (k : Int), u18, u19, u20, u21, u22, u23, u24, u25, u26, u27, u28, u29, u30, u31, u32, u33, u34, u35, u36, u37, u38, u39, u40, u41, u42, u43, u44], defers := ds }) (fun a _ => nc - (intOf (a.tmps.getD 17 undef)).toNat) ?start ?round
    case start =>
      exact ⟨0, [], _, _, _, _, _, _, _, _, _, _, _, _, _, _, _, _, _, _, _, _, _, _, _, _, _, _, _, _, _, HK0.out, rfl⟩
    case round =>
      rintro a W ⟨k, ds, u8, u9, u18, u19, u20, u21, u22, u23, u24, u25, u26, u27, u28, u29, u30, u31, u32, u33, u34, u35, u36, u37, u38, u39, u40, u41, u42, u43, u44, ⟨hk, HNO, bel, HMK, B4, B5, B6, B7⟩, rfl⟩
      clear HK0
      have hsz := bel.out.size
      have hs3 := B7.out.lt
      have hk0 : (0 : Int) ≤ (k : Int) := by omega
      obtain ⟨q4, f4, z4⟩ := B4.out.c1
      obtain ⟨q5, f5, z5⟩ := B5.out.c1
      obtain ⟨q6, f6, z6⟩ := B6.out.c1
      obtain ⟨q7, f7, z7⟩ := B7.out.c1
      by_cases hlt : k < nc
      · have hki : (k : Int) < (nc : Int) := by omega
        obtain ⟨ac, rfl, hab, cak⟩ := (HC.out.below bel.out).at_ hlt
        obtain ⟨av, rfl, hvb, cvk⟩ := (HV.out.below bel.out).at_ hlt
        have hbv : Bd (v.getD k 0) := HM.out.1.2.2 k (by rw [l2.out]; exact hlt)
        by_cases hbd : Bd (c.getD k 0)
        · have HNW : Hid ((∀ x, x ∈ needVals g c k → x ≤ c.getD k 0 - v.getD k 0) → ¬ Wrong g v c k) := Lib.hid (fun hh => needs_not_wrong hbd (fun x hx => by have := hh x hx; omega))
          have HWR : Hid (∀ x, x ∈ needVals g c k → c.getD k 0 - v.getD k 0 < x → Wrong g v c k) := Lib.hid (fun x hx hh => needs_wrong hx hh)
          have hw := fun W : World => bound_any (c.getD k 0) W
          rw [decide_eq_true hbd] at hw
          have HW := Lib.hid hw
          obtain ⟨x0, x1⟩ := hbd
          obtain ⟨y0, y1⟩ := hbv
          clear hw
          generalize c.getD k 0 = x at *
          generalize v.getD k 0 = y at *
          have hab' : (ac.add k).block < W.heap.size := by rw [block_of_add]; exact hab
          have hvb' : (av.add k).block < W.heap.size := by rw [block_of_add]; exact hvb
          obtain ⟨W2, hW2⟩ : ∃ W2, W2 = ((((W.alloc (.cells #[.int .i64 k] 3)).alloc (.cells #[.slice Ag nc cg] 23)).alloc (.cells #[.slice (some ac) nc cc] 24)).alloc (.cells #[.int .i64 k] 3)) := ⟨_, rfl⟩
          have bel2 : Below W.heap.size W W2 := by rw [hW2]; exact ((((Below.refl W.heap.size W).alloc (Nat.le_refl _) _).alloc (by simp) _).alloc (by simp; omega) _).alloc (by simp; omega) _
          have hz2 : W2.heap.size = W.heap.size + 1 + 1 + 1 + 1 := by rw [hW2]; simp
          have b8 : Blk W2 W.heap.size 3 #[.int .i64 k] := by rw [hW2]; exact (((Blk.new W _ _).alloc _).alloc _).alloc _
          have b9 : Blk W2 (W.heap.size + 1) 23 #[.slice Ag nc cg] := by rw [hW2]; exact ((Blk.newAt (by simp)).alloc _).alloc _
          have b10 : Blk W2 (W.heap.size + 1 + 1) 24 #[.slice (some ac) nc cc] := by rw [hW2]; exact (Blk.newAt (by simp)).alloc _
          have b11 : Blk W2 (W.heap.size + 1 + 1 + 1) 3 #[.int .i64 k] := by rw [hW2]; exact Blk.newAt (by simp)
          have HW2 := Lib.hid hW2
          have BEL2 := Lib.hid bel2
          have HZ2 := Lib.hid hz2
          have HST := Lib.hid (needs_stops Fence.wide 8 trivial rfl (by omega) W2.heap.size W2.heap.size (W.heap.size + 1) (W.heap.size + 1 + 1 + 1) (W.heap.size + 1 + 1) Ag (some ac) nc cg nc cc k g c W W2 (HGz.out.below bel.out) (HC.out.below bel.out) HM.out.1.1 rfl hlt (by omega) (by omega) (Nat.le_refl _) (fun p hp => bel2.cell hp) (by omega) (by omega) b9.c1.1 (by omega) (by omega) b11.c1.1 (by omega) (by omega) b10.c1.1)
          have B8 := Lib.hid b8
          clear hW2 bel2 hz2 b8 b9 b10 b11
          gi_wp2_with (first | ((first | refine ⟨trivial, ?_⟩ | skip); gi_at_call 50; refine (callsIn_wide.2 (HW.out _)).mono ?_; rintro e w' ⟨rfl, rfl⟩) | ((first | refine ⟨trivial, ?_⟩ | skip); gi_at_call 51; refine (callsIn_wide.2 (needs_any _ _ _ _ _ _ _ _)).mono ?_; rintro e w' ⟨rfl, rfl⟩))
          rw [← HW2.out]
          refine wpIn_rangeFunc_ownF rfl (by omega) (gf := 83) (lb := #[.pointer (some ⟨W.heap.size + 1, 0, none⟩), .pointer (some ⟨W.heap.size + 1 + 1 + 1, 0, none⟩), .pointer (some ⟨W.heap.size + 1 + 1, 0, none⟩)]) rfl trivial (enters_of Try.func83 (by kernel_rfl) rfl)
            HST.out kpB_t (kpB_b (Nat.le_refl _)) (Below.refl _ _) (fun _ => rfl)
            (fun pre W3 => (∀ z, z ∈ pre → z ≤ x - y) ∧ Below W2.heap.size W2 W3)
            (fun cd pre W3 => (cd = .ret ∧ (∃ z, z ∈ pre ∧ x - y < z) ∧ W3.cell? ⟨w.heap.size + 1 + 1, 0, none⟩ = some (.int .i64 k) ∧ W3.cell? ⟨w.heap.size + 1 + 1 + 1, 0, none⟩ = some (.bool true)) ∧ Below w.heap.size w W3 ∧ Marks w.heap.size W.heap.size ds W3)
            (OwnFrom.and (Own.from (fun s A B row hs hg hr => hs) _) (ownFrom_below (Nat.le_refl _) (Nat.le_refl _)))
            (fun cd => OwnFrom.and (Own.from (fun s A B row hs hg hr => ⟨hs.1, hs.2.1, cell_kept hs.2.2.1 hg hr, cell_kept hs.2.2.2 hg hr⟩) _) (OwnFrom.and (ownFrom_below (Nat.le_refl _) (by have := HZ2.out; omega)) (marks_own (by have := HZ2.out; omega))))
            ⟨fun z hz => by simp at hz, Below.refl _ _⟩
            (fun z => { tmps := #[.slice Ag nc cg, .slice (some av) nc cw, .slice (some ac) nc cc, undef, .pointer (some ⟨w.heap.size, 0, none⟩), .pointer (some ⟨w.heap.size + 1, 0, none⟩), .pointer (some ⟨w.heap.size + 1 + 1, 0, none⟩), .pointer (some ⟨w.heap.size + 1 + 1 + 1, 0, none⟩), .pointer (some ⟨W.heap.size, 0, none⟩), .int .i64 z, .slice Ag nc cg, .slice (some av) nc cw, .slice (some ac) nc cc, .bool true, .bool false, .slice Ag nc cg, .int .i64 (nc : Int), .int .i64 (k : Int), .bool true, .int .i64 (k : Int), .slice (some ac) nc cc, .int .i64 (k : Int), .pointer (some (ac.add k)), .int .i64 x, .bool true, .bool false, u26, .slice Ag nc cg, .slice (some ac) nc cc, .int .i64 (k : Int), (.func (.func 83) #[] #[.pointer (some ⟨W.heap.size + 1, 0, none⟩), .pointer (some ⟨W.heap.size + 1 + 1 + 1, 0, none⟩), .pointer (some ⟨W.heap.size + 1 + 1, 0, none⟩)]), .int .i64 z, u32, u33, u34, u35, u36, u37, u38, u39, u40, u41, u42, u43, u44], defers := [] }) ?assign ?body ?done ?stop
          case assign =>
            intro l z W3 K hK
            gi_wp2
            exact hK
          case body =>
            rintro l pre z W3 ⟨hpre, hb3⟩ hlen
            have HB3 := Lib.hid hb3
            have HPRE := Lib.hid hpre
            have q8 := ((B8.out.below hb3 (by have := HZ2.out; omega)).c1).1
            have hz3 := hb3.size
            have r4 := (hb3.cell (p := ⟨w.heap.size, 0, none⟩) (show w.heap.size < W2.heap.size by have := HZ2.out; omega)).trans ((BEL2.out.cell (p := ⟨w.heap.size, 0, none⟩) z4).trans q4)
            have r5 := (hb3.cell (p := ⟨w.heap.size + 1, 0, none⟩) (show w.heap.size + 1 < W2.heap.size by have := HZ2.out; omega)).trans ((BEL2.out.cell (p := ⟨w.heap.size + 1, 0, none⟩) z5).trans q5)
            have r6 := (hb3.cell (p := ⟨w.heap.size + 1 + 1, 0, none⟩) (show w.heap.size + 1 + 1 < W2.heap.size by have := HZ2.out; omega)).trans ((BEL2.out.cell (p := ⟨w.heap.size + 1 + 1, 0, none⟩) z6).trans q6)
            have r7 := (hb3.cell (p := ⟨w.heap.size + 1 + 1 + 1, 0, none⟩) (show w.heap.size + 1 + 1 + 1 < W2.heap.size by have := HZ2.out; omega)).trans ((BEL2.out.cell (p := ⟨w.heap.size + 1 + 1 + 1, 0, none⟩) z7).trans q7)
            have s6 := (hb3.frozen (p := ⟨w.heap.size + 1 + 1, 0, none⟩) (show w.heap.size + 1 + 1 < W2.heap.size by have := HZ2.out; omega)).trans ((BEL2.out.frozen (p := ⟨w.heap.size + 1 + 1, 0, none⟩) z6).trans f6)
            have s7 := (hb3.frozen (p := ⟨w.heap.size + 1 + 1 + 1, 0, none⟩) (show w.heap.size + 1 + 1 + 1 < W2.heap.size by have := HZ2.out; omega)).trans ((BEL2.out.frozen (p := ⟨w.heap.size + 1 + 1 + 1, 0, none⟩) z7).trans f7)
            have rc := (hb3.cell (p := ac.add k) (by have := HZ2.out; omega)).trans ((BEL2.out.cell hab').trans cak)
            have rv := (hb3.cell (p := av.add k) (by have := HZ2.out; omega)).trans ((BEL2.out.cell hvb').trans cvk)
            clear hb3 hpre q4 q5 q6 q7 f4 f5 f6 f7 cak cvk HMT HB
            by_cases hx : x - y < z
            all_goals
              gi_wp2
              refine rq.region_quiet (by kernel_rfl) (by kernel_rfl) (by kernel_rfl) ?_
              repeat (gi_big_quiet_step (fail))
              refine wpQuietIn_nil ?_
              intro _ hw'
              obtain ⟨nq, hw''⟩ := hw'
              subst hw''
              gi_wp2
            · refine ⟨(((⟨Nat.le_refl _, fun _ _ h _ => h⟩ : KeepsOthers W3 (W3.drewN nq))).trans (KeepsOthers.setCell _ _ _)).trans (KeepsOthers.setCell _ _ _), ⟨rfl, ⟨z, by simp, hx⟩, ?_, ?_⟩, ?_, ?_⟩
              · rw [World.cell?_setCell_other _ _ _ _ (fun e => by have := congrArg Addr.block e; simp at this)]
                exact World.cell?_setCell_same' _ _ _ (by show (W3.cell? _).isSome = true; rw [r6]; rfl)
              · exact World.cell?_setCell_same' _ _ _ (by rw [World.cell?_setCell_other _ _ _ _ (fun e => by have := congrArg Addr.block e; simp at this)]; show (W3.cell? _).isSome = true; rw [r7]; rfl)
              · have hb4 : Below w.heap.size w W3 := (bel.out.trans (BEL2.out.mono hsz)).trans (HB3.out.mono (by have := HZ2.out; omega))
                exact ((below_drewN hb4 nq).setCell (by simp; omega) _).setCell (by simp; omega) _
              · have hm3 : Marks w.heap.size W.heap.size ds W3 := (HMK.out.below BEL2.out (Nat.le_refl _)).below HB3.out (by have := HZ2.out; omega)
                exact ((hm3.others (⟨Nat.le_refl _, fun _ _ h _ => h⟩ : KeepsOthers W3 (W3.drewN nq))).others (KeepsOthers.setCell _ _ _)).others (KeepsOthers.setCell _ _ _)
            · refine ⟨⟨Nat.le_refl _, fun _ _ h _ => h⟩, fun p _ _ => rfl, fun z' hz' => ?_, below_drewN HB3.out nq⟩
              rcases List.mem_append.1 hz' with h1 | h1
              · exact HPRE.out z' h1
              · simp at h1; omega
          case done =>
            rintro D ys W3 hD rfl ⟨hpre, hb3⟩ hK
            have hz3 := hb3.size
            have hz2 := HZ2.out
            have hb4 : Below W.heap.size W W3 := BEL2.out.trans (hb3.mono (by omega))
            have HNX : Hid (∀ j, j < k + 1 → ¬ Wrong g v c j) := Lib.hid (fun j hj => by
              rcases Nat.lt_or_ge j k with a1 | a1
              · exact HNO.out j a1
              · obtain rfl : j = k := (by omega)
                exact HNW.out hpre)
            have HMN : Hid (Marks w.heap.size W3.heap.size ({ target := .collected D, args := #[] } :: ds) W3) := Lib.hid ⟨D, rfl, by omega, (Array.getElem?_eq_some_iff.1 hK).1, hK, (HMK.out.below hb4 (Nat.le_refl _)).more (by omega)⟩
            have HBW : Hid (Below w.heap.size w W3) := Lib.hid (bel.out.trans (hb4.mono hsz))
            have C4 := Lib.hid (B4.out.after hb4)
            have C5 := Lib.hid (B5.out.after hb4)
            have C6 := Lib.hid (B6.out.after hb4)
            have C7 := Lib.hid (B7.out.after hb4)
            have HALL := Lib.hid (And.intro HNX (And.intro HBW (And.intro HMN (And.intro C4 (And.intro C5 (And.intro C6 C7))))))
            clear hpre hb3 hb4 hK HNX HBW HMN C4 C5 C6 C7
            gi_wp2
            exact ⟨⟨k + 1, _, _, _, _, _, _, _, _, _, _, _, _, _, _, _, _, _, _, _, _, _, _, _, _, _, _, _, _, _, _, ⟨by omega, HALL.out⟩, rfl⟩, by simp [intOf]; omega⟩
          case stop =>
            rintro D cd pre W3 hD hpre ⟨⟨rfl, hbad, hc6, hc7⟩, hb3, hmk⟩ hK
            obtain ⟨z, hz, hz'⟩ := hbad
            have HWX : Hid (Wrong g v c k) := Lib.hid (HWR.out z (hpre.subset hz) hz')
            have HMN : Hid (Marks w.heap.size W3.heap.size ({ target := .collected D, args := #[] } :: ds) W3) := Lib.hid ⟨D, rfl, by have := HZ2.out; omega, (Array.getElem?_eq_some_iff.1 hK).1, hK, hmk.more (by have := HZ2.out; omega)⟩
            have HB3 := Lib.hid hb3
            have hlk : Hid (k < g.length) := Lib.hid (by rw [l1.out]; exact hlt)
            clear hpre hz hz' hb3 hmk hK
            gi_wp2
            refine leaves_marks HMN.out fun w' hw' hcl => ?_
            refine ⟨.tuple #[.int .i64 k, .bool true], by simp [results, Try.f15, go_sem, hcl, hc6, hc7], ⟨((k : Int), true), .inl ⟨HM.out, k, hlk.out, HWX.out, HNO.out, rfl⟩, rfl⟩, HB3.out.trans hw'⟩
        · have HWX : Hid (Wrong g v c k) := Lib.hid (.inl hbd)
          have hw := fun W : World => bound_any (c.getD k 0) W
          rw [decide_eq_false hbd] at hw
          have HW := Lib.hid hw
          have hab' : (ac.add k).block < W.heap.size := by rw [block_of_add]; exact hab
          have hlk : Hid (k < g.length) := Lib.hid (by rw [l1.out]; exact hlt)
          clear hw hbd hbv
          generalize c.getD k 0 = x at *
          gi_wp2_with (((first | refine ⟨trivial, ?_⟩ | skip); gi_at_call 50; refine (callsIn_wide.2 (HW.out _)).mono ?_; rintro e w' ⟨rfl, rfl⟩))
          refine leaves_marks (lo := w.heap.size) (hi := W.heap.size) (((HMK.out.others (KeepsOthers.setCell _ _ _)).others (KeepsOthers.setCell _ _ _)).others (KeepsOthers.alloc _ _)) fun w' hw' hcl => ?_
          refine ⟨.tuple #[.int .i64 k, .bool true], by simp [results, Try.f15, go_sem, hcl, q6, q7, z6, z7], ⟨((k : Int), true), .inl ⟨HM.out, k, hlk.out, HWX.out, HNO.out, rfl⟩, rfl⟩, (((bel.out.setCell (by simp; omega) _).setCell (by simp; omega) _).alloc (by simpa [World.setCell] using hsz) _).trans hw'⟩
      · have HNB : Hid (∀ i, i < g.length → ¬ Wrong g v c i) := Lib.hid (fun i hi => HNO.out i (by rw [l1.out] at hi; omega))
        gi_wp2
        have hme := (HMK.out.others (KeepsOthers.setCell _ ⟨w.heap.size + 1 + 1, 0, none⟩ (.int .i64 0))).others (KeepsOthers.setCell _ ⟨w.heap.size + 1 + 1 + 1, 0, none⟩ (.bool false))
        refine leaves_marks hme fun w' hw' hcl => ?_
        have e6 : ((W.setCell ⟨w.heap.size + 1 + 1, 0, none⟩ (.int .i64 0)).setCell ⟨w.heap.size + 1 + 1 + 1, 0, none⟩ (.bool false)).cell? ⟨w.heap.size + 1 + 1, 0, none⟩ = some (.int .i64 0) := by simp [go_sem, q6, q7, z6, z7]
        have e7 : ((W.setCell ⟨w.heap.size + 1 + 1, 0, none⟩ (.int .i64 0)).setCell ⟨w.heap.size + 1 + 1 + 1, 0, none⟩ (.bool false)).cell? ⟨w.heap.size + 1 + 1 + 1, 0, none⟩ = some (.bool false) := by simp [go_sem, q6, q7, z6, z7]
        refine ⟨.tuple #[.int .i64 0, .bool false], by simp [results, Try.f15, go_sem, hcl, e6, e7], ⟨(0, false), .inr ⟨fun _ => HNB.out, rfl⟩, rfl⟩, (((bel.out).setCell (by simp; omega) _).setCell (by simp; omega) _).trans hw'⟩
    -- ENDLOOP
  · rw [mtB_not hm] at HMT
    have HN := Lib.hid hm
    clear hm
    have HA : Below w.heap.size w ((((w.alloc (.cells #[.slice Aw nw cw] 24)).alloc (.cells #[.slice Ac nc cc] 24)).alloc (.cells #[.int .i64 0] 3)).alloc (.cells #[.bool false] 4)) := by go_grown
    have HB := Lib.hid HA
    clear HA
    refine callsIn_of_wp_marks Try.func15 rfl trivial ?_ rfl
    simp only [Try.ntmps15, List.size_toArray, List.length_cons, List.length_nil, Nat.reduceAdd, Nat.reduceSub, Array.replicate_succ, Array.replicate_zero, List.push_toArray, List.append_toArray, List.nil_append, List.cons_append]
    gi_wp2_with ((first | refine ⟨trivial, ?_⟩ | skip); gi_at_call 49; refine (callsIn_wide.2 (HMT.out _ (HGz.out.below HB.out) (HV.out.below HB.out) (HC.out.below HB.out))).mono ?_; rintro e w' ⟨rfl, rfl⟩)
    refine ⟨.tuple #[.int .i64 0, .bool false], by simp [results, Try.f15, go_sem], ⟨(0, false), .inr ⟨fun hm => absurd hm HN.out, rfl⟩, rfl⟩, ?_⟩
    go_grown
end Go.Proofs.Ytgamodmenlhedaa.cf
