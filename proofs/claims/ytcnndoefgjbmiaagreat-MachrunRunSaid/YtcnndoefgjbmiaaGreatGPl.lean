/- Contracts of the parts of a stack: places, used bytes, Pop. -/
import Derived.Test.YtcnndoefgjbmiaaGreatGJa
import Derived.Test.YtcnndoefgjbmiaaGreatGVf
set_option linter.unusedVariables false
set_option maxRecDepth 10000
set_option maxHeartbeats 8000000
namespace Go.Proofs.YtcnndoefgjbmiaaGreat
open Go.RowKit
def okV (n sp : Nat) (off size : Int) : Bool := sizeB size && (decide (0 ≤ off) && decide (off ≤ (n : Int) - sp - size))
theorem okV_iff (n sp : Nat) (off size : Int) : okV n sp off size = true ↔ sizeB size = true ∧ 0 ≤ off ∧ off ≤ (n : Int) - sp - size := by simp [okV]
def usedV (lu : List Bool) (k m : Nat) : Bool := !((lu.drop k).take m).contains false
theorem sizeB_range {x : Int} (h : sizeB x = true) : 1 ≤ x ∧ x ≤ 16 := by rw [sizeB_iff] at h; omega
theorem right_any (A U : Option Addr) (n c m d sp : Nat) (off size : Int) (h0 : -9223372036854775808 ≤ off) (h1 : off ≤ 9223372036854775807) (g0 : -9223372036854775808 ≤ size) (g1 : size ≤ 9223372036854775807) (hn : n ≤ 1048576) (hsp : sp ≤ n) (w : World) :
 Calls Tryz.prog 111 #[.agg #[.slice A n c, .slice U m d, .int .i64 sp], .int .i64 off, .int .i64 size] w fun e w' => e = .returned (.bool (okV n sp off size)) ∧ Below w.heap.size w w' := by
 have hs := fun W : World => refsize_any size g0 g1 W
 have HI := hQ (okV_iff n sp off size)
 rcases hb : sizeB size with _ | _
 · have hk : okV n sp off size = false := by simp [okV, hb]
   rw [hb] at hs
   rw [hk]
   have HS := hQ hs
   clear hs hb hk HI
   go_enter Tryz.func111, Tryz.ntmps111
   go_wp2_with fail
   refine (HS.out _).mono ?_
   rintro e w1 ⟨rfl, rfl⟩
   go_wp2
   go_ret
   exact ⟨rfl, by go_grown⟩
 · have hr := sizeB_range hb
   rw [hb] at hs
   have HS := hQ hs
   have HB := hQ hb
   clear hs hb
   by_cases h2 : 0 ≤ off
   · by_cases h3 : off ≤ (n : Int) - sp - size
     · have hk : okV n sp off size = true := HI.out.2 ⟨HB.out, h2, h3⟩
       rw [hk]
       clear HI HB hk
       go_enter Tryz.func111, Tryz.ntmps111
       go_wp2_with fail
       refine (HS.out _).mono ?_
       rintro e w1 ⟨rfl, rfl⟩
       go_wp2
       go_ret
       exact ⟨ret_bool (by simp; try omega), by go_grown⟩
     · have hk : okV n sp off size = false := by rw [← Bool.not_eq_true]; intro h; exact h3 (HI.out.1 h).2.2
       rw [hk]
       clear HI HB hk
       go_enter Tryz.func111, Tryz.ntmps111
       go_wp2_with fail
       refine (HS.out _).mono ?_
       rintro e w1 ⟨rfl, rfl⟩
       go_wp2
       go_ret
       rw [decide_eq_false (show ¬ off ≤ (n : Int) - sp - size by omega)]
       exact ⟨rfl, by go_grown⟩
   · have hk : okV n sp off size = false := by rw [← Bool.not_eq_true]; intro h; exact h2 (HI.out.1 h).2.1
     rw [hk]
     clear HI HB hk
     have h4 : off < 0 := by omega
     clear h2
     go_enter Tryz.func111, Tryz.ntmps111
     go_wp2_with fail
     refine (HS.out _).mono ?_
     rintro e w1 ⟨rfl, rfl⟩
     go_wp2
     go_ret
     exact ⟨rfl, by go_grown⟩
theorem Sl.part {α : Type} {f : α → Value} {w : World} {B n k m d : Nat} {A : Option Addr} {l : List α} (h : Sl f w B A n l) (hk : k + m ≤ n) (hm : 0 < m) :
 Sl f w B (A.map (·.add k)) m ((l.drop k).take m) := by
 have h1 := Reads.cut h (k := k) (cap := n) (by omega) nL
 rw [if_neg (by omega), Nat.mul_one, ← List.map_drop] at h1
 exact Sl.take (l := l.drop k) h1 (by omega)
theorem Bs.part {w : World} {B n k m : Nat} {A : Option Addr} {l : List Nat} (h : Bs w B A n l) (hk : k + m ≤ n) (hm : 0 < m) :
 Bs w B (A.map (·.add k)) m ((l.drop k).take m) :=
 ⟨Sl.part (d := 0) (f := fun (x : Nat) => Value.int .u8 (x : Int)) h.1 hk hm, fun x hx => h.2 x (List.mem_of_mem_drop (List.mem_of_mem_take hx))⟩
theorem Sl.at_drop {α : Type} {f : α → Value} {w : World} {B n k j m : Nat} {A : Option Addr} {l : List α} (h : Sl f w B A n l) (hk : k + m ≤ n) (hj : j < m) :
 ∃ ad x, A = some ad ∧ ad.block < B ∧ ((l.drop k).take m)[j]? = some x ∧ w.cell? (ad.add (k + j)) = some (f x) := by
 obtain ⟨ad, x, e, hb, hx, hc⟩ := h.at_ (k := k + j) (by omega)
 exact ⟨ad, x, e, hb, by rw [List.getElem?_take, if_pos hj, List.getElem?_drop]; exact hx, hc⟩
theorem refused_any (A U : Option Addr) (n c d sp k m : Nat) (lu : List Bool) (w : World) (B : Nat) (hb : Sl Value.bool w B U n lu) (hB : B ≤ w.heap.size) (hn : n ≤ 1048576) (hk : sp + k + m ≤ n) :
 Calls Tryz.prog 112 #[.agg #[.slice A n c, .slice U n d, .int .i64 sp], .int .i64 k, .int .i64 m] w fun e w' => e = .returned (.bool (usedV lu (sp + k) m)) ∧ Below w.heap.size w w' := by
 have HV : Hid (usedV lu (sp + k) m = !((lu.drop (sp + k)).take m).contains false) := rfl
 have HL := hQ hb.len
 go_enter Tryz.func112, Tryz.ntmps112
 go_wp2_with fail
 go_loop [7] (fun i => ∃ j : Nat, j ≤ m ∧ i = .int .i64 j ∧ Hid ((((lu.drop (sp + k)).take m).take j).contains false = false)) (fun i => m - (intOf i).toNat)
 case atStart => exact ⟨0, by omega, rfl, hQ (by simp)⟩
 case round =>
  obtain ⟨j, hj, rfl, HC⟩ := hrel
  by_cases hlt : j < m
  · obtain ⟨ad, x, rfl, hbl, hx, hcell⟩ := hb.at_drop (k := sp + k) hk hlt
    have hki : (j : Int) < (m : Int) := by omega
    have hk0 : (0 : Int) ≤ (sp : Int) + k + j := by omega
    have hk1 : (sp : Int) + k + j < n := by omega
    have HX := hQ hx
    have hsz : (ad.add (sp + k + j)).block < w.heap.size := cell_lt hcell
    clear hb hx
    cases x with
    | false =>
     go_wp2
     go_ret
     have : false ∈ (lu.drop (sp + k)).take m := List.mem_of_getElem? HX.out
     refine ⟨ret_bool ?_, by go_grown⟩
     rw [HV.out]
     simp [this]
    | true =>
     go_wp2
     go_round
     case rel =>
      refine ⟨j + 1, by omega, by go_num, hQ ?_⟩
      have hl : j < ((lu.drop (sp + k)).take m).length := by rw [List.length_take, List.length_drop, HL.out]; omega
      have h2 := HX.out
      rw [List.getElem?_eq_getElem hl] at h2
      rw [List.take_succ_eq_append_getElem hl, Option.some.inj h2]
      simpa using HC.out
     case measure => simp [intOf]; omega
  · have hkm : j = m := by omega
    subst hkm
    clear hb
    go_wp2
    go_ret
    refine ⟨ret_bool ?_, by go_grown⟩
    have h2 := HC.out
    rw [List.take_of_length_le (by rw [List.length_take]; omega)] at h2
    rw [HV.out, h2]
    rfl
def popV (n sp : Nat) (k : Int) : Int × Nat := if 0 ≤ k ∧ k ≤ (n : Int) - sp then (0, sp + k.toNat) else (4, sp)
theorem refpop_any (A U : Option Addr) (n c m d sp : Nat) (k : Int) (h0 : -9223372036854775808 ≤ k) (h1 : k ≤ 9223372036854775807) (hn : n ≤ 1048576) (hsp : sp ≤ n) (w : World) :
 Calls Tryz.prog 79 #[.agg #[.slice A n c, .slice U m d, .int .i64 sp], .int .i64 k] w fun e w' => e = .returned (.tuple #[.agg #[.slice A n c, .slice U m d, .int .i64 (popV n sp k).2], .int .i64 (popV n sp k).1]) ∧ Below w.heap.size w w' := by
 have hcase : k < 0 ∨ (n : Int) - sp < k ∨ (0 ≤ k ∧ k ≤ (n : Int) - sp) := by omega
 rcases hcase with h | h | ⟨h, h'⟩
 · have hr : popV n sp k = (4, sp) := by unfold popV; rw [if_neg (by omega)]
   rw [hr]
   clear hr
   go_enter Tryz.func79, Tryz.ntmps79
   go_wp2
   go_returns
   exact ⟨rfl, by go_grown⟩
 · have hr : popV n sp k = (4, sp) := by unfold popV; rw [if_neg (by omega)]
   rw [hr]
   clear hr
   go_enter Tryz.func79, Tryz.ntmps79
   go_wp2
   go_returns
   exact ⟨rfl, by go_grown⟩
 · obtain ⟨j, rfl⟩ := Int.eq_ofNat_of_zero_le h
   have hr : popV n sp (j : Int) = (0, sp + j) := by unfold popV; rw [if_pos ⟨h, h'⟩]; rfl
   rw [hr]
   clear hr
   go_enter Tryz.func79, Tryz.ntmps79
   go_wp2
   go_returns
   exact ⟨rfl, by go_grown⟩
theorem bools_one (l : List Bool) : ∀ u ∈ l.map Value.bool, u.oneCell' = true := by
 intro u hu
 obtain ⟨x, _, rfl⟩ := List.mem_map.1 hu
 rfl
def Frs (B : Nat) (A A' : Option Addr) : Prop := A' = A ∨ ∀ ad, A' = some ad → B ≤ ad.block
theorem Frs.mono {B B' : Nat} {A A' : Option Addr} (h : Frs B' A A') (hb : B ≤ B') : Frs B A A' := h.imp id fun k ad e => Nat.le_trans hb (k ad e)
theorem own_ge {w : World} {base n c : Nat} {e : TypeId} {size : Nat} {A : Option Addr} {xs : List Value} (h : w.ownsRow base e size (.slice A n c) n xs) : ∀ ad, A = some ad → base ≤ ad.block := fun ad ha => by
 rcases h.2 with ⟨h1, -⟩ | ⟨g, cap, cur, h1, h2, -⟩
 · injection h1 with h1; rw [ha] at h1; cases h1
 · injection h1 with h1; rw [ha] at h1; injection h1 with h1; rw [h1]; exact h2
theorem Frs.own {w : World} {B base n c : Nat} {e : TypeId} {size : Nat} {A A' : Option Addr} {xs : List Value} (h : w.ownsRow base e size (.slice A' n c) n xs) (hb : B ≤ base) : Frs B A A' := .inr fun ad e => Nat.le_trans hb (own_ge h ad e)
def StkR (A0 U0 : Option Addr) (w : World) (n : Nat) (r : Int × List Nat × List Bool × Nat) (e : Ending) (w' : World) : Prop :=
 ∃ A c U d, e = .returned (.tuple #[.agg #[.slice A n c, .slice U n d, .int .i64 (r.2.2.2 : Nat)], .int .i64 r.1]) ∧ Bs w' w'.heap.size A n r.2.1 ∧ Sl Value.bool w' w'.heap.size U n r.2.2.1 ∧ n ≤ c ∧ n ≤ d ∧ Below w.heap.size w w' ∧ Frs w.heap.size A0 A ∧ Frs w.heap.size U0 U
def pushV (lb : List Nat) (lu : List Bool) (sp : Nat) (k : Int) : Int × List Nat × List Bool × Nat :=
 if k < 0 then (4, lb, lu, sp) else if (sp : Int) < k then (9, lb, lu, sp) else (0, lb, splice lu (sp - k.toNat) (List.replicate k.toNat false), sp - k.toNat)
theorem own_cap {w : World} {base n c : Nat} {e : TypeId} {size : Nat} {A : Option Addr} {xs : List Value} (h : w.ownsRow base e size (.slice A n c) n xs) : n ≤ c := by
 rcases h.2 with ⟨h1, h2⟩ | ⟨g, cap, cur, h1, _, _, h2, _⟩
 · cases h1; omega
 · cases h1; omega
theorem own_setCell {w : World} {base n c : Nat} {e : TypeId} {size : Nat} {A : Option Addr} {xs : List Value} (h : w.ownsRow base e size (.slice A n c) n xs) (p : Addr) (hp : p.block < base) (u : Value) : (w.setCell p u).ownsRow base e size (.slice A n c) n xs := by
 refine ⟨h.1, ?_⟩
 rcases h.2 with h1 | ⟨g, cap, cur, h1, h2, h3, r⟩
 · exact .inl h1
 · refine .inr ⟨g, cap, cur, h1, h2, ?_, r⟩
   exact (Below.heap_setCell w p u g (by omega)).trans h3
theorem splice_lt {L cs : List Nat} {o : Nat} (h1 : ∀ x ∈ L, x < 256) (h2 : ∀ x ∈ cs, x < 256) : ∀ x ∈ splice L o cs, x < 256 := by
 intro x hx
 unfold splice at hx
 rcases List.mem_append.1 hx with h | h
 · exact h1 x (List.mem_of_mem_take h)
 · rcases List.mem_append.1 h with h | h
   · exact h2 x h
   · exact h1 x (List.mem_of_mem_drop h)
theorem splice_get {α : Type} (L cs : List α) (o i : Nat) (h : o + cs.length ≤ L.length) : (splice L o cs)[i]? = if i < o then L[i]? else if i < o + cs.length then cs[i - o]? else L[i]? := by
 have hl : (L.take o).length = o := by simp; omega
 unfold splice
 by_cases h1 : i < o
 · rw [if_pos h1, List.getElem?_append_left (by omega), List.getElem?_take, if_pos h1]
 · rw [if_neg h1, List.getElem?_append_right (by omega), hl]
   by_cases h2 : i < o + cs.length
   · rw [if_pos h2, List.getElem?_append_left (by omega)]
   · rw [if_neg h2, List.getElem?_append_right (by omega), List.getElem?_drop]
     congr 1
     omega
theorem splice_rep {α : Type} (L : List α) (k j : Nat) (x : α) (h : k + j < L.length) : (splice L k (List.replicate j x)).set (k + j) x = splice L k (List.replicate (j + 1) x) := by
 have hl : (splice L k (List.replicate j x)).length = L.length := length_splice _ _ _ (by simp; omega)
 apply List.ext_getElem?
 intro i
 rw [List.getElem?_set, hl, splice_get _ _ _ _ (by simp; omega), splice_get _ _ _ _ (by simp; omega)]
 simp only [List.length_replicate, List.getElem?_replicate]
 by_cases h1 : k + j = i
 · subst h1
   rw [if_pos rfl, if_pos h, if_neg (by omega), if_pos (by omega), if_pos (by omega)]
 · rw [if_neg h1]
   by_cases h2 : i < k
   · rw [if_pos h2, if_pos h2]
   · rw [if_neg h2, if_neg h2]
     by_cases h3 : i < k + j
     · rw [if_pos h3, if_pos (by omega), if_pos (by omega), if_pos (by omega)]
     · rw [if_neg h3, if_neg (by omega)]
theorem copy_any (A U : Option Addr) (n c d sp : Nat) (lb : List Nat) (lu : List Bool)
 (w : World) (hb : Bs w w.heap.size A n lb) (hu : Sl Value.bool w w.heap.size U n lu) (hn : n ≤ 1048576) (hcap : n ≤ c) (hd : n ≤ d) :
 Calls Tryz.prog 78 #[.agg #[.slice A n c, .slice U n d, .int .i64 sp]] w fun e w' =>
  ∃ A' c' U' d', e = .returned (.agg #[.slice A' n c', .slice U' n d', .int .i64 sp]) ∧ w'.ownsRow w.heap.size 5 1 (.slice A' n c') n (nb lb) ∧ w'.ownsRow w.heap.size 4 1 (.slice U' n d') n (lu.map Value.bool) ∧ n ≤ c' ∧ n ≤ d' ∧ Below w.heap.size w w' := by
 obtain ⟨i, hi, i0, i1, i2⟩ := info_parts info_u8
 obtain ⟨j, hj, j0, j1, j2⟩ := info_parts info_bool
 have HA := hQ hb.1
 have HU : Hid (Reads w w.heap.size 1 U n (lu.map Value.bool)) := hQ hu
 clear hb hu
 have S0 : Below w.heap.size w (((w.alloc (.cells #[.slice A n c, .slice U n d, .int .i64 sp] 69)).alloc (.cells #[.slice none 0 0, .slice none 0 0, .int .i64 0] 69))).drew := by go_grown
 have HS0 := hQ S0
 clear S0
 go_enter Tryz.func78, Tryz.ntmps78
 go_wp2_with fail
 go_region_law (first
  | (refine step_append_any _ rfl (.const (.slice none 0 0)) (.tmp 4) 22 rfl (w.heap.size + 2) 5 i _ 1 1 Tryz.underlying22 hi i0 i1 i2 rfl (by omega) (.slice none 0 0) 0 [] rfl (World.ownsRow_nil _ _ _ _) w.heap.size A n c (nb lb) (by simp [Act.eval, Act.put]) (by first | exact HA.out.below HS2.out | exact HA.out.below HS0.out) (nb_one lb) (by unfold maxLen; omega) (by omega) (by first | omega | (simp; done)) ?_; intro v1 w1 own1 g1 at1; clear at1; simp only [Nat.zero_add, List.nil_append] at own1; have bel1 := bR.grown g1 nL (fun k hk => by cases hk); obtain ⟨V1, k1, rfl, hm1⟩ := own_form own1; have hk1 := own_cap own1; obtain ⟨hc1, hf1⟩ := bcell bel1; (have hz1 := bel1.size; try simp at hz1); have z1 : w.heap.size < w1.heap.size := (by omega); have z1' : w.heap.size + 1 < w1.heap.size := (by omega); have HS1 := hQ (show Below w.heap.size w w1 from by first | exact HS2.out.trans (bel1.mono (by omega)) | exact HS0.out.trans (bel1.mono (by simp; omega))); have OWN1 := hQ own1; have BEL1 := hQ bel1; have s10 : w1.cell? ⟨w.heap.size, 0, none⟩ = some (.slice A n c) := (by first | (rw [hc1 _ _ z2]; exact s20) | (rw [hc1 _ _ (by simp <;> omega)]; go_simp)); have r10 : w1.frozen? ⟨w.heap.size, 0, none⟩ = false := (by first | (rw [hf1 _ _ z2]; exact r20) | (rw [hf1 _ _ (by simp <;> omega)]; go_simp)); have s11 : w1.cell? ⟨w.heap.size, 1, none⟩ = some (.slice U n d) := (by first | (rw [hc1 _ _ z2]; exact s21) | (rw [hc1 _ _ (by simp <;> omega)]; go_simp)); have r11 : w1.frozen? ⟨w.heap.size, 1, none⟩ = false := (by first | (rw [hf1 _ _ z2]; exact r21) | (rw [hf1 _ _ (by simp <;> omega)]; go_simp)); have s12 : w1.cell? ⟨w.heap.size, 2, none⟩ = some (.int .i64 sp) := (by first | (rw [hc1 _ _ z2]; exact s22) | (rw [hc1 _ _ (by simp <;> omega)]; go_simp)); have r12 : w1.frozen? ⟨w.heap.size, 2, none⟩ = false := (by first | (rw [hf1 _ _ z2]; exact r22) | (rw [hf1 _ _ (by simp <;> omega)]; go_simp)); have q10 : w1.cell? ⟨w.heap.size + 1, 0, none⟩ = some (.slice none 0 0) := (by first | (rw [hc1 _ _ z2']; exact q20) | (rw [hc1 _ _ (by simp <;> omega)]; go_simp)); have f10 : w1.frozen? ⟨w.heap.size + 1, 0, none⟩ = false := (by first | (rw [hf1 _ _ z2']; exact f20) | (rw [hf1 _ _ (by simp <;> omega)]; go_simp)); have q11 : w1.cell? ⟨w.heap.size + 1, 1, none⟩ = some (.slice none 0 0) := (by first | (rw [hc1 _ _ z2']; exact q21) | (rw [hc1 _ _ (by simp <;> omega)]; go_simp)); have f11 : w1.frozen? ⟨w.heap.size + 1, 1, none⟩ = false := (by first | (rw [hf1 _ _ z2']; exact f21) | (rw [hf1 _ _ (by simp <;> omega)]; go_simp)); have q12 : w1.cell? ⟨w.heap.size + 1, 2, none⟩ = some (.int .i64 0) := (by first | (rw [hc1 _ _ z2']; exact q22) | (rw [hc1 _ _ (by simp <;> omega)]; go_simp)); have f12 : w1.frozen? ⟨w.heap.size + 1, 2, none⟩ = false := (by first | (rw [hf1 _ _ z2']; exact f22) | (rw [hf1 _ _ (by simp <;> omega)]; go_simp)); clear own1 bel1 hz1 hc1 hf1 g1)
  | (refine step_append_any _ rfl (.const (.slice none 0 0)) (.tmp 7) 67 rfl (w.heap.size + 2) 4 j _ 1 1 Tryz.underlying67 hj j0 j1 j2 rfl (by omega) (.slice none 0 0) 0 [] rfl (World.ownsRow_nil _ _ _ _) w.heap.size U n d (lu.map Value.bool) (by simp [Act.eval, Act.put]) (by first | exact HU.out.below HS1.out | exact HU.out.below HS0.out) (bools_one lu) (by unfold maxLen; omega) (by omega) (by first | omega | (simp; done)) ?_; intro v2 w2 own2 g2 at2; clear at2; simp only [Nat.zero_add, List.nil_append] at own2; have bel2 := bR.grown g2 nL (fun k hk => by cases hk); obtain ⟨V2, k2, rfl, hm2⟩ := own_form own2; have hk2 := own_cap own2; obtain ⟨hc2, hf2⟩ := bcell bel2; (have hz2 := bel2.size; try simp at hz2); have z2 : w.heap.size < w2.heap.size := (by omega); have z2' : w.heap.size + 1 < w2.heap.size := (by omega); have HS2 := hQ (show Below w.heap.size w w2 from by first | exact HS1.out.trans (bel2.mono (by omega)) | exact HS0.out.trans (bel2.mono (by simp; omega))); have OWN2 := hQ own2; have BEL2 := hQ bel2; have s20 : w2.cell? ⟨w.heap.size, 0, none⟩ = some (.slice A n c) := (by first | (rw [hc2 _ _ z1]; exact s10) | (rw [hc2 _ _ (by simp <;> omega)]; go_simp)); have r20 : w2.frozen? ⟨w.heap.size, 0, none⟩ = false := (by first | (rw [hf2 _ _ z1]; exact r10) | (rw [hf2 _ _ (by simp <;> omega)]; go_simp)); have s21 : w2.cell? ⟨w.heap.size, 1, none⟩ = some (.slice U n d) := (by first | (rw [hc2 _ _ z1]; exact s11) | (rw [hc2 _ _ (by simp <;> omega)]; go_simp)); have r21 : w2.frozen? ⟨w.heap.size, 1, none⟩ = false := (by first | (rw [hf2 _ _ z1]; exact r11) | (rw [hf2 _ _ (by simp <;> omega)]; go_simp)); have s22 : w2.cell? ⟨w.heap.size, 2, none⟩ = some (.int .i64 sp) := (by first | (rw [hc2 _ _ z1]; exact s12) | (rw [hc2 _ _ (by simp <;> omega)]; go_simp)); have r22 : w2.frozen? ⟨w.heap.size, 2, none⟩ = false := (by first | (rw [hf2 _ _ z1]; exact r12) | (rw [hf2 _ _ (by simp <;> omega)]; go_simp)); have q20 : w2.cell? ⟨w.heap.size + 1, 0, none⟩ = some (.slice none 0 0) := (by first | (rw [hc2 _ _ z1']; exact q10) | (rw [hc2 _ _ (by simp <;> omega)]; go_simp)); have f20 : w2.frozen? ⟨w.heap.size + 1, 0, none⟩ = false := (by first | (rw [hf2 _ _ z1']; exact f10) | (rw [hf2 _ _ (by simp <;> omega)]; go_simp)); have q21 : w2.cell? ⟨w.heap.size + 1, 1, none⟩ = some (.slice none 0 0) := (by first | (rw [hc2 _ _ z1']; exact q11) | (rw [hc2 _ _ (by simp <;> omega)]; go_simp)); have f21 : w2.frozen? ⟨w.heap.size + 1, 1, none⟩ = false := (by first | (rw [hf2 _ _ z1']; exact f11) | (rw [hf2 _ _ (by simp <;> omega)]; go_simp)); have q22 : w2.cell? ⟨w.heap.size + 1, 2, none⟩ = some (.int .i64 0) := (by first | (rw [hc2 _ _ z1']; exact q12) | (rw [hc2 _ _ (by simp <;> omega)]; go_simp)); have f22 : w2.frozen? ⟨w.heap.size + 1, 2, none⟩ = false := (by first | (rw [hf2 _ _ z1']; exact f12) | (rw [hf2 _ _ (by simp <;> omega)]; go_simp)); clear own2 bel2 hz2 hc2 hf2 g2))
 all_goals first
  | (have o1 := own_keep OWN1.out BEL2.out nL
     have o2 := OWN2.out
     have HF := HS2
     clear HA HU
     go_wp2
     refine bodyPost_ret (v := .agg #[.slice V1 n k1, .slice V2 n k2, .int .i64 sp]) (by simp [results, Tryz.results78, go_sem, *]) rfl ?_
     refine ⟨_, _, _, _, rfl, own_base (base := w.heap.size + 2) (own_setCell (own_setCell (own_setCell (own_setCell (own_setCell o1 _ ?_ _) _ ?_ _) _ ?_ _) _ ?_ _) _ ?_ _) (by omega), own_base (base := w.heap.size + 2) (own_setCell (own_setCell (own_setCell (own_setCell (own_setCell o2 _ ?_ _) _ ?_ _) _ ?_ _) _ ?_ _) _ ?_ _) (by omega), hk1, hk2, ((((HF.out.setCell (by simp) _).setCell (by simp) _).setCell (by simp) _).setCell (by simp) _).setCell (by simp) _⟩
     all_goals first | (show w.heap.size + 1 < w.heap.size + 2; omega) | (show w.heap.size < w.heap.size + 2; omega))
  | (have o2 := own_keep OWN2.out BEL1.out nL
     have o1 := OWN1.out
     have HF := HS1
     clear HA HU
     go_wp2
     refine bodyPost_ret (v := .agg #[.slice V1 n k1, .slice V2 n k2, .int .i64 sp]) (by simp [results, Tryz.results78, go_sem, *]) rfl ?_
     refine ⟨_, _, _, _, rfl, own_base (base := w.heap.size + 2) (own_setCell (own_setCell (own_setCell (own_setCell (own_setCell o1 _ ?_ _) _ ?_ _) _ ?_ _) _ ?_ _) _ ?_ _) (by omega), own_base (base := w.heap.size + 2) (own_setCell (own_setCell (own_setCell (own_setCell (own_setCell o2 _ ?_ _) _ ?_ _) _ ?_ _) _ ?_ _) _ ?_ _) (by omega), hk1, hk2, ((((HF.out.setCell (by simp) _).setCell (by simp) _).setCell (by simp) _).setCell (by simp) _).setCell (by simp) _⟩
     all_goals first | (show w.heap.size + 1 < w.heap.size + 2; omega) | (show w.heap.size < w.heap.size + 2; omega))
def storeV (n sp : Nat) (lb : List Nat) (lu : List Bool) (a b : Nat) (off size : Int) : Int × List Nat × List Bool × Nat :=
 if okV n sp off size = true then (0, splice lb (sp + off.toNat) (bytesV a b size.toNat), splice lu (sp + off.toNat) (List.replicate size.toNat true), sp) else (4, lb, lu, sp)
end Go.Proofs.YtcnndoefgjbmiaaGreat
