/- Contracts: ref28.Order; ref03.Add; ref29.All. -/
import Derived.Test.YtgamodmenlhedaaCf10
import Derived.Test.YtgamodmenlhedaaCfPlain3
import Derived.Test.YtgamodmenlhedaaZo
namespace Go.Proofs.Ytgamodmenlhedaa.cf
open Go.RowKit
set_option linter.unusedVariables false
set_option maxRecDepth 10000

theorem addGo_mem (x : Int) (y : Int) : ∀ (l : List Int) (d : Bool), y ∈ addGo x l d ↔ y ∈ l ∨ (d = false ∧ y = x)
  | [], d => by cases d <;> simp [addGo]
  | a :: r, true => by
    have h := addGo_mem x y r true
    simp only [addGo, List.mem_cons]; simp at h; rw [h]; simp
  | a :: r, false => by
    have h1 := addGo_mem x y r true
    have h2 := addGo_mem x y r false
    simp at h1 h2
    unfold addGo
    split
    · split
      · simp only [List.mem_cons, h1]
        constructor
        · rintro (h | h | h)
          · exact .inr ⟨by simp, h⟩
          · exact .inl (.inl h)
          · exact .inl (.inr h)
        · rintro ((h | h) | ⟨_, h⟩)
          · exact .inr (.inl h)
          · exact .inr (.inr h)
          · exact .inl h
      · have e : x = a := by omega
        subst e
        simp only [List.mem_cons, h1]
        constructor
        · rintro (h | h)
          · exact .inl (.inl h)
          · exact .inl (.inr h)
        · rintro ((h | h) | ⟨_, h⟩)
          · exact .inl h
          · exact .inr h
          · exact .inl h
    · simp only [List.mem_cons, h2]
      constructor
      · rintro (h | h | h)
        · exact .inl (.inl h)
        · exact .inl (.inr h)
        · exact .inr ⟨by simp, h⟩
      · rintro ((h | h) | ⟨_, h⟩)
        · exact .inl h
        · exact .inr (.inl h)
        · exact .inr (.inr h)
theorem addL_mem {l : List Int} {x y : Int} (h0 : 0 ≤ x) (h1 : x < 512) : y ∈ addL l x ↔ y ∈ l ∨ y = x := by
  unfold addL
  rw [addGo_mem]
  simp [h0, h1]

def lenA : Value → Nat
  | .slice _ n _ => n
  | _ => 0
theorem set_ge {l : List Int} (h : SetOk l) : ∀ i, i < l.length → (i : Int) ≤ l.getD i 0 := by
  intro i
  induction i with
  | zero => intro hi; exact (h 0 hi).1
  | succ i ih =>
    intro hi
    have h1 := ih (by omega)
    have h2 := (h (i + 1) hi).2.2 (by omega)
    simp only [Nat.add_sub_cancel] at h2
    omega
theorem set_len {l : List Int} (h : SetOk l) : l.length ≤ 512 := by
  rcases Nat.eq_zero_or_pos l.length with h0 | h0
  · omega
  · have h1 := set_ge h (l.length - 1) (by omega)
    have h2 := (h (l.length - 1) (by omega)).2.1
    omega
/-- what Order answers -/
def OrderR (g : List (List Int)) (w : World) (e : Ending) (w' : World) : Prop :=
  (∃ r out, e = .returned (.tuple #[r, .int .i64 0]) ∧ w'.ownsRow w.heap.size 3 1 r out.length (out.map (Value.int .i64)) ∧ Part g out ∧ out.length = g.length ∧ Below w.heap.size w w') ∨
  (e = .returned (.tuple #[.slice none 0 0, .int .i64 8]) ∧ Stuck g ∧ Below w.heap.size w w')
/-- a function that can come next -/
def Cand (g : List (List Int)) (out : List Int) (i : Nat) : Prop := (i : Int) ∉ out ∧ ∀ k, k < (nx g i).length → (nx g i).getD k 0 ∈ out

set_option maxHeartbeats 4000000 in
theorem order_any (A : Option Addr) (n c : Nat) (g : List (List Int)) (w : World) (h : Gz w A n g) (hg : GrOk g) :
    Calls Try.prog 55 #[.slice A n c] w (OrderR g w) := by
  obtain ⟨i0, hi0, hz0, hz1, hz2⟩ := info_parts info_int
  have HL := Lib.hid h.len
  have HI := Lib.hid h
  have HG := Lib.hid hg
  have hn : n ≤ 80 := by have := hg.2.1; rw [h.len] at this; exact this
  clear h hg
  go_enter Try.func55, Try.ntmps55
  go_wp2
  go_loopw [4, 5] (fun o d wr => ∃ (out done : List Int), out.length ≤ n ∧ done.length ≤ out.length ∧ Hid (Part g out) ∧ Hid (∀ x, x ∈ done ↔ x ∈ out) ∧ wr.ownsRow w.heap.size 3 1 o out.length (out.map (Value.int .i64)) ∧ wr.ownsRow w.heap.size 3 1 d done.length (done.map (Value.int .i64)) ∧ Hid (d.ownBlock = none ∨ d.ownBlock ≠ o.ownBlock) ∧ Hid (Below w.heap.size w wr)) (fun o _ _ => n - lenA o)
  case atStart => exact ⟨[], [], by simp, by simp, Lib.hid (part_nil g), Lib.hid (fun x => Iff.rfl), World.ownsRow_nil _ _ _ _, World.ownsRow_nil _ _ _ _, Lib.hid (.inl rfl), Lib.hid (Below.refl _ _)⟩
  case round =>
    obtain ⟨out, done, hol, hdl, HP, HD, own, ownd, HN, bel⟩ := hrel
    have hsz := bel.out.size
    obtain ⟨Ao, co, rfl, hmo, hco, hio⟩ := fresh_ints own
    obtain ⟨Ad, cd, rfl, hmd, hcd, hid⟩ := fresh_ints ownd
    unfold maxLen at hmo hmd
    have HIO := Lib.hid hio
    have HID := Lib.hid hid
    clear hio hid
    generalize wr = wo at *
    by_cases hlt : out.length < n
    · have hli : (out.length : Int) < (n : Int) := by omega
      go_wp2
      go_loopw [6, 7] (fun nx_ i wr2 => ∃ (k : Nat) (x : Int), k ≤ n ∧ i = .int .i64 k ∧ nx_ = .int .i64 x ∧ Hid ((x = -1 ∧ ∀ j, j < k → ¬ Cand g out j) ∨ ∃ j : Nat, x = (j : Int) ∧ j < n ∧ Cand g out j) ∧ Hid (Below wo.heap.size wo wr2)) (fun x i _ => n - (intOf i).toNat)
      case atStart => exact ⟨0, -1, by omega, rfl, rfl, Lib.hid (.inl ⟨rfl, fun j hj => by omega⟩), Lib.hid (Below.refl _ _)⟩
      case round =>
        obtain ⟨k, x, hk, rfl, rfl, HX, bel2⟩ := hrel
        have hsz2 := bel2.out.size
        have hk0 : (0 : Int) ≤ (k : Int) := by omega
        rcases HX.out with ⟨rfl, hno⟩ | ⟨j, rfl, hj, hcand⟩
        · have HNO := Lib.hid hno
          clear hno HX
          by_cases hkn : k < n
          · have hki : (k : Int) < (n : Int) := by omega
            obtain ⟨ag, A', n', c', rfl, hbl, hc, hr, hm', hcap⟩ := (HI.out.below (bel.out.trans (bel2.out.mono hsz))).at_ hkn
            have hn' : n' ≤ 512 := by
              have := set_len (HG.out.2.2 k (by rw [HL.out]; exact hkn)).1
              rw [hr.len] at this; exact this
            have hD2 := HID.out.below bel2.out
            by_cases hin : (k : Int) ∈ out
            · have hh := has_any Ad done.length cd done (k : Int) wr hD2 (by unfold maxLen; omega)
              rw [decide_eq_true ((HD.out _).2 hin)] at hh
              have HH := Lib.hid hh
              have HG2 : Hid (∀ j, j < k + 1 → ¬ Cand g out j) := Lib.hid (fun j hj hcc => by
                rcases Nat.lt_or_ge j k with h1 | h1
                · exact HNO.out j h1 hcc
                · obtain rfl : j = k := (by omega)
                  exact hcc.1 hin)
              clear hh hin hr hD2
              go_wp2_with (go_at_call 84; refine HH.out.mono ?_; rintro e w' ⟨rfl, rfl⟩)
              go_roundw
              case rel => exact ⟨k + 1, -1, by omega, by go_num, rfl, Lib.hid (.inl ⟨rfl, HG2.out⟩), bel2⟩
              case measure => simp [intOf]; omega
            · have hh := has_any Ad done.length cd done (k : Int) wr hD2 (by unfold maxLen; omega)
              rw [decide_eq_false (fun h => hin ((HD.out _).1 h))] at hh
              have HH := Lib.hid hh
              have hw := within2_any A' Ad n' c' done.length cd (g.getD k []) done wr hr hD2 (by omega) (by unfold maxLen; omega)
              by_cases hwi : withinB (g.getD k []) done = true
              · rw [hwi] at hw
                have HW := Lib.hid hw
                have HC : Hid (Cand g out k) := Lib.hid ⟨hin, fun j hj => (HD.out _).1 (withinB_iff.1 hwi j hj)⟩
                clear hh hw hwi hin hr hD2
                go_wp2_with (first | (go_at_call 84; refine HH.out.mono ?_; rintro e w' ⟨rfl, rfl⟩) | (go_at_call 85; refine HW.out.mono ?_; rintro e w3 ⟨rfl, hb3⟩; have HB3 := Lib.hid hb3; clear hb3))
                go_roundw
                case rel => exact ⟨k + 1, k, by omega, by go_num, rfl, Lib.hid (.inr ⟨k, rfl, hkn, HC.out⟩), Lib.hid (bel2.out.trans (HB3.out.mono hsz2))⟩
                case measure => simp [intOf]; omega
              · have hwf : withinB (g.getD k []) done = false := by simpa using hwi
                rw [hwf] at hw
                have HW := Lib.hid hw
                have HC : Hid (¬ Cand g out k) := Lib.hid (fun hc => hwi (withinB_iff.2 fun j hj => (HD.out _).2 (hc.2 j hj)))
                clear hh hw hwi hwf hin hr hD2
                go_wp2_with (first | (go_at_call 84; refine HH.out.mono ?_; rintro e w' ⟨rfl, rfl⟩) | (go_at_call 85; refine HW.out.mono ?_; rintro e w3 ⟨rfl, hb3⟩; have HB3 := Lib.hid hb3; clear hb3))
                go_roundw
                case rel => exact ⟨k + 1, -1, by omega, by go_num, rfl, Lib.hid (.inl ⟨rfl, fun j hj => by
                  rcases Nat.lt_or_ge j k with h1 | h1
                  · exact HNO.out j h1
                  · obtain rfl : j = k := (by omega)
                    exact HC.out⟩), Lib.hid (bel2.out.trans (HB3.out.mono hsz2))⟩
                case measure => simp [intOf]; omega
          · have HS : Hid (Stuck g) := Lib.hid (part_stuck HG.out (by rw [HL.out]; exact hlt) (fun i hi hn => Classical.byContradiction fun hc => HNO.out i (by rw [HL.out] at hi; omega) ⟨hn, fun k hk => Classical.byContradiction fun h => hc ⟨k, hk, h⟩⟩))
            go_wp2
            go_ret2
            exact .inr ⟨rfl, HS.out, bel.out.trans (bel2.out.mono hsz)⟩
        · have HC := Lib.hid hcand
          have hj0 : (0 : Int) ≤ (j : Int) := by omega
          have own2 := own_keep own bel2.out (Nat.le_refl _)
          have ownd2 := own_keep ownd bel2.out (Nat.le_refl _)
          have bel3 : Hid (Below w.heap.size w wr) := Lib.hid (bel.out.trans (bel2.out.mono hsz))
          have hsz3 := bel3.out.size
          clear hcand HX
          have HNX : Hid (Part g (out ++ [(j : Int)])) := Lib.hid (part_snoc HP.out (by rw [HL.out]; exact hj) HC.out.1 HC.out.2)
          have HNL := Lib.hid (addL_len done (j : Int))
          have HMM : Hid (∀ x, x ∈ addL done (j : Int) ↔ x ∈ out ++ [(j : Int)]) := Lib.hid (fun x => by rw [addL_mem (by omega) (by omega), HD.out x]; simp)
          by_cases hki : (k : Int) < (n : Int)
          all_goals
            go_wp2_with (first | (at_builtin; refine wpList_append_any _ rfl (.tmp 38) (.tmp 40) _ rfl w.heap.size 3 i0 _ 1 8 Try.underlying24 hi0 hz0 hz1 hz2 rfl (by omega) _ (out).length ((out).map (Value.int .i64)) rfl (own2.alloc _) (wr.heap.size + 1) (some ⟨wr.heap.size, 0, none⟩) 1 1 [Value.int .i64 (j : Int)] rfl (reads_one wr _ _) (by simp [Value.oneCell']) (by unfold maxLen; omega) (by omega) (by simp; omega) ?_; intro v1 w1 own1 hg1 hat1; have bel1 := Lib.hid (below_append (bel3.out.alloc hsz3 _) (own2.alloc _) hg1 (Nat.le_refl _) (by simp; omega)); have hsz1 := bel1.out.size); obtain ⟨A1, c1, rfl, -⟩ := own_form own1; have ownd3 := (ownd2.alloc (.cells #[Value.int .i64 (j : Int)] 3)).kept hg1 HN.out; have hiz3 := Iz.of_own ownd3; have HA := Lib.hid (add_any Ad done.length cd done (j : Int) w1 hiz3 (by omega)) | (go_at_call 59; refine HA.out.mono ?_; rintro e w4 ⟨r4, rfl, own4, hb4⟩))
            go_roundw
            case rel => exact ⟨out ++ [(j : Int)], addL done (j : Int), by simp; omega, by simp; have := HNL.out; omega, HNX, HMM, by simpa using own_keep own1 hb4 (Nat.le_refl _), own_base own4 hsz1, Lib.hid (by
              rcases hq : r4.ownBlock with _ | b4
              · exact .inl rfl
              · exact .inr (fun e => by
                  have h1 := (own4.lt b4 hq).1
                  have h2 := (own1.lt b4 e.symm).2
                  omega)), Lib.hid (bel1.out.trans (hb4.mono hsz1))⟩
            case measure => simp [lenA]; omega
    · have HE : Hid (out.length = g.length) := Lib.hid (by rw [HL.out]; omega)
      go_wp2
      go_ret2
      exact .inl ⟨_, out, rfl, own, HP.out, HE.out, bel.out⟩
end Go.Proofs.Ytgamodmenlhedaa.cf
