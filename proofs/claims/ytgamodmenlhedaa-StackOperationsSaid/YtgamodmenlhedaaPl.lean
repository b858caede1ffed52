/- Contracts of the parts of a stack: places, used bytes, Pop. -/
import Derived.Test.YtgamodmenlhedaaOwn
import Derived.Test.YtgamodmenlhedaaVal
namespace Go.Proofs.Ytgamodmenlhedaa
open Go.RowKit
set_option linter.unusedVariables false
set_option maxRecDepth 10000

def okV (n sp : Nat) (off size : Int) : Bool := sizeB size && (decide (0 ≤ off) && decide (off ≤ (n : Int) - sp - size))
theorem okV_iff (n sp : Nat) (off size : Int) : okV n sp off size = true ↔ sizeB size = true ∧ 0 ≤ off ∧ off ≤ (n : Int) - sp - size := by simp [okV]
def usedV (lu : List Bool) (k m : Nat) : Bool := !((lu.drop k).take m).contains false
theorem sizeB_range {x : Int} (h : sizeB x = true) : 1 ≤ x ∧ x ≤ 16 := by rw [sizeB_iff] at h; omega

theorem place_any (A U : Option Addr) (n c m d sp : Nat) (off size : Int) (h0 : -9223372036854775808 ≤ off) (h1 : off ≤ 9223372036854775807) (g0 : -9223372036854775808 ≤ size) (g1 : size ≤ 9223372036854775807) (hn : n ≤ 1048576) (hsp : sp ≤ n) (w : World) :
    Calls Try.prog 62 #[.agg #[.slice A n c, .slice U m d, .int .i64 sp], .int .i64 off, .int .i64 size] w fun e w' => ∃ a : Int, e = .returned (.tuple #[.int .i64 a, .bool (okV n sp off size)]) ∧ (okV n sp off size = true → a = (sp : Int) + off) ∧ Below w.heap.size w w' := by
  have hs := fun W : World => size_any size g0 g1 W
  have HI := Lib.hid (okV_iff n sp off size)
  rcases hb : sizeB size with _ | _
  · have hk : okV n sp off size = false := by simp [okV, hb]
    rw [hb] at hs
    rw [hk]
    have HS := Lib.hid hs
    clear hs hb hk HI
    go_enter Try.func62, Try.ntmps62
    go_wp2_with fail
    refine (HS.out _).mono ?_
    rintro e w1 ⟨rfl, rfl⟩
    go_wp2
    go_returns
    exact ⟨_, rfl, by simp, by go_grown⟩
  · have hr := sizeB_range hb
    rw [hb] at hs
    have HS := Lib.hid hs
    have HB := Lib.hid hb
    clear hs hb
    by_cases h2 : 0 ≤ off
    · by_cases h3 : off ≤ (n : Int) - sp - size
      · have hk : okV n sp off size = true := HI.out.2 ⟨HB.out, h2, h3⟩
        rw [hk]
        clear HI HB hk
        go_enter Try.func62, Try.ntmps62
        go_wp2_with fail
        refine (HS.out _).mono ?_
        rintro e w1 ⟨rfl, rfl⟩
        go_wp2
        go_returns
        exact ⟨_, rfl, fun _ => rfl, by go_grown⟩
      · have hk : okV n sp off size = false := by rw [← Bool.not_eq_true]; intro h; exact h3 (HI.out.1 h).2.2
        rw [hk]
        clear HI HB hk
        go_enter Try.func62, Try.ntmps62
        go_wp2_with fail
        refine (HS.out _).mono ?_
        rintro e w1 ⟨rfl, rfl⟩
        go_wp2
        go_returns
        rw [decide_eq_false (show ¬ off ≤ (n : Int) - sp - size by omega)]
        exact ⟨_, rfl, by simp, by go_grown⟩
    · have hk : okV n sp off size = false := by rw [← Bool.not_eq_true]; intro h; exact h2 (HI.out.1 h).2.1
      rw [hk]
      clear HI HB hk
      have h4 : off < 0 := by omega
      clear h2
      go_enter Try.func62, Try.ntmps62
      go_wp2_with fail
      refine (HS.out _).mono ?_
      rintro e w1 ⟨rfl, rfl⟩
      go_wp2
      go_returns
      exact ⟨⟨_, rfl⟩, by go_grown⟩

theorem right_any (A U : Option Addr) (n c m d sp : Nat) (off size : Int) (h0 : -9223372036854775808 ≤ off) (h1 : off ≤ 9223372036854775807) (g0 : -9223372036854775808 ≤ size) (g1 : size ≤ 9223372036854775807) (hn : n ≤ 1048576) (hsp : sp ≤ n) (w : World) :
    Calls Try.prog 92 #[.agg #[.slice A n c, .slice U m d, .int .i64 sp], .int .i64 off, .int .i64 size] w fun e w' => e = .returned (.bool (okV n sp off size)) ∧ Below w.heap.size w w' := by
  have hs := fun W : World => refsize_any size g0 g1 W
  have HI := Lib.hid (okV_iff n sp off size)
  rcases hb : sizeB size with _ | _
  · have hk : okV n sp off size = false := by simp [okV, hb]
    rw [hb] at hs
    rw [hk]
    have HS := Lib.hid hs
    clear hs hb hk HI
    go_enter Try.func92, Try.ntmps92
    go_wp2_with fail
    refine (HS.out _).mono ?_
    rintro e w1 ⟨rfl, rfl⟩
    go_wp2
    go_ret
    exact ⟨rfl, by go_grown⟩
  · have hr := sizeB_range hb
    rw [hb] at hs
    have HS := Lib.hid hs
    have HB := Lib.hid hb
    clear hs hb
    by_cases h2 : 0 ≤ off
    · by_cases h3 : off ≤ (n : Int) - sp - size
      · have hk : okV n sp off size = true := HI.out.2 ⟨HB.out, h2, h3⟩
        rw [hk]
        clear HI HB hk
        go_enter Try.func92, Try.ntmps92
        go_wp2_with fail
        refine (HS.out _).mono ?_
        rintro e w1 ⟨rfl, rfl⟩
        go_wp2
        go_ret
        exact ⟨ret_bool (by simp; try omega), by go_grown⟩
      · have hk : okV n sp off size = false := by rw [← Bool.not_eq_true]; intro h; exact h3 (HI.out.1 h).2.2
        rw [hk]
        clear HI HB hk
        go_enter Try.func92, Try.ntmps92
        go_wp2_with fail
        refine (HS.out _).mono ?_
        rintro e w1 ⟨rfl, rfl⟩
        go_wp2
        go_ret
        rw [decide_eq_false (show ¬ off ≤ (n : Int) - sp - size by omega)]
        exact ⟨rfl, by go_grown⟩
    · have hk : okV n sp off size = false := by rw [← Bool.not_eq_true]; intro h; exact h2 (HI.out.1 h).2.1
      rw [hk]
      clear HI HB hk
      have h4 : off < 0 := by omega
      clear h2
      go_enter Try.func92, Try.ntmps92
      go_wp2_with fail
      refine (HS.out _).mono ?_
      rintro e w1 ⟨rfl, rfl⟩
      go_wp2
      go_ret
      exact ⟨rfl, by go_grown⟩

theorem index_any (U : Option Addr) (m d : Nat) (lu : List Bool) (w : World) (B : Nat) (hb : Sl Value.bool w B U m lu) (hm : m ≤ maxLen) :
    Calls Try.prog 101 #[.slice U m d, .bool false] w fun e w' => (∃ i : Int, e = .returned (.int .i64 i) ∧ -1 ≤ i ∧ i ≤ 9223372036854775807 ∧ (0 ≤ i ↔ lu.contains false = true)) ∧ w = w' := by
  unfold maxLen at hm
  have HL := Lib.hid hb.len
  go_enter Try.func101, Try.ntmps101
  go_wp2
  go_loop [8] (fun i => ∃ k : Nat, k ≤ m ∧ i = .int .i64 k ∧ Hid ((lu.take k).contains false = false)) (fun i => m - (intOf i).toNat)
  case atStart => exact ⟨0, by omega, rfl, Lib.hid (by simp)⟩
  case round =>
    obtain ⟨k, hk, rfl, HC⟩ := hrel
    by_cases hlt : k < m
    · obtain ⟨ad, x, rfl, hbl, hx, hcell⟩ := hb.at_ hlt
      have hki : (k : Int) < (m : Int) := by omega
      have hk0 : (0 : Int) ≤ (k : Int) := by omega
      have HX := Lib.hid hx
      have hsz : (ad.add k).block < w.heap.size := cell_lt hcell
      clear hb hx
      cases x with
      | false =>
        go_wp2
        go_ret
        refine ⟨⟨_, rfl, by omega, by omega, ?_⟩, rfl⟩
        have : false ∈ lu := List.mem_of_getElem? HX.out
        simp [this]
      | true =>
        go_wp2
        go_round
        case rel =>
          refine ⟨k + 1, by omega, by go_num, Lib.hid ?_⟩
          have hl : k < lu.length := by rw [HL.out]; exact hlt
          have h2 := HX.out
          rw [List.getElem?_eq_getElem hl] at h2
          rw [List.take_succ_eq_append_getElem hl, Option.some.inj h2]
          simpa using HC.out
        case measure => simp [intOf]; omega
    · have hkm : k = m := by omega
      subst hkm
      clear hb
      go_wp2
      go_ret
      refine ⟨⟨_, rfl, by omega, by omega, ?_⟩, rfl⟩
      have h2 := HC.out
      rw [List.take_of_length_le (by rw [HL.out]; omega)] at h2
      simp at h2
      simp [h2]

theorem contains_any (U : Option Addr) (m d : Nat) (lu : List Bool) (w : World) (B : Nat) (hb : Sl Value.bool w B U m lu) (hm : m ≤ maxLen) :
    Calls Try.prog 90 #[.slice U m d, .bool false] w fun e w' => e = .returned (.bool (lu.contains false)) ∧ w = w' := by
  have HC := Lib.hid (index_any U m d lu w B hb hm)
  clear hb
  go_enter Try.func90, Try.ntmps90
  go_wp2_with fail
  refine HC.out.mono ?_
  rintro e w1 ⟨⟨i, rfl, h0, h1, h2⟩, rfl⟩
  have H2 := Lib.hid h2
  clear h2 HC
  go_wp2
  go_ret
  refine ⟨ret_bool ?_, rfl⟩
  rw [Bool.eq_iff_iff, ← H2.out]
  simp
end Go.Proofs.Ytgamodmenlhedaa
