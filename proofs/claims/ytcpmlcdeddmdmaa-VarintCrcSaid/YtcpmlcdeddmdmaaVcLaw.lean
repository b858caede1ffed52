/- VarintCrc: the walk of the law. -/
import Derived.Test.YtcpmlcdeddmdmaaCrc
import Derived.Test.YtcpmlcdeddmdmaaZig
namespace Go.Proofs.Ytcpmlcdeddmdmaa.vc
open Go.RowKit
set_option linter.unusedVariables false

/-- the number that Mod gives -/
def modOf (x : Int) (n : Nat) : Nat := (x.tmod n % n).toNat
theorem modOf_lt (x : Int) (n : Nat) (h : 0 < n) : modOf x n < n := by
  unfold modOf
  have h1 : 0 ≤ x.tmod n % n := Int.emod_nonneg _ (by omega)
  have h2 : x.tmod n % n < n := Int.emod_lt_of_pos _ (by omega)
  omega
theorem mod_any (x : Int) (h0 : -9223372036854775808 ≤ x) (h1 : x ≤ 9223372036854775807) (n : Nat) (hp : 0 < n) (hn : n ≤ 1000000) (w : World) :
    Calls Try.prog 30 #[.int .i64 x, .int .i64 n] w fun e w' => e = .returned (.int .i64 (modOf x n : Nat)) ∧ w = w' := by
  have hl : ¬ (n : Int) < 1 := by omega
  have t1 : x.tmod n < n := Int.tmod_lt_of_pos x (by omega)
  have t2 : -(n : Int) < x.tmod n := by have := Int.lt_tmod_of_pos x (show 0 < (n : Int) by omega); omega
  have hm : modOf x n = (x.tmod n % n).toNat := rfl
  have HM := Lib.hid hm
  have h3 : 0 ≤ x.tmod n % n := Int.emod_nonneg _ (by omega)
  have H3 := Lib.hid h3
  have hz : ((n : Int) == 0) = false := by simp; omega
  clear hm h3
  go_enter Try.func30, Try.ntmps30
  go_wp2
  go_ret
  exact ⟨ret_int (by rw [HM.out, Int.toNat_of_nonneg H3.out]), rfl⟩

theorem max_u8 (by' : Nat) (h : by' < 256) : ∃ m : Nat, m = max by' 1 ∧ m < 256 ∧ m ≠ 0 := ⟨max by' 1, rfl, by omega, by omega⟩

set_option maxHeartbeats 1000000 in
theorem law (A : Option Addr) (n c : Nat) (l : List Nat) (x : Int) (h0 : -9223372036854775808 ≤ x) (h1 : x ≤ 9223372036854775807) (y : Nat) (hy : y < 256) (w : World) (hb : Bs w w.heap.size A n l) (hn : n ≤ maxLen) :
    Calls Try.prog 5 #[.slice A n c, .int .i64 x, .int .u8 y] w fun e w' => e = .returned (.bool true) ∧ Below w.heap.size w w' := by
  have H0 := Lib.hid h0
  have H1 := Lib.hid h1
  have HM := Lib.hid hn
  clear h0 h1
  unfold maxLen at hn
  by_cases hle : n ≤ 2000
  · by_cases hz : n = 0
    · subst hz
      have hl : l = [] := List.eq_nil_of_length_eq_zero hb.len
      subst hl
      go_enter Try.func5, Try.ntmps5
      go_wp2_with fail
      refine (awake01 w).mono ?_
      rintro e w1 ⟨rfl, rfl⟩
      go_wp2_with fail
      refine (crc_any A 0 c [] w _ hb (by decide)).mono ?_
      rintro e w1 ⟨rfl, rfl⟩
      rw [show crc [] = 0 from rfl]
      go_wp2
      go_ret
      exact ⟨rfl, Below.refl _ _⟩
    · have hpos : (0 : Int) < (n : Int) := by omega
      have hnz : ((n : Int) == 0) = false := by simp; omega
      obtain ⟨i0, hi0, hz0, hz1, hz2⟩ := info_parts info_u8
      have hlen := hb.len
      have HL := Lib.hid hlen
      clear hlen
      go_enter Try.func5, Try.ntmps5
      go_wp2_with fail
      refine (awake01 w).mono ?_
      rintro e w1 ⟨rfl, rfl⟩
      go_wp2_with fail
      refine (crc_any A n c l w _ hb HM.out).mono ?_
      rintro e w1 ⟨rfl, rfl⟩
      go_wp2_with (at_builtin; refine wpList_append_any _ rfl (.const (.slice none 0 0)) (.tmp 26) _ rfl w.heap.size 5 i0 _ 1 1 Try.underlying22 hi0 hz0 hz1 hz2 rfl (by omega) (.slice none 0 0) 0 [] rfl (World.ownsRow_nil _ _ _ _) _ A n c (nb l) rfl hb.1 (nb_one l) (by unfold maxLen; omega) (by omega) (by simp) ?_; intro o1 w1 own1' hg1' hat1')
      have own1 : w1.ownsRow w.heap.size 5 1 o1 n (nb l) := by simpa using own1'
      have bel1 : Below w.heap.size w w1 := below_append (Below.refl _ _) (World.ownsRow_nil w w.heap.size 5 1) hg1' (Nat.le_refl _) (by simp)
      clear own1' hg1' hat1'
      refine (mod_any x H0.out H1.out n (by omega) (by omega) w1).mono ?_
      rintro e w2 ⟨rfl, rfl⟩
      have hk := modOf_lt x n (by omega)
      generalize modOf x n = k at *
      obtain ⟨g, cap, rfl, hg, hglt⟩ := own1.form (by omega)
      have hk0 : (0 : Int) ≤ (k : Int) := by omega
      have hki : (k : Int) < (n : Int) := by omega
      have hcell := own1.cellAt k (by omega)
      have hfr := own1.frozenAt k
      rw [nb_get, List.getElem?_eq_getElem (by have := HL.out; omega)] at hcell
      have hcell2 : w1.cell? ⟨g, k, none⟩ = some (.int .u8 ((l[k]'(by have := HL.out; omega) : Nat) : Int)) := hcell
      have hst := own1.stored k
      have HS := Lib.hid hst
      have HO := Lib.hid own1
      have HB := Lib.hid bel1
      have HBS := Lib.hid hb
      have hx8 := hb.2 (l[k]'(by have := HL.out; omega)) (List.getElem_mem _)
      clear hcell hst own1 bel1 hb
      generalize hlk : l[k]'(by have := HL.out; omega) = u at *
      have HU := Lib.hid hlk
      clear hlk
      have hx1 : bits .xor .u8 (u : Int) 1 = ((u ^^^ 1 : Nat) : Int) := u8_xor_nat u 1 hx8 (by decide)
      have hxy := u8_xor_nat u y hx8 hy
      go_wp2_with fail
      all_goals clear hx1 hxy
      have hzz : ∃ z : Nat, z = u ^^^ 1 ∧ z < 256 ∧ z ≠ u := ⟨_, rfl, Nat.xor_lt_two_pow (n := 8) hx8 (by decide), xor_ne (by decide)⟩
      rotate_left
      have hzz : ∃ z : Nat, z = u ^^^ y ∧ z < 256 ∧ z ≠ u := ⟨_, rfl, Nat.xor_lt_two_pow (n := 8) hx8 hy, xor_ne (by omega)⟩
      all_goals
        obtain ⟨z, hz, hz256, hzu⟩ := hzz
        rw [← hz]
        clear hz
        obtain ⟨own2, hgr⟩ := HS.out (.int .u8 (z : Nat))
        have bel2 : Below w.heap.size w (w1.setCell ⟨g, k, none⟩ (.int .u8 (z : Nat))) := HB.out.setCell hg _
        have hset : (nb l).set k (.int .u8 (z : Nat)) = nb (l.set k z) := by simp [nb, List.map_set]
        rw [hset] at own2
        have hl2 : ∀ x ∈ l.set k z, x < 256 := fun x hx => by
          rcases List.mem_or_eq_of_mem_set hx with h | h
          · exact HBS.out.2 x h
          · omega
        have B2 := Bs.of_own own2 hl2
        have hne := crc_set HBS.out.2 (k := k) (y := z) (by have := HL.out; omega) hz256 (by rw [HU.out]; exact hzu)
        have hneb : (((crc (l.set k z) : Nat) : Int) != ((crc l : Nat) : Int)) = true := by rw [bne_iff_ne]; omega
        have HN := Lib.hid hneb
        have H2 := Lib.hid bel2
        have hb2 := HBS.out.below bel2
        clear hcell2 hfr hgr own2 hl2 hne hneb bel2 hset HS HO
        generalize w1.setCell ⟨g, k, none⟩ (.int .u8 (z : Nat)) = W at *
        refine (refcrc_any A n c l W _ hb2 HM.out).mono ?_
        rintro e w3 ⟨rfl, rfl⟩
        go_wp2_with fail
        refine (crc_any _ n cap _ W _ B2 HM.out).mono ?_
        rintro e w4 ⟨rfl, rfl⟩
        have hneb := HN.out
        go_wp2
        go_ret
        exact ⟨rfl, H2.out⟩
  · have hgt : (2000 : Int) < (n : Int) := by omega
    go_enter Try.func5, Try.ntmps5
    go_wp2_with fail
    refine (awake01 w).mono ?_
    rintro e w1 ⟨rfl, rfl⟩
    go_wp2
    go_ret
    exact ⟨rfl, Below.refl _ _⟩
end Go.Proofs.Ytcpmlcdeddmdmaa.vc
