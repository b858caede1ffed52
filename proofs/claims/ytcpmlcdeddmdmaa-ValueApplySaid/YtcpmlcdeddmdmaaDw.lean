/- Contract: bits.Div64. -/
import Derived.Test.YtcpmlcdeddmdmaaDv
namespace Go.Proofs.Ytcpmlcdeddmdmaa
open Go.RowKit
set_option linter.unusedVariables false

theorem bl_spec (y : Nat) (h0 : 0 < y) (h1 : y < 2 ^ 64) : 0 < Lib.bitLen y ∧ 2 ^ (Lib.bitLen y - 1) ≤ y ∧ y < 2 ^ Lib.bitLen y := by
  induction y using Nat.strongRecOn with
  | ind y ih =>
    by_cases hy : y = 1
    · subst hy; decide
    · obtain ⟨i0, i1, i2⟩ := ih (y / 2) (by omega) (by omega) (by omega)
      rw [Lib.bitLen_half y (by omega) h1]
      generalize Lib.bitLen (y / 2) = b at *
      obtain ⟨c, rfl⟩ : ∃ c, b = c + 1 := ⟨b - 1, by omega⟩
      rw [show 1 + (c + 1) - 1 = c + 1 by omega, show 1 + (c + 1) = c + 1 + 1 by omega]
      rw [Nat.add_sub_cancel] at i1
      rw [Nat.pow_succ] at i2
      refine ⟨by omega, ?_, ?_⟩
      · rw [Nat.pow_succ]; omega
      · rw [Nat.pow_succ, Nat.pow_succ]; omega
/-- what is shifted out of the way: the highest bit stands at the top -/
theorem top_bit (y : Nat) (h0 : 0 < y) (h1 : y < 18446744073709551616) : 64 - Lib.bitLen y ≤ 63 ∧ 9223372036854775808 ≤ y * 2 ^ (64 - Lib.bitLen y) ∧ y * 2 ^ (64 - Lib.bitLen y) < 18446744073709551616 := by
  obtain ⟨i0, i1, i2⟩ := bl_spec y h0 h1
  have hm := Lib.bitLen_le y 64 (by omega) h1
  generalize Lib.bitLen y = b at *
  refine ⟨by omega, ?_, ?_⟩
  · have := Nat.mul_le_mul_right (2 ^ (64 - b)) i1
    rw [← Nat.pow_add, show b - 1 + (64 - b) = 63 by omega] at this
    exact this
  · have := Nat.mul_lt_mul_of_pos_right i2 (Nat.two_pow_pos (64 - b))
    rw [← Nat.pow_add, show b + (64 - b) = 64 by omega] at this
    exact this
theorem wrapS (a s : Nat) (h : a * 2 ^ s < 18446744073709551616) : IntKind.u64.wrap ((a : Int) * 2 ^ s) = ((a * 2 ^ s : Nat) : Int) := by
  rw [IntKind.wrap_u64, show (a : Int) * 2 ^ s = ((a * 2 ^ s : Nat) : Int) by simp]
  omega
theorem wrapSm (a s : Nat) : IntKind.u64.wrap ((a : Int) * 2 ^ s) = ((a * 2 ^ s % 18446744073709551616 : Nat) : Int) := by
  rw [IntKind.wrap_u64, show (a : Int) * 2 ^ s = ((a * 2 ^ s : Nat) : Int) by simp]
  omega
theorem or_parts (a b s : Nat) (hs : s ≤ 64) (ha : a * 2 ^ s < 18446744073709551616) (hb : b < 2 ^ s) : bits .or .u64 ((a * 2 ^ s : Nat) : Int) (b : Int) = ((a * 2 ^ s + b : Nat) : Int) := by
  have h64 : b < 18446744073709551616 := Nat.lt_of_lt_of_le hb (Nat.pow_le_pow_right (by decide) hs)
  rw [u64_or_nat _ _ ha h64, nat_join s (a * 2 ^ s) b (by simp) hb]

theorem wrapDiv (a b : Nat) (h : a < 18446744073709551616) : IntKind.u64.wrap ((a : Int).tdiv (b : Int)) = ((a / b : Nat) : Int) := by
  rw [← Int.ofNat_tdiv, IntKind.wrap_u64]
  have := Nat.div_le_self a b
  generalize a / b = c at *
  omega
theorem wrapDiv' (a b : Nat) (h : a < 18446744073709551616) : IntKind.u64.wrap ((a : Int) / (b : Int)) = ((a / b : Nat) : Int) := by
  rw [← Int.natCast_ediv, IntKind.wrap_u64]
  have := Nat.div_le_self a b
  generalize a / b = c at *
  omega
theorem wrapRem (a b : Nat) (h : a < 18446744073709551616) : IntKind.u64.wrap ((a : Int) - IntKind.u64.wrap (((a / b : Nat) : Int) * (b : Int))) = ((a % b : Nat) : Int) := by
  have e := Nat.div_add_mod' a b
  rw [← Int.natCast_mul]
  simp only [IntKind.wrap_u64]
  generalize a / b * b = c at *
  generalize a % b = d at *
  omega
/-- all that is named before the search begins -/
theorem div_start (hi lo y s : Nat) (hh : hi < y) (hl : lo < 18446744073709551616) (hs : s ≤ 63) (bt : 9223372036854775808 ≤ y * 2 ^ s) (btt : y * 2 ^ s < 18446744073709551616) :
    ∃ Y yn1 yn0 U L un1 un0 : Nat, KnH yn1 yn0 U un1 Y ∧ un0 < 4294967296 ∧ Y < 18446744073709551616 ∧
      IntKind.u64.wrap ((y : Int) * 2 ^ s) = (Y : Int) ∧ (Y : Int) / 4294967296 = (yn1 : Int) ∧ bits .and .u64 (Y : Int) 4294967295 = (yn0 : Int) ∧
      bits .or .u64 (IntKind.u64.wrap ((hi : Int) * 2 ^ s)) ((lo : Int) / 2 ^ (64 - s)) = (U : Int) ∧ IntKind.u64.wrap ((lo : Int) * 2 ^ s) = (L : Int) ∧ (L : Int) / 4294967296 = (un1 : Int) ∧ bits .and .u64 (L : Int) 4294967295 = (un0 : Int) ∧
      (hi * 18446744073709551616 + lo) / y = ((U * 4294967296 + un1) * 4294967296 + un0) / Y := by
  refine ⟨y * 2 ^ s, y * 2 ^ s / 4294967296, y * 2 ^ s % 4294967296, hi * 2 ^ s + lo / 2 ^ (64 - s), lo * 2 ^ s % 18446744073709551616, lo * 2 ^ s % 18446744073709551616 / 4294967296, lo * 2 ^ s % 18446744073709551616 % 4294967296, ?_, by omega, btt, wrapS y s btt, by omega, ?_, ?_, wrapSm lo s, by omega, ?_, ?_⟩
  · refine ⟨by omega, by omega, by omega, by omega, ?_, by omega⟩
    rw [kn_shift_hi hi lo s hs]
    rw [Nat.div_lt_iff_lt_mul (by decide)]
    have : (hi * 18446744073709551616 + lo) * 2 ^ s < (y * 18446744073709551616) * 2 ^ s := Nat.mul_lt_mul_of_pos_right (by omega) (Nat.two_pow_pos s)
    rw [Nat.mul_right_comm] at this
    exact this
  · exact Mul64.maskN _ btt
  · have h1 : hi * 2 ^ s < 18446744073709551616 := Nat.lt_of_le_of_lt (Nat.mul_le_mul_right _ (Nat.le_of_lt hh)) btt
    rw [wrapS hi s h1, show (lo : Int) / 2 ^ (64 - s) = ((lo / 2 ^ (64 - s) : Nat) : Int) by simp]
    refine or_parts hi _ s (by omega) h1 ?_
    rw [Nat.div_lt_iff_lt_mul (Nat.two_pow_pos _), ← Nat.pow_add, show s + (64 - s) = 64 by omega]
    exact hl
  · exact Mul64.maskN _ (Nat.mod_lt _ (by decide))
  · rw [← kn_scale _ y s]
    congr 1
    rw [kn_shift_hi hi lo s hs, kn_shift_lo hi lo s]
    omega
/-- what is left of the rest's room -/
def knM (v : Value) : Nat := 4294967296 - (intOf v).toNat
theorem knM_lt {a b : Nat} (h : a < b) (hb : a < 4294967296) : knM (.int .u64 (b : Int)) < knM (.int .u64 (a : Int)) := by
  show 4294967296 - (b : Int).toNat < 4294967296 - (a : Int).toNat
  omega
theorem kn_un21 (U v Y : Nat) (hY : Y < 18446744073709551616) (h0 : 0 < Y) : IntKind.u64.wrap (IntKind.u64.wrap (IntKind.u64.wrap ((U : Int) * 4294967296) + (v : Int)) - IntKind.u64.wrap ((((U * 4294967296 + v) / Y : Nat) : Int) * (Y : Int))) = (((U * 4294967296 + v) % Y : Nat) : Int) := by
  have e := Nat.div_add_mod' (U * 4294967296 + v) Y
  have h := Nat.mod_lt (U * 4294967296 + v) h0
  rw [← Int.natCast_mul]
  simp only [IntKind.wrap_u64]
  generalize (U * 4294967296 + v) / Y * Y = P at *
  generalize (U * 4294967296 + v) % Y = R at *
  omega
theorem kn_quo (Q q : Nat) (h : Q < 4294967296) (h' : q < 4294967296) : IntKind.u64.wrap (IntKind.u64.wrap ((Q : Int) * 4294967296) + (q : Int)) = ((Q * 4294967296 + q : Nat) : Int) := by
  simp only [IntKind.wrap_u64]
  omega
/-- what the search reads: the state's numbers do not wrap -/
theorem kn_read {yn1 yn0 u v Y qn rn : Nat} (k : KnH yn1 yn0 u v Y) (h : KnI yn1 u ((u * 4294967296 + v) / Y) qn rn) :
    IntKind.u64.wrap (IntKind.u64.wrap (4294967296 * (rn : Int)) + (v : Int)) = ((4294967296 * rn + v : Nat) : Int) ∧ IntKind.u64.wrap ((qn : Int) * (yn0 : Int)) = ((qn * yn0 : Nat) : Int) ∧ IntKind.u64.wrap ((rn : Int) + (yn1 : Int)) = ((rn + yn1 : Nat) : Int) := by
  obtain ⟨h1, h2⟩ := kn_noover k h
  have := h.small
  have := k.h1'
  rw [← Int.natCast_mul]
  simp only [IntKind.wrap_u64]
  generalize qn * yn0 = P at *
  exact ⟨by omega, by omega, by omega⟩
theorem kn_dec {q : Nat} (h0 : 0 < q) (h : q ≤ 4294967297) : IntKind.u64.wrap ((q : Int) - 1) = ((q - 1 : Nat) : Int) := by
  simp only [IntKind.wrap_u64]
  omega
/-- one turn of the search, in the walk's words: P is the search's state, Q what is found -/
def Turn (P : Int → Int → Prop) (yn1 yn0 v Q : Nat) : Prop := ∀ qi ri : Int, P qi ri →
    ((4294967296 ≤ qi ∨ IntKind.u64.wrap (IntKind.u64.wrap (4294967296 * ri) + (v : Int)) < IntKind.u64.wrap (qi * (yn0 : Int))) →
      (4294967296 ≤ IntKind.u64.wrap (ri + (yn1 : Int)) → IntKind.u64.wrap (qi - 1) = (Q : Int)) ∧
      (¬ 4294967296 ≤ IntKind.u64.wrap (ri + (yn1 : Int)) → P (IntKind.u64.wrap (qi - 1)) (IntKind.u64.wrap (ri + (yn1 : Int))) ∧ knM (.int .u64 (IntKind.u64.wrap (ri + (yn1 : Int)))) < knM (.int .u64 ri))) ∧
    (¬ (4294967296 ≤ qi ∨ IntKind.u64.wrap (IntKind.u64.wrap (4294967296 * ri) + (v : Int)) < IntKind.u64.wrap (qi * (yn0 : Int))) → qi = (Q : Int))
theorem kn_turn {yn1 yn0 u v Y : Nat} (k : KnH yn1 yn0 u v Y) : Turn (fun qi ri => ∃ qn rn : Nat, qi = (qn : Int) ∧ ri = (rn : Int) ∧ KnI yn1 u ((u * 4294967296 + v) / Y) qn rn) yn1 yn0 v ((u * 4294967296 + v) / Y) := by
  rintro qi ri ⟨qn, rn, rfl, rfl, hI⟩
  obtain ⟨r1, r2, r3⟩ := kn_read k hI
  rw [r1, r2, r3]
  have hcc : (4294967296 ≤ (qn : Int) ∨ ((4294967296 * rn + v : Nat) : Int) < ((qn * yn0 : Nat) : Int)) ↔ (4294967296 ≤ qn ∨ 4294967296 * rn + v < qn * yn0) := by
    constructor
    · rintro (h | h)
      · exact .inl (by omega)
      · exact .inr (Int.ofNat_lt.1 h)
    · rintro (h | h)
      · exact .inl (by omega)
      · exact .inr (Int.ofNat_lt.2 h)
  rw [hcc]
  constructor
  · intro hc
    have hm := kn_more k hI hc
    have hq0 : 0 < qn := Nat.lt_of_le_of_lt (Nat.zero_le _) hm
    rw [kn_dec hq0 hI.top]
    constructor
    · intro hb
      rw [kn_break k hI hc (by omega)]
    · intro hb
      have hlt : rn + yn1 < 4294967296 := by omega
      exact ⟨⟨qn - 1, rn + yn1, rfl, rfl, kn_next k hI hc hlt⟩, knM_lt (by have := k.h1; omega) (by omega)⟩
  · intro hc
    rw [kn_done k hI hc]
/-- the whole division, in the walk's words -/
theorem div_plan {yn1 yn0 U un1 Y un0 : Nat} (k : KnH yn1 yn0 U un1 Y) (hun0 : un0 < 4294967296) (hY : Y < 18446744073709551616) :
    ∃ (Q R q0 r0 q2 r2 Q2 : Nat) (P1 P2 : Int → Int → Prop),
      IntKind.u64.wrap ((U : Int).tdiv (yn1 : Int)) = (q0 : Int) ∧ IntKind.u64.wrap ((U : Int) - IntKind.u64.wrap ((q0 : Int) * (yn1 : Int))) = (r0 : Int) ∧ P1 q0 r0 ∧ Turn P1 yn1 yn0 un1 Q ∧
      IntKind.u64.wrap (IntKind.u64.wrap (IntKind.u64.wrap ((U : Int) * 4294967296) + (un1 : Int)) - IntKind.u64.wrap ((Q : Int) * (Y : Int))) = (R : Int) ∧
      IntKind.u64.wrap ((R : Int).tdiv (yn1 : Int)) = (q2 : Int) ∧ IntKind.u64.wrap ((R : Int) - IntKind.u64.wrap ((q2 : Int) * (yn1 : Int))) = (r2 : Int) ∧ P2 q2 r2 ∧ Turn P2 yn1 yn0 un0 Q2 ∧
      IntKind.u64.wrap (IntKind.u64.wrap ((Q : Int) * 4294967296) + (Q2 : Int)) = ((((U * 4294967296 + un1) * 4294967296 + un0) / Y : Nat) : Int) := by
  have hR := Nat.mod_lt (U * 4294967296 + un1) (show Y > 0 by have := k.hu; omega)
  have k2 : KnH yn1 yn0 ((U * 4294967296 + un1) % Y) un0 Y := ⟨k.hY, k.h1, k.h1', k.h0, hR, hun0⟩
  refine ⟨(U * 4294967296 + un1) / Y, (U * 4294967296 + un1) % Y, U / yn1, U % yn1, (U * 4294967296 + un1) % Y / yn1, (U * 4294967296 + un1) % Y % yn1, ((U * 4294967296 + un1) % Y * 4294967296 + un0) / Y, _, _,
    wrapDiv U yn1 (by have := k.hu; omega), wrapRem U yn1 (by have := k.hu; omega), ⟨_, _, rfl, rfl, kn_init k⟩, kn_turn k, kn_un21 U un1 Y hY (by omega), wrapDiv _ yn1 (by omega), wrapRem _ yn1 (by omega), ⟨_, _, rfl, rfl, kn_init k2⟩, kn_turn k2, ?_⟩
  rw [kn_quo _ _ (kn_lt k) (kn_lt k2), kn_whole (U * 4294967296 + un1) un0 Y (by have := k.hu; omega)]
set_option maxHeartbeats 4000000 in
set_option maxRecDepth 10000 in
theorem div64_n (hi lo y N : Nat) (hN : Hid (N = (hi * 18446744073709551616 + lo) / y)) (hh : hi < y) (hl : lo < 18446744073709551616) (hy : y < 18446744073709551616) (w : World) :
    Calls Try.prog 78 #[.int .u64 hi, .int .u64 lo, .int .u64 y] w fun e w' => ∃ r : Int, e = .returned (.tuple #[.int .u64 (N : Int), .int .u64 r]) ∧ ∃ k, w' = w.drewN k := by
  have y0 : ¬ ((y : Int) = 0) := by omega
  have y1 : ¬ (y = 0) := by omega
  have y2 : ¬ ((y : Int) ≤ (hi : Int)) := by omega
  by_cases hz : hi = 0
  · subst hz
    obtain rfl : N = lo / y := by rw [hN.out, Nat.zero_mul, Nat.zero_add]
    clear hN
    go_enter Try.func78, Try.ntmps78
    go_wp2_with fail
    go_quiet (fail)
    go_wp2
    go_returns
    exact ⟨(lo : Int) % (y : Int), by rw [← wrapDiv' lo y hl]; rfl, _, rfl⟩
  · have hz' : ¬ ((hi : Int) = 0) := by omega
    obtain ⟨b63, bt, btt⟩ := top_bit y (by omega) hy
    have HL := Lib.hid (fun W : World => lz64_any y W hy)
    generalize 64 - Lib.bitLen y = s at *
    obtain ⟨Y, yn1, yn0, U, L, un1, un0, kh, hun0, hY64, e1, e2, e3, e4, e5, e6, e7, hq⟩ := div_start hi lo y s hh hl b63 bt btt
    have hne : ¬ (IntKind.u64.wrap ((y : Int) * 2 ^ s) / 4294967296 = 0) := by rw [e1, e2]; have := kh.h1; omega
    have hnn : 0 ≤ bits .or .u64 (IntKind.u64.wrap ((hi : Int) * 2 ^ s)) ((lo : Int) / 2 ^ (64 - s)) := by rw [e4]; omega
    have hnn2 : 0 ≤ IntKind.u64.wrap ((y : Int) * 2 ^ s) / 4294967296 := by rw [e1, e2]; omega
    have E := Lib.hid (And.intro e1 (And.intro e2 (And.intro e3 (And.intro e4 (And.intro e5 (And.intro e6 e7))))))
    have HQ := Lib.hid hq
    have HK := Lib.hid kh
    clear e1 e2 e3 e4 e5 e6 e7 hq kh
    go_enter Try.func78, Try.ntmps78
    go_wp2_with fail
    refine (HL.out _).mono ?_
    rintro e w1 ⟨rfl, rfl⟩
    go_wp2_with fail
    obtain ⟨e1, e2, e3, e4, e5, e6, e7⟩ := E.out
    simp only [e1, e2, e3, e4, e5, e6, e7]
    obtain ⟨Q, R, q0, r0, q2, r2, Q2, P1, P2, d1, d2, d3, d4, d5, d6, d7, d8, d9, d10⟩ := div_plan HK.out hun0 hY64
    rw [← HQ.out, ← hN.out] at d10
    simp only [d1]
    simp only [d2]
    have D3 := Lib.hid d3
    have D4 := Lib.hid d4
    have D5 := Lib.hid d5
    have D6 := Lib.hid d6
    have D7 := Lib.hid d7
    have D8 := Lib.hid d8
    have D9 := Lib.hid d9
    have D10 := Lib.hid d10
    have hyn : ¬ (yn1 = 0) := by have := HK.out.h1; omega
    clear d1 d2 d3 d4 d5 d6 d7 d8 d9 d10 hl hy hun0 hY64 bt btt HQ HK e1 e2 e3 e4 e5 e6 e7 hne hnn hnn2 E HL
    clear hN
    go_loopw [15, 16] (fun q r wr => ∃ qi ri : Int, q = .int .u64 qi ∧ r = .int .u64 ri ∧ wr = w1 ∧ Hid (P1 qi ri)) (fun _ r _ => knM r)
    case atStart => exact ⟨q0, r0, rfl, rfl, rfl, D3⟩
    case round =>
      clear D3
      obtain ⟨qi, ri, rfl, rfl, rfl, hI⟩ := hrel
      have T := Lib.hid (D4.out _ _ hI.out)
      by_cases hc1 : (4294967296 : Int) ≤ qi
      · by_cases hbr : 4294967296 ≤ IntKind.u64.wrap (ri + (yn1 : Int))
        · have eq1 := Lib.hid ((T.out.1 (.inl hc1)).1 hbr)
          clear T hI
          go_wp2_with fail
          simp only [eq1.out]
          simp only [D5.out]
          simp only [D6.out]
          simp only [D7.out]
          go_loopw [18, 16] (fun q r wz => ∃ qi ri : Int, q = .int .u64 qi ∧ r = .int .u64 ri ∧ wz = wr ∧ Hid (P2 qi ri)) (fun _ r _ => knM r)
          case atStart => exact ⟨_, _, rfl, rfl, rfl, D8⟩
          case round =>
            clear eq1 hc1 hbr
            obtain ⟨qi, ri, rfl, rfl, rfl, hJ⟩ := hrel
            have T := Lib.hid (D9.out _ _ hJ.out)
            by_cases hc1 : (4294967296 : Int) ≤ qi
            · by_cases hbr : 4294967296 ≤ IntKind.u64.wrap (ri + (yn1 : Int))
              · have eq2 := Lib.hid ((T.out.1 (.inl hc1)).1 hbr)
                clear T hJ
                go_wp2_with fail
                go_returns
                rw [eq2.out, D10.out]
                first
                  | exact ⟨⟨IntKind.u64.wrap (IntKind.u64.wrap (IntKind.u64.wrap ((R : Int) * 4294967296) + (un0 : Int)) - IntKind.u64.wrap ((Q2 : Int) * (Y : Int))) / 2 ^ s, rfl⟩, 0, rfl⟩
                  | exact ⟨IntKind.u64.wrap (IntKind.u64.wrap (IntKind.u64.wrap ((R : Int) * 4294967296) + (un0 : Int)) - IntKind.u64.wrap ((Q2 : Int) * (Y : Int))) / 2 ^ s, rfl, 0, rfl⟩
              · have eq2 := Lib.hid ((T.out.1 (.inl hc1)).2 hbr)
                clear T hJ
                go_wp2
                exact ⟨⟨_, _, rfl, rfl, trivial, Lib.hid eq2.out.1⟩, eq2.out.2⟩
            · by_cases hc2 : IntKind.u64.wrap (IntKind.u64.wrap (4294967296 * ri) + (un0 : Int)) < IntKind.u64.wrap (qi * (yn0 : Int))
              · by_cases hbr : 4294967296 ≤ IntKind.u64.wrap (ri + (yn1 : Int))
                · have eq2 := Lib.hid ((T.out.1 (.inr hc2)).1 hbr)
                  clear T hJ
                  go_wp2_with fail
                  go_returns
                  rw [eq2.out, D10.out]
                  first
                    | exact ⟨⟨IntKind.u64.wrap (IntKind.u64.wrap (IntKind.u64.wrap ((R : Int) * 4294967296) + (un0 : Int)) - IntKind.u64.wrap ((Q2 : Int) * (Y : Int))) / 2 ^ s, rfl⟩, 0, rfl⟩
                    | exact ⟨IntKind.u64.wrap (IntKind.u64.wrap (IntKind.u64.wrap ((R : Int) * 4294967296) + (un0 : Int)) - IntKind.u64.wrap ((Q2 : Int) * (Y : Int))) / 2 ^ s, rfl, 0, rfl⟩
                · have eq2 := Lib.hid ((T.out.1 (.inr hc2)).2 hbr)
                  clear T hJ
                  go_wp2
                  exact ⟨⟨_, _, rfl, rfl, trivial, Lib.hid eq2.out.1⟩, eq2.out.2⟩
              · have eq2 := Lib.hid (T.out.2 (fun h => h.elim hc1 hc2))
                clear T hJ
                go_wp2_with fail
                go_returns
                rw [eq2.out, D10.out]
                first
                  | exact ⟨⟨IntKind.u64.wrap (IntKind.u64.wrap (IntKind.u64.wrap ((R : Int) * 4294967296) + (un0 : Int)) - IntKind.u64.wrap ((Q2 : Int) * (Y : Int))) / 2 ^ s, rfl⟩, 0, rfl⟩
                  | exact ⟨IntKind.u64.wrap (IntKind.u64.wrap (IntKind.u64.wrap ((R : Int) * 4294967296) + (un0 : Int)) - IntKind.u64.wrap ((Q2 : Int) * (Y : Int))) / 2 ^ s, rfl, 0, rfl⟩
        · have eq1 := Lib.hid ((T.out.1 (.inl hc1)).2 hbr)
          clear T hI
          go_wp2
          exact ⟨⟨_, _, rfl, rfl, trivial, Lib.hid eq1.out.1⟩, eq1.out.2⟩
      · by_cases hc2 : IntKind.u64.wrap (IntKind.u64.wrap (4294967296 * ri) + (un1 : Int)) < IntKind.u64.wrap (qi * (yn0 : Int))
        · by_cases hbr : 4294967296 ≤ IntKind.u64.wrap (ri + (yn1 : Int))
          · have eq1 := Lib.hid ((T.out.1 (.inr hc2)).1 hbr)
            clear T hI
            go_wp2_with fail
            simp only [eq1.out]
            simp only [D5.out]
            simp only [D6.out]
            simp only [D7.out]
            go_loopw [18, 16] (fun q r wz => ∃ qi ri : Int, q = .int .u64 qi ∧ r = .int .u64 ri ∧ wz = wr ∧ Hid (P2 qi ri)) (fun _ r _ => knM r)
            case atStart => exact ⟨_, _, rfl, rfl, rfl, D8⟩
            case round =>
              clear eq1 hc1 hc2 hbr
              obtain ⟨qi, ri, rfl, rfl, rfl, hJ⟩ := hrel
              have T := Lib.hid (D9.out _ _ hJ.out)
              by_cases hc1 : (4294967296 : Int) ≤ qi
              · by_cases hbr : 4294967296 ≤ IntKind.u64.wrap (ri + (yn1 : Int))
                · have eq2 := Lib.hid ((T.out.1 (.inl hc1)).1 hbr)
                  clear T hJ
                  go_wp2_with fail
                  go_returns
                  rw [eq2.out, D10.out]
                  first
                    | exact ⟨⟨IntKind.u64.wrap (IntKind.u64.wrap (IntKind.u64.wrap ((R : Int) * 4294967296) + (un0 : Int)) - IntKind.u64.wrap ((Q2 : Int) * (Y : Int))) / 2 ^ s, rfl⟩, 0, rfl⟩
                    | exact ⟨IntKind.u64.wrap (IntKind.u64.wrap (IntKind.u64.wrap ((R : Int) * 4294967296) + (un0 : Int)) - IntKind.u64.wrap ((Q2 : Int) * (Y : Int))) / 2 ^ s, rfl, 0, rfl⟩
                · have eq2 := Lib.hid ((T.out.1 (.inl hc1)).2 hbr)
                  clear T hJ
                  go_wp2
                  exact ⟨⟨_, _, rfl, rfl, trivial, Lib.hid eq2.out.1⟩, eq2.out.2⟩
              · by_cases hc2 : IntKind.u64.wrap (IntKind.u64.wrap (4294967296 * ri) + (un0 : Int)) < IntKind.u64.wrap (qi * (yn0 : Int))
                · by_cases hbr : 4294967296 ≤ IntKind.u64.wrap (ri + (yn1 : Int))
                  · have eq2 := Lib.hid ((T.out.1 (.inr hc2)).1 hbr)
                    clear T hJ
                    go_wp2_with fail
                    go_returns
                    rw [eq2.out, D10.out]
                    first
                      | exact ⟨⟨IntKind.u64.wrap (IntKind.u64.wrap (IntKind.u64.wrap ((R : Int) * 4294967296) + (un0 : Int)) - IntKind.u64.wrap ((Q2 : Int) * (Y : Int))) / 2 ^ s, rfl⟩, 0, rfl⟩
                      | exact ⟨IntKind.u64.wrap (IntKind.u64.wrap (IntKind.u64.wrap ((R : Int) * 4294967296) + (un0 : Int)) - IntKind.u64.wrap ((Q2 : Int) * (Y : Int))) / 2 ^ s, rfl, 0, rfl⟩
                  · have eq2 := Lib.hid ((T.out.1 (.inr hc2)).2 hbr)
                    clear T hJ
                    go_wp2
                    exact ⟨⟨_, _, rfl, rfl, trivial, Lib.hid eq2.out.1⟩, eq2.out.2⟩
                · have eq2 := Lib.hid (T.out.2 (fun h => h.elim hc1 hc2))
                  clear T hJ
                  go_wp2_with fail
                  go_returns
                  rw [eq2.out, D10.out]
                  first
                    | exact ⟨⟨IntKind.u64.wrap (IntKind.u64.wrap (IntKind.u64.wrap ((R : Int) * 4294967296) + (un0 : Int)) - IntKind.u64.wrap ((Q2 : Int) * (Y : Int))) / 2 ^ s, rfl⟩, 0, rfl⟩
                    | exact ⟨IntKind.u64.wrap (IntKind.u64.wrap (IntKind.u64.wrap ((R : Int) * 4294967296) + (un0 : Int)) - IntKind.u64.wrap ((Q2 : Int) * (Y : Int))) / 2 ^ s, rfl, 0, rfl⟩
          · have eq1 := Lib.hid ((T.out.1 (.inr hc2)).2 hbr)
            clear T hI
            go_wp2
            exact ⟨⟨_, _, rfl, rfl, trivial, Lib.hid eq1.out.1⟩, eq1.out.2⟩
        · have eq1 := Lib.hid (T.out.2 (fun h => h.elim hc1 hc2))
          clear T hI
          go_wp2_with fail
          simp only [eq1.out]
          simp only [D5.out]
          simp only [D6.out]
          simp only [D7.out]
          go_loopw [18, 16] (fun q r wz => ∃ qi ri : Int, q = .int .u64 qi ∧ r = .int .u64 ri ∧ wz = wr ∧ Hid (P2 qi ri)) (fun _ r _ => knM r)
          case atStart => exact ⟨_, _, rfl, rfl, rfl, D8⟩
          case round =>
            clear eq1 hc1 hc2
            obtain ⟨qi, ri, rfl, rfl, rfl, hJ⟩ := hrel
            have T := Lib.hid (D9.out _ _ hJ.out)
            by_cases hc1 : (4294967296 : Int) ≤ qi
            · by_cases hbr : 4294967296 ≤ IntKind.u64.wrap (ri + (yn1 : Int))
              · have eq2 := Lib.hid ((T.out.1 (.inl hc1)).1 hbr)
                clear T hJ
                go_wp2_with fail
                go_returns
                rw [eq2.out, D10.out]
                first
                  | exact ⟨⟨IntKind.u64.wrap (IntKind.u64.wrap (IntKind.u64.wrap ((R : Int) * 4294967296) + (un0 : Int)) - IntKind.u64.wrap ((Q2 : Int) * (Y : Int))) / 2 ^ s, rfl⟩, 0, rfl⟩
                  | exact ⟨IntKind.u64.wrap (IntKind.u64.wrap (IntKind.u64.wrap ((R : Int) * 4294967296) + (un0 : Int)) - IntKind.u64.wrap ((Q2 : Int) * (Y : Int))) / 2 ^ s, rfl, 0, rfl⟩
              · have eq2 := Lib.hid ((T.out.1 (.inl hc1)).2 hbr)
                clear T hJ
                go_wp2
                exact ⟨⟨_, _, rfl, rfl, trivial, Lib.hid eq2.out.1⟩, eq2.out.2⟩
            · by_cases hc2 : IntKind.u64.wrap (IntKind.u64.wrap (4294967296 * ri) + (un0 : Int)) < IntKind.u64.wrap (qi * (yn0 : Int))
              · by_cases hbr : 4294967296 ≤ IntKind.u64.wrap (ri + (yn1 : Int))
                · have eq2 := Lib.hid ((T.out.1 (.inr hc2)).1 hbr)
                  clear T hJ
                  go_wp2_with fail
                  go_returns
                  rw [eq2.out, D10.out]
                  first
                    | exact ⟨⟨IntKind.u64.wrap (IntKind.u64.wrap (IntKind.u64.wrap ((R : Int) * 4294967296) + (un0 : Int)) - IntKind.u64.wrap ((Q2 : Int) * (Y : Int))) / 2 ^ s, rfl⟩, 0, rfl⟩
                    | exact ⟨IntKind.u64.wrap (IntKind.u64.wrap (IntKind.u64.wrap ((R : Int) * 4294967296) + (un0 : Int)) - IntKind.u64.wrap ((Q2 : Int) * (Y : Int))) / 2 ^ s, rfl, 0, rfl⟩
                · have eq2 := Lib.hid ((T.out.1 (.inr hc2)).2 hbr)
                  clear T hJ
                  go_wp2
                  exact ⟨⟨_, _, rfl, rfl, trivial, Lib.hid eq2.out.1⟩, eq2.out.2⟩
              · have eq2 := Lib.hid (T.out.2 (fun h => h.elim hc1 hc2))
                clear T hJ
                go_wp2_with fail
                go_returns
                rw [eq2.out, D10.out]
                first
                  | exact ⟨⟨IntKind.u64.wrap (IntKind.u64.wrap (IntKind.u64.wrap ((R : Int) * 4294967296) + (un0 : Int)) - IntKind.u64.wrap ((Q2 : Int) * (Y : Int))) / 2 ^ s, rfl⟩, 0, rfl⟩
                  | exact ⟨IntKind.u64.wrap (IntKind.u64.wrap (IntKind.u64.wrap ((R : Int) * 4294967296) + (un0 : Int)) - IntKind.u64.wrap ((Q2 : Int) * (Y : Int))) / 2 ^ s, rfl, 0, rfl⟩
theorem div64_any (hi lo y : Nat) (hh : hi < y) (hl : lo < 18446744073709551616) (hy : y < 18446744073709551616) (w : World) :
    Calls Try.prog 78 #[.int .u64 hi, .int .u64 lo, .int .u64 y] w fun e w' => ∃ r : Int, e = .returned (.tuple #[.int .u64 (((hi * 18446744073709551616 + lo) / y : Nat) : Int), .int .u64 r]) ∧ ∃ k, w' = w.drewN k := div64_n hi lo y _ (Lib.hid rfl) hh hl hy w
end Go.Proofs.Ytcpmlcdeddmdmaa
