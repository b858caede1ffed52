/- Contracts of the reference of chapter 2: the sum and the difference. -/
import Derived.Test.YtcpmlcdeddmdmaaRbPlain
import Derived.Deep.RegionHeld3
namespace Go.Proofs.Ytcpmlcdeddmdmaa
open Go.RowKit
set_option linter.unusedVariables false
set_option maxRecDepth 10000

theorem Below.step {w0 W w' : World} (h : Below w0.heap.size w0 W) (hb : Below W.heap.size W w') : Below w0.heap.size w0 w' := h.trans (hb.mono h.size)
/-- what a region keeps whose calls only make memory: two variables, and all blocks -/
theorem sb_mk {wr W : World} {gx gy : Nat} {a b c d : Value} (Kx : Blk wr gx 58 #[a, b]) (Ky : Blk wr gy 58 #[c, d]) (h : Below wr.heap.size wr W) :
    W.cell? ⟨gx, 0, none⟩ = some a ∧ W.cell? ⟨gx, 1, none⟩ = some b ∧ W.cell? ⟨gy, 0, none⟩ = some c ∧ W.cell? ⟨gy, 1, none⟩ = some d ∧ Below wr.heap.size wr W := by
  have h1 := Blk.after Kx h
  have h2 := Blk.after Ky h
  exact ⟨Blk.cell h1 0, Blk.cell h1 1, Blk.cell h2 0, Blk.cell h2 1, h⟩
theorem sb_step {wr W W' : World} {gx gy : Nat} {a b c d : Value} (Kx : Blk wr gx 58 #[a, b]) (Ky : Blk wr gy 58 #[c, d]) (h : W.cell? ⟨gx, 0, none⟩ = some a ∧ W.cell? ⟨gx, 1, none⟩ = some b ∧ W.cell? ⟨gy, 0, none⟩ = some c ∧ W.cell? ⟨gy, 1, none⟩ = some d ∧ Below wr.heap.size wr W) (hb : Below W.heap.size W W') :
    W'.cell? ⟨gx, 0, none⟩ = some a ∧ W'.cell? ⟨gx, 1, none⟩ = some b ∧ W'.cell? ⟨gy, 0, none⟩ = some c ∧ W'.cell? ⟨gy, 1, none⟩ = some d ∧ Below wr.heap.size wr W' :=
  sb_mk Kx Ky (h.2.2.2.2.trans (hb.mono h.2.2.2.2.size))

set_option maxHeartbeats 8000000 in
theorem refadd_any (a b c d : Nat) (ha : a < 18446744073709551616) (hb : b < 18446744073709551616) (hc : c < 18446744073709551616) (hd : d < 18446744073709551616) (w : World) :
    Calls Try.prog 69 #[.agg #[.int .u64 (a : Int), .int .u64 (b : Int)], .agg #[.int .u64 (c : Int), .int .u64 (d : Int)]] w fun e w' => e = fromV (loN (vN a b + vN c d)) (hiN (vN a b + vN c d)) ∧ Below w.heap.size w w' := by
  have HA := Lib.hid (And.intro ha (And.intro hb (And.intro hc hd)))
  have HE : Hid (∀ cn o0 o1 : Nat, o0 < 18446744073709551616 → o1 < 18446744073709551616 → AddI (vN a b) (vN c d) 128 cn (vN o0 o1) → o0 = loN (vN a b + vN c d) ∧ o1 = hiN (vN a b + vN c d)) :=
    Lib.hid (fun cn o0 o1 h0 h1 h => pair_eq h0 h1 (addI_128 h (vN_lt ha hb) (vN_lt hc hd)))
  clear ha hb hc hd
  unfold fromV
  generalize hlo : loN (vN a b + vN c d) = lo at *
  generalize hhi : hiN (vN a b + vN c d) = hi at *
  clear hlo hhi
  go_enter Try.func69, Try.ntmps69
  go_wp2_with fail
  go_loopw [6, 7] (fun cc i wr => ∃ (k cn o0 o1 : Nat), i = .int .i64 k ∧ cc = .int .u64 cn ∧ Hid (k ≤ 128 ∧ o0 < 18446744073709551616 ∧ o1 < 18446744073709551616) ∧ Hid (AddI (vN a b) (vN c d) k cn (vN o0 o1)) ∧ Hid (Below w.heap.size w wr) ∧
      Hid (Blk wr w.heap.size 58 #[.int .u64 (a : Nat), .int .u64 (b : Nat)]) ∧ Hid (Blk wr (w.heap.size + 1) 58 #[.int .u64 (c : Nat), .int .u64 (d : Nat)]) ∧ Hid (Blk wr (w.heap.size + 1 + 1) 58 #[.int .u64 0, .int .u64 0]) ∧ Hid (Blk wr (w.heap.size + 1 + 1 + 1) 58 #[.int .u64 (o0 : Nat), .int .u64 (o1 : Nat)])) (fun _ i _ => 128 - (intOf i).toNat)
  case atStart =>
    exact ⟨0, 0, 0, 0, rfl, rfl, Lib.hid ⟨by omega, by omega, by omega⟩, Lib.hid (addI_0 (vN a b) (vN c d)), Lib.hid ((((Below.refl w.heap.size w).alloc (Nat.le_refl _) _).alloc (by simp) _).alloc (by simp; omega) _ |>.alloc (by simp; omega) _),
      Lib.hid ((((Blk.newAt rfl).alloc _).alloc _).alloc _), Lib.hid (((Blk.newAt (by simp)).alloc _).alloc _), Lib.hid ((Blk.newAt (by simp)).alloc _), Lib.hid (Blk.newAt (by simp))⟩
  case round =>
    obtain ⟨k, cn, o0, o1, rfl, rfl, HK, HI, HB, Kx, Ky, Kz, Ko⟩ := hrel
    obtain ⟨hk, ho0, ho1⟩ := HK.out
    obtain ⟨p0, p1, fp0, fp1, zp⟩ := Kz.out.two
    obtain ⟨q0, q1, fq0, fq1, zq⟩ := Ko.out.two
    by_cases hk8 : k < 128
    · obtain ⟨s1, s2, s3⟩ := addI_step HI.out
      have hbx : vN a b / 2 ^ k % 2 < 2 := Nat.mod_lt _ (by decide)
      have hby : vN c d / 2 ^ k % 2 < 2 := Nat.mod_lt _ (by decide)
      have cx : ((vN a b : Nat) : Int) / 2 ^ k % 2 = ((vN a b / 2 ^ k % 2 : Nat) : Int) := by simp
      have cy : ((vN c d : Nat) : Int) / 2 ^ k % 2 = ((vN c d / 2 ^ k % 2 : Nat) : Int) := by simp
      have es : IntKind.u64.wrap (IntKind.u64.wrap ((vN a b : Int) / 2 ^ k % 2 + (vN c d : Int) / 2 ^ k % 2) + (cn : Int)) = ((vN a b / 2 ^ k % 2 + vN c d / 2 ^ k % 2 + cn : Nat) : Int) := by
        rw [cx, cy]
        generalize vN a b / 2 ^ k % 2 = bx at *
        generalize vN c d / 2 ^ k % 2 = by' at *
        simp only [IntKind.wrap_u64]; omega
      have hs4 : vN a b / 2 ^ k % 2 + vN c d / 2 ^ k % 2 + cn < 4 := by omega
      generalize vN a b / 2 ^ k % 2 + vN c d / 2 ^ k % 2 + cn = s at *
      have ea : bits .and .u64 ((s : Nat) : Int) 1 = ((s % 2 : Nat) : Int) := by
        have := bits_and_u64_nat s 1 (by omega) (by omega)
        rw [show s &&& 1 = s % 2 from Nat.and_one_is_mod _] at this
        exact this
      have HSET := Lib.hid (fun W : World => set_any o0 o1 k ho0 ho1 hk8 (low_bit s1) W)
      have hki : (k : Int) < 128 := by omega
      have hk0 : (0 : Int) ≤ (k : Int) := by omega
      have ES := Lib.hid es
      have EA := Lib.hid ea
      have S1 := Lib.hid s1
      have S3 := Lib.hid s3
      have HS4 := Lib.hid hs4
      have HK8 := Lib.hid (And.intro hk8 (And.intro ho0 ho1))
      have HS0 := Lib.hid (sb_mk Kx.out Ky.out (Below.drew (Below.refl wr.heap.size wr)))
      clear cx cy es ea s1 s2 s3 hs4 hk ho0 ho1 hk8 hbx hby HK
      go_wp2_with fail
      go_region_held3 (fun W => W.cell? ⟨w.heap.size, 0, none⟩ = some (.int .u64 (a : Nat)) ∧ W.cell? ⟨w.heap.size, 1, none⟩ = some (.int .u64 (b : Nat)) ∧ W.cell? ⟨w.heap.size + 1, 0, none⟩ = some (.int .u64 (c : Nat)) ∧ W.cell? ⟨w.heap.size + 1, 1, none⟩ = some (.int .u64 (d : Nat)) ∧ Below wr.heap.size wr W)
        (first | exact sb_step Kx.out Ky.out (by assumption) bel5 | exact HS0.out)
        ((go_at_call 79; refine Calls.mono (bit_any _ _ k (by first | exact HA.out.1 | exact HA.out.2.2.1) (by first | exact HA.out.2.1 | exact HA.out.2.2.2) HK8.out.1 _) ?_; rintro e w5 ⟨rfl, bel5⟩))
      have hfin := (show _ ∧ _ ∧ _ ∧ _ ∧ Below wr.heap.size wr w5 from by assumption).2.2.2.2
      have Kx1 := Lib.hid (Blk.after Kx.out hfin)
      have Ky1 := Lib.hid (Blk.after Ky.out hfin)
      have Kz1 := Lib.hid (Blk.after Kz.out hfin)
      have Ko1 := Lib.hid (Blk.after Ko.out hfin)
      have HB1 := Lib.hid (Below.step HB.out hfin)
      simp only [ES.out]
      clear hfin p0 p1 fp0 fp1 zp q0 q1 fq0 fq1 zq Kx Ky Kz Ko HS0 HB
      obtain ⟨q0, q1, fq0, fq1, zq⟩ := Ko1.out.two
      rcases (show s % 2 = 1 ∨ s % 2 = 0 by omega) with hs | hs
      · have ea := EA.out
        rw [hs] at ea
        have ea : bits .and .u64 (s : Int) 1 = 1 := ea
        have hI := S3.out
        rw [hs, Nat.one_mul] at hI
        have hlt := add_bit_lt (s := s) hI HK8.out.1
        have e3 : vN (loN (vN o0 o1 + 2 ^ k)) (hiN (vN o0 o1 + 2 ^ k)) = vN o0 o1 + 2 ^ k := by rw [vN_lohi, Nat.mod_eq_of_lt hlt]
        rw [← e3] at hI
        have HI1 := Lib.hid hI
        have hset := HSET.out
        unfold fromV at hset
        have hl := loN_lt (vN o0 o1 + 2 ^ k)
        have hh := hiN_lt (vN o0 o1 + 2 ^ k)
        generalize loN (vN o0 o1 + 2 ^ k) = l2 at *
        generalize hiN (vN o0 o1 + 2 ^ k) = u2 at *
        have HS2 := Lib.hid hset
        have HLH := Lib.hid (And.intro hl hh)
        clear e3 hI hlt hset hl hh HSET
        go_wp2_with fail
        refine (HS2.out _).mono ?_
        rintro e w6 ⟨rfl, bel⟩
        have Kx2 := Lib.hid (Blk.after Kx1.out bel)
        have Ky2 := Lib.hid (Blk.after Ky1.out bel)
        have Kz2 := Lib.hid (Blk.after Kz1.out bel)
        have Ko2 := Lib.hid (Blk.after Ko1.out bel)
        have HB2 := Lib.hid (Below.step HB1.out bel)
        clear bel q0 q1 fq0 fq1 zq Kx1 Ky1 Kz1 Ko1 HB1
        obtain ⟨q0, q1, fq0, fq1, zq⟩ := Ko2.out.two
        go_wp2
        go_roundw
        case rel =>
          exact ⟨k + 1, s / 2, l2, u2, by go_num, by first | rfl | simp, Lib.hid ⟨HK8.out.1, HLH.out.1, HLH.out.2⟩, HI1, Lib.hid ((HB2.out.setCell (by simp <;> omega) _).setCell (by simp <;> omega) _), Lib.hid ((Kx2.out.far (by simp <;> omega) _).far (by simp <;> omega) _), Lib.hid ((Ky2.out.far (by simp <;> omega) _).far (by simp <;> omega) _), Lib.hid ((Kz2.out.far (by simp <;> omega) _).far (by simp <;> omega) _), Lib.hid ((Ko2.out.set_ 0 _).set_ 1 _)⟩
        case measure => simp [intOf] <;> omega
      · have ea := EA.out
        rw [hs] at ea
        have ea : bits .and .u64 (s : Int) 1 = 0 := ea
        have hI := S3.out
        rw [hs, Nat.zero_mul, Nat.add_zero] at hI
        have HI1 := Lib.hid hI
        clear hI HSET
        go_wp2
        go_roundw
        case rel =>
          exact ⟨k + 1, s / 2, o0, o1, by go_num, by first | rfl | simp, Lib.hid ⟨HK8.out.1, HK8.out.2.1, HK8.out.2.2⟩, HI1, HB1, Kx1, Ky1, Kz1, Ko1⟩
        case measure => simp [intOf] <;> omega
    · obtain rfl : k = 128 := by omega
      obtain ⟨e1, e2⟩ := HE.out cn o0 o1 ho0 ho1 HI.out
      clear HE HI HK hk8 hk ho0 ho1
      go_wp2
      refine bodyPost_ret (v := .agg #[.int .u64 (lo : Nat), .int .u64 (hi : Nat)]) (by simp [results, Try.results69, go_sem, *]) rfl ?_
      exact ⟨rfl, by first | exact HB.out | exact (HB.out.setCell (by simp; omega) _).setCell (by simp; omega) _⟩
end Go.Proofs.Ytcpmlcdeddmdmaa
