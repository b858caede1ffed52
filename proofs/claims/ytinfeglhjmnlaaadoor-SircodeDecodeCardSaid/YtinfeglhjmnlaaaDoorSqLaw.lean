/- SircodeDecode: the walk of the law. Printed by mksq.py. -/
import Derived.Test.YtinfeglhjmnlaaaDoorYy
import Derived.Test.YtinfeglhjmnlaaaDoorYr
import Derived.Test.YtinfeglhjmnlaaaDoorGYh
import Derived.Test.YtinfeglhjmnlaaaDoorGPe
import Derived.Deep.RegionLaw
namespace Go.Proofs.YtinfeglhjmnlaaaDoor.pm
open Go.RowKit
set_option linter.unusedVariables false
set_option maxRecDepth 10000

def LitAt (W : World) (g : Nat) : Prop := Reads W W.heap.size 1 (some ⟨g, 0, none⟩) 1 [.int .u8 0]
theorem lit_new (X : World) : LitAt (X.alloc (.cells #[.int .u8 0] 5)) X.heap.size := (litX6 X 5 [.int .u8 0] 1 1 rfl).more (by simp)
theorem lit_keep {W W' : World} {g : Nat} (h : LitAt W g) (hb : Below W.heap.size W W') : LitAt W' g := (Reads.below h hb).more hb.size
theorem lit_after {X W' : World} (hb : Below (X.alloc (.cells #[.int .u8 0] 5)).heap.size (X.alloc (.cells #[.int .u8 0] 5)) W') : LitAt W' X.heap.size := lit_keep (lit_new X) hb
/-- an append behind a slice without room -/
theorem step_full {P : Program} {ops : Array Oper} {o : Oper} {a : Act} {K : Act → World → Prop} {Q : Exit → Act → World → Prop} {E : Prop} {WW : World} {gl : Nat} (LT : LitAt WW gl) (hgd : o.guard = none) (s x : Operand) (t : TypeId)
    (ho : o.op = .call { callee := .builtin .append, args := #[s, x], argTypes := #[t, t] }) (i : TypeInfo) (ht : P.underlying t = some (.slice 5)) (hi : P.info? 5 = some i) (hz : i.zero = some (.int .u8 0)) (hs' : i.size = 1) (hby : i.bytes = 1)
    (ad : Addr) (N : Nat) (L : List Nat) (B : Nat) (hb : Bs WW B (some ad) N L) (hN : 0 < N) (h63 : N + 1 ≤ maxLen) (hbytes : (N + 1) * 1 ≤ 140737488355328) (hes : a.eval s = .slice (some ad) N N) (hex : a.eval x = .slice (some ⟨gl, 0, none⟩) 1 1)
    (hK : ∀ V c w', w'.ownsRow WW.heap.size 5 1 (.slice V (N + 1) c) (N + 1) (nb (L ++ [0])) → Below WW.heap.size WW w' → K (a.put o.dst (.slice V (N + 1) c)) w') :
    if Region.wanted o (yielded ops a.tmps) = true then Oper.wp P o a WW K Q else E := by
  have hw : Region.wanted o (yielded ops a.tmps) = true := by simp [Region.wanted, hgd]
  rw [if_pos hw]
  obtain ⟨ad', e1, -, hcell⟩ := hb.1.2 hN
  injection e1 with e1
  subst e1
  obtain ⟨al, e2, -, hnews⟩ := LT.2 (by decide)
  injection e2 with e2
  subst e2
  obtain ⟨v', w', hrun, h2, h3⟩ := run_append_arg_grows (P := P) WW t o.type 5 i _ 1 1 ht hi hz hs' hby rfl (by decide) ad N N (nb L) (by have := hb.1.1; simpa using this) hcell ⟨gl, 0, none⟩ 1 1 [.int .u8 0] rfl hnews (by omega) h63 hbytes
  have hnb : nb L ++ [.int .u8 0] = nb (L ++ [0]) := by simp [nb]
  rw [hnb] at h2
  obtain ⟨V, c, rfl, -⟩ := own_form h2
  unfold Oper.wp execOp
  simp only [ho, resolve, invoke, builtin, Sem.run_bind, Sem.run_pure, Result.andThen_ok, List.map_toArray, List.map_cons, List.map_nil, hes, hex, hrun]
  exact hK V c w' h2 ⟨h3.os, h3.tape, h3.output, h3.size, fun b hb => h3.block b hb (by simp)⟩
def AnD (t : List Fn) (x : Int) (w : World) (e : Ending) (w' : World) : Prop :=
  ∃ A c, e = .returned (.tuple #[.agg #[.slice A t.length c], .int .i64 x]) ∧ Fx w' w.heap.size w'.heap.size A t ∧ t.length ≤ c ∧ Below w.heap.size w w'
/-- a program in a box of its own -/
structure AnB (w X : World) (p : Nat) (A : Option Addr) (t : List Fn) (d : Nat) : Prop where
  b : Below w.heap.size w X
  g : Fx X w.heap.size X.heap.size A t
  k : Blk X p 44 #[.slice A t.length d]
theorem anD_box {w v X : World} {p d : Nat} {A : Option Addr} {t : List Fn} (hX : X = v.alloc (.cells #[.slice A t.length d] 44)) (hp : p = v.heap.size) (hg : Fx v w.heap.size v.heap.size A t) (hb : Below w.heap.size w v) : AnB w X p A t d := by
  have hx : Below v.heap.size v X := by rw [hX]; exact (Below.refl _ _).alloc (Nat.le_refl _) _
  exact ⟨hb.trans (hx.mono hb.size), (hg.keep (Kp.of_below hx (Nat.le_refl _))).more (Nat.le_refl _) hx.size, by rw [hX, hp]; exact Blk.new _ _ _⟩
theorem decP_len (l : List Nat) : (decP l).length ≤ (parF l).length := by
  unfold decP
  split
  · exact Nat.le_refl _
  · exact Nat.zero_le _
set_option maxHeartbeats 8000000 in
theorem sq_law (A : Option Addr) (n c : Nat) (l : List Nat) (A2 : Option Addr) (n2 c2 : Nat) (l2 : List Nat) (x : Int) (x0 : -9223372036854775808 ≤ x) (x1 : x ≤ 9223372036854775807) (y : Nat) (hy : y < 256) (w : World) (hT : Dt w) (hS : Tb w)
 (hb : Bs w w.heap.size A n l) (hn : n ≤ maxLen) (hc : n ≤ c) (hcm : c ≤ maxLen) (hb2 : Bs w w.heap.size A2 n2 l2) (hn2 : n2 ≤ maxLen) (hc2 : n2 ≤ c2) :
 Calls Tryd.prog 8 #[.slice A n c, .slice A2 n2 c2, .int .i64 x, .int .u8 y] w fun e w' => e = .returned (.bool true) ∧ Below w.heap.size w w' := by
 have HB := Lib.hid hb
 have HBB := Lib.hid hb2
 have HT := Lib.hid hT
 have HSB := Lib.hid hS
 have HX0 := Lib.hid x0
 have HX1 := Lib.hid x1
 clear hb hb2 hT hS x0 x1
 obtain ⟨i0, hi0, hz0, hz1, hz2⟩ := info_parts info_u8
 by_cases hbig : 500 < n
 · have hbi : (500 : Int) < (n : Int) := by omega
   clear hbig
   go_enter Tryd.func8, Tryd.ntmps8
   go_wp2_with fail
   refine (awake06 _ HT.out HSB.out).mono ?_
   rintro e w1 ⟨rfl, b1⟩
   go_wp2
   go_ret
   exact ⟨rfl, b1⟩
 have hbi : ¬ (500 : Int) < (n : Int) := by omega
 have hn500 : n ≤ 500 := by omega
 clear hbig
 go_enter Tryd.func8, Tryd.ntmps8
 go_wp2_with fail
 refine (awake06 _ HT.out HSB.out).mono ?_
 rintro e w1 ⟨rfl, b1⟩
 have HB1 := Lib.hid b1
 have hs1 := b1.size
 have HBS1 : Hid (Bs w1 w1.heap.size A2 n2 l2) := Lib.hid ((HBB.out.below b1).more hs1)
 clear b1
 go_wp2_with fail
 refine (newcodes_any A2 n2 c2 l2 200 _ hn2 hc2 (by omega)).mono ?_
 rintro e w2 ⟨rfl, hw2⟩
 have HC2 : Hid (CodesAt w2 w1.heap.size w1.heap.size A2 (min n2 200) c2 (l2.take (min n2 200)) 0) := Lib.hid (by
  rw [hw2]
  exact ⟨Blk.newAt rfl, ((HBS1.out.take (Nat.min_le_left _ _)).alloc (by omega) _), Nat.zero_le _, Nat.le_refl _, by omega⟩)
 have HB2 : Hid (Below w.heap.size w w2) := Lib.hid (by rw [hw2]; exact HB1.out.alloc (by omega) _)
 have hs2 : w2.heap.size = w1.heap.size + 1 := by rw [hw2]; simp
 generalize min n2 200 = m at *
 generalize l2.take m = l' at *
 clear hw2 HBS1 HBB
 go_wp2_with fail
 refine (program_d _ _ _ _ _ _ _ 3 8 _ HC2.out (by omega) (by omega) (by omega)).mono ?_
 rintro e w3 ⟨t0, Ax, cx, p3, rfl, htx, hcx, hgx, c3, g3⟩
 have HB3 : Hid (Below w.heap.size w w3) := Lib.hid (HB2.out.trans (below_of_grown g3 hs1 HB2.out.size))
 have hde := drawn_sen htx (by omega)
 have hx5 : t0.length ≤ maxLen := by have := htx.2.1; unfold maxLen; omega
 have hlb := sen_bytes hde.2.1
 obtain ⟨L, hL⟩ : ∃ L, L = senB t0 := ⟨_, rfl⟩
 rw [← hL] at hde hlb
 obtain ⟨N, hN⟩ : ∃ N, L.length = N := ⟨_, rfl⟩
 have HN := Lib.hid hN
 have hN1 : 9 ≤ N ∧ N ≤ 600000 := by have := hde.2.2; omega
 have HLB : Hid (∀ x ∈ L, x < 256) := Lib.hid hlb
 have HEN : Hid (Calls Tryd.prog 26 #[.agg #[.slice Ax t0.length cx]] w3 fun e w' => ∃ V c, e = .returned (.tuple #[.slice V N c, .int .i64 0]) ∧ w'.ownsRow w3.heap.size 5 1 (.slice V N c) N (nb L) ∧ Below w3.heap.size w3 w') := Lib.hid ((refsenc_any Ax t0 cx w2.heap.size w3.heap.size w3 hgx (Nat.le_refl _) hx5 (pr_fnr htx) hde.2.1).mono (by
  rintro e w' ⟨V, c, rfl, ho, hb⟩
  rw [← hL, hN] at ho
  exact ⟨V, c, by rw [← hL, hN, hde.1], ho, hb⟩))
 clear c3 g3 hgx htx HC2 hcx HB2 hde hlb hL hN
 go_wp2_with fail
 refine HEN.out.mono ?_
 rintro e w4 ⟨V4, c4, rfl, own4, bel4⟩
 have HB4 := Lib.hid (HB3.out.trans (bel4.mono HB3.out.size))
 have HO4 := Lib.hid own4
 have HC4 := Lib.hid (own_capM own4)
 have HV4 : Hid (Bs w4 w4.heap.size V4 N L) := Lib.hid (Bs.of_own own4 HLB.out)
 have hs4 : w.heap.size ≤ w4.heap.size := HB4.out.size
 clear own4 bel4 HEN HB3 HB1
 have hNp : (0 : Int) < (N : Int) := by omega
 go_upto_region 4 with (fail)
 go_upto_region 5 with (at_builtin; refine wpList_append_any _ rfl (.const (.slice none 0 0)) (.tmp 41) _ rfl w4.heap.size 5 i0 _ 1 1 Tryd.underlying22 hi0 hz0 hz1 hz2 rfl (by omega) (.slice none 0 0) 0 [] rfl (World.ownsRow_nil _ _ _ _) _ V4 N c4 (nb L) rfl HV4.out.1 (nb_one L) (by unfold maxLen; omega) (by omega) (by simp) ?_; intro o1 w5 own5' hg5' hat5'; have own5 : w5.ownsRow w4.heap.size 5 1 o1 N (nb L) := (by simpa using own5'); obtain ⟨g, cap, rfl, hg, hglt⟩ := own5.form (by omega))
 have bel5 : Below w4.heap.size w4 w5 := below_append (Below.refl _ _) (World.ownsRow_nil w4 w4.heap.size 5 1) hg5' (Nat.le_refl _) (by simp)
 have HB5 := Lib.hid (HB4.out.trans (bel5.mono hs4))
 have HO5 := Lib.hid (own_keep HO4.out bel5 (Nat.le_refl _))
 have HCP := Lib.hid (own_capM own5)
 have HW5 := Lib.hid own5
 have hgw : w.heap.size ≤ g := by omega
 clear own5' hg5' hat5' bel5 own5
 go_wp2_with fail
 refine (mod_any x HX0.out HX1.out N (by omega) (by omega) w5).mono ?_
 rintro e w6 ⟨rfl, rfl⟩
 have hk := modOf_lt x N (by omega)
 obtain ⟨k, hkm⟩ : ∃ k, k = modOf x N := ⟨_, rfl⟩
 have HKM := Lib.hid hkm
 rw [← hkm] at hk ⊢
 clear hkm
 have hk0 : (0 : Int) ≤ (k : Int) := by omega
 have hki : (k : Int) < (N : Int) := by omega
 have hkL : k < L.length := by have := HN.out; omega
 have hcell := HW5.out.cellAt k (by omega)
 have hfr := HW5.out.frozenAt k
 rw [nb_get, List.getElem?_eq_getElem hkL] at hcell
 obtain ⟨u, hu⟩ : ∃ u, u = L[k] := ⟨_, rfl⟩
 have hcell2 : w5.cell? ⟨g, k, none⟩ = some (.int .u8 ((u : Nat) : Int)) := by rw [hu]; exact hcell
 have hx8 : u < 256 := by rw [hu]; exact HLB.out (L[k]) (List.getElem_mem _)
 have hxy := u8_xor_nat u y hx8 hy
 obtain ⟨z, hz⟩ : ∃ z, z = u ^^^ y := ⟨_, rfl⟩
 have hz256 : z < 256 := by rw [hz]; exact Nat.xor_lt_two_pow (n := 8) hx8 hy
 rw [← hz] at hxy
 clear hcell hz hu
 go_upto_region 6 with (fail)
 obtain ⟨own6, hgr⟩ := HW5.out.stored k (.int .u8 (z : Nat))
 obtain ⟨W6, hW6⟩ : ∃ W6, W6 = w5.setCell ⟨g, k, none⟩ (.int .u8 (z : Nat)) := ⟨_, rfl⟩
 rw [← hW6] at own6 ⊢
 have HB6 : Hid (Below w.heap.size w W6) := Lib.hid (by rw [hW6]; exact HB5.out.setCell hgw _)
 have HO6 : Hid (W6.ownsRow w3.heap.size 5 1 (.slice V4 N c4) N (nb L)) := Lib.hid (by rw [hW6]; exact HO5.out.kept (gset6 _ _ _) (.inr (fun e => by have := (HO4.out.lt g e).2; omega)))
 have hset : (nb L).set k (.int .u8 (z : Nat)) = nb (L.set k z) := by simp [nb, List.map_set]
 rw [hset] at own6
 obtain ⟨L2, hL2⟩ : ∃ L2, L2 = L.set k z := ⟨_, rfl⟩
 rw [← hL2] at own6
 have HL2B : Hid (∀ x ∈ L2, x < 256) := Lib.hid (fun x hx => by
  rw [hL2] at hx
  rcases List.mem_or_eq_of_mem_set hx with h | h
  · exact HLB.out x h
  · omega)
 have HL2N : Hid (L2.length = N) := Lib.hid (by rw [hL2, List.length_set]; exact HN.out)
 have HV6 : Hid (Bs W6 W6.heap.size (some ⟨g, 0, none⟩) N L2) := Lib.hid (Bs.of_own own6 HL2B.out)
 have hs6 : w.heap.size ≤ W6.heap.size := HB6.out.size
 clear hW6 own6 hgr hset hL2 hcell2 hfr hxy HW5 HO5 HO4 HV4 HB5 HB4
 have hNc4 := HC4.out.1
 have hc4m := HC4.out.2
 have hni4 : (N : Int) ≤ (c4 : Int) := by omega
 have hcc4 : (c4 : Int) ≤ 9223372036854775807 := by unfold maxLen at hc4m; omega
 have hkc4 : k ≤ c4 := by omega
 have hkci4 : (k : Int) ≤ (c4 : Int) := by omega
 have HKC : Hid (k ≤ c4 ∧ k ≤ 600000) := Lib.hid ⟨by omega, by omega⟩
 have HMO := Lib.hid (mod_any x HX0.out HX1.out N (by omega) (by omega) W6)
 rw [← HKM.out] at HMO
 go_wp2_with fail
 refine HMO.out.mono ?_
 rintro e w6' ⟨rfl, rfl⟩
 have HVK : Hid (Bs W6 W6.heap.size V4 k (L.take k)) := Lib.hid ((Bs.of_own HO6.out HLB.out).take (by omega))
 have HKL : Hid ((L.take k).length = k) := Lib.hid (by rw [List.length_take, HN.out]; omega)
 obtain ⟨LK, hLK⟩ : ∃ M, M = L.take k := ⟨_, rfl⟩
 rw [← hLK] at HVK HKL
 clear hLK HMO
 go_upto_region 7 with (fail)
 clear hNc4 hc4m hni4 hcc4 hkc4 hkci4
 have hcv := Lib.run_convert_bytes_const (P := Tryd.prog) W6 22 5 #[.int .u8 83, .int .u8 73, .int .u8 82, .int .u8 49] 4 4 Tryd.underlying22 Tryd.underlying5
 obtain ⟨W8, hW8⟩ : ∃ W8, W8 = W6.alloc (.cells #[.int .u8 83, .int .u8 73, .int .u8 82, .int .u8 49] 5 (4, 5)) := ⟨_, rfl⟩
 have hbl8 : Below W6.heap.size W6 W8 := by rw [hW8]; exact (Below.refl _ _).alloc (Nat.le_refl _) _
 have HOW : Hid (OwM W8 W6.heap.size (.slice (some ⟨W6.heap.size, 0, none⟩) 4 4) 4 (nb mgS)) := Lib.hid (.inr ⟨W6.heap.size, #[.int .u8 83, .int .u8 73, .int .u8 82, .int .u8 49], (4, 5), rfl, Nat.le_refl _, by rw [hW8, heap_alloc_new], rfl, rfl, by decide⟩)
 have HBL8 := Lib.hid hbl8
 have HVB8 : Hid (Bs W8 W8.heap.size A n l) := Lib.hid ((HB.out.below (HB6.out.trans (hbl8.mono hs6))).more (Nat.le_trans hs6 hbl8.size))
 have HLN := Lib.hid HB.out.len
 have hs8 : W6.heap.size ≤ W8.heap.size := hbl8.size
 have HW8 := Lib.hid hW8
 clear hW8 hbl8
 go_upto_region 8 with (first
  | (rw [← HW8.out]; at_builtin; refine wpList_append_o _ rfl (.tmp 60) (.tmp 61) _ rfl W6.heap.size i0 Tryd.underlying22 hi0 hz0 hz1 hz2 _ 4 (nb mgS) rfl HOW.out _ A n c (nb l) rfl HVB8.out.1 (nb_one l) (by unfold maxLen; omega) (by omega) (by omega) ?_; intro o9 w9 own9 hg9)
  | (at_builtin; refine wpList_append_o _ rfl (.tmp 62) (.tmp 63) _ rfl W6.heap.size i0 Tryd.underlying22 hi0 hz0 hz1 hz2 _ (4 + n) (nb mgS ++ nb l) rfl (own9.alloc _) (w9.heap.size + 1) (some ⟨w9.heap.size, 0, none⟩) 4 4 (nb [0, 0, 0, 0]) rfl (reads_lit w9 _ (nb [0, 0, 0, 0])) (nb_one _) (by unfold maxLen; omega) (by omega) (by have := hg9.size; simp; omega) ?_; intro o10 w10 own10 hg10; obtain ⟨V10, c10, rfl, hm10⟩ := own10.form))
 have hb9 : Below W6.heap.size W8 w9 := HOW.out.below hg9 hs8
 have hb10 : Below W6.heap.size W8 w10 := (hb9.alloc (by have := hg9.size; omega) _).trans ((own9.alloc _).below hg10 (by have := hg9.size; simp; omega))
 have HBL10 : Hid (Below W6.heap.size W6 w10) := Lib.hid (HBL8.out.trans hb10)
 have hs10 : W6.heap.size ≤ w10.heap.size := HBL10.out.size
 obtain ⟨L10, hL10⟩ : ∃ L, L = mgS ++ l ++ [0, 0, 0, 0] := ⟨_, rfl⟩
 obtain ⟨N10, hN10⟩ : ∃ N, N = 4 + n + 4 := ⟨_, rfl⟩
 have HB10 : Hid (∀ x ∈ L10, x < 256) := Lib.hid (by
  intro x hx
  rw [hL10] at hx
  rcases List.mem_append.1 hx with h | h
  · rcases List.mem_append.1 h with h | h
    · simp [mgS] at h; omega
    · exact HB.out.2 x h
  · simp at h; omega)
 have ho10 : OwM w10 W6.heap.size (.slice V10 N10 c10) N10 (nb L10) := by
  rw [hL10, hN10, nb_append, nb_append]
  exact own10
 have HLL : Hid (L10.length = N10) := Lib.hid (by rw [hL10, hN10]; simp [mgS, HLN.out]; omega)
 have HC10 := Lib.hid (own_capO ho10)
 have hn10 : N10 ≤ 700000 := by omega
 have HV10 : Hid (Bs w10 w10.heap.size V10 N10 L10) := Lib.hid (ho10.bs HB10.out)
 have HMN := Lib.hid (fun (W : World) (A' : Option Addr) (n' c' : Nat) (l' : List Nat) (h : Bs W W.heap.size A' n' l') (h1 : n' ≤ 700000) (h2 : n' ≤ c') (h3 : c' ≤ maxLen) => (show Calls Tryd.prog 27 #[.slice A' n' c'] W fun e w' => ∃ V c l2, e = .returned (.slice V n' c) ∧ Bs w' w'.heap.size V n' l2 ∧ (n' ≤ c ∧ c ≤ maxLen) ∧ Below W.heap.size W w' from (mended06_any A' n' c' l' W h (by omega) h2 h3).mono (by
  rintro e w' ⟨V, c, rfl, h4, h5, h6, h7⟩
  have hl : (mend l').length = n' := by rw [mend_len, h.len]
  rw [hl] at h4 h5
  exact ⟨V, c, _, by rw [hl], h4, ⟨h5, h6⟩, h7⟩)))
 rw [← hN10]
 clear own9 own10 hg9 hg10 hm10 hb9 hb10 ho10 hcv HW8 hL10 hN10 HOW HVB8 HBL8
 have HX6 : Hid (∀ W, Below w10.heap.size w10 W → Below W6.heap.size W6 W) := Lib.hid (fun W h => HBL10.out.trans (h.mono hs10))
 have HMa := Lib.hid (fun (W : World) (h : Below w10.heap.size w10 W) => HMN.out W (some ⟨g, 0, none⟩) N cap L2 ((HV6.out.below (HX6.out W h)).more (HX6.out W h).size) (by omega) HCP.out.1 HCP.out.2)
 have HMb := Lib.hid (fun (W : World) (h : Below w10.heap.size w10 W) => HMN.out W V4 k c4 LK ((HVK.out.below (HX6.out W h)).more (HX6.out W h).size) (by omega) HKC.out.1 HC4.out.2)
 have HMc := Lib.hid (fun (W : World) (h : Below w10.heap.size w10 W) => HMN.out W V10 N10 c10 L10 ((HV10.out.below h).more h.size) hn10 HC10.out.1 HC10.out.2)
 have HVX : Hid (∀ W, Below w10.heap.size w10 W → Bs W W.heap.size V4 N L) := Lib.hid (fun W h => Bs.of_own (own_keep HO6.out (HX6.out W h) (Nat.le_refl _)) HLB.out)
 obtain ⟨ad4, hV4, -, -⟩ := (HVX.out w10 (Below.refl _ _)).at_ (show 0 < N by omega)
 subst hV4
 have HMd := Lib.hid (fun (W : World) (V : Option Addr) (cc : Nat) (h : W.ownsRow w10.heap.size 5 1 (.slice V (N + 1) cc) (N + 1) (nb (L ++ [0]))) => HMN.out W V (N + 1) cc (L ++ [0]) (Bs.of_own h (bytes_append HLB.out (by simp))) (by omega) (own_capM h).1 (own_capM h).2)
 have BA : Hid (Below w10.heap.size w10 w10.drew) := Lib.hid ((Below.refl _ _).drew)
 have BB : Hid (∀ o, Below w10.heap.size w10 (w10.drew.alloc o)) := Lib.hid (fun o => Below.al BA.out o)
 have hNN : N ≤ c4 := HC4.out.1
 have hNNi : (N : Int) ≤ (c4 : Int) := by omega
 have hN0 : (0 : Int) ≤ (N : Int) := by omega
 go_cut [84, 85, 86] (fun s84 s85 s86 wx => ∃ (V11 : Option Addr) (c11 : Nat) (L11 : List Nat) (V12 : Option Addr) (c12 : Nat) (L12 : List Nat) (V13 : Option Addr) (c13 : Nat) (L13 : List Nat) (V14 : Option Addr) (c14 : Nat) (L14 : List Nat) (gl : Nat), s84 = .slice (some ⟨gl, 0, none⟩) 8 8 ∧ s85 = .int .i64 8 ∧ s86 = .int .i64 0 ∧ Below w10.heap.size w10 wx ∧
  Blk wx gl 22 #[.slice A n c, .slice (some ad4) N c4, .slice (some ⟨g, 0, none⟩) N cap, .slice V11 N c11, .slice (some ad4) k c4, .slice V12 k c12, .slice V13 N10 c13, .slice V14 (N + 1) c14] ∧
  (Bs wx wx.heap.size V11 N L11 ∧ N ≤ c11 ∧ c11 ≤ maxLen) ∧ (Bs wx wx.heap.size V12 k L12 ∧ k ≤ c12 ∧ c12 ≤ maxLen) ∧ (Bs wx wx.heap.size V13 N10 L13 ∧ N10 ≤ c13 ∧ c13 ≤ maxLen) ∧ (Bs wx wx.heap.size V14 (N + 1) L14 ∧ N + 1 ≤ c14 ∧ c14 ≤ maxLen))
 case first =>
  go_region_law (first
   | ((have hbx := HVX.out (wv3.alloc (.cells #[.int .u8 0] 5)) (Below.al bW3 _)); (refine step_full (lit_new wv3) rfl (.tmp 80) (.tmp 81) 22 rfl i0 Tryd.underlying22 hi0 hz0 hz1 hz2 ad4 N L _ hbx (by omega) (by unfold maxLen; omega) (by omega) ?_ ?_ ?_); simp [Act.eval]; simp [Act.eval]; (intro Va ca wa owna bela); (have bWa := Below.step (Below.al bW3 _) bela); have OWa := own_less owna (Below.al bW3 _).size)
   | (go_simp; (fail_if_success have X1 := CA1); refine (HMa.out _ (by first | exact BA.out | exact BB.out _)).mono ?_; rintro e wv1 ⟨V11, c11, L11, rfl, hb11, hc11, bel11⟩; have CA1 : True := trivial; (first | (have bW1 : Below w10.heap.size w10 wv1 := Below.step BA.out bel11) | (have bW1 : Below w10.heap.size w10 wv1 := Below.step (BB.out _) bel11)); (first | (have LT : LitAt wv1 w10.heap.size := lit_after (X := w10.drew) bel11) | skip))
   | (go_simp; have X1 := CA1; (fail_if_success have X2 := CA2); refine (HMb.out _ (by first | exact bW1 | exact Below.al bW1 _)).mono ?_; rintro e wv2 ⟨V12, c12, L12, rfl, hb12, hc12, bel12⟩; have CA2 : True := trivial; (first | (have bW2 : Below w10.heap.size w10 wv2 := Below.step bW1 bel12) | (have bW2 : Below w10.heap.size w10 wv2 := Below.step (Below.al bW1 _) bel12)); (first | (have bE12 : Below wv1.heap.size wv1 wv2 := bel12) | (have bE12 : Below wv1.heap.size wv1 wv2 := Below.step (Below.al (Below.refl _ _) _) bel12)); (first | (have LT : LitAt wv2 wv1.heap.size := lit_after (X := wv1) bel12) | (have LT := lit_keep LT bel12) | skip))
   | (go_simp; have X2 := CA2; (fail_if_success have X3 := CA3); refine (HMc.out _ (by first | exact bW2 | exact Below.al bW2 _)).mono ?_; rintro e wv3 ⟨V13, c13, L13, rfl, hb13, hc13, bel13⟩; have CA3 : True := trivial; (first | (have bW3 : Below w10.heap.size w10 wv3 := Below.step bW2 bel13) | (have bW3 : Below w10.heap.size w10 wv3 := Below.step (Below.al bW2 _) bel13)); (first | (have bE13 : Below wv2.heap.size wv2 wv3 := bel13) | (have bE13 : Below wv2.heap.size wv2 wv3 := Below.step (Below.al (Below.refl _ _) _) bel13)); (first | (have LT : LitAt wv3 wv2.heap.size := lit_after (X := wv2) bel13) | (have LT := lit_keep LT bel13) | skip))
   | (go_simp; have X3 := CA3; refine (HMd.out _ _ _ OWa).mono ?_; rintro e wv4 ⟨V14, c14, L14, rfl, hb14, hc14, bel14⟩; have bW4 := Below.step bWa bel14; (first | (have bE14 : Below wv3.heap.size wv3 wv4 := Below.step bela bel14) | (have bE14 : Below wv3.heap.size wv3 wv4 := Below.step (Below.step (Below.al (Below.refl _ _) _) bela) bel14)))
   | (have LTX := LT; (have hbx := HVX.out wv3 bW3); (refine step_full LTX rfl (.tmp 80) (.tmp 81) 22 rfl i0 Tryd.underlying22 hi0 hz0 hz1 hz2 ad4 N L _ hbx (by omega) (by unfold maxLen; omega) (by omega) ?_ ?_ ?_); (first | simp [Act.eval] | fail "S1"); (first | simp [Act.eval] | fail "S2"); (intro Va ca wa owna bela); (first | have bWa := Below.step bW3 bela | fail "BW"); first | have OWa := own_less owna bW3.size | fail "OW"))
  all_goals
   have bl1 : Below wv1.heap.size wv1 wv4 := Below.step (Below.step bE12 bE13) bE14
   have bl2 : Below wv2.heap.size wv2 wv4 := Below.step bE13 bE14
   have hq1 := (hb11.below bl1).more bl1.size
   have hq2 := (hb12.below bl2).more bl2.size
   have hq3 := (hb13.below bE14).more bE14.size
   have hob := fun o => ((Below.refl wv4.heap.size wv4).alloc (Nat.le_refl _) o)
   go_wp2_with fail
   go_meet
   exact ⟨V11, c11, L11, V12, c12, L12, V13, c13, L13, V14, c14, L14, wv4.heap.size, rfl, rfl, rfl, Below.al bW4 _, Blk.new _ _ _, ⟨(hq1.below (hob _)).more (hob _).size, hc11⟩, ⟨(hq2.below (hob _)).more (hob _).size, hc12⟩, ⟨(hq3.below (hob _)).more (hob _).size, hc13⟩, ⟨(hb14.below (hob _)).more (hob _).size, hc14⟩⟩
 case rest =>
 obtain ⟨V11, c11, L11, V12, c12, L12, V13, c13, L13, V14, c14, L14, gl, rfl, rfl, rfl, hbx, hkx, ⟨hb11, hc11⟩, ⟨hb12, hc12⟩, ⟨hb13, hc13⟩, ⟨hb14, hc14⟩⟩ := hcut
 generalize wc = W14 at *
 have hb614 : Below W6.heap.size W6 W14 := HX6.out W14 hbx
 have HB14 : Hid (Below w.heap.size w W14) := Lib.hid (HB6.out.trans (hb614.mono hs6))
 have hs14 : w.heap.size ≤ W14.heap.size := HB14.out.size
 have hz614 : W6.heap.size ≤ W14.heap.size := hb614.size
 have HX : Hid (∀ k, k < 8 → SlB W14 gl k) := Lib.hid (by
  intro j hj
  have hj' : j = 0 ∨ j = 1 ∨ j = 2 ∨ j = 3 ∨ j = 4 ∨ j = 5 ∨ j = 6 ∨ j = 7 := by omega
  rcases hj' with rfl | rfl | rfl | rfl | rfl | rfl | rfl | rfl
  · exact ⟨A, n, c, l, hkx.cell 0, (HB.out.below HB14.out).more hs14, by omega, hc, hcm⟩
  · exact ⟨some ad4, N, c4, L, hkx.cell 1, HVX.out W14 hbx, by omega, HC4.out.1, HC4.out.2⟩
  · exact ⟨some ⟨g, 0, none⟩, N, cap, L2, hkx.cell 2, (HV6.out.below hb614).more hz614, by omega, HCP.out.1, HCP.out.2⟩
  · exact ⟨V11, N, c11, L11, hkx.cell 3, hb11, by omega, hc11.1, hc11.2⟩
  · exact ⟨some ad4, k, c4, LK, hkx.cell 4, (HVK.out.below hb614).more hz614, by omega, HKC.out.1, HC4.out.2⟩
  · exact ⟨V12, k, c12, L12, hkx.cell 5, hb12, by omega, hc12.1, hc12.2⟩
  · exact ⟨V13, N10, c13, L13, hkx.cell 6, hb13, by omega, hc13.1, hc13.2⟩
  · exact ⟨V14, N + 1, c14, L14, hkx.cell 7, hb14, by omega, hc14.1, hc14.2⟩)
 have HS14 : Hid (Tb W14) := Lib.hid (HSB.out.below HB14.out)
 have hglz : gl < W14.heap.size := hkx.lt
 clear hb614 hb11 hb12 hb13 hb14 hc11 hc12 hc13 hc14 hkx hbx HVX HVK HO6 HV6 HB HLB HMN HMa HMb HMc HMd HX6 HC10 HC4 HCP HV10 HB10 BA BB HBL10 hNN hNNi hN0 hz614 HLL HKC HT HSB HB6
 go_upto_region 9 with (fail)
 go_loopw [86] (fun x wr => ∃ k : Nat, k ≤ 8 ∧ x = .int .i64 k ∧ Hid (Below W14.heap.size W14 wr)) (fun x _ => 8 - (intOf x).toNat)
 case atStart => exact ⟨0, by omega, rfl, Lib.hid (Below.refl _ _)⟩
 case round =>
  obtain ⟨j, hj, rfl, HBr⟩ := hrel
  by_cases hlt : j < 8
  · have hj0 : (0 : Int) ≤ (j : Int) := by omega
    have hj1 : (j : Int) < 8 := by omega
    obtain ⟨A', n', c', l', hcell, hbs, hn', hc', hcm'⟩ := (HX.out j hlt).after HBr.out
    have hsr := HBr.out.size
    have hTr : Tb wr := HS14.out.below HBr.out
    have hglr : gl < wr.heap.size := by omega
    obtain ⟨t, ht⟩ : ∃ t, t = parF l' := ⟨_, rfl⟩
    obtain ⟨pe, hpe⟩ : ∃ x : Int, x = (parE l' : Int) := ⟨_, rfl⟩
    obtain ⟨t2, ht2⟩ : ∃ t, t = decP l' := ⟨_, rfl⟩
    obtain ⟨de, hde⟩ : ∃ x : Int, x = decS l' := ⟨_, rfl⟩
    have hml : t.length ≤ maxLen := by rw [ht]; have := parF_len l'; unfold maxLen; omega
    have hml2 : t2.length ≤ maxLen := by rw [ht2]; have h1 := decP_len l'; have h2 := parF_len l'; unfold maxLen; omega
    have hnm : n' ≤ maxLen := by unfold maxLen; omega
    have HP1 : Hid (∀ W, Below wr.heap.size wr W → Calls Tryd.prog 30 #[.slice A' n' c'] W (AnD t pe W)) := Lib.hid (fun W hb => by rw [ht, hpe]; exact sParse_any A' n' c' l' W ((hbs.below hb).more hb.size) hnm hc' hcm')
    have HP2 : Hid (∀ W, Below wr.heap.size wr W → Calls Tryd.prog 31 #[.slice A' n' c'] W (AnD t pe W)) := Lib.hid (fun W hb => by rw [ht, hpe]; exact rParse_any A' n' c' l' W ((hbs.below hb).more hb.size) hnm hc' hcm')
    have HP3 : Hid (∀ W, Below wr.heap.size wr W → Calls Tryd.prog 32 #[.slice A' n' c'] W (AnD t2 de W)) := Lib.hid (fun W hb => by rw [ht2, hde]; exact sDecode_any A' n' c' l' W (hTr.below hb) ((hbs.below hb).more hb.size) hnm hc' hcm')
    have HP4 : Hid (∀ W, Below wr.heap.size wr W → Calls Tryd.prog 33 #[.slice A' n' c'] W (AnD t2 de W)) := Lib.hid (fun W hb => by rw [ht2, hde]; exact rDecode_any A' n' c' l' W ((hbs.below hb).more hb.size) hnm hc' hcm')
    clear hbs hTr ht hpe ht2 hde hnm
    generalize wr = wo at *
    go_wp2_with fail
    refine (HP1.out wo (Below.refl _ _)).mono ?_
    rintro e v1 ⟨A1, d1, rfl, hg1, hd1, bl1⟩
    go_upto_region 12 with (fail)
    obtain ⟨X1, hX1⟩ : ∃ W, W = v1.alloc (.cells #[.slice A1 t.length d1] 44) := ⟨_, rfl⟩
    obtain ⟨p1, hp1⟩ : ∃ g, g = v1.heap.size := ⟨_, rfl⟩
    rw [← hX1, ← hp1]
    have HX1 := Lib.hid (anD_box hX1 hp1 hg1 bl1)
    clear hX1 hp1 hg1 hd1 bl1 hcell
    go_wp2_with fail
    refine (HP2.out X1 HX1.out.b).mono ?_
    rintro e v2 ⟨A2', d2, rfl, hg2, hd2, bl2⟩
    go_upto_region 13 with (fail)
    obtain ⟨X2, hX2⟩ : ∃ W, W = v2.alloc (.cells #[.slice A2' t.length d2] 44) := ⟨_, rfl⟩
    obtain ⟨p2, hp2⟩ : ∃ g, g = v2.heap.size := ⟨_, rfl⟩
    rw [← hX2, ← hp2]
    have HX2 := Lib.hid (anD_box hX2 hp2 hg2 bl2)
    clear hX2 hp2 hg2 hd2 bl2
    go_wp2_with fail
    refine (HP3.out X2 (HX1.out.b.trans (HX2.out.b.mono HX1.out.b.size))).mono ?_
    rintro e v3 ⟨A3, d3, rfl, hg3, hd3, bl3⟩
    go_upto_region 14 with (fail)
    obtain ⟨X3, hX3⟩ : ∃ W, W = v3.alloc (.cells #[.slice A3 t2.length d3] 44) := ⟨_, rfl⟩
    obtain ⟨p3, hp3⟩ : ∃ g, g = v3.heap.size := ⟨_, rfl⟩
    rw [← hX3, ← hp3]
    have HX3 := Lib.hid (anD_box hX3 hp3 hg3 bl3)
    clear hX3 hp3 hg3 hd3 bl3
    go_wp2_with fail
    refine (HP4.out X3 (HX1.out.b.trans ((HX2.out.b.trans (HX3.out.b.mono HX2.out.b.size)).mono HX1.out.b.size))).mono ?_
    rintro e v4 ⟨A4, d4, rfl, hg4, hd4, bl4⟩
    go_upto_region 15 with (fail)
    obtain ⟨X4, hX4⟩ : ∃ W, W = v4.alloc (.cells #[.slice A4 t2.length d4] 44) := ⟨_, rfl⟩
    obtain ⟨p4, hp4⟩ : ∃ g, g = v4.heap.size := ⟨_, rfl⟩
    rw [← hX4, ← hp4]
    have HX4 := Lib.hid (anD_box hX4 hp4 hg4 bl4)
    clear hX4 hp4 hg4 hd4 bl4
    have b34 : Below X3.heap.size X3 X4 := HX4.out.b
    have b24 : Below X2.heap.size X2 X4 := HX3.out.b.trans (b34.mono HX3.out.b.size)
    have b14 : Below X1.heap.size X1 X4 := HX2.out.b.trans (b24.mono HX2.out.b.size)
    have b04 : Below wo.heap.size wo X4 := HX1.out.b.trans (b14.mono HX1.out.b.size)
    have HS1 : Hid (∀ W, Below X4.heap.size X4 W → Calls Tryd.prog 34 #[.agg #[.slice A1 t.length d1], .agg #[.slice A2' t.length d2]] W fun e w' => e = .returned (.bool true) ∧ Below W.heap.size W w') := Lib.hid (fun W hb => by
      have h1 : Below X1.heap.size X1 W := b14.trans (hb.mono b14.size)
      have h2 : Below X2.heap.size X2 W := b24.trans (hb.mono b24.size)
      refine (refsame_any A1 A2' t t d1 d2 W wo.heap.size X1.heap.size X1.heap.size X2.heap.size h1.size h2.size (HX1.out.g.keep (Kp.of_below h1 (Nat.le_refl _))) (HX2.out.g.keep (Kp.of_below h2 (Nat.le_refl _))) hml hml).mono ?_
      rintro e w' ⟨rfl, h3⟩
      exact ⟨by rw [eqF_refl], h3⟩)
    have HS2 : Hid (∀ W, Below X4.heap.size X4 W → Calls Tryd.prog 34 #[.agg #[.slice A3 t2.length d3], .agg #[.slice A4 t2.length d4]] W fun e w' => e = .returned (.bool true) ∧ Below W.heap.size W w') := Lib.hid (fun W hb => by
      have h1 : Below X3.heap.size X3 W := b34.trans (hb.mono b34.size)
      refine (refsame_any A3 A4 t2 t2 d3 d4 W X2.heap.size X3.heap.size X3.heap.size X4.heap.size h1.size hb.size (HX3.out.g.keep (Kp.of_below h1 (Nat.le_refl _))) (HX4.out.g.keep (Kp.of_below hb (Nat.le_refl _))) hml2 hml2).mono ?_
      rintro e w' ⟨rfl, h3⟩
      exact ⟨by rw [eqF_refl], h3⟩)
    have HK1 := Lib.hid (HX1.out.k.after b14)
    have HK2 := Lib.hid (HX2.out.k.after b24)
    have HK3 := Lib.hid (HX3.out.k.after b34)
    have HK4 := Lib.hid HX4.out.k
    have HB04 : Hid (Below W14.heap.size W14 X4) := Lib.hid (HBr.out.trans (b04.mono hsr))
    clear HX1 HX2 HX3 HX4 HP1 HP2 HP3 HP4 b34 b24 b14 b04
    obtain ⟨q1, -, qz1⟩ := HK1.out.c1
    obtain ⟨q2, -, qz2⟩ := HK2.out.c1
    go_wp2_with fail
    refine (HS1.out X4 (Below.refl _ _)).mono ?_
    rintro e v5 ⟨rfl, bl5⟩
    have HS5 := Lib.hid (HS2.out v5 bl5)
    have HK5 := Lib.hid (HK3.out.after bl5)
    have HK6 := Lib.hid (HK4.out.after bl5)
    have HB05 := Lib.hid (HB04.out.trans (bl5.mono HB04.out.size))
    clear q1 qz1 q2 qz2 bl5 HS1 HS2 HK1 HK2 HK3 HK4 HB04
    obtain ⟨q3, -, qz3⟩ := HK5.out.c1
    obtain ⟨q4, -, qz4⟩ := HK6.out.c1
    go_wp2_with fail
    refine HS5.out.mono ?_
    rintro e v6 ⟨rfl, bl6⟩
    have HB06 := Lib.hid (HB05.out.trans (bl6.mono HB05.out.size))
    clear q3 qz3 q4 qz4 bl6 HS5 HK5 HK6 HB05
    go_wp2
    go_roundw
    case rel => exact ⟨j + 1, by omega, by go_num, HB06⟩
    case measure => simp [intOf]; omega
  · have hj8 : j = 8 := by omega
    subst hj8
    go_wp2
    go_ret
    exact ⟨rfl, HB14.out.trans (HBr.out.mono hs14)⟩
theorem sq_lawB (A : Option Addr) (n c : Nat) (l : List Nat) (A2 : Option Addr) (n2 c2 : Nat) (l2 : List Nat) (x : Int) (x0 : -9223372036854775808 ≤ x) (x1 : x ≤ 9223372036854775807) (y : Nat) (hy : y < 256) (w : World) (h : Dt w ∧ Tb w)
 (hb : Bs w w.heap.size A n l) (hn : n ≤ maxLen) (hc : n ≤ c) (hcm : c ≤ maxLen) (hb2 : Bs w w.heap.size A2 n2 l2) (hn2 : n2 ≤ maxLen) (hc2 : n2 ≤ c2) :
 Calls Tryd.prog 8 #[.slice A n c, .slice A2 n2 c2, .int .i64 x, .int .u8 y] w fun e w' => e = .returned (.bool true) ∧ Below w.heap.size w w' := sq_law A n c l A2 n2 c2 l2 x x0 x1 y hy w h.1 h.2 hb hn hc hcm hb2 hn2 hc2
end Go.Proofs.YtinfeglhjmnlaaaDoor.pm
