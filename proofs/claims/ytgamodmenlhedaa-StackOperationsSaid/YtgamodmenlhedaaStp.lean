/- One random operation with the program and with the reference (step of chapter 9's statements). -/
import Derived.Test.YtgamodmenlhedaaCm
import Derived.Test.YtgamodmenlhedaaMv
import Derived.Test.YtgamodmenlhedaaRst
import Derived.Test.YtgamodmenlhedaaRpu
import Derived.Deep.DrawnRows
import Derived.Deep.RegionHeld3
import Derived.Deep.CutBlock
namespace Go.Proofs.Ytgamodmenlhedaa
open Go.RowKit
set_option linter.unusedVariables false
set_option maxRecDepth 100000
attribute [local go_sem ↓] Go.wp_at_zero Go.wp_at_succ

theorem pushV_le {lb : List Nat} {lu : List Bool} {sp n : Nat} {k : Int} (h : sp ≤ n) {e : Int} {lx : List Nat} {ux : List Bool} {spx : Nat} (hr : pushV lb lu sp k = (e, lx, ux, spx)) : spx ≤ n := by
  unfold pushV at hr
  split at hr
  · simp at hr; omega
  · split at hr <;> (simp at hr; omega)
theorem popV_le' {sp n : Nat} {k : Int} (h : sp ≤ n) {e : Int} {spx : Nat} (hr : popV n sp k = (e, spx)) : spx ≤ n := by
  have := popV_le (k := k) h
  rw [hr] at this; exact this
theorem storeV_le {n sp a b : Nat} {lb : List Nat} {lu : List Bool} {k m : Int} (h : sp ≤ n) {e : Int} {lx : List Nat} {ux : List Bool} {spx : Nat} (hr : storeV n sp lb lu a b k m = (e, lx, ux, spx)) : spx ≤ n := by
  unfold storeV at hr
  split at hr <;> (simp at hr; omega)
theorem moveV_le {n sp : Nat} {lb : List Nat} {lu : List Bool} {i k m : Int} (h : sp ≤ n) {e : Int} {q : Bool} {lx : List Nat} {ux : List Bool} {spx : Nat} (hr : moveV n sp lb lu i k m = (e, q, lx, ux, spx)) : spx ≤ n := by
  unfold moveV at hr
  split at hr
  · split at hr <;> (simp at hr; omega)
  · simp at hr; omega
theorem Blk.three {w : World} {g : Nat} {t : TypeId} {a b c : Value} (h : Blk w g t #[a, b, c]) : w.cell? ⟨g, 0, none⟩ = some a ∧ w.cell? ⟨g, 1, none⟩ = some b ∧ w.cell? ⟨g, 2, none⟩ = some c ∧ w.frozen? ⟨g, 0, none⟩ = false ∧ w.frozen? ⟨g, 1, none⟩ = false ∧ w.frozen? ⟨g, 2, none⟩ = false ∧ g < w.heap.size :=
  ⟨Blk.cell h 0, Blk.cell h 1, Blk.cell h 2, Blk.frozen h 0, Blk.frozen h 1, Blk.frozen h 2, Blk.lt h⟩
/-- a world after a value is written into the variable g -/
def putTwo (w : World) (g : Nat) (a b : Value) : World := (w.setCell ⟨g, 0, none⟩ a).setCell ⟨g, 1, none⟩ b
section
variable {w w0 : World} {g g' n c p B : Nat} {t : TypeId} {cs : Array Value} {A : Option Addr} {l : List Nat} {u : List Bool} {a b a' b' : Value}
theorem Blk.put2 (h : Blk w g t #[a', b']) : Blk (putTwo w g a b) g t #[a, b] := (Blk.set_ h 0 _).set_ 1 _
theorem Blk.put2Far (h : Blk w g t cs) (hne : g ≠ g') : Blk (putTwo w g' a b) g t cs := (h.far hne _).far hne _
theorem BsZ.put2 {x y x' y' : Nat} (h : BsZ w A n l) (hg : Blk w g t #[.int .u64 x, .int .u64 y]) : BsZ (putTwo w g (.int .u64 x') (.int .u64 y')) A n l :=
  (h.box (i := 0) hg (by simp) _).box (i := 1) (Blk.set_ hg 0 (.int .u64 x')) (by simp) _
theorem SlZ.put2 {x y x' y' : Nat} (h : SlZ w A n u) (hg : Blk w g t #[.int .u64 x, .int .u64 y]) : SlZ (putTwo w g (.int .u64 x') (.int .u64 y')) A n u :=
  (h.box (i := 0) hg (by simp) _).box (i := 1) (Blk.set_ hg 0 (.int .u64 x')) (by simp) _
theorem GB.put2 {gb : Nat} (h : w0.grownBy w (some g)) (hg : w0.heap.size ≤ gb) : w0.grownBy (putTwo w gb a b) (some g) := grownBy_set (grownBy_set h hg _) hg _
theorem CodesAt.put2 (h : CodesAt w B g A n c l p) (hne : g ≠ g') (hB : B ≤ g') : CodesAt (putTwo w g' a b) B g A n c l p := (h.set (q := ⟨g', 0, none⟩) hne hB a).set (q := ⟨g', 1, none⟩) hne hB b
end
theorem CodesAt.dr {w : World} {B g n c p : Nat} {A : Option Addr} {l : List Nat} (h : CodesAt w B g A n c l p) : CodesAt w.drew B g A n c l p := h
theorem GB.dr {w W : World} {g : Nat} (h : w.grownBy W (some g)) : w.grownBy W.drew (some g) := grownBy_trans h (grownBy_drewN' _ 1 _)
/-- the sizes that are drawn -/
def szw (size : Int) (v : Nat) : Int := if v = 0 then 1 else if v = 1 then 2 else if v = 2 then 4 else if v = 3 then 8 else if v = 4 then 16 else if v = 5 then size else 3
theorem szw_get (size : Int) (v : Nat) (h : v < 7) : (#[Value.int .i64 1, Value.int .i64 2, Value.int .i64 4, Value.int .i64 8, Value.int .i64 16, Value.int .i64 size, Value.int .i64 3] : Array Value)[v]? = some (.int .i64 (szw size v)) := by
  have : v = 0 ∨ v = 1 ∨ v = 2 ∨ v = 3 ∨ v = 4 ∨ v = 5 ∨ v = 6 := by omega
  rcases this with rfl | rfl | rfl | rfl | rfl | rfl | rfl <;> rfl
theorem szw_bd (size : Int) (v : Nat) (h0 : -9223372036854775808 ≤ size) (h1 : size ≤ 9223372036854775807) : -9223372036854775808 ≤ szw size v ∧ szw size v ≤ 9223372036854775807 := by
  unfold szw
  repeat' split
  all_goals omega

/-- what the step leaves: two equal stacks, of the program and of the reference, and the choices -/
def StepR (w : World) (B g : Nat) (C : Option Addr) (nc cc : Nat) (l : List Nat) (p n : Nat) (e : Ending) (w' : World) : Prop :=
  ∃ (A : Option Addr) (c : Nat) (U : Option Addr) (d : Nat) (A' : Option Addr) (c' : Nat) (U' : Option Addr) (d' sp p' : Nat) (lb : List Nat) (lu : List Bool),
    e = .returned (.tuple #[.agg #[.slice A n c, .slice U n d, .int .i64 sp], .agg #[.slice A' n c', .slice U' n d', .int .i64 sp], .bool true]) ∧
    (n ≤ c ∧ n ≤ d ∧ n ≤ c' ∧ n ≤ d' ∧ sp ≤ n) ∧ BsZ w' A n lb ∧ SlZ w' U n lu ∧ BsZ w' A' n lb ∧ SlZ w' U' n lu ∧ CodesAt w' B g C nc cc l p' ∧ w.grownBy w' (some g) ∧ p ≤ p' ∧ (p < nc → p < p')

set_option maxHeartbeats 8000000 in
theorem step_any (B g : Nat) (C : Option Addr) (nc cc : Nat) (l : List Nat) (p : Nat) (Aa Ua Ab Ub : Option Addr) (n ca da cb db sp : Nat) (lb : List Nat) (lu : List Bool) (off size : Int)
    (h0 : -9223372036854775808 ≤ off) (h1 : off ≤ 9223372036854775807) (s0 : -9223372036854775808 ≤ size) (s1 : size ≤ 9223372036854775807) (hn : n ≤ 1048576) (hsp : sp ≤ n)
    (q1 : n ≤ ca) (q2 : n ≤ da) (q3 : n ≤ cb) (q4 : n ≤ db) (w : World) (hc : CodesAt w B g C nc cc l p) (r1 : BsZ w Aa n lb) (r2 : SlZ w Ua n lu) (r3 : BsZ w Ab n lb) (r4 : SlZ w Ub n lu) :
    Calls Try.prog 43 #[.pointer (some ⟨g, 0, none⟩), .agg #[.slice Aa n ca, .slice Ua n da, .int .i64 sp], .agg #[.slice Ab n cb, .slice Ub n db, .int .i64 sp], .int .i64 off, .int .i64 size] w (StepR w B g C nc cc l p n) := by
  have C_0 := Lib.hid hc
  have H_0 := Lib.hid (World.grownBy.refl w (some g))
  have Rab_0 := Lib.hid r1
  have Rau_0 := Lib.hid r2
  have Rbb_0 := Lib.hid r3
  have Rbu_0 := Lib.hid r4
  have mB : B ≤ g := hc.2.2.2.1
  clear hc r1 r2 r3 r4
  go_enter Try.func43, Try.ntmps43
  go_wp2_with fail
  refine Calls.mono (next_m B g C nc cc l p 7 _ (CodesAt.alloc (CodesAt.alloc (CodesAt.alloc (CodesAt.alloc (CodesAt.alloc C_0.out _) _) _) _) _) (by omega) (by omega)) ?_
  rintro e w1 ⟨v, p1, hv, rfl, cc1, gr1, le1, mo1⟩
  have ncc_a : g < w.heap.size := by have := Blk.lt C_0.out.1; omega
  have ma : w.heap.size ≤ w.heap.size := by have := H_0.out.size; omega
  have na_b : w.heap.size < w.heap.size + 1 := by omega
  have ncc_b : g < w.heap.size + 1 := by have := Blk.lt C_0.out.1; omega
  have mb : w.heap.size ≤ w.heap.size + 1 := by have := H_0.out.size; omega
  have na_x0 : w.heap.size < w.heap.size + 1 + 1 := by omega
  have nb_x0 : w.heap.size + 1 < w.heap.size + 1 + 1 := by omega
  have ncc_x0 : g < w.heap.size + 1 + 1 := by have := Blk.lt C_0.out.1; omega
  have mx0 : w.heap.size ≤ w.heap.size + 1 + 1 := by have := H_0.out.size; omega
  have na_y0 : w.heap.size < w.heap.size + 1 + 1 + 1 := by omega
  have nb_y0 : w.heap.size + 1 < w.heap.size + 1 + 1 + 1 := by omega
  have nx0_y0 : w.heap.size + 1 + 1 < w.heap.size + 1 + 1 + 1 := by omega
  have ncc_y0 : g < w.heap.size + 1 + 1 + 1 := by have := Blk.lt C_0.out.1; omega
  have my0 : w.heap.size ≤ w.heap.size + 1 + 1 + 1 := by have := H_0.out.size; omega
  have na_rw : w.heap.size < w.heap.size + 1 + 1 + 1 + 1 := by omega
  have nb_rw : w.heap.size + 1 < w.heap.size + 1 + 1 + 1 + 1 := by omega
  have nx0_rw : w.heap.size + 1 + 1 < w.heap.size + 1 + 1 + 1 + 1 := by omega
  have ny0_rw : w.heap.size + 1 + 1 + 1 < w.heap.size + 1 + 1 + 1 + 1 := by omega
  have ncc_rw : g < w.heap.size + 1 + 1 + 1 + 1 := by have := Blk.lt C_0.out.1; omega
  have mrw : w.heap.size ≤ w.heap.size + 1 + 1 + 1 + 1 := by have := H_0.out.size; omega
  have Rab_1 := Lib.hid (BsZ.grown (BsZ.alloc (BsZ.alloc (BsZ.alloc (BsZ.alloc (BsZ.alloc Rab_0.out _) _) _) _) _) (CodesAt.alloc (CodesAt.alloc (CodesAt.alloc (CodesAt.alloc (CodesAt.alloc C_0.out _) _) _) _) _).1 (by simp) gr1)
  have Rau_1 := Lib.hid (SlZ.grown (SlZ.alloc (SlZ.alloc (SlZ.alloc (SlZ.alloc (SlZ.alloc Rau_0.out _) _) _) _) _) (CodesAt.alloc (CodesAt.alloc (CodesAt.alloc (CodesAt.alloc (CodesAt.alloc C_0.out _) _) _) _) _).1 (by simp) gr1)
  have Rbb_1 := Lib.hid (BsZ.grown (BsZ.alloc (BsZ.alloc (BsZ.alloc (BsZ.alloc (BsZ.alloc Rbb_0.out _) _) _) _) _) (CodesAt.alloc (CodesAt.alloc (CodesAt.alloc (CodesAt.alloc (CodesAt.alloc C_0.out _) _) _) _) _).1 (by simp) gr1)
  have Rbu_1 := Lib.hid (SlZ.grown (SlZ.alloc (SlZ.alloc (SlZ.alloc (SlZ.alloc (SlZ.alloc Rbu_0.out _) _) _) _) _) (CodesAt.alloc (CodesAt.alloc (CodesAt.alloc (CodesAt.alloc (CodesAt.alloc C_0.out _) _) _) _) _).1 (by simp) gr1)
  have Ka_1 := Lib.hid (Blk.grown (Blk.alloc (Blk.alloc (Blk.alloc (Blk.alloc (show Blk _ (w.heap.size) 55 #[.slice Aa n ca, .slice Ua n da, .int .i64 sp] from Blk.newAt (by simp [putStk, World.setCell])) _) _) _) _) gr1 (by intro e; injection e with e; exact absurd e (Nat.ne_of_gt ncc_a)))
  have Kb_1 := Lib.hid (Blk.grown (Blk.alloc (Blk.alloc (Blk.alloc (show Blk _ (w.heap.size + 1) 55 #[.slice Ab n cb, .slice Ub n db, .int .i64 sp] from Blk.newAt (by simp [putStk, World.setCell])) _) _) _) gr1 (by intro e; injection e with e; exact absurd e (Nat.ne_of_gt ncc_b)))
  have Kx0_1 := Lib.hid (Blk.grown (Blk.alloc (Blk.alloc (show Blk _ (w.heap.size + 1 + 1) 55 #[.slice none 0 0, .slice none 0 0, .int .i64 0] from Blk.newAt (by simp [putStk, World.setCell])) _) _) gr1 (by intro e; injection e with e; exact absurd e (Nat.ne_of_gt ncc_x0)))
  have Ky0_1 := Lib.hid (Blk.grown (Blk.alloc (show Blk _ (w.heap.size + 1 + 1 + 1) 55 #[.slice none 0 0, .slice none 0 0, .int .i64 0] from Blk.newAt (by simp [putStk, World.setCell])) _) gr1 (by intro e; injection e with e; exact absurd e (Nat.ne_of_gt ncc_y0)))
  have Krw_1 := Lib.hid (Blk.grown (show Blk _ (w.heap.size + 1 + 1 + 1 + 1) 3 #[.int .i64 1, .int .i64 2, .int .i64 4, .int .i64 8, .int .i64 16, .int .i64 size, .int .i64 3] from Blk.newAt (by simp [putStk, World.setCell])) gr1 (by intro e; injection e with e; exact absurd e (Nat.ne_of_gt ncc_rw)))
  have H_1 := Lib.hid (grownBy_trans (GB.al (GB.al (GB.al (GB.al (GB.al H_0.out _) _) _) _) _) gr1)
  clear Rab_0 Rau_0 Rbb_0 Rbu_0 H_0 C_0 gr1
  have C_1 := Lib.hid cc1
  clear cc1
  have hv7 : v < 7 := by omega
  have crw := Blk.cell Krw_1.out v
  rw [szw_get size v hv7] at crw
  obtain ⟨m, hm⟩ : ∃ m, m = szw size v := ⟨_, rfl⟩
  obtain ⟨m0, m1⟩ := szw_bd size v s0 s1
  rw [← hm] at crw m0 m1
  have hvi0 : (0 : Int) ≤ (v : Int) := by omega
  have hvi1 : (v : Int) < 7 := by omega
  clear hm hv
  clear Krw_1
  obtain ⟨pa0, pa1, pa2, fa0, fa1, fa2, za⟩ := Blk.three Ka_1.out
  obtain ⟨pb0, pb1, pb2, fb0, fb1, fb2, zb⟩ := Blk.three Kb_1.out
  obtain ⟨px00, px01, px02, fx00, fx01, fx02, zx0⟩ := Blk.three Kx0_1.out
  obtain ⟨py00, py01, py02, fy00, fy01, fy02, zy0⟩ := Blk.three Ky0_1.out
  go_wp2_with fail
  clear crw hvi0 hvi1 hv7
  go_wp2_with fail
  refine Calls.mono (next_m B g C nc cc l p1 70 _ C_1.out (by omega) (by omega)) ?_
  rintro e w2 ⟨u, p2, hu, rfl, cc2, gr2, le2, mo2⟩
  have Rab_2 := Lib.hid (BsZ.grown Rab_1.out C_1.out.1 (by simp) gr2)
  have Rau_2 := Lib.hid (SlZ.grown Rau_1.out C_1.out.1 (by simp) gr2)
  have Rbb_2 := Lib.hid (BsZ.grown Rbb_1.out C_1.out.1 (by simp) gr2)
  have Rbu_2 := Lib.hid (SlZ.grown Rbu_1.out C_1.out.1 (by simp) gr2)
  have Ka_2 := Lib.hid (Blk.grown Ka_1.out gr2 (by intro e; injection e with e; exact absurd e (Nat.ne_of_gt ncc_a)))
  have Kb_2 := Lib.hid (Blk.grown Kb_1.out gr2 (by intro e; injection e with e; exact absurd e (Nat.ne_of_gt ncc_b)))
  have Kx0_2 := Lib.hid (Blk.grown Kx0_1.out gr2 (by intro e; injection e with e; exact absurd e (Nat.ne_of_gt ncc_x0)))
  have Ky0_2 := Lib.hid (Blk.grown Ky0_1.out gr2 (by intro e; injection e with e; exact absurd e (Nat.ne_of_gt ncc_y0)))
  have H_2 := Lib.hid (grownBy_trans H_1.out gr2)
  clear Ka_1 Kb_1 Kx0_1 Ky0_1 Rab_1 Rau_1 Rbb_1 Rbu_1 H_1 C_1 pa0 pa1 pa2 fa0 fa1 fa2 za pb0 pb1 pb2 fb0 fb1 fb2 zb px00 px01 px02 fx00 fx01 fx02 zx0 py00 py01 py02 fy00 fy01 fy02 zy0 gr2
  have C_2 := Lib.hid cc2
  clear cc2
  obtain ⟨pa0, pa1, pa2, fa0, fa1, fa2, za⟩ := Blk.three Ka_2.out
  obtain ⟨pb0, pb1, pb2, fb0, fb1, fb2, zb⟩ := Blk.three Kb_2.out
  obtain ⟨px00, px01, px02, fx00, fx01, fx02, zx0⟩ := Blk.three Kx0_2.out
  obtain ⟨py00, py01, py02, fy00, fy01, fy02, zy0⟩ := Blk.three Ky0_2.out
  have hu0 : (0 : Int) ≤ (u : Int) := by omega
  have hu1 : (u : Int) < 70 := by omega
  go_wp2_with fail
  refine Calls.mono (next_m B g C nc cc l p2 8 _ C_2.out (by omega) (by omega)) ?_
  rintro e w3 ⟨t, p3, ht, rfl, cc3, gr3, le3, mo3⟩
  have Rab_3 := Lib.hid (BsZ.grown Rab_2.out C_2.out.1 (by simp) gr3)
  have Rau_3 := Lib.hid (SlZ.grown Rau_2.out C_2.out.1 (by simp) gr3)
  have Rbb_3 := Lib.hid (BsZ.grown Rbb_2.out C_2.out.1 (by simp) gr3)
  have Rbu_3 := Lib.hid (SlZ.grown Rbu_2.out C_2.out.1 (by simp) gr3)
  have Ka_3 := Lib.hid (Blk.grown Ka_2.out gr3 (by intro e; injection e with e; exact absurd e (Nat.ne_of_gt ncc_a)))
  have Kb_3 := Lib.hid (Blk.grown Kb_2.out gr3 (by intro e; injection e with e; exact absurd e (Nat.ne_of_gt ncc_b)))
  have Kx0_3 := Lib.hid (Blk.grown Kx0_2.out gr3 (by intro e; injection e with e; exact absurd e (Nat.ne_of_gt ncc_x0)))
  have Ky0_3 := Lib.hid (Blk.grown Ky0_2.out gr3 (by intro e; injection e with e; exact absurd e (Nat.ne_of_gt ncc_y0)))
  have H_3 := Lib.hid (grownBy_trans H_2.out gr3)
  clear Ka_2 Kb_2 Kx0_2 Ky0_2 Rab_2 Rau_2 Rbb_2 Rbu_2 H_2 C_2 pa0 pa1 pa2 fa0 fa1 fa2 za pb0 pb1 pb2 fb0 fb1 fb2 zb px00 px01 px02 fx00 fx01 fx02 zx0 py00 py01 py02 fy00 fy01 fy02 zy0 gr3
  have C_3 := Lib.hid cc3
  clear cc3
  obtain ⟨pa0, pa1, pa2, fa0, fa1, fa2, za⟩ := Blk.three Ka_3.out
  obtain ⟨pb0, pb1, pb2, fb0, fb1, fb2, zb⟩ := Blk.three Kb_3.out
  obtain ⟨px00, px01, px02, fx00, fx01, fx02, zx0⟩ := Blk.three Kx0_3.out
  obtain ⟨py00, py01, py02, fy00, fy01, fy02, zy0⟩ := Blk.three Ky0_3.out
  go_upto_if 36 with (fail)
  have hle3 : p ≤ p3 ∧ (p < nc → p < p3) := ⟨by omega, fun h => by have := mo1 h (by omega); omega⟩
  have HLE := Lib.hid hle3
  clear hle3 mo1 mo2 mo3
  go_cut [14] (fun s14 wx => ∃ k : Int, s14 = .int .i64 k ∧ -9223372036854775808 ≤ k ∧ k ≤ 9223372036854775807 ∧ Hid (w.grownBy wx (some g)) ∧ Hid (StkB wx w.heap.size Aa n ca Ua n da sp) ∧ Hid (StkB wx (w.heap.size + 1) Ab n cb Ub n db sp) ∧ Hid (Blk wx (w.heap.size + 1 + 1) 55 #[.slice none 0 0, .slice none 0 0, .int .i64 0]) ∧ Hid (Blk wx (w.heap.size + 1 + 1 + 1) 55 #[.slice none 0 0, .slice none 0 0, .int .i64 0]) ∧ Hid (BsZ wx Aa n lb) ∧ Hid (SlZ wx Ua n lu) ∧ Hid (BsZ wx Ab n lb) ∧ Hid (SlZ wx Ub n lu) ∧ Hid (CodesAt wx B g C nc cc l p3))
  case first =>
    by_cases h7 : t = 7
    · subst h7
      go_wp2_with fail
      go_meet
      exact ⟨off, rfl, h0, h1, Lib.hid H_3.out, Lib.hid Ka_3.out, Lib.hid Kb_3.out, Lib.hid Kx0_3.out, Lib.hid Ky0_3.out, Lib.hid Rab_3.out, Lib.hid Rau_3.out, Lib.hid Rbb_3.out, Lib.hid Rbu_3.out, C_3⟩
    · have h7i : ¬ ((t : Int) = 7) := by omega
      go_wp2_with fail
      go_meet
      exact ⟨(u : Int) - 2, rfl, by omega, by omega, Lib.hid H_3.out, Lib.hid Ka_3.out, Lib.hid Kb_3.out, Lib.hid Kx0_3.out, Lib.hid Ky0_3.out, Lib.hid Rab_3.out, Lib.hid Rau_3.out, Lib.hid Rbb_3.out, Lib.hid Rbu_3.out, C_3⟩
  case rest =>
    clear Ka_3 Kb_3 Kx0_3 Ky0_3 Rab_3 Rau_3 Rbb_3 Rbu_3 H_3 C_3 pa0 pa1 pa2 fa0 fa1 fa2 za pb0 pb1 pb2 fb0 fb1 fb2 zb px00 px01 px02 fx00 fx01 fx02 zx0 py00 py01 py02 fy00 fy01 fy02 zy0
    clear hu0 hu1 hu ht le1 le2 le3
    obtain ⟨k, rfl, k0, k1, H_10, Ka_10, Kb_10, Kx0_10, Ky0_10, Rab_10, Rau_10, Rbb_10, Rbu_10, C_10⟩ := hcut
    obtain ⟨pa0, pa1, pa2, fa0, fa1, fa2, za⟩ := Blk.three Ka_10.out
    obtain ⟨pb0, pb1, pb2, fb0, fb1, fb2, zb⟩ := Blk.three Kb_10.out
    obtain ⟨px00, px01, px02, fx00, fx01, fx02, zx0⟩ := Blk.three Kx0_10.out
    obtain ⟨py00, py01, py02, fy00, fy01, fy02, zy0⟩ := Blk.three Ky0_10.out
    go_wp2_with fail
    refine Calls.mono (value_m B g C nc cc l p3 _ C_10.out) ?_
    rintro e w11 ⟨vx, vy, p11, ⟨hvx, hvy⟩, rfl, cc11, gr11, le11⟩
    have Rab_11 := Lib.hid (BsZ.grown Rab_10.out C_10.out.1 (by simp) gr11)
    have Rau_11 := Lib.hid (SlZ.grown Rau_10.out C_10.out.1 (by simp) gr11)
    have Rbb_11 := Lib.hid (BsZ.grown Rbb_10.out C_10.out.1 (by simp) gr11)
    have Rbu_11 := Lib.hid (SlZ.grown Rbu_10.out C_10.out.1 (by simp) gr11)
    have Ka_11 := Lib.hid (Blk.grown Ka_10.out gr11 (by intro e; injection e with e; exact absurd e (Nat.ne_of_gt ncc_a)))
    have Kb_11 := Lib.hid (Blk.grown Kb_10.out gr11 (by intro e; injection e with e; exact absurd e (Nat.ne_of_gt ncc_b)))
    have Kx0_11 := Lib.hid (Blk.grown Kx0_10.out gr11 (by intro e; injection e with e; exact absurd e (Nat.ne_of_gt ncc_x0)))
    have Ky0_11 := Lib.hid (Blk.grown Ky0_10.out gr11 (by intro e; injection e with e; exact absurd e (Nat.ne_of_gt ncc_y0)))
    have H_11 := Lib.hid (grownBy_trans H_10.out gr11)
    clear Ka_10 Kb_10 Kx0_10 Ky0_10 Rab_10 Rau_10 Rbb_10 Rbu_10 H_10 C_10 pa0 pa1 pa2 fa0 fa1 fa2 za pb0 pb1 pb2 fb0 fb1 fb2 zb px00 px01 px02 fx00 fx01 fx02 zx0 py00 py01 py02 fy00 fy01 fy02 zy0 gr11
    have C_11 := Lib.hid cc11
    clear cc11
    obtain ⟨pa0, pa1, pa2, fa0, fa1, fa2, za⟩ := Blk.three Ka_11.out
    obtain ⟨pb0, pb1, pb2, fb0, fb1, fb2, zb⟩ := Blk.three Kb_11.out
    obtain ⟨px00, px01, px02, fx00, fx01, fx02, zx0⟩ := Blk.three Kx0_11.out
    obtain ⟨py00, py01, py02, fy00, fy01, fy02, zy0⟩ := Blk.three Ky0_11.out
    go_wp2_with fail
    refine Calls.mono (next_m B g C nc cc l p11 6 _ (CodesAt.alloc (CodesAt.alloc (CodesAt.alloc C_11.out _) _) _) (by omega) (by omega)) ?_
    rintro e w12 ⟨o, p12, ho, rfl, cc12, gr12, le12, mo12⟩
    have na_v : w.heap.size < w11.heap.size := by have := Blk.lt Ka_11.out; omega
    have nb_v : w.heap.size + 1 < w11.heap.size := by have := Blk.lt Kb_11.out; omega
    have nx0_v : w.heap.size + 1 + 1 < w11.heap.size := by have := Blk.lt Kx0_11.out; omega
    have ny0_v : w.heap.size + 1 + 1 + 1 < w11.heap.size := by have := Blk.lt Ky0_11.out; omega
    have ncc_v : g < w11.heap.size := by have := Blk.lt C_11.out.1; omega
    have mv : w.heap.size ≤ w11.heap.size := by have := H_11.out.size; omega
    have na_x : w.heap.size < w11.heap.size + 1 := by have := Blk.lt Ka_11.out; omega
    have nb_x : w.heap.size + 1 < w11.heap.size + 1 := by have := Blk.lt Kb_11.out; omega
    have nx0_x : w.heap.size + 1 + 1 < w11.heap.size + 1 := by have := Blk.lt Kx0_11.out; omega
    have ny0_x : w.heap.size + 1 + 1 + 1 < w11.heap.size + 1 := by have := Blk.lt Ky0_11.out; omega
    have nv_x : w11.heap.size < w11.heap.size + 1 := by omega
    have ncc_x : g < w11.heap.size + 1 := by have := Blk.lt C_11.out.1; omega
    have mx : w.heap.size ≤ w11.heap.size + 1 := by have := H_11.out.size; omega
    have na_y : w.heap.size < w11.heap.size + 1 + 1 := by have := Blk.lt Ka_11.out; omega
    have nb_y : w.heap.size + 1 < w11.heap.size + 1 + 1 := by have := Blk.lt Kb_11.out; omega
    have nx0_y : w.heap.size + 1 + 1 < w11.heap.size + 1 + 1 := by have := Blk.lt Kx0_11.out; omega
    have ny0_y : w.heap.size + 1 + 1 + 1 < w11.heap.size + 1 + 1 := by have := Blk.lt Ky0_11.out; omega
    have nv_y : w11.heap.size < w11.heap.size + 1 + 1 := by omega
    have nx_y : w11.heap.size + 1 < w11.heap.size + 1 + 1 := by omega
    have ncc_y : g < w11.heap.size + 1 + 1 := by have := Blk.lt C_11.out.1; omega
    have my : w.heap.size ≤ w11.heap.size + 1 + 1 := by have := H_11.out.size; omega
    have Rab_12 := Lib.hid (BsZ.grown (BsZ.alloc (BsZ.alloc (BsZ.alloc Rab_11.out _) _) _) (CodesAt.alloc (CodesAt.alloc (CodesAt.alloc C_11.out _) _) _).1 (by simp) gr12)
    have Rau_12 := Lib.hid (SlZ.grown (SlZ.alloc (SlZ.alloc (SlZ.alloc Rau_11.out _) _) _) (CodesAt.alloc (CodesAt.alloc (CodesAt.alloc C_11.out _) _) _).1 (by simp) gr12)
    have Rbb_12 := Lib.hid (BsZ.grown (BsZ.alloc (BsZ.alloc (BsZ.alloc Rbb_11.out _) _) _) (CodesAt.alloc (CodesAt.alloc (CodesAt.alloc C_11.out _) _) _).1 (by simp) gr12)
    have Rbu_12 := Lib.hid (SlZ.grown (SlZ.alloc (SlZ.alloc (SlZ.alloc Rbu_11.out _) _) _) (CodesAt.alloc (CodesAt.alloc (CodesAt.alloc C_11.out _) _) _).1 (by simp) gr12)
    have Ka_12 := Lib.hid (Blk.grown (Blk.alloc (Blk.alloc (Blk.alloc Ka_11.out _) _) _) gr12 (by intro e; injection e with e; exact absurd e (Nat.ne_of_gt ncc_a)))
    have Kb_12 := Lib.hid (Blk.grown (Blk.alloc (Blk.alloc (Blk.alloc Kb_11.out _) _) _) gr12 (by intro e; injection e with e; exact absurd e (Nat.ne_of_gt ncc_b)))
    have Kx0_12 := Lib.hid (Blk.grown (Blk.alloc (Blk.alloc (Blk.alloc Kx0_11.out _) _) _) gr12 (by intro e; injection e with e; exact absurd e (Nat.ne_of_gt ncc_x0)))
    have Ky0_12 := Lib.hid (Blk.grown (Blk.alloc (Blk.alloc (Blk.alloc Ky0_11.out _) _) _) gr12 (by intro e; injection e with e; exact absurd e (Nat.ne_of_gt ncc_y0)))
    have Kv_12 := Lib.hid (Blk.grown (Blk.alloc (Blk.alloc (show Blk _ (w11.heap.size) 52 #[.int .u64 (vx : Nat), .int .u64 (vy : Nat)] from Blk.newAt (by simp [putStk, World.setCell])) _) _) gr12 (by intro e; injection e with e; exact absurd e (Nat.ne_of_gt ncc_v)))
    have Kx_12 := Lib.hid (Blk.grown (Blk.alloc (show Blk _ (w11.heap.size + 1) 55 #[.slice none 0 0, .slice none 0 0, .int .i64 0] from Blk.newAt (by simp [putStk, World.setCell])) _) gr12 (by intro e; injection e with e; exact absurd e (Nat.ne_of_gt ncc_x)))
    have Ky_12 := Lib.hid (Blk.grown (show Blk _ (w11.heap.size + 1 + 1) 55 #[.slice none 0 0, .slice none 0 0, .int .i64 0] from Blk.newAt (by simp [putStk, World.setCell])) gr12 (by intro e; injection e with e; exact absurd e (Nat.ne_of_gt ncc_y)))
    have H_12 := Lib.hid (grownBy_trans (GB.al (GB.al (GB.al H_11.out _) _) _) gr12)
    clear Ka_11 Kb_11 Kx0_11 Ky0_11 Rab_11 Rau_11 Rbb_11 Rbu_11 H_11 C_11 pa0 pa1 pa2 fa0 fa1 fa2 za pb0 pb1 pb2 fb0 fb1 fb2 zb px00 px01 px02 fx00 fx01 fx02 zx0 py00 py01 py02 fy00 fy01 fy02 zy0 gr12
    have C_12 := Lib.hid cc12
    clear cc12
    obtain ⟨pa0, pa1, pa2, fa0, fa1, fa2, za⟩ := Blk.three Ka_12.out
    obtain ⟨pb0, pb1, pb2, fb0, fb1, fb2, zb⟩ := Blk.three Kb_12.out
    obtain ⟨px00, px01, px02, fx00, fx01, fx02, zx0⟩ := Blk.three Kx0_12.out
    obtain ⟨py00, py01, py02, fy00, fy01, fy02, zy0⟩ := Blk.three Ky0_12.out
    obtain ⟨pv0, pv1, fv0, fv1, zv⟩ := Blk.two Kv_12.out
    obtain ⟨px0, px1, px2, fx0, fx1, fx2, zx⟩ := Blk.three Kx_12.out
    obtain ⟨py0, py1, py2, fy0, fy1, fy2, zy⟩ := Blk.three Ky_12.out
    clear mo12
    go_upto_block 0 with (fail)
    have hox : o = 0 ∨ o = 1 ∨ o = 2 ∨ o = 3 ∨ o = 4 ∨ o = 5 := by omega
    have hlq : p ≤ p12 ∧ (p < nc → p < p12) := ⟨by have := HLE.out.1; omega, fun h => by have := HLE.out.2 h; omega⟩
    have HLQ := Lib.hid hlq
    clear hlq ho le11 le12 HLE
    have mxx : w.heap.size ≤ w11.heap.size + 1 := by omega
    have HPU := fun (W : World) (h : BsZ W Aa n lb) (h' : SlZ W Ua n lu) => push_any Aa Ua n ca da sp lb lu k k0 k1 W h h' hn hsp q1 q2
    have HPV := fun (W : World) (h : BsZ W Ab n lb) (h' : SlZ W Ub n lu) => refpush_any Ab Ub n cb db sp lb lu k k0 k1 W h h' hn hsp q3 q4
    have HPO := fun W : World => pop_any Aa Ua n ca n da sp k k0 k1 hn hsp W
    have HPQ := fun W : World => refpop_any Ab Ub n cb n db sp k k0 k1 hn hsp W
    have HMO := fun (i : Int) (i0 : -9223372036854775808 ≤ i) (i1 : i ≤ 9223372036854775807) (W : World) (h : BsZ W Aa n lb) (h' : SlZ W Ua n lu) => move_any Aa Ua n ca da sp lb lu k i m k0 k1 i0 i1 m0 m1 W h h' hn hsp q1 q2
    have HMP := fun (i : Int) (i0 : -9223372036854775808 ≤ i) (i1 : i ≤ 9223372036854775807) (W : World) (h : BsZ W Ab n lb) (h' : SlZ W Ub n lu) => refmove_any Ab Ub n cb db sp lb lu k i m k0 k1 i0 i1 m0 m1 W h h' hn hsp q3 q4
    have HLO := fun (W : World) (h : BsZ W Aa n lb) (h' : SlZ W Ua n lu) => load_any Aa Ua n ca da sp lb lu k m k0 k1 m0 m1 W h h' hn hsp q1 q2
    have HLP := fun (W : World) (h : BsZ W Ab n lb) (h' : SlZ W Ub n lu) => refload_any Ab Ub n cb db sp lb lu k m k0 k1 m0 m1 W h h' hn hsp q3 q4
    have HST := fun (W : World) (h : BsZ W Aa n lb) (h' : SlZ W Ua n lu) => store_any Aa Ua n ca da sp lb lu k m k0 k1 m0 m1 vx vy hvx hvy W h h' hn hsp q1 q2
    have HSU := fun (W : World) (h : BsZ W Ab n lb) (h' : SlZ W Ub n lu) => refstore_any Ab Ub n cb db sp lb lu k m k0 k1 m0 m1 vx vy hvx hvy W h h' hn hsp q3 q4
    have GPU := Lib.hid HPU
    have GPV := Lib.hid HPV
    have GPO := Lib.hid HPO
    have GPQ := Lib.hid HPQ
    have GMO := Lib.hid HMO
    have GMP := Lib.hid HMP
    have GLO := Lib.hid HLO
    have GLP := Lib.hid HLP
    have GST := Lib.hid HST
    have GSU := Lib.hid HSU
    clear HPU HPV HPO HPQ HMO HMP HLO HLP HST HSU hvx hvy
    go_cut [18, 19, 20, 21] (fun s18 s19 s20 s21 wx => ∃ (e : Int) (pq : Bool) (Ax : Option Addr) (cx : Nat) (Ux : Option Addr) (dx : Nat) (Ay : Option Addr) (cy : Nat) (Uy : Option Addr) (dy spx : Nat) (lx : List Nat) (ux : List Bool) (px : Nat), s18 = .int .i64 e ∧ s19 = .int .i64 e ∧ s20 = .bool pq ∧ s21 = .bool pq ∧ (n ≤ cx ∧ n ≤ dx ∧ n ≤ cy ∧ n ≤ dy ∧ spx ≤ n) ∧ Hid (w.grownBy wx (some g)) ∧ Hid (StkB wx w.heap.size Aa n ca Ua n da sp) ∧ Hid (StkB wx (w.heap.size + 1) Ab n cb Ub n db sp) ∧ Hid (Blk wx (w.heap.size + 1 + 1) 55 #[.slice none 0 0, .slice none 0 0, .int .i64 0]) ∧ Hid (Blk wx (w.heap.size + 1 + 1 + 1) 55 #[.slice none 0 0, .slice none 0 0, .int .i64 0]) ∧ Hid (BsZ wx Aa n lb) ∧ Hid (SlZ wx Ua n lu) ∧ Hid (BsZ wx Ab n lb) ∧ Hid (SlZ wx Ub n lu) ∧ Hid (CodesAt wx B g C nc cc l px) ∧ Hid (StkB wx (w11.heap.size + 1) Ax n cx Ux n dx spx) ∧ Hid (StkB wx (w11.heap.size + 1 + 1) Ay n cy Uy n dy spx) ∧ Hid (BsZ wx Ax n lx) ∧ Hid (SlZ wx Ux n ux) ∧ Hid (BsZ wx Ay n lx) ∧ Hid (SlZ wx Uy n ux) ∧ Hid (p ≤ px ∧ (p < nc → p < px)))
    case first =>
      rcases hox with rfl | rfl | rfl | rfl | rfl | rfl
      · obtain ⟨e, lx, ux, spx, hr⟩ : ∃ e lx ux spx, pushV lb lu sp k = (e, lx, ux, spx) := ⟨_, _, _, _, rfl⟩
        have hsx : spx ≤ n := pushV_le hsp hr
        have PA := GPU.out
        have PB := GPV.out
        simp only [StkR, hr] at PA PB
        clear hr
        go_wp2_with fail
        refine Calls.mono (PA _ Rab_12.out Rau_12.out) ?_
        rintro e w13 ⟨Ax, cx, Ux, dx, rfl, b1, t1, j1, i1, bel⟩
        have Rab_13 := Lib.hid (BsZ.below Rab_12.out bel)
        have Rau_13 := Lib.hid (SlZ.below Rau_12.out bel)
        have Rbb_13 := Lib.hid (BsZ.below Rbb_12.out bel)
        have Rbu_13 := Lib.hid (SlZ.below Rbu_12.out bel)
        have Ka_13 := Lib.hid (Blk.after Ka_12.out bel)
        have Kb_13 := Lib.hid (Blk.after Kb_12.out bel)
        have Kx0_13 := Lib.hid (Blk.after Kx0_12.out bel)
        have Ky0_13 := Lib.hid (Blk.after Ky0_12.out bel)
        have Kv_13 := Lib.hid (Blk.after Kv_12.out bel)
        have Kx_13 := Lib.hid (Blk.after Kx_12.out bel)
        have Ky_13 := Lib.hid (Blk.after Ky_12.out bel)
        have H_13 := Lib.hid (GB.step H_12.out bel)
        have C_13 := Lib.hid (CodesAt.after C_12.out bel)
        clear Ka_12 Kb_12 Kx0_12 Ky0_12 Kv_12 Kx_12 Ky_12 Rab_12 Rau_12 Rbb_12 Rbu_12 H_12 C_12 pa0 pa1 pa2 fa0 fa1 fa2 za pb0 pb1 pb2 fb0 fb1 fb2 zb px00 px01 px02 fx00 fx01 fx02 zx0 py00 py01 py02 fy00 fy01 fy02 zy0 pv0 pv1 fv0 fv1 zv px0 px1 px2 fx0 fx1 fx2 zx py0 py1 py2 fy0 fy1 fy2 zy bel
        have Rxb_13 := Lib.hid (show BsZ _ _ _ _ from b1)
        clear b1
        have Rxu_13 := Lib.hid (show SlZ _ _ _ _ from t1)
        clear t1
        obtain ⟨pa0, pa1, pa2, fa0, fa1, fa2, za⟩ := Blk.three Ka_13.out
        obtain ⟨pb0, pb1, pb2, fb0, fb1, fb2, zb⟩ := Blk.three Kb_13.out
        obtain ⟨px00, px01, px02, fx00, fx01, fx02, zx0⟩ := Blk.three Kx0_13.out
        obtain ⟨py00, py01, py02, fy00, fy01, fy02, zy0⟩ := Blk.three Ky0_13.out
        obtain ⟨pv0, pv1, fv0, fv1, zv⟩ := Blk.two Kv_13.out
        obtain ⟨px0, px1, px2, fx0, fx1, fx2, zx⟩ := Blk.three Kx_13.out
        obtain ⟨py0, py1, py2, fy0, fy1, fy2, zy⟩ := Blk.three Ky_13.out
        go_wp2_with fail
        refine Calls.mono (PB _ (BsZ.put Rbb_13.out Kx_13.out) (SlZ.put Rbu_13.out Kx_13.out)) ?_
        rintro e w14 ⟨Ay, cy, Uy, dy, rfl, b2, t2, j2, i2, bel⟩
        have Rab_14 := Lib.hid (BsZ.below (BsZ.put Rab_13.out Kx_13.out) bel)
        have Rau_14 := Lib.hid (SlZ.below (SlZ.put Rau_13.out Kx_13.out) bel)
        have Rbb_14 := Lib.hid (BsZ.below (BsZ.put Rbb_13.out Kx_13.out) bel)
        have Rbu_14 := Lib.hid (SlZ.below (SlZ.put Rbu_13.out Kx_13.out) bel)
        have Rxb_14 := Lib.hid (BsZ.below (BsZ.put Rxb_13.out Kx_13.out) bel)
        have Rxu_14 := Lib.hid (SlZ.below (SlZ.put Rxu_13.out Kx_13.out) bel)
        have Ka_14 := Lib.hid (Blk.after (Blk.putFar Ka_13.out (Nat.ne_of_lt na_x)) bel)
        have Kb_14 := Lib.hid (Blk.after (Blk.putFar Kb_13.out (Nat.ne_of_lt nb_x)) bel)
        have Kx0_14 := Lib.hid (Blk.after (Blk.putFar Kx0_13.out (Nat.ne_of_lt nx0_x)) bel)
        have Ky0_14 := Lib.hid (Blk.after (Blk.putFar Ky0_13.out (Nat.ne_of_lt ny0_x)) bel)
        have Kv_14 := Lib.hid (Blk.after (Blk.putFar Kv_13.out (Nat.ne_of_lt nv_x)) bel)
        have Kx_14 := Lib.hid (Blk.after (StkB.put Kx_13.out) bel)
        have Ky_14 := Lib.hid (Blk.after (Blk.putFar Ky_13.out (Nat.ne_of_gt nx_y)) bel)
        have H_14 := Lib.hid (GB.step (GB.put H_13.out mx) bel)
        have C_14 := Lib.hid (CodesAt.after (CodesAt.put C_13.out (Nat.ne_of_lt ncc_x) (Nat.le_trans mB (Nat.le_of_lt ncc_x))) bel)
        clear Ka_13 Kb_13 Kx0_13 Ky0_13 Kv_13 Kx_13 Ky_13 Rab_13 Rau_13 Rbb_13 Rbu_13 Rxb_13 Rxu_13 H_13 C_13 pa0 pa1 pa2 fa0 fa1 fa2 za pb0 pb1 pb2 fb0 fb1 fb2 zb px00 px01 px02 fx00 fx01 fx02 zx0 py00 py01 py02 fy00 fy01 fy02 zy0 pv0 pv1 fv0 fv1 zv px0 px1 px2 fx0 fx1 fx2 zx py0 py1 py2 fy0 fy1 fy2 zy bel
        have Ryb_14 := Lib.hid (show BsZ _ _ _ _ from b2)
        clear b2
        have Ryu_14 := Lib.hid (show SlZ _ _ _ _ from t2)
        clear t2
        obtain ⟨pa0, pa1, pa2, fa0, fa1, fa2, za⟩ := Blk.three Ka_14.out
        obtain ⟨pb0, pb1, pb2, fb0, fb1, fb2, zb⟩ := Blk.three Kb_14.out
        obtain ⟨px00, px01, px02, fx00, fx01, fx02, zx0⟩ := Blk.three Kx0_14.out
        obtain ⟨py00, py01, py02, fy00, fy01, fy02, zy0⟩ := Blk.three Ky0_14.out
        obtain ⟨pv0, pv1, fv0, fv1, zv⟩ := Blk.two Kv_14.out
        obtain ⟨px0, px1, px2, fx0, fx1, fx2, zx⟩ := Blk.three Kx_14.out
        obtain ⟨py0, py1, py2, fy0, fy1, fy2, zy⟩ := Blk.three Ky_14.out
        go_wp2_with fail
        go_meet
        exact ⟨e, true, Ax, cx, Ux, dx, Ay, cy, Uy, dy, spx, lx, ux, p12, rfl, rfl, rfl, rfl, ⟨j1, i1, j2, i2, hsx⟩, Lib.hid (GB.put H_14.out my), Lib.hid (Blk.putFar Ka_14.out (Nat.ne_of_lt na_y)), Lib.hid (Blk.putFar Kb_14.out (Nat.ne_of_lt nb_y)), Lib.hid (Blk.putFar Kx0_14.out (Nat.ne_of_lt nx0_y)), Lib.hid (Blk.putFar Ky0_14.out (Nat.ne_of_lt ny0_y)), Lib.hid (BsZ.put Rab_14.out Ky_14.out), Lib.hid (SlZ.put Rau_14.out Ky_14.out), Lib.hid (BsZ.put Rbb_14.out Ky_14.out), Lib.hid (SlZ.put Rbu_14.out Ky_14.out), Lib.hid (CodesAt.put C_14.out (Nat.ne_of_lt ncc_y) (Nat.le_trans mB (Nat.le_of_lt ncc_y))), Lib.hid (Blk.putFar Kx_14.out (Nat.ne_of_lt nx_y)), Lib.hid (StkB.put Ky_14.out), Lib.hid (BsZ.put Rxb_14.out Ky_14.out), Lib.hid (SlZ.put Rxu_14.out Ky_14.out), Lib.hid (BsZ.put Ryb_14.out Ky_14.out), Lib.hid (SlZ.put Ryu_14.out Ky_14.out), HLQ⟩
      · obtain ⟨e, spx, hr⟩ : ∃ e spx, popV n sp k = (e, spx) := ⟨_, _, rfl⟩
        have hsx : spx ≤ n := popV_le' hsp hr
        have PA := GPO.out
        have PB := GPQ.out
        simp only [hr] at PA PB
        clear hr
        go_wp2_with fail
        refine Calls.mono (PA _) ?_
        rintro e w13 ⟨rfl, bel⟩
        have Rab_13 := Lib.hid (BsZ.below Rab_12.out bel)
        have Rau_13 := Lib.hid (SlZ.below Rau_12.out bel)
        have Rbb_13 := Lib.hid (BsZ.below Rbb_12.out bel)
        have Rbu_13 := Lib.hid (SlZ.below Rbu_12.out bel)
        have Ka_13 := Lib.hid (Blk.after Ka_12.out bel)
        have Kb_13 := Lib.hid (Blk.after Kb_12.out bel)
        have Kx0_13 := Lib.hid (Blk.after Kx0_12.out bel)
        have Ky0_13 := Lib.hid (Blk.after Ky0_12.out bel)
        have Kv_13 := Lib.hid (Blk.after Kv_12.out bel)
        have Kx_13 := Lib.hid (Blk.after Kx_12.out bel)
        have Ky_13 := Lib.hid (Blk.after Ky_12.out bel)
        have H_13 := Lib.hid (GB.step H_12.out bel)
        have C_13 := Lib.hid (CodesAt.after C_12.out bel)
        clear Ka_12 Kb_12 Kx0_12 Ky0_12 Kv_12 Kx_12 Ky_12 Rab_12 Rau_12 Rbb_12 Rbu_12 H_12 C_12 pa0 pa1 pa2 fa0 fa1 fa2 za pb0 pb1 pb2 fb0 fb1 fb2 zb px00 px01 px02 fx00 fx01 fx02 zx0 py00 py01 py02 fy00 fy01 fy02 zy0 pv0 pv1 fv0 fv1 zv px0 px1 px2 fx0 fx1 fx2 zx py0 py1 py2 fy0 fy1 fy2 zy bel
        obtain ⟨pa0, pa1, pa2, fa0, fa1, fa2, za⟩ := Blk.three Ka_13.out
        obtain ⟨pb0, pb1, pb2, fb0, fb1, fb2, zb⟩ := Blk.three Kb_13.out
        obtain ⟨px00, px01, px02, fx00, fx01, fx02, zx0⟩ := Blk.three Kx0_13.out
        obtain ⟨py00, py01, py02, fy00, fy01, fy02, zy0⟩ := Blk.three Ky0_13.out
        obtain ⟨pv0, pv1, fv0, fv1, zv⟩ := Blk.two Kv_13.out
        obtain ⟨px0, px1, px2, fx0, fx1, fx2, zx⟩ := Blk.three Kx_13.out
        obtain ⟨py0, py1, py2, fy0, fy1, fy2, zy⟩ := Blk.three Ky_13.out
        go_wp2_with fail
        refine Calls.mono (PB _) ?_
        rintro e w14 ⟨rfl, bel⟩
        have Rab_14 := Lib.hid (BsZ.below (BsZ.put Rab_13.out Kx_13.out) bel)
        have Rau_14 := Lib.hid (SlZ.below (SlZ.put Rau_13.out Kx_13.out) bel)
        have Rbb_14 := Lib.hid (BsZ.below (BsZ.put Rbb_13.out Kx_13.out) bel)
        have Rbu_14 := Lib.hid (SlZ.below (SlZ.put Rbu_13.out Kx_13.out) bel)
        have Ka_14 := Lib.hid (Blk.after (Blk.putFar Ka_13.out (Nat.ne_of_lt na_x)) bel)
        have Kb_14 := Lib.hid (Blk.after (Blk.putFar Kb_13.out (Nat.ne_of_lt nb_x)) bel)
        have Kx0_14 := Lib.hid (Blk.after (Blk.putFar Kx0_13.out (Nat.ne_of_lt nx0_x)) bel)
        have Ky0_14 := Lib.hid (Blk.after (Blk.putFar Ky0_13.out (Nat.ne_of_lt ny0_x)) bel)
        have Kv_14 := Lib.hid (Blk.after (Blk.putFar Kv_13.out (Nat.ne_of_lt nv_x)) bel)
        have Kx_14 := Lib.hid (Blk.after (StkB.put Kx_13.out) bel)
        have Ky_14 := Lib.hid (Blk.after (Blk.putFar Ky_13.out (Nat.ne_of_gt nx_y)) bel)
        have H_14 := Lib.hid (GB.step (GB.put H_13.out mx) bel)
        have C_14 := Lib.hid (CodesAt.after (CodesAt.put C_13.out (Nat.ne_of_lt ncc_x) (Nat.le_trans mB (Nat.le_of_lt ncc_x))) bel)
        clear Ka_13 Kb_13 Kx0_13 Ky0_13 Kv_13 Kx_13 Ky_13 Rab_13 Rau_13 Rbb_13 Rbu_13 H_13 C_13 pa0 pa1 pa2 fa0 fa1 fa2 za pb0 pb1 pb2 fb0 fb1 fb2 zb px00 px01 px02 fx00 fx01 fx02 zx0 py00 py01 py02 fy00 fy01 fy02 zy0 pv0 pv1 fv0 fv1 zv px0 px1 px2 fx0 fx1 fx2 zx py0 py1 py2 fy0 fy1 fy2 zy bel
        obtain ⟨pa0, pa1, pa2, fa0, fa1, fa2, za⟩ := Blk.three Ka_14.out
        obtain ⟨pb0, pb1, pb2, fb0, fb1, fb2, zb⟩ := Blk.three Kb_14.out
        obtain ⟨px00, px01, px02, fx00, fx01, fx02, zx0⟩ := Blk.three Kx0_14.out
        obtain ⟨py00, py01, py02, fy00, fy01, fy02, zy0⟩ := Blk.three Ky0_14.out
        obtain ⟨pv0, pv1, fv0, fv1, zv⟩ := Blk.two Kv_14.out
        obtain ⟨px0, px1, px2, fx0, fx1, fx2, zx⟩ := Blk.three Kx_14.out
        obtain ⟨py0, py1, py2, fy0, fy1, fy2, zy⟩ := Blk.three Ky_14.out
        go_wp2_with fail
        go_meet
        exact ⟨e, true, Aa, ca, Ua, da, Ab, cb, Ub, db, spx, lb, lu, p12, rfl, rfl, rfl, rfl, ⟨q1, q2, q3, q4, hsx⟩, Lib.hid (GB.put H_14.out my), Lib.hid (Blk.putFar Ka_14.out (Nat.ne_of_lt na_y)), Lib.hid (Blk.putFar Kb_14.out (Nat.ne_of_lt nb_y)), Lib.hid (Blk.putFar Kx0_14.out (Nat.ne_of_lt nx0_y)), Lib.hid (Blk.putFar Ky0_14.out (Nat.ne_of_lt ny0_y)), Lib.hid (BsZ.put Rab_14.out Ky_14.out), Lib.hid (SlZ.put Rau_14.out Ky_14.out), Lib.hid (BsZ.put Rbb_14.out Ky_14.out), Lib.hid (SlZ.put Rbu_14.out Ky_14.out), Lib.hid (CodesAt.put C_14.out (Nat.ne_of_lt ncc_y) (Nat.le_trans mB (Nat.le_of_lt ncc_y))), Lib.hid (Blk.putFar Kx_14.out (Nat.ne_of_lt nx_y)), Lib.hid (StkB.put Ky_14.out), Lib.hid (BsZ.put Rab_14.out Ky_14.out), Lib.hid (SlZ.put Rau_14.out Ky_14.out), Lib.hid (BsZ.put Rbb_14.out Ky_14.out), Lib.hid (SlZ.put Rbu_14.out Ky_14.out), HLQ⟩
      · go_wp2_with fail
        refine Calls.mono (next_m B g C nc cc l p12 70 _ C_12.out (by omega) (by omega)) ?_
        rintro e w13 ⟨z, p13, hz, rfl, cc13, gr13, le13, mo13⟩
        have Rab_13 := Lib.hid (BsZ.grown Rab_12.out C_12.out.1 (by simp) gr13)
        have Rau_13 := Lib.hid (SlZ.grown Rau_12.out C_12.out.1 (by simp) gr13)
        have Rbb_13 := Lib.hid (BsZ.grown Rbb_12.out C_12.out.1 (by simp) gr13)
        have Rbu_13 := Lib.hid (SlZ.grown Rbu_12.out C_12.out.1 (by simp) gr13)
        have Ka_13 := Lib.hid (Blk.grown Ka_12.out gr13 (by intro e; injection e with e; exact absurd e (Nat.ne_of_gt ncc_a)))
        have Kb_13 := Lib.hid (Blk.grown Kb_12.out gr13 (by intro e; injection e with e; exact absurd e (Nat.ne_of_gt ncc_b)))
        have Kx0_13 := Lib.hid (Blk.grown Kx0_12.out gr13 (by intro e; injection e with e; exact absurd e (Nat.ne_of_gt ncc_x0)))
        have Ky0_13 := Lib.hid (Blk.grown Ky0_12.out gr13 (by intro e; injection e with e; exact absurd e (Nat.ne_of_gt ncc_y0)))
        have Kv_13 := Lib.hid (Blk.grown Kv_12.out gr13 (by intro e; injection e with e; exact absurd e (Nat.ne_of_gt ncc_v)))
        have Kx_13 := Lib.hid (Blk.grown Kx_12.out gr13 (by intro e; injection e with e; exact absurd e (Nat.ne_of_gt ncc_x)))
        have Ky_13 := Lib.hid (Blk.grown Ky_12.out gr13 (by intro e; injection e with e; exact absurd e (Nat.ne_of_gt ncc_y)))
        have H_13 := Lib.hid (grownBy_trans H_12.out gr13)
        clear Ka_12 Kb_12 Kx0_12 Ky0_12 Kv_12 Kx_12 Ky_12 Rab_12 Rau_12 Rbb_12 Rbu_12 H_12 C_12 pa0 pa1 pa2 fa0 fa1 fa2 za pb0 pb1 pb2 fb0 fb1 fb2 zb px00 px01 px02 fx00 fx01 fx02 zx0 py00 py01 py02 fy00 fy01 fy02 zy0 pv0 pv1 fv0 fv1 zv px0 px1 px2 fx0 fx1 fx2 zx py0 py1 py2 fy0 fy1 fy2 zy gr13
        have C_13 := Lib.hid cc13
        clear cc13
        have hlq2 : p ≤ p13 ∧ (p < nc → p < p13) := ⟨by have := HLQ.out.1; omega, fun h => by have := HLQ.out.2 h; omega⟩
        have HLQ := Lib.hid hlq2
        clear hlq2 mo13 le13
        have i0 : -9223372036854775808 ≤ (z : Int) - 2 := by omega
        have i1 : (z : Int) - 2 ≤ 9223372036854775807 := by omega
        have hz0 : (0 : Int) ≤ (z : Int) := by omega
        have hz1 : (z : Int) < 70 := by omega
        obtain ⟨e, pq, lx, ux, spx, hr⟩ : ∃ e pq lx ux spx, moveV n sp lb lu k ((z : Int) - 2) m = (e, pq, lx, ux, spx) := ⟨_, _, _, _, _, rfl⟩
        have hsx : spx ≤ n := moveV_le hsp hr
        have PA := GMO.out _ i0 i1
        have PB := GMP.out _ i0 i1
        simp only [MoveR, hr] at PA PB
        clear hr
        obtain ⟨pa0, pa1, pa2, fa0, fa1, fa2, za⟩ := Blk.three Ka_13.out
        obtain ⟨pb0, pb1, pb2, fb0, fb1, fb2, zb⟩ := Blk.three Kb_13.out
        obtain ⟨px00, px01, px02, fx00, fx01, fx02, zx0⟩ := Blk.three Kx0_13.out
        obtain ⟨py00, py01, py02, fy00, fy01, fy02, zy0⟩ := Blk.three Ky0_13.out
        obtain ⟨pv0, pv1, fv0, fv1, zv⟩ := Blk.two Kv_13.out
        obtain ⟨px0, px1, px2, fx0, fx1, fx2, zx⟩ := Blk.three Kx_13.out
        obtain ⟨py0, py1, py2, fy0, fy1, fy2, zy⟩ := Blk.three Ky_13.out
        go_wp2_with fail
        refine Calls.mono (PA _ Rab_13.out Rau_13.out) ?_
        rintro e w14 ⟨Ax, cx, Ux, dx, rfl, b1, t1, j1, i1', bel⟩
        have Rab_14 := Lib.hid (BsZ.below Rab_13.out bel)
        have Rau_14 := Lib.hid (SlZ.below Rau_13.out bel)
        have Rbb_14 := Lib.hid (BsZ.below Rbb_13.out bel)
        have Rbu_14 := Lib.hid (SlZ.below Rbu_13.out bel)
        have Ka_14 := Lib.hid (Blk.after Ka_13.out bel)
        have Kb_14 := Lib.hid (Blk.after Kb_13.out bel)
        have Kx0_14 := Lib.hid (Blk.after Kx0_13.out bel)
        have Ky0_14 := Lib.hid (Blk.after Ky0_13.out bel)
        have Kv_14 := Lib.hid (Blk.after Kv_13.out bel)
        have Kx_14 := Lib.hid (Blk.after Kx_13.out bel)
        have Ky_14 := Lib.hid (Blk.after Ky_13.out bel)
        have H_14 := Lib.hid (GB.step H_13.out bel)
        have C_14 := Lib.hid (CodesAt.after C_13.out bel)
        clear Ka_13 Kb_13 Kx0_13 Ky0_13 Kv_13 Kx_13 Ky_13 Rab_13 Rau_13 Rbb_13 Rbu_13 H_13 C_13 pa0 pa1 pa2 fa0 fa1 fa2 za pb0 pb1 pb2 fb0 fb1 fb2 zb px00 px01 px02 fx00 fx01 fx02 zx0 py00 py01 py02 fy00 fy01 fy02 zy0 pv0 pv1 fv0 fv1 zv px0 px1 px2 fx0 fx1 fx2 zx py0 py1 py2 fy0 fy1 fy2 zy bel
        have Rxb_14 := Lib.hid (show BsZ _ _ _ _ from b1)
        clear b1
        have Rxu_14 := Lib.hid (show SlZ _ _ _ _ from t1)
        clear t1
        obtain ⟨pa0, pa1, pa2, fa0, fa1, fa2, za⟩ := Blk.three Ka_14.out
        obtain ⟨pb0, pb1, pb2, fb0, fb1, fb2, zb⟩ := Blk.three Kb_14.out
        obtain ⟨px00, px01, px02, fx00, fx01, fx02, zx0⟩ := Blk.three Kx0_14.out
        obtain ⟨py00, py01, py02, fy00, fy01, fy02, zy0⟩ := Blk.three Ky0_14.out
        obtain ⟨pv0, pv1, fv0, fv1, zv⟩ := Blk.two Kv_14.out
        obtain ⟨px0, px1, px2, fx0, fx1, fx2, zx⟩ := Blk.three Kx_14.out
        obtain ⟨py0, py1, py2, fy0, fy1, fy2, zy⟩ := Blk.three Ky_14.out
        go_wp2_with fail
        refine Calls.mono (PB _ (BsZ.put Rbb_14.out Kx_14.out) (SlZ.put Rbu_14.out Kx_14.out)) ?_
        rintro e w15 ⟨Ay, cy, Uy, dy, rfl, b2, t2, j2, i2, bel⟩
        have Rab_15 := Lib.hid (BsZ.below (BsZ.put Rab_14.out Kx_14.out) bel)
        have Rau_15 := Lib.hid (SlZ.below (SlZ.put Rau_14.out Kx_14.out) bel)
        have Rbb_15 := Lib.hid (BsZ.below (BsZ.put Rbb_14.out Kx_14.out) bel)
        have Rbu_15 := Lib.hid (SlZ.below (SlZ.put Rbu_14.out Kx_14.out) bel)
        have Rxb_15 := Lib.hid (BsZ.below (BsZ.put Rxb_14.out Kx_14.out) bel)
        have Rxu_15 := Lib.hid (SlZ.below (SlZ.put Rxu_14.out Kx_14.out) bel)
        have Ka_15 := Lib.hid (Blk.after (Blk.putFar Ka_14.out (Nat.ne_of_lt na_x)) bel)
        have Kb_15 := Lib.hid (Blk.after (Blk.putFar Kb_14.out (Nat.ne_of_lt nb_x)) bel)
        have Kx0_15 := Lib.hid (Blk.after (Blk.putFar Kx0_14.out (Nat.ne_of_lt nx0_x)) bel)
        have Ky0_15 := Lib.hid (Blk.after (Blk.putFar Ky0_14.out (Nat.ne_of_lt ny0_x)) bel)
        have Kv_15 := Lib.hid (Blk.after (Blk.putFar Kv_14.out (Nat.ne_of_lt nv_x)) bel)
        have Kx_15 := Lib.hid (Blk.after (StkB.put Kx_14.out) bel)
        have Ky_15 := Lib.hid (Blk.after (Blk.putFar Ky_14.out (Nat.ne_of_gt nx_y)) bel)
        have H_15 := Lib.hid (GB.step (GB.put H_14.out mx) bel)
        have C_15 := Lib.hid (CodesAt.after (CodesAt.put C_14.out (Nat.ne_of_lt ncc_x) (Nat.le_trans mB (Nat.le_of_lt ncc_x))) bel)
        clear Ka_14 Kb_14 Kx0_14 Ky0_14 Kv_14 Kx_14 Ky_14 Rab_14 Rau_14 Rbb_14 Rbu_14 Rxb_14 Rxu_14 H_14 C_14 pa0 pa1 pa2 fa0 fa1 fa2 za pb0 pb1 pb2 fb0 fb1 fb2 zb px00 px01 px02 fx00 fx01 fx02 zx0 py00 py01 py02 fy00 fy01 fy02 zy0 pv0 pv1 fv0 fv1 zv px0 px1 px2 fx0 fx1 fx2 zx py0 py1 py2 fy0 fy1 fy2 zy bel
        have Ryb_15 := Lib.hid (show BsZ _ _ _ _ from b2)
        clear b2
        have Ryu_15 := Lib.hid (show SlZ _ _ _ _ from t2)
        clear t2
        obtain ⟨pa0, pa1, pa2, fa0, fa1, fa2, za⟩ := Blk.three Ka_15.out
        obtain ⟨pb0, pb1, pb2, fb0, fb1, fb2, zb⟩ := Blk.three Kb_15.out
        obtain ⟨px00, px01, px02, fx00, fx01, fx02, zx0⟩ := Blk.three Kx0_15.out
        obtain ⟨py00, py01, py02, fy00, fy01, fy02, zy0⟩ := Blk.three Ky0_15.out
        obtain ⟨pv0, pv1, fv0, fv1, zv⟩ := Blk.two Kv_15.out
        obtain ⟨px0, px1, px2, fx0, fx1, fx2, zx⟩ := Blk.three Kx_15.out
        obtain ⟨py0, py1, py2, fy0, fy1, fy2, zy⟩ := Blk.three Ky_15.out
        go_wp2_with fail
        go_meet
        exact ⟨e, pq, Ax, cx, Ux, dx, Ay, cy, Uy, dy, spx, lx, ux, p13, rfl, rfl, rfl, rfl, ⟨j1, i1', j2, i2, hsx⟩, Lib.hid (GB.put H_15.out my), Lib.hid (Blk.putFar Ka_15.out (Nat.ne_of_lt na_y)), Lib.hid (Blk.putFar Kb_15.out (Nat.ne_of_lt nb_y)), Lib.hid (Blk.putFar Kx0_15.out (Nat.ne_of_lt nx0_y)), Lib.hid (Blk.putFar Ky0_15.out (Nat.ne_of_lt ny0_y)), Lib.hid (BsZ.put Rab_15.out Ky_15.out), Lib.hid (SlZ.put Rau_15.out Ky_15.out), Lib.hid (BsZ.put Rbb_15.out Ky_15.out), Lib.hid (SlZ.put Rbu_15.out Ky_15.out), Lib.hid (CodesAt.put C_15.out (Nat.ne_of_lt ncc_y) (Nat.le_trans mB (Nat.le_of_lt ncc_y))), Lib.hid (Blk.putFar Kx_15.out (Nat.ne_of_lt nx_y)), Lib.hid (StkB.put Ky_15.out), Lib.hid (BsZ.put Rxb_15.out Ky_15.out), Lib.hid (SlZ.put Rxu_15.out Ky_15.out), Lib.hid (BsZ.put Ryb_15.out Ky_15.out), Lib.hid (SlZ.put Ryu_15.out Ky_15.out), HLQ⟩
      · obtain ⟨x1, x2, x3, x4, hr⟩ : ∃ x1 x2 x3 x4, loadV n sp lb lu k m = ((x1, x2), x3, x4) := ⟨_, _, _, _, rfl⟩
        have PA := GLO.out
        have PB := GLP.out
        simp only [LoadR, hr] at PA PB
        clear hr
        go_wp2_with fail
        refine Calls.mono (PA _ (BsZ.alloc (BsZ.alloc Rab_12.out _) _) (SlZ.alloc (SlZ.alloc Rau_12.out _) _)) ?_
        rintro e w13 ⟨rfl, bel⟩
        have na_l : w.heap.size < w12.heap.size := by have := Blk.lt Ka_12.out; omega
        have nb_l : w.heap.size + 1 < w12.heap.size := by have := Blk.lt Kb_12.out; omega
        have nx0_l : w.heap.size + 1 + 1 < w12.heap.size := by have := Blk.lt Kx0_12.out; omega
        have ny0_l : w.heap.size + 1 + 1 + 1 < w12.heap.size := by have := Blk.lt Ky0_12.out; omega
        have nv_l : w11.heap.size < w12.heap.size := by have := Blk.lt Kv_12.out; omega
        have nx_l : w11.heap.size + 1 < w12.heap.size := by have := Blk.lt Kx_12.out; omega
        have ny_l : w11.heap.size + 1 + 1 < w12.heap.size := by have := Blk.lt Ky_12.out; omega
        have ncc_l : g < w12.heap.size := by have := Blk.lt C_12.out.1; omega
        have ml : w.heap.size ≤ w12.heap.size := by have := H_12.out.size; omega
        have na_ll : w.heap.size < w12.heap.size + 1 := by have := Blk.lt Ka_12.out; omega
        have nb_ll : w.heap.size + 1 < w12.heap.size + 1 := by have := Blk.lt Kb_12.out; omega
        have nx0_ll : w.heap.size + 1 + 1 < w12.heap.size + 1 := by have := Blk.lt Kx0_12.out; omega
        have ny0_ll : w.heap.size + 1 + 1 + 1 < w12.heap.size + 1 := by have := Blk.lt Ky0_12.out; omega
        have nv_ll : w11.heap.size < w12.heap.size + 1 := by have := Blk.lt Kv_12.out; omega
        have nx_ll : w11.heap.size + 1 < w12.heap.size + 1 := by have := Blk.lt Kx_12.out; omega
        have ny_ll : w11.heap.size + 1 + 1 < w12.heap.size + 1 := by have := Blk.lt Ky_12.out; omega
        have nl_ll : w12.heap.size < w12.heap.size + 1 := by omega
        have ncc_ll : g < w12.heap.size + 1 := by have := Blk.lt C_12.out.1; omega
        have mll : w.heap.size ≤ w12.heap.size + 1 := by have := H_12.out.size; omega
        have Rab_13 := Lib.hid (BsZ.below (BsZ.alloc (BsZ.alloc Rab_12.out _) _) bel)
        have Rau_13 := Lib.hid (SlZ.below (SlZ.alloc (SlZ.alloc Rau_12.out _) _) bel)
        have Rbb_13 := Lib.hid (BsZ.below (BsZ.alloc (BsZ.alloc Rbb_12.out _) _) bel)
        have Rbu_13 := Lib.hid (SlZ.below (SlZ.alloc (SlZ.alloc Rbu_12.out _) _) bel)
        have Ka_13 := Lib.hid (Blk.after (Blk.alloc (Blk.alloc Ka_12.out _) _) bel)
        have Kb_13 := Lib.hid (Blk.after (Blk.alloc (Blk.alloc Kb_12.out _) _) bel)
        have Kx0_13 := Lib.hid (Blk.after (Blk.alloc (Blk.alloc Kx0_12.out _) _) bel)
        have Ky0_13 := Lib.hid (Blk.after (Blk.alloc (Blk.alloc Ky0_12.out _) _) bel)
        have Kv_13 := Lib.hid (Blk.after (Blk.alloc (Blk.alloc Kv_12.out _) _) bel)
        have Kx_13 := Lib.hid (Blk.after (Blk.alloc (Blk.alloc Kx_12.out _) _) bel)
        have Ky_13 := Lib.hid (Blk.after (Blk.alloc (Blk.alloc Ky_12.out _) _) bel)
        have Kl_13 := Lib.hid (Blk.after (Blk.alloc (show Blk _ (w12.heap.size) 52 #[.int .u64 (0 : Nat), .int .u64 (0 : Nat)] from Blk.newAt (by simp [putStk, World.setCell])) _) bel)
        have Kll_13 := Lib.hid (Blk.after (show Blk _ (w12.heap.size + 1) 52 #[.int .u64 (0 : Nat), .int .u64 (0 : Nat)] from Blk.newAt (by simp [putStk, World.setCell])) bel)
        have H_13 := Lib.hid (GB.step (GB.al (GB.al H_12.out _) _) bel)
        have C_13 := Lib.hid (CodesAt.after (CodesAt.alloc (CodesAt.alloc C_12.out _) _) bel)
        clear Ka_12 Kb_12 Kx0_12 Ky0_12 Kv_12 Kx_12 Ky_12 Rab_12 Rau_12 Rbb_12 Rbu_12 H_12 C_12 pa0 pa1 pa2 fa0 fa1 fa2 za pb0 pb1 pb2 fb0 fb1 fb2 zb px00 px01 px02 fx00 fx01 fx02 zx0 py00 py01 py02 fy00 fy01 fy02 zy0 pv0 pv1 fv0 fv1 zv px0 px1 px2 fx0 fx1 fx2 zx py0 py1 py2 fy0 fy1 fy2 zy bel
        obtain ⟨pa0, pa1, pa2, fa0, fa1, fa2, za⟩ := Blk.three Ka_13.out
        obtain ⟨pb0, pb1, pb2, fb0, fb1, fb2, zb⟩ := Blk.three Kb_13.out
        obtain ⟨px00, px01, px02, fx00, fx01, fx02, zx0⟩ := Blk.three Kx0_13.out
        obtain ⟨py00, py01, py02, fy00, fy01, fy02, zy0⟩ := Blk.three Ky0_13.out
        obtain ⟨pv0, pv1, fv0, fv1, zv⟩ := Blk.two Kv_13.out
        obtain ⟨px0, px1, px2, fx0, fx1, fx2, zx⟩ := Blk.three Kx_13.out
        obtain ⟨py0, py1, py2, fy0, fy1, fy2, zy⟩ := Blk.three Ky_13.out
        obtain ⟨pl0, pl1, fl0, fl1, zl⟩ := Blk.two Kl_13.out
        obtain ⟨pll0, pll1, fll0, fll1, zll⟩ := Blk.two Kll_13.out
        go_wp2_with fail
        refine Calls.mono (PB _ (BsZ.put2 Rbb_13.out Kl_13.out) (SlZ.put2 Rbu_13.out Kl_13.out)) ?_
        rintro e w14 ⟨rfl, bel⟩
        have Rab_14 := Lib.hid (BsZ.below (BsZ.put2 Rab_13.out Kl_13.out) bel)
        have Rau_14 := Lib.hid (SlZ.below (SlZ.put2 Rau_13.out Kl_13.out) bel)
        have Rbb_14 := Lib.hid (BsZ.below (BsZ.put2 Rbb_13.out Kl_13.out) bel)
        have Rbu_14 := Lib.hid (SlZ.below (SlZ.put2 Rbu_13.out Kl_13.out) bel)
        have Ka_14 := Lib.hid (Blk.after (Blk.put2Far Ka_13.out (Nat.ne_of_lt na_l)) bel)
        have Kb_14 := Lib.hid (Blk.after (Blk.put2Far Kb_13.out (Nat.ne_of_lt nb_l)) bel)
        have Kx0_14 := Lib.hid (Blk.after (Blk.put2Far Kx0_13.out (Nat.ne_of_lt nx0_l)) bel)
        have Ky0_14 := Lib.hid (Blk.after (Blk.put2Far Ky0_13.out (Nat.ne_of_lt ny0_l)) bel)
        have Kv_14 := Lib.hid (Blk.after (Blk.put2Far Kv_13.out (Nat.ne_of_lt nv_l)) bel)
        have Kx_14 := Lib.hid (Blk.after (Blk.put2Far Kx_13.out (Nat.ne_of_lt nx_l)) bel)
        have Ky_14 := Lib.hid (Blk.after (Blk.put2Far Ky_13.out (Nat.ne_of_lt ny_l)) bel)
        have Kl_14 := Lib.hid (Blk.after (Blk.put2 Kl_13.out) bel)
        have Kll_14 := Lib.hid (Blk.after (Blk.put2Far Kll_13.out (Nat.ne_of_gt nl_ll)) bel)
        have H_14 := Lib.hid (GB.step (GB.put2 H_13.out ml) bel)
        have C_14 := Lib.hid (CodesAt.after (CodesAt.put2 C_13.out (Nat.ne_of_lt ncc_l) (Nat.le_trans mB (Nat.le_of_lt ncc_l))) bel)
        clear Ka_13 Kb_13 Kx0_13 Ky0_13 Kv_13 Kx_13 Ky_13 Kl_13 Kll_13 Rab_13 Rau_13 Rbb_13 Rbu_13 H_13 C_13 pa0 pa1 pa2 fa0 fa1 fa2 za pb0 pb1 pb2 fb0 fb1 fb2 zb px00 px01 px02 fx00 fx01 fx02 zx0 py00 py01 py02 fy00 fy01 fy02 zy0 pv0 pv1 fv0 fv1 zv px0 px1 px2 fx0 fx1 fx2 zx py0 py1 py2 fy0 fy1 fy2 zy pl0 pl1 fl0 fl1 zl pll0 pll1 fll0 fll1 zll bel
        obtain ⟨pa0, pa1, pa2, fa0, fa1, fa2, za⟩ := Blk.three Ka_14.out
        obtain ⟨pb0, pb1, pb2, fb0, fb1, fb2, zb⟩ := Blk.three Kb_14.out
        obtain ⟨px00, px01, px02, fx00, fx01, fx02, zx0⟩ := Blk.three Kx0_14.out
        obtain ⟨py00, py01, py02, fy00, fy01, fy02, zy0⟩ := Blk.three Ky0_14.out
        obtain ⟨pv0, pv1, fv0, fv1, zv⟩ := Blk.two Kv_14.out
        obtain ⟨px0, px1, px2, fx0, fx1, fx2, zx⟩ := Blk.three Kx_14.out
        obtain ⟨py0, py1, py2, fy0, fy1, fy2, zy⟩ := Blk.three Ky_14.out
        obtain ⟨pl0, pl1, fl0, fl1, zl⟩ := Blk.two Kl_14.out
        obtain ⟨pll0, pll1, fll0, fll1, zll⟩ := Blk.two Kll_14.out
        go_upto_region 26 with (fail)
        have Rab_15 := Lib.hid (show BsZ ((w14.setCell ⟨w12.heap.size + 1, 0, none⟩ (.int .u64 (x1 : Nat))).setCell ⟨w12.heap.size + 1, 1, none⟩ (.int .u64 (x2 : Nat))) _ _ _ from (BsZ.put2 Rab_14.out Kll_14.out))
        have Rau_15 := Lib.hid (show SlZ ((w14.setCell ⟨w12.heap.size + 1, 0, none⟩ (.int .u64 (x1 : Nat))).setCell ⟨w12.heap.size + 1, 1, none⟩ (.int .u64 (x2 : Nat))) _ _ _ from (SlZ.put2 Rau_14.out Kll_14.out))
        have Rbb_15 := Lib.hid (show BsZ ((w14.setCell ⟨w12.heap.size + 1, 0, none⟩ (.int .u64 (x1 : Nat))).setCell ⟨w12.heap.size + 1, 1, none⟩ (.int .u64 (x2 : Nat))) _ _ _ from (BsZ.put2 Rbb_14.out Kll_14.out))
        have Rbu_15 := Lib.hid (show SlZ ((w14.setCell ⟨w12.heap.size + 1, 0, none⟩ (.int .u64 (x1 : Nat))).setCell ⟨w12.heap.size + 1, 1, none⟩ (.int .u64 (x2 : Nat))) _ _ _ from (SlZ.put2 Rbu_14.out Kll_14.out))
        have Ka_15 := Lib.hid (show Blk ((w14.setCell ⟨w12.heap.size + 1, 0, none⟩ (.int .u64 (x1 : Nat))).setCell ⟨w12.heap.size + 1, 1, none⟩ (.int .u64 (x2 : Nat))) _ _ _ from (Blk.put2Far Ka_14.out (Nat.ne_of_lt na_ll)))
        have Kb_15 := Lib.hid (show Blk ((w14.setCell ⟨w12.heap.size + 1, 0, none⟩ (.int .u64 (x1 : Nat))).setCell ⟨w12.heap.size + 1, 1, none⟩ (.int .u64 (x2 : Nat))) _ _ _ from (Blk.put2Far Kb_14.out (Nat.ne_of_lt nb_ll)))
        have Kx0_15 := Lib.hid (show Blk ((w14.setCell ⟨w12.heap.size + 1, 0, none⟩ (.int .u64 (x1 : Nat))).setCell ⟨w12.heap.size + 1, 1, none⟩ (.int .u64 (x2 : Nat))) _ _ _ from (Blk.put2Far Kx0_14.out (Nat.ne_of_lt nx0_ll)))
        have Ky0_15 := Lib.hid (show Blk ((w14.setCell ⟨w12.heap.size + 1, 0, none⟩ (.int .u64 (x1 : Nat))).setCell ⟨w12.heap.size + 1, 1, none⟩ (.int .u64 (x2 : Nat))) _ _ _ from (Blk.put2Far Ky0_14.out (Nat.ne_of_lt ny0_ll)))
        have Kv_15 := Lib.hid (show Blk ((w14.setCell ⟨w12.heap.size + 1, 0, none⟩ (.int .u64 (x1 : Nat))).setCell ⟨w12.heap.size + 1, 1, none⟩ (.int .u64 (x2 : Nat))) _ _ _ from (Blk.put2Far Kv_14.out (Nat.ne_of_lt nv_ll)))
        have Kx_15 := Lib.hid (show Blk ((w14.setCell ⟨w12.heap.size + 1, 0, none⟩ (.int .u64 (x1 : Nat))).setCell ⟨w12.heap.size + 1, 1, none⟩ (.int .u64 (x2 : Nat))) _ _ _ from (Blk.put2Far Kx_14.out (Nat.ne_of_lt nx_ll)))
        have Ky_15 := Lib.hid (show Blk ((w14.setCell ⟨w12.heap.size + 1, 0, none⟩ (.int .u64 (x1 : Nat))).setCell ⟨w12.heap.size + 1, 1, none⟩ (.int .u64 (x2 : Nat))) _ _ _ from (Blk.put2Far Ky_14.out (Nat.ne_of_lt ny_ll)))
        have Kl_15 := Lib.hid (show Blk ((w14.setCell ⟨w12.heap.size + 1, 0, none⟩ (.int .u64 (x1 : Nat))).setCell ⟨w12.heap.size + 1, 1, none⟩ (.int .u64 (x2 : Nat))) _ _ _ from (Blk.put2Far Kl_14.out (Nat.ne_of_lt nl_ll)))
        have Kll_15 := Lib.hid (show Blk ((w14.setCell ⟨w12.heap.size + 1, 0, none⟩ (.int .u64 (x1 : Nat))).setCell ⟨w12.heap.size + 1, 1, none⟩ (.int .u64 (x2 : Nat))) _ _ _ from (Blk.put2 Kll_14.out))
        have H_15 := Lib.hid (show w.grownBy ((w14.setCell ⟨w12.heap.size + 1, 0, none⟩ (.int .u64 (x1 : Nat))).setCell ⟨w12.heap.size + 1, 1, none⟩ (.int .u64 (x2 : Nat))) (some g) from (GB.put2 H_14.out mll))
        have C_15 := Lib.hid (show CodesAt ((w14.setCell ⟨w12.heap.size + 1, 0, none⟩ (.int .u64 (x1 : Nat))).setCell ⟨w12.heap.size + 1, 1, none⟩ (.int .u64 (x2 : Nat))) _ _ _ _ _ _ _ from (CodesAt.put2 C_14.out (Nat.ne_of_lt ncc_ll) (Nat.le_trans mB (Nat.le_of_lt ncc_ll))))
        clear Ka_14 Kb_14 Kx0_14 Ky0_14 Kv_14 Kx_14 Ky_14 Kl_14 Kll_14 Rab_14 Rau_14 Rbb_14 Rbu_14 H_14 C_14 pa0 pa1 pa2 fa0 fa1 fa2 za pb0 pb1 pb2 fb0 fb1 fb2 zb px00 px01 px02 fx00 fx01 fx02 zx0 py00 py01 py02 fy00 fy01 fy02 zy0 pv0 pv1 fv0 fv1 zv px0 px1 px2 fx0 fx1 fx2 zx py0 py1 py2 fy0 fy1 fy2 zy pl0 pl1 fl0 fl1 zl pll0 pll1 fll0 fll1 zll
        generalize (w14.setCell ⟨w12.heap.size + 1, 0, none⟩ (.int .u64 (x1 : Nat))).setCell ⟨w12.heap.size + 1, 1, none⟩ (.int .u64 (x2 : Nat)) = wl at *
        obtain ⟨pa0, pa1, pa2, fa0, fa1, fa2, za⟩ := Blk.three Ka_15.out
        obtain ⟨pb0, pb1, pb2, fb0, fb1, fb2, zb⟩ := Blk.three Kb_15.out
        obtain ⟨px00, px01, px02, fx00, fx01, fx02, zx0⟩ := Blk.three Kx0_15.out
        obtain ⟨py00, py01, py02, fy00, fy01, fy02, zy0⟩ := Blk.three Ky0_15.out
        obtain ⟨pv0, pv1, fv0, fv1, zv⟩ := Blk.two Kv_15.out
        obtain ⟨px0, px1, px2, fx0, fx1, fx2, zx⟩ := Blk.three Kx_15.out
        obtain ⟨py0, py1, py2, fy0, fy1, fy2, zy⟩ := Blk.three Ky_15.out
        obtain ⟨pl0, pl1, fl0, fl1, zl⟩ := Blk.two Kl_15.out
        obtain ⟨pll0, pll1, fll0, fll1, zll⟩ := Blk.two Kll_15.out
        go_region
        rename_i K9 hK9
        have Rab_16 := Lib.hid (show BsZ (((((((wl.setCell ⟨w.heap.size + 1 + 1, 0, none⟩ (.slice Aa n ca)).setCell ⟨w.heap.size + 1 + 1, 1, none⟩ (.slice Ua n da)).setCell ⟨w.heap.size + 1 + 1, 2, none⟩ (.int .i64 sp)).setCell ⟨w.heap.size + 1 + 1 + 1, 0, none⟩ (.slice Ab n cb)).setCell ⟨w.heap.size + 1 + 1 + 1, 1, none⟩ (.slice Ub n db)).setCell ⟨w.heap.size + 1 + 1 + 1, 2, none⟩ (.int .i64 sp)).drew) _ _ _ from (BsZ.drew (BsZ.put (BsZ.put Rab_15.out Kx0_15.out) (Blk.putFar Ky0_15.out (Nat.ne_of_gt nx0_y0)))))
        have Rau_16 := Lib.hid (show SlZ (((((((wl.setCell ⟨w.heap.size + 1 + 1, 0, none⟩ (.slice Aa n ca)).setCell ⟨w.heap.size + 1 + 1, 1, none⟩ (.slice Ua n da)).setCell ⟨w.heap.size + 1 + 1, 2, none⟩ (.int .i64 sp)).setCell ⟨w.heap.size + 1 + 1 + 1, 0, none⟩ (.slice Ab n cb)).setCell ⟨w.heap.size + 1 + 1 + 1, 1, none⟩ (.slice Ub n db)).setCell ⟨w.heap.size + 1 + 1 + 1, 2, none⟩ (.int .i64 sp)).drew) _ _ _ from (SlZ.drew (SlZ.put (SlZ.put Rau_15.out Kx0_15.out) (Blk.putFar Ky0_15.out (Nat.ne_of_gt nx0_y0)))))
        have Rbb_16 := Lib.hid (show BsZ (((((((wl.setCell ⟨w.heap.size + 1 + 1, 0, none⟩ (.slice Aa n ca)).setCell ⟨w.heap.size + 1 + 1, 1, none⟩ (.slice Ua n da)).setCell ⟨w.heap.size + 1 + 1, 2, none⟩ (.int .i64 sp)).setCell ⟨w.heap.size + 1 + 1 + 1, 0, none⟩ (.slice Ab n cb)).setCell ⟨w.heap.size + 1 + 1 + 1, 1, none⟩ (.slice Ub n db)).setCell ⟨w.heap.size + 1 + 1 + 1, 2, none⟩ (.int .i64 sp)).drew) _ _ _ from (BsZ.drew (BsZ.put (BsZ.put Rbb_15.out Kx0_15.out) (Blk.putFar Ky0_15.out (Nat.ne_of_gt nx0_y0)))))
        have Rbu_16 := Lib.hid (show SlZ (((((((wl.setCell ⟨w.heap.size + 1 + 1, 0, none⟩ (.slice Aa n ca)).setCell ⟨w.heap.size + 1 + 1, 1, none⟩ (.slice Ua n da)).setCell ⟨w.heap.size + 1 + 1, 2, none⟩ (.int .i64 sp)).setCell ⟨w.heap.size + 1 + 1 + 1, 0, none⟩ (.slice Ab n cb)).setCell ⟨w.heap.size + 1 + 1 + 1, 1, none⟩ (.slice Ub n db)).setCell ⟨w.heap.size + 1 + 1 + 1, 2, none⟩ (.int .i64 sp)).drew) _ _ _ from (SlZ.drew (SlZ.put (SlZ.put Rbu_15.out Kx0_15.out) (Blk.putFar Ky0_15.out (Nat.ne_of_gt nx0_y0)))))
        have Ka_16 := Lib.hid (show Blk (((((((wl.setCell ⟨w.heap.size + 1 + 1, 0, none⟩ (.slice Aa n ca)).setCell ⟨w.heap.size + 1 + 1, 1, none⟩ (.slice Ua n da)).setCell ⟨w.heap.size + 1 + 1, 2, none⟩ (.int .i64 sp)).setCell ⟨w.heap.size + 1 + 1 + 1, 0, none⟩ (.slice Ab n cb)).setCell ⟨w.heap.size + 1 + 1 + 1, 1, none⟩ (.slice Ub n db)).setCell ⟨w.heap.size + 1 + 1 + 1, 2, none⟩ (.int .i64 sp)).drew) _ _ _ from (Blk.drew (Blk.putFar (Blk.putFar Ka_15.out (Nat.ne_of_lt na_x0)) (Nat.ne_of_lt na_y0))))
        have Kb_16 := Lib.hid (show Blk (((((((wl.setCell ⟨w.heap.size + 1 + 1, 0, none⟩ (.slice Aa n ca)).setCell ⟨w.heap.size + 1 + 1, 1, none⟩ (.slice Ua n da)).setCell ⟨w.heap.size + 1 + 1, 2, none⟩ (.int .i64 sp)).setCell ⟨w.heap.size + 1 + 1 + 1, 0, none⟩ (.slice Ab n cb)).setCell ⟨w.heap.size + 1 + 1 + 1, 1, none⟩ (.slice Ub n db)).setCell ⟨w.heap.size + 1 + 1 + 1, 2, none⟩ (.int .i64 sp)).drew) _ _ _ from (Blk.drew (Blk.putFar (Blk.putFar Kb_15.out (Nat.ne_of_lt nb_x0)) (Nat.ne_of_lt nb_y0))))
        have Kx0_16 := Lib.hid (show Blk (((((((wl.setCell ⟨w.heap.size + 1 + 1, 0, none⟩ (.slice Aa n ca)).setCell ⟨w.heap.size + 1 + 1, 1, none⟩ (.slice Ua n da)).setCell ⟨w.heap.size + 1 + 1, 2, none⟩ (.int .i64 sp)).setCell ⟨w.heap.size + 1 + 1 + 1, 0, none⟩ (.slice Ab n cb)).setCell ⟨w.heap.size + 1 + 1 + 1, 1, none⟩ (.slice Ub n db)).setCell ⟨w.heap.size + 1 + 1 + 1, 2, none⟩ (.int .i64 sp)).drew) _ _ _ from (Blk.drew (Blk.putFar (StkB.put Kx0_15.out) (Nat.ne_of_lt nx0_y0))))
        have Ky0_16 := Lib.hid (show Blk (((((((wl.setCell ⟨w.heap.size + 1 + 1, 0, none⟩ (.slice Aa n ca)).setCell ⟨w.heap.size + 1 + 1, 1, none⟩ (.slice Ua n da)).setCell ⟨w.heap.size + 1 + 1, 2, none⟩ (.int .i64 sp)).setCell ⟨w.heap.size + 1 + 1 + 1, 0, none⟩ (.slice Ab n cb)).setCell ⟨w.heap.size + 1 + 1 + 1, 1, none⟩ (.slice Ub n db)).setCell ⟨w.heap.size + 1 + 1 + 1, 2, none⟩ (.int .i64 sp)).drew) _ _ _ from (Blk.drew (StkB.put (Blk.putFar Ky0_15.out (Nat.ne_of_gt nx0_y0)))))
        have Kv_16 := Lib.hid (show Blk (((((((wl.setCell ⟨w.heap.size + 1 + 1, 0, none⟩ (.slice Aa n ca)).setCell ⟨w.heap.size + 1 + 1, 1, none⟩ (.slice Ua n da)).setCell ⟨w.heap.size + 1 + 1, 2, none⟩ (.int .i64 sp)).setCell ⟨w.heap.size + 1 + 1 + 1, 0, none⟩ (.slice Ab n cb)).setCell ⟨w.heap.size + 1 + 1 + 1, 1, none⟩ (.slice Ub n db)).setCell ⟨w.heap.size + 1 + 1 + 1, 2, none⟩ (.int .i64 sp)).drew) _ _ _ from (Blk.drew (Blk.putFar (Blk.putFar Kv_15.out (Nat.ne_of_gt nx0_v)) (Nat.ne_of_gt ny0_v))))
        have Kx_16 := Lib.hid (show Blk (((((((wl.setCell ⟨w.heap.size + 1 + 1, 0, none⟩ (.slice Aa n ca)).setCell ⟨w.heap.size + 1 + 1, 1, none⟩ (.slice Ua n da)).setCell ⟨w.heap.size + 1 + 1, 2, none⟩ (.int .i64 sp)).setCell ⟨w.heap.size + 1 + 1 + 1, 0, none⟩ (.slice Ab n cb)).setCell ⟨w.heap.size + 1 + 1 + 1, 1, none⟩ (.slice Ub n db)).setCell ⟨w.heap.size + 1 + 1 + 1, 2, none⟩ (.int .i64 sp)).drew) _ _ _ from (Blk.drew (Blk.putFar (Blk.putFar Kx_15.out (Nat.ne_of_gt nx0_x)) (Nat.ne_of_gt ny0_x))))
        have Ky_16 := Lib.hid (show Blk (((((((wl.setCell ⟨w.heap.size + 1 + 1, 0, none⟩ (.slice Aa n ca)).setCell ⟨w.heap.size + 1 + 1, 1, none⟩ (.slice Ua n da)).setCell ⟨w.heap.size + 1 + 1, 2, none⟩ (.int .i64 sp)).setCell ⟨w.heap.size + 1 + 1 + 1, 0, none⟩ (.slice Ab n cb)).setCell ⟨w.heap.size + 1 + 1 + 1, 1, none⟩ (.slice Ub n db)).setCell ⟨w.heap.size + 1 + 1 + 1, 2, none⟩ (.int .i64 sp)).drew) _ _ _ from (Blk.drew (Blk.putFar (Blk.putFar Ky_15.out (Nat.ne_of_gt nx0_y)) (Nat.ne_of_gt ny0_y))))
        have Kl_16 := Lib.hid (show Blk (((((((wl.setCell ⟨w.heap.size + 1 + 1, 0, none⟩ (.slice Aa n ca)).setCell ⟨w.heap.size + 1 + 1, 1, none⟩ (.slice Ua n da)).setCell ⟨w.heap.size + 1 + 1, 2, none⟩ (.int .i64 sp)).setCell ⟨w.heap.size + 1 + 1 + 1, 0, none⟩ (.slice Ab n cb)).setCell ⟨w.heap.size + 1 + 1 + 1, 1, none⟩ (.slice Ub n db)).setCell ⟨w.heap.size + 1 + 1 + 1, 2, none⟩ (.int .i64 sp)).drew) _ _ _ from (Blk.drew (Blk.putFar (Blk.putFar Kl_15.out (Nat.ne_of_gt nx0_l)) (Nat.ne_of_gt ny0_l))))
        have Kll_16 := Lib.hid (show Blk (((((((wl.setCell ⟨w.heap.size + 1 + 1, 0, none⟩ (.slice Aa n ca)).setCell ⟨w.heap.size + 1 + 1, 1, none⟩ (.slice Ua n da)).setCell ⟨w.heap.size + 1 + 1, 2, none⟩ (.int .i64 sp)).setCell ⟨w.heap.size + 1 + 1 + 1, 0, none⟩ (.slice Ab n cb)).setCell ⟨w.heap.size + 1 + 1 + 1, 1, none⟩ (.slice Ub n db)).setCell ⟨w.heap.size + 1 + 1 + 1, 2, none⟩ (.int .i64 sp)).drew) _ _ _ from (Blk.drew (Blk.putFar (Blk.putFar Kll_15.out (Nat.ne_of_gt nx0_ll)) (Nat.ne_of_gt ny0_ll))))
        have H_16 := Lib.hid (show w.grownBy (((((((wl.setCell ⟨w.heap.size + 1 + 1, 0, none⟩ (.slice Aa n ca)).setCell ⟨w.heap.size + 1 + 1, 1, none⟩ (.slice Ua n da)).setCell ⟨w.heap.size + 1 + 1, 2, none⟩ (.int .i64 sp)).setCell ⟨w.heap.size + 1 + 1 + 1, 0, none⟩ (.slice Ab n cb)).setCell ⟨w.heap.size + 1 + 1 + 1, 1, none⟩ (.slice Ub n db)).setCell ⟨w.heap.size + 1 + 1 + 1, 2, none⟩ (.int .i64 sp)).drew) (some g) from (GB.dr (GB.put (GB.put H_15.out mx0) my0)))
        have C_16 := Lib.hid (show CodesAt (((((((wl.setCell ⟨w.heap.size + 1 + 1, 0, none⟩ (.slice Aa n ca)).setCell ⟨w.heap.size + 1 + 1, 1, none⟩ (.slice Ua n da)).setCell ⟨w.heap.size + 1 + 1, 2, none⟩ (.int .i64 sp)).setCell ⟨w.heap.size + 1 + 1 + 1, 0, none⟩ (.slice Ab n cb)).setCell ⟨w.heap.size + 1 + 1 + 1, 1, none⟩ (.slice Ub n db)).setCell ⟨w.heap.size + 1 + 1 + 1, 2, none⟩ (.int .i64 sp)).drew) _ _ _ _ _ _ _ from (CodesAt.dr (CodesAt.put (CodesAt.put C_15.out (Nat.ne_of_lt ncc_x0) (Nat.le_trans mB (Nat.le_of_lt ncc_x0))) (Nat.ne_of_lt ncc_y0) (Nat.le_trans mB (Nat.le_of_lt ncc_y0)))))
        clear Ka_15 Kb_15 Kx0_15 Ky0_15 Kv_15 Kx_15 Ky_15 Kl_15 Kll_15 Rab_15 Rau_15 Rbb_15 Rbu_15 H_15 C_15 pa0 pa1 pa2 fa0 fa1 fa2 za pb0 pb1 pb2 fb0 fb1 fb2 zb px00 px01 px02 fx00 fx01 fx02 zx0 py00 py01 py02 fy00 fy01 fy02 zy0 pv0 pv1 fv0 fv1 zv px0 px1 px2 fx0 fx1 fx2 zx py0 py1 py2 fy0 fy1 fy2 zy pl0 pl1 fl0 fl1 zl pll0 pll1 fll0 fll1 zll
        generalize ((((((wl.setCell ⟨w.heap.size + 1 + 1, 0, none⟩ (.slice Aa n ca)).setCell ⟨w.heap.size + 1 + 1, 1, none⟩ (.slice Ua n da)).setCell ⟨w.heap.size + 1 + 1, 2, none⟩ (.int .i64 sp)).setCell ⟨w.heap.size + 1 + 1 + 1, 0, none⟩ (.slice Ab n cb)).setCell ⟨w.heap.size + 1 + 1 + 1, 1, none⟩ (.slice Ub n db)).setCell ⟨w.heap.size + 1 + 1 + 1, 2, none⟩ (.int .i64 sp)).drew = wf at *
        obtain ⟨pa0, pa1, pa2, fa0, fa1, fa2, za⟩ := Blk.three Ka_16.out
        obtain ⟨pb0, pb1, pb2, fb0, fb1, fb2, zb⟩ := Blk.three Kb_16.out
        obtain ⟨px00, px01, px02, fx00, fx01, fx02, zx0⟩ := Blk.three Kx0_16.out
        obtain ⟨py00, py01, py02, fy00, fy01, fy02, zy0⟩ := Blk.three Ky0_16.out
        obtain ⟨pv0, pv1, fv0, fv1, zv⟩ := Blk.two Kv_16.out
        obtain ⟨px0, px1, px2, fx0, fx1, fx2, zx⟩ := Blk.three Kx_16.out
        obtain ⟨py0, py1, py2, fy0, fy1, fy2, zy⟩ := Blk.three Ky_16.out
        obtain ⟨pl0, pl1, fl0, fl1, zl⟩ := Blk.two Kl_16.out
        obtain ⟨pll0, pll1, fll0, fll1, zll⟩ := Blk.two Kll_16.out
        refine hK9 _ _ ?_
        refine wp_ret ?_
        change bodyPost Try.prog Try.f43 _ .ret _ _
        refine bodyPost_ret (v := .tuple #[.agg #[.slice Aa n ca, .slice Ua n da, .int .i64 sp], .agg #[.slice Ab n cb, .slice Ub n db, .int .i64 sp], .bool true]) (by simp [results, Try.results43, go_sem, px00, px01, px02, py00, py01, py02]) rfl ?_
        exact ⟨Aa, ca, Ua, da, Ab, cb, Ub, db, sp, p12, lb, lu, rfl, ⟨q1, q2, q3, q4, hsp⟩, Rab_16.out, Rau_16.out, Rbb_16.out, Rbu_16.out, C_16.out, H_16.out, HLQ.out.1, HLQ.out.2⟩
      · obtain ⟨e, lx, ux, spx, hr⟩ : ∃ e lx ux spx, storeV n sp lb lu vx vy k m = (e, lx, ux, spx) := ⟨_, _, _, _, rfl⟩
        have hsx : spx ≤ n := storeV_le hsp hr
        have PA := GST.out
        have PB := GSU.out
        simp only [StkR, hr] at PA PB
        clear hr
        go_wp2_with fail
        refine Calls.mono (PA _ Rab_12.out Rau_12.out) ?_
        rintro e w13 ⟨Ax, cx, Ux, dx, rfl, b1, t1, j1, i1, bel⟩
        have Rab_13 := Lib.hid (BsZ.below Rab_12.out bel)
        have Rau_13 := Lib.hid (SlZ.below Rau_12.out bel)
        have Rbb_13 := Lib.hid (BsZ.below Rbb_12.out bel)
        have Rbu_13 := Lib.hid (SlZ.below Rbu_12.out bel)
        have Ka_13 := Lib.hid (Blk.after Ka_12.out bel)
        have Kb_13 := Lib.hid (Blk.after Kb_12.out bel)
        have Kx0_13 := Lib.hid (Blk.after Kx0_12.out bel)
        have Ky0_13 := Lib.hid (Blk.after Ky0_12.out bel)
        have Kv_13 := Lib.hid (Blk.after Kv_12.out bel)
        have Kx_13 := Lib.hid (Blk.after Kx_12.out bel)
        have Ky_13 := Lib.hid (Blk.after Ky_12.out bel)
        have H_13 := Lib.hid (GB.step H_12.out bel)
        have C_13 := Lib.hid (CodesAt.after C_12.out bel)
        clear Ka_12 Kb_12 Kx0_12 Ky0_12 Kv_12 Kx_12 Ky_12 Rab_12 Rau_12 Rbb_12 Rbu_12 H_12 C_12 pa0 pa1 pa2 fa0 fa1 fa2 za pb0 pb1 pb2 fb0 fb1 fb2 zb px00 px01 px02 fx00 fx01 fx02 zx0 py00 py01 py02 fy00 fy01 fy02 zy0 pv0 pv1 fv0 fv1 zv px0 px1 px2 fx0 fx1 fx2 zx py0 py1 py2 fy0 fy1 fy2 zy bel
        have Rxb_13 := Lib.hid (show BsZ _ _ _ _ from b1)
        clear b1
        have Rxu_13 := Lib.hid (show SlZ _ _ _ _ from t1)
        clear t1
        obtain ⟨pa0, pa1, pa2, fa0, fa1, fa2, za⟩ := Blk.three Ka_13.out
        obtain ⟨pb0, pb1, pb2, fb0, fb1, fb2, zb⟩ := Blk.three Kb_13.out
        obtain ⟨px00, px01, px02, fx00, fx01, fx02, zx0⟩ := Blk.three Kx0_13.out
        obtain ⟨py00, py01, py02, fy00, fy01, fy02, zy0⟩ := Blk.three Ky0_13.out
        obtain ⟨pv0, pv1, fv0, fv1, zv⟩ := Blk.two Kv_13.out
        obtain ⟨px0, px1, px2, fx0, fx1, fx2, zx⟩ := Blk.three Kx_13.out
        obtain ⟨py0, py1, py2, fy0, fy1, fy2, zy⟩ := Blk.three Ky_13.out
        go_wp2_with fail
        refine Calls.mono (PB _ (BsZ.put Rbb_13.out Kx_13.out) (SlZ.put Rbu_13.out Kx_13.out)) ?_
        rintro e w14 ⟨Ay, cy, Uy, dy, rfl, b2, t2, j2, i2, bel⟩
        have Rab_14 := Lib.hid (BsZ.below (BsZ.put Rab_13.out Kx_13.out) bel)
        have Rau_14 := Lib.hid (SlZ.below (SlZ.put Rau_13.out Kx_13.out) bel)
        have Rbb_14 := Lib.hid (BsZ.below (BsZ.put Rbb_13.out Kx_13.out) bel)
        have Rbu_14 := Lib.hid (SlZ.below (SlZ.put Rbu_13.out Kx_13.out) bel)
        have Rxb_14 := Lib.hid (BsZ.below (BsZ.put Rxb_13.out Kx_13.out) bel)
        have Rxu_14 := Lib.hid (SlZ.below (SlZ.put Rxu_13.out Kx_13.out) bel)
        have Ka_14 := Lib.hid (Blk.after (Blk.putFar Ka_13.out (Nat.ne_of_lt na_x)) bel)
        have Kb_14 := Lib.hid (Blk.after (Blk.putFar Kb_13.out (Nat.ne_of_lt nb_x)) bel)
        have Kx0_14 := Lib.hid (Blk.after (Blk.putFar Kx0_13.out (Nat.ne_of_lt nx0_x)) bel)
        have Ky0_14 := Lib.hid (Blk.after (Blk.putFar Ky0_13.out (Nat.ne_of_lt ny0_x)) bel)
        have Kv_14 := Lib.hid (Blk.after (Blk.putFar Kv_13.out (Nat.ne_of_lt nv_x)) bel)
        have Kx_14 := Lib.hid (Blk.after (StkB.put Kx_13.out) bel)
        have Ky_14 := Lib.hid (Blk.after (Blk.putFar Ky_13.out (Nat.ne_of_gt nx_y)) bel)
        have H_14 := Lib.hid (GB.step (GB.put H_13.out mx) bel)
        have C_14 := Lib.hid (CodesAt.after (CodesAt.put C_13.out (Nat.ne_of_lt ncc_x) (Nat.le_trans mB (Nat.le_of_lt ncc_x))) bel)
        clear Ka_13 Kb_13 Kx0_13 Ky0_13 Kv_13 Kx_13 Ky_13 Rab_13 Rau_13 Rbb_13 Rbu_13 Rxb_13 Rxu_13 H_13 C_13 pa0 pa1 pa2 fa0 fa1 fa2 za pb0 pb1 pb2 fb0 fb1 fb2 zb px00 px01 px02 fx00 fx01 fx02 zx0 py00 py01 py02 fy00 fy01 fy02 zy0 pv0 pv1 fv0 fv1 zv px0 px1 px2 fx0 fx1 fx2 zx py0 py1 py2 fy0 fy1 fy2 zy bel
        have Ryb_14 := Lib.hid (show BsZ _ _ _ _ from b2)
        clear b2
        have Ryu_14 := Lib.hid (show SlZ _ _ _ _ from t2)
        clear t2
        obtain ⟨pa0, pa1, pa2, fa0, fa1, fa2, za⟩ := Blk.three Ka_14.out
        obtain ⟨pb0, pb1, pb2, fb0, fb1, fb2, zb⟩ := Blk.three Kb_14.out
        obtain ⟨px00, px01, px02, fx00, fx01, fx02, zx0⟩ := Blk.three Kx0_14.out
        obtain ⟨py00, py01, py02, fy00, fy01, fy02, zy0⟩ := Blk.three Ky0_14.out
        obtain ⟨pv0, pv1, fv0, fv1, zv⟩ := Blk.two Kv_14.out
        obtain ⟨px0, px1, px2, fx0, fx1, fx2, zx⟩ := Blk.three Kx_14.out
        obtain ⟨py0, py1, py2, fy0, fy1, fy2, zy⟩ := Blk.three Ky_14.out
        go_wp2_with fail
        go_meet
        exact ⟨e, true, Ax, cx, Ux, dx, Ay, cy, Uy, dy, spx, lx, ux, p12, rfl, rfl, rfl, rfl, ⟨j1, i1, j2, i2, hsx⟩, Lib.hid (GB.put H_14.out my), Lib.hid (Blk.putFar Ka_14.out (Nat.ne_of_lt na_y)), Lib.hid (Blk.putFar Kb_14.out (Nat.ne_of_lt nb_y)), Lib.hid (Blk.putFar Kx0_14.out (Nat.ne_of_lt nx0_y)), Lib.hid (Blk.putFar Ky0_14.out (Nat.ne_of_lt ny0_y)), Lib.hid (BsZ.put Rab_14.out Ky_14.out), Lib.hid (SlZ.put Rau_14.out Ky_14.out), Lib.hid (BsZ.put Rbb_14.out Ky_14.out), Lib.hid (SlZ.put Rbu_14.out Ky_14.out), Lib.hid (CodesAt.put C_14.out (Nat.ne_of_lt ncc_y) (Nat.le_trans mB (Nat.le_of_lt ncc_y))), Lib.hid (Blk.putFar Kx_14.out (Nat.ne_of_lt nx_y)), Lib.hid (StkB.put Ky_14.out), Lib.hid (BsZ.put Rxb_14.out Ky_14.out), Lib.hid (SlZ.put Rxu_14.out Ky_14.out), Lib.hid (BsZ.put Ryb_14.out Ky_14.out), Lib.hid (SlZ.put Ryu_14.out Ky_14.out), HLQ⟩
      · obtain ⟨e, lx, ux, spx, hr⟩ : ∃ e lx ux spx, storeV n sp lb lu vx vy k m = (e, lx, ux, spx) := ⟨_, _, _, _, rfl⟩
        have hsx : spx ≤ n := storeV_le hsp hr
        have PA := GST.out
        have PB := GSU.out
        simp only [StkR, hr] at PA PB
        clear hr
        go_wp2_with fail
        refine Calls.mono (PA _ Rab_12.out Rau_12.out) ?_
        rintro e w13 ⟨Ax, cx, Ux, dx, rfl, b1, t1, j1, i1, bel⟩
        have Rab_13 := Lib.hid (BsZ.below Rab_12.out bel)
        have Rau_13 := Lib.hid (SlZ.below Rau_12.out bel)
        have Rbb_13 := Lib.hid (BsZ.below Rbb_12.out bel)
        have Rbu_13 := Lib.hid (SlZ.below Rbu_12.out bel)
        have Ka_13 := Lib.hid (Blk.after Ka_12.out bel)
        have Kb_13 := Lib.hid (Blk.after Kb_12.out bel)
        have Kx0_13 := Lib.hid (Blk.after Kx0_12.out bel)
        have Ky0_13 := Lib.hid (Blk.after Ky0_12.out bel)
        have Kv_13 := Lib.hid (Blk.after Kv_12.out bel)
        have Kx_13 := Lib.hid (Blk.after Kx_12.out bel)
        have Ky_13 := Lib.hid (Blk.after Ky_12.out bel)
        have H_13 := Lib.hid (GB.step H_12.out bel)
        have C_13 := Lib.hid (CodesAt.after C_12.out bel)
        clear Ka_12 Kb_12 Kx0_12 Ky0_12 Kv_12 Kx_12 Ky_12 Rab_12 Rau_12 Rbb_12 Rbu_12 H_12 C_12 pa0 pa1 pa2 fa0 fa1 fa2 za pb0 pb1 pb2 fb0 fb1 fb2 zb px00 px01 px02 fx00 fx01 fx02 zx0 py00 py01 py02 fy00 fy01 fy02 zy0 pv0 pv1 fv0 fv1 zv px0 px1 px2 fx0 fx1 fx2 zx py0 py1 py2 fy0 fy1 fy2 zy bel
        have Rxb_13 := Lib.hid (show BsZ _ _ _ _ from b1)
        clear b1
        have Rxu_13 := Lib.hid (show SlZ _ _ _ _ from t1)
        clear t1
        obtain ⟨pa0, pa1, pa2, fa0, fa1, fa2, za⟩ := Blk.three Ka_13.out
        obtain ⟨pb0, pb1, pb2, fb0, fb1, fb2, zb⟩ := Blk.three Kb_13.out
        obtain ⟨px00, px01, px02, fx00, fx01, fx02, zx0⟩ := Blk.three Kx0_13.out
        obtain ⟨py00, py01, py02, fy00, fy01, fy02, zy0⟩ := Blk.three Ky0_13.out
        obtain ⟨pv0, pv1, fv0, fv1, zv⟩ := Blk.two Kv_13.out
        obtain ⟨px0, px1, px2, fx0, fx1, fx2, zx⟩ := Blk.three Kx_13.out
        obtain ⟨py0, py1, py2, fy0, fy1, fy2, zy⟩ := Blk.three Ky_13.out
        go_wp2_with fail
        refine Calls.mono (PB _ (BsZ.put Rbb_13.out Kx_13.out) (SlZ.put Rbu_13.out Kx_13.out)) ?_
        rintro e w14 ⟨Ay, cy, Uy, dy, rfl, b2, t2, j2, i2, bel⟩
        have Rab_14 := Lib.hid (BsZ.below (BsZ.put Rab_13.out Kx_13.out) bel)
        have Rau_14 := Lib.hid (SlZ.below (SlZ.put Rau_13.out Kx_13.out) bel)
        have Rbb_14 := Lib.hid (BsZ.below (BsZ.put Rbb_13.out Kx_13.out) bel)
        have Rbu_14 := Lib.hid (SlZ.below (SlZ.put Rbu_13.out Kx_13.out) bel)
        have Rxb_14 := Lib.hid (BsZ.below (BsZ.put Rxb_13.out Kx_13.out) bel)
        have Rxu_14 := Lib.hid (SlZ.below (SlZ.put Rxu_13.out Kx_13.out) bel)
        have Ka_14 := Lib.hid (Blk.after (Blk.putFar Ka_13.out (Nat.ne_of_lt na_x)) bel)
        have Kb_14 := Lib.hid (Blk.after (Blk.putFar Kb_13.out (Nat.ne_of_lt nb_x)) bel)
        have Kx0_14 := Lib.hid (Blk.after (Blk.putFar Kx0_13.out (Nat.ne_of_lt nx0_x)) bel)
        have Ky0_14 := Lib.hid (Blk.after (Blk.putFar Ky0_13.out (Nat.ne_of_lt ny0_x)) bel)
        have Kv_14 := Lib.hid (Blk.after (Blk.putFar Kv_13.out (Nat.ne_of_lt nv_x)) bel)
        have Kx_14 := Lib.hid (Blk.after (StkB.put Kx_13.out) bel)
        have Ky_14 := Lib.hid (Blk.after (Blk.putFar Ky_13.out (Nat.ne_of_gt nx_y)) bel)
        have H_14 := Lib.hid (GB.step (GB.put H_13.out mx) bel)
        have C_14 := Lib.hid (CodesAt.after (CodesAt.put C_13.out (Nat.ne_of_lt ncc_x) (Nat.le_trans mB (Nat.le_of_lt ncc_x))) bel)
        clear Ka_13 Kb_13 Kx0_13 Ky0_13 Kv_13 Kx_13 Ky_13 Rab_13 Rau_13 Rbb_13 Rbu_13 Rxb_13 Rxu_13 H_13 C_13 pa0 pa1 pa2 fa0 fa1 fa2 za pb0 pb1 pb2 fb0 fb1 fb2 zb px00 px01 px02 fx00 fx01 fx02 zx0 py00 py01 py02 fy00 fy01 fy02 zy0 pv0 pv1 fv0 fv1 zv px0 px1 px2 fx0 fx1 fx2 zx py0 py1 py2 fy0 fy1 fy2 zy bel
        have Ryb_14 := Lib.hid (show BsZ _ _ _ _ from b2)
        clear b2
        have Ryu_14 := Lib.hid (show SlZ _ _ _ _ from t2)
        clear t2
        obtain ⟨pa0, pa1, pa2, fa0, fa1, fa2, za⟩ := Blk.three Ka_14.out
        obtain ⟨pb0, pb1, pb2, fb0, fb1, fb2, zb⟩ := Blk.three Kb_14.out
        obtain ⟨px00, px01, px02, fx00, fx01, fx02, zx0⟩ := Blk.three Kx0_14.out
        obtain ⟨py00, py01, py02, fy00, fy01, fy02, zy0⟩ := Blk.three Ky0_14.out
        obtain ⟨pv0, pv1, fv0, fv1, zv⟩ := Blk.two Kv_14.out
        obtain ⟨px0, px1, px2, fx0, fx1, fx2, zx⟩ := Blk.three Kx_14.out
        obtain ⟨py0, py1, py2, fy0, fy1, fy2, zy⟩ := Blk.three Ky_14.out
        go_wp2_with fail
        go_meet
        exact ⟨e, true, Ax, cx, Ux, dx, Ay, cy, Uy, dy, spx, lx, ux, p12, rfl, rfl, rfl, rfl, ⟨j1, i1, j2, i2, hsx⟩, Lib.hid (GB.put H_14.out my), Lib.hid (Blk.putFar Ka_14.out (Nat.ne_of_lt na_y)), Lib.hid (Blk.putFar Kb_14.out (Nat.ne_of_lt nb_y)), Lib.hid (Blk.putFar Kx0_14.out (Nat.ne_of_lt nx0_y)), Lib.hid (Blk.putFar Ky0_14.out (Nat.ne_of_lt ny0_y)), Lib.hid (BsZ.put Rab_14.out Ky_14.out), Lib.hid (SlZ.put Rau_14.out Ky_14.out), Lib.hid (BsZ.put Rbb_14.out Ky_14.out), Lib.hid (SlZ.put Rbu_14.out Ky_14.out), Lib.hid (CodesAt.put C_14.out (Nat.ne_of_lt ncc_y) (Nat.le_trans mB (Nat.le_of_lt ncc_y))), Lib.hid (Blk.putFar Kx_14.out (Nat.ne_of_lt nx_y)), Lib.hid (StkB.put Ky_14.out), Lib.hid (BsZ.put Rxb_14.out Ky_14.out), Lib.hid (SlZ.put Rxu_14.out Ky_14.out), Lib.hid (BsZ.put Ryb_14.out Ky_14.out), Lib.hid (SlZ.put Ryu_14.out Ky_14.out), HLQ⟩
    case rest =>
      clear Ka_12 Kb_12 Kx0_12 Ky0_12 Kv_12 Kx_12 Ky_12 Rab_12 Rau_12 Rbb_12 Rbu_12 H_12 C_12 pa0 pa1 pa2 fa0 fa1 fa2 za pb0 pb1 pb2 fb0 fb1 fb2 zb px00 px01 px02 fx00 fx01 fx02 zx0 py00 py01 py02 fy00 fy01 fy02 zy0 pv0 pv1 fv0 fv1 zv px0 px1 px2 fx0 fx1 fx2 zx py0 py1 py2 fy0 fy1 fy2 zy HLQ GPU GPV GPO GPQ GMO GMP GLO GLP GST GSU hox
      obtain ⟨e, pq, Ax, cx, Ux, dx, Ay, cy, Uy, dy, spx, lx, ux, px, rfl, rfl, rfl, rfl, ⟨j1, j2, j3, j4, hsx⟩, H_20, Ka_20, Kb_20, Kx0_20, Ky0_20, Rab_20, Rau_20, Rbb_20, Rbu_20, C_20, Kx_20, Ky_20, Rxb_20, Rxu_20, Ryb_20, Ryu_20, HLQ⟩ := hcut
      obtain ⟨pa0, pa1, pa2, fa0, fa1, fa2, za⟩ := Blk.three Ka_20.out
      obtain ⟨pb0, pb1, pb2, fb0, fb1, fb2, zb⟩ := Blk.three Kb_20.out
      obtain ⟨px00, px01, px02, fx00, fx01, fx02, zx0⟩ := Blk.three Kx0_20.out
      obtain ⟨py00, py01, py02, fy00, fy01, fy02, zy0⟩ := Blk.three Ky0_20.out
      obtain ⟨px0, px1, px2, fx0, fx1, fx2, zx⟩ := Blk.three Kx_20.out
      obtain ⟨py0, py1, py2, fy0, fy1, fy2, zy⟩ := Blk.three Ky_20.out
      by_cases he : e = 0
      · subst he
        go_upto_region 31 with (fail)
        have HSM := fun (W : World) (b1 : BsZ W Ax n lx) (b2 : BsZ W Ay n lx) (u1 : SlZ W Ux n ux) (u2 : SlZ W Uy n ux) => stk_same Ax Ay Ux Uy n cx cy n dx dy spx lx ux W W.heap.size b1 b2 u1 u2 (Nat.le_refl _) (by unfold maxLen; omega) (by unfold maxLen; omega)
        go_region_with (first
          | (go_at_call 37; refine Calls.mono (HSM _ (BsZ.drew Rxb_20.out) (BsZ.drew Ryb_20.out) (SlZ.drew Rxu_20.out) (SlZ.drew Ryu_20.out)) ?_; rintro e w7 ⟨rfl, bel7⟩; obtain ⟨qx0, qx1, qx2, fqx0, fqx1, fqx2, zqx⟩ := Blk.three (Blk.after (Blk.drew Kx_20.out) bel7); obtain ⟨qy0, qy1, qy2, fqy0, fqy1, fqy2, zqy⟩ := Blk.three (Blk.after (Blk.drew Ky_20.out) bel7); obtain ⟨qx00, qx01, qx02, fqx00, fqx01, fqx02, zqx0⟩ := Blk.three (Blk.after (Blk.drew Kx0_20.out) bel7); obtain ⟨qy00, qy01, qy02, fqy00, fqy01, fqy02, zqy0⟩ := Blk.three (Blk.after (Blk.drew Ky0_20.out) bel7)))
        all_goals
          have bel8 : Below wc.heap.size wc w7 := undrew bel7
          rename_i K9 hK9
          refine hK9 _ _ ?_
          refine wp_ret ?_
          change bodyPost Try.prog Try.f43 _ .ret _ _
          have hA := (StkB.put (A' := Ax) (n' := n) (c' := cx) (U' := Ux) (m' := n) (d' := dx) (sp' := spx) (Blk.after Kx0_20.out bel8))
          have hB := (StkB.put (A' := Ay) (n' := n) (c' := cy) (U' := Uy) (m' := n) (d' := dy) (sp' := spx) (Blk.putFar (A' := Ax) (n' := n) (c' := cx) (U' := Ux) (m' := n) (d' := dx) (sp' := spx) (Blk.after Ky0_20.out bel8) (Nat.ne_of_gt nx0_y0)))
          have hA2 := Blk.putFar (A' := Ay) (n' := n) (c' := cy) (U' := Uy) (m' := n) (d' := dy) (sp' := spx) hA (Nat.ne_of_lt nx0_y0)
          obtain ⟨r0, r1, r2, -, -, -, -⟩ := Blk.three hA2
          obtain ⟨r3, r4, r5, -, -, -, -⟩ := Blk.three hB
          simp only [putStk] at r0 r1 r2 r3 r4 r5
          refine bodyPost_ret (v := .tuple #[.agg #[.slice Ax n cx, .slice Ux n dx, .int .i64 spx], .agg #[.slice Ay n cy, .slice Uy n dy, .int .i64 spx], .bool true]) (by simp [results, Try.results43, go_sem, r0, r1, r2, r3, r4, r5]) rfl ?_
          have KX := Blk.after Kx0_20.out bel8
          have KY := Blk.after Ky0_20.out bel8
          exact ⟨Ax, cx, Ux, dx, Ay, cy, Uy, dy, spx, px, lx, ux, rfl, ⟨j1, j2, j3, j4, hsx⟩, BsZ.put (BsZ.put (BsZ.below Rxb_20.out bel8) KX) (Blk.putFar KY (Nat.ne_of_gt nx0_y0)), SlZ.put (SlZ.put (SlZ.below Rxu_20.out bel8) KX) (Blk.putFar KY (Nat.ne_of_gt nx0_y0)), BsZ.put (BsZ.put (BsZ.below Ryb_20.out bel8) KX) (Blk.putFar KY (Nat.ne_of_gt nx0_y0)), SlZ.put (SlZ.put (SlZ.below Ryu_20.out bel8) KX) (Blk.putFar KY (Nat.ne_of_gt nx0_y0)), CodesAt.put (CodesAt.put (CodesAt.after C_20.out bel8) (Nat.ne_of_lt ncc_x0) (Nat.le_trans mB (Nat.le_of_lt ncc_x0))) (Nat.ne_of_lt ncc_y0) (Nat.le_trans mB (Nat.le_of_lt ncc_y0)), GB.put (GB.put (GB.step H_20.out bel8) mx0) my0, HLQ.out.1, HLQ.out.2⟩
      · go_upto_region 30 with (fail)
        go_region
        rename_i K9 hK9
        have Rab_21 := Lib.hid (show BsZ (((((((wc.setCell ⟨w.heap.size + 1 + 1, 0, none⟩ (.slice Aa n ca)).setCell ⟨w.heap.size + 1 + 1, 1, none⟩ (.slice Ua n da)).setCell ⟨w.heap.size + 1 + 1, 2, none⟩ (.int .i64 sp)).setCell ⟨w.heap.size + 1 + 1 + 1, 0, none⟩ (.slice Ab n cb)).setCell ⟨w.heap.size + 1 + 1 + 1, 1, none⟩ (.slice Ub n db)).setCell ⟨w.heap.size + 1 + 1 + 1, 2, none⟩ (.int .i64 sp)).drew) _ _ _ from (BsZ.drew (BsZ.put (BsZ.put Rab_20.out Kx0_20.out) (Blk.putFar Ky0_20.out (Nat.ne_of_gt nx0_y0)))))
        have Rau_21 := Lib.hid (show SlZ (((((((wc.setCell ⟨w.heap.size + 1 + 1, 0, none⟩ (.slice Aa n ca)).setCell ⟨w.heap.size + 1 + 1, 1, none⟩ (.slice Ua n da)).setCell ⟨w.heap.size + 1 + 1, 2, none⟩ (.int .i64 sp)).setCell ⟨w.heap.size + 1 + 1 + 1, 0, none⟩ (.slice Ab n cb)).setCell ⟨w.heap.size + 1 + 1 + 1, 1, none⟩ (.slice Ub n db)).setCell ⟨w.heap.size + 1 + 1 + 1, 2, none⟩ (.int .i64 sp)).drew) _ _ _ from (SlZ.drew (SlZ.put (SlZ.put Rau_20.out Kx0_20.out) (Blk.putFar Ky0_20.out (Nat.ne_of_gt nx0_y0)))))
        have Rbb_21 := Lib.hid (show BsZ (((((((wc.setCell ⟨w.heap.size + 1 + 1, 0, none⟩ (.slice Aa n ca)).setCell ⟨w.heap.size + 1 + 1, 1, none⟩ (.slice Ua n da)).setCell ⟨w.heap.size + 1 + 1, 2, none⟩ (.int .i64 sp)).setCell ⟨w.heap.size + 1 + 1 + 1, 0, none⟩ (.slice Ab n cb)).setCell ⟨w.heap.size + 1 + 1 + 1, 1, none⟩ (.slice Ub n db)).setCell ⟨w.heap.size + 1 + 1 + 1, 2, none⟩ (.int .i64 sp)).drew) _ _ _ from (BsZ.drew (BsZ.put (BsZ.put Rbb_20.out Kx0_20.out) (Blk.putFar Ky0_20.out (Nat.ne_of_gt nx0_y0)))))
        have Rbu_21 := Lib.hid (show SlZ (((((((wc.setCell ⟨w.heap.size + 1 + 1, 0, none⟩ (.slice Aa n ca)).setCell ⟨w.heap.size + 1 + 1, 1, none⟩ (.slice Ua n da)).setCell ⟨w.heap.size + 1 + 1, 2, none⟩ (.int .i64 sp)).setCell ⟨w.heap.size + 1 + 1 + 1, 0, none⟩ (.slice Ab n cb)).setCell ⟨w.heap.size + 1 + 1 + 1, 1, none⟩ (.slice Ub n db)).setCell ⟨w.heap.size + 1 + 1 + 1, 2, none⟩ (.int .i64 sp)).drew) _ _ _ from (SlZ.drew (SlZ.put (SlZ.put Rbu_20.out Kx0_20.out) (Blk.putFar Ky0_20.out (Nat.ne_of_gt nx0_y0)))))
        have Rxb_21 := Lib.hid (show BsZ (((((((wc.setCell ⟨w.heap.size + 1 + 1, 0, none⟩ (.slice Aa n ca)).setCell ⟨w.heap.size + 1 + 1, 1, none⟩ (.slice Ua n da)).setCell ⟨w.heap.size + 1 + 1, 2, none⟩ (.int .i64 sp)).setCell ⟨w.heap.size + 1 + 1 + 1, 0, none⟩ (.slice Ab n cb)).setCell ⟨w.heap.size + 1 + 1 + 1, 1, none⟩ (.slice Ub n db)).setCell ⟨w.heap.size + 1 + 1 + 1, 2, none⟩ (.int .i64 sp)).drew) _ _ _ from (BsZ.drew (BsZ.put (BsZ.put Rxb_20.out Kx0_20.out) (Blk.putFar Ky0_20.out (Nat.ne_of_gt nx0_y0)))))
        have Rxu_21 := Lib.hid (show SlZ (((((((wc.setCell ⟨w.heap.size + 1 + 1, 0, none⟩ (.slice Aa n ca)).setCell ⟨w.heap.size + 1 + 1, 1, none⟩ (.slice Ua n da)).setCell ⟨w.heap.size + 1 + 1, 2, none⟩ (.int .i64 sp)).setCell ⟨w.heap.size + 1 + 1 + 1, 0, none⟩ (.slice Ab n cb)).setCell ⟨w.heap.size + 1 + 1 + 1, 1, none⟩ (.slice Ub n db)).setCell ⟨w.heap.size + 1 + 1 + 1, 2, none⟩ (.int .i64 sp)).drew) _ _ _ from (SlZ.drew (SlZ.put (SlZ.put Rxu_20.out Kx0_20.out) (Blk.putFar Ky0_20.out (Nat.ne_of_gt nx0_y0)))))
        have Ryb_21 := Lib.hid (show BsZ (((((((wc.setCell ⟨w.heap.size + 1 + 1, 0, none⟩ (.slice Aa n ca)).setCell ⟨w.heap.size + 1 + 1, 1, none⟩ (.slice Ua n da)).setCell ⟨w.heap.size + 1 + 1, 2, none⟩ (.int .i64 sp)).setCell ⟨w.heap.size + 1 + 1 + 1, 0, none⟩ (.slice Ab n cb)).setCell ⟨w.heap.size + 1 + 1 + 1, 1, none⟩ (.slice Ub n db)).setCell ⟨w.heap.size + 1 + 1 + 1, 2, none⟩ (.int .i64 sp)).drew) _ _ _ from (BsZ.drew (BsZ.put (BsZ.put Ryb_20.out Kx0_20.out) (Blk.putFar Ky0_20.out (Nat.ne_of_gt nx0_y0)))))
        have Ryu_21 := Lib.hid (show SlZ (((((((wc.setCell ⟨w.heap.size + 1 + 1, 0, none⟩ (.slice Aa n ca)).setCell ⟨w.heap.size + 1 + 1, 1, none⟩ (.slice Ua n da)).setCell ⟨w.heap.size + 1 + 1, 2, none⟩ (.int .i64 sp)).setCell ⟨w.heap.size + 1 + 1 + 1, 0, none⟩ (.slice Ab n cb)).setCell ⟨w.heap.size + 1 + 1 + 1, 1, none⟩ (.slice Ub n db)).setCell ⟨w.heap.size + 1 + 1 + 1, 2, none⟩ (.int .i64 sp)).drew) _ _ _ from (SlZ.drew (SlZ.put (SlZ.put Ryu_20.out Kx0_20.out) (Blk.putFar Ky0_20.out (Nat.ne_of_gt nx0_y0)))))
        have Ka_21 := Lib.hid (show Blk (((((((wc.setCell ⟨w.heap.size + 1 + 1, 0, none⟩ (.slice Aa n ca)).setCell ⟨w.heap.size + 1 + 1, 1, none⟩ (.slice Ua n da)).setCell ⟨w.heap.size + 1 + 1, 2, none⟩ (.int .i64 sp)).setCell ⟨w.heap.size + 1 + 1 + 1, 0, none⟩ (.slice Ab n cb)).setCell ⟨w.heap.size + 1 + 1 + 1, 1, none⟩ (.slice Ub n db)).setCell ⟨w.heap.size + 1 + 1 + 1, 2, none⟩ (.int .i64 sp)).drew) _ _ _ from (Blk.drew (Blk.putFar (Blk.putFar Ka_20.out (Nat.ne_of_lt na_x0)) (Nat.ne_of_lt na_y0))))
        have Kb_21 := Lib.hid (show Blk (((((((wc.setCell ⟨w.heap.size + 1 + 1, 0, none⟩ (.slice Aa n ca)).setCell ⟨w.heap.size + 1 + 1, 1, none⟩ (.slice Ua n da)).setCell ⟨w.heap.size + 1 + 1, 2, none⟩ (.int .i64 sp)).setCell ⟨w.heap.size + 1 + 1 + 1, 0, none⟩ (.slice Ab n cb)).setCell ⟨w.heap.size + 1 + 1 + 1, 1, none⟩ (.slice Ub n db)).setCell ⟨w.heap.size + 1 + 1 + 1, 2, none⟩ (.int .i64 sp)).drew) _ _ _ from (Blk.drew (Blk.putFar (Blk.putFar Kb_20.out (Nat.ne_of_lt nb_x0)) (Nat.ne_of_lt nb_y0))))
        have Kx0_21 := Lib.hid (show Blk (((((((wc.setCell ⟨w.heap.size + 1 + 1, 0, none⟩ (.slice Aa n ca)).setCell ⟨w.heap.size + 1 + 1, 1, none⟩ (.slice Ua n da)).setCell ⟨w.heap.size + 1 + 1, 2, none⟩ (.int .i64 sp)).setCell ⟨w.heap.size + 1 + 1 + 1, 0, none⟩ (.slice Ab n cb)).setCell ⟨w.heap.size + 1 + 1 + 1, 1, none⟩ (.slice Ub n db)).setCell ⟨w.heap.size + 1 + 1 + 1, 2, none⟩ (.int .i64 sp)).drew) _ _ _ from (Blk.drew (Blk.putFar (StkB.put Kx0_20.out) (Nat.ne_of_lt nx0_y0))))
        have Ky0_21 := Lib.hid (show Blk (((((((wc.setCell ⟨w.heap.size + 1 + 1, 0, none⟩ (.slice Aa n ca)).setCell ⟨w.heap.size + 1 + 1, 1, none⟩ (.slice Ua n da)).setCell ⟨w.heap.size + 1 + 1, 2, none⟩ (.int .i64 sp)).setCell ⟨w.heap.size + 1 + 1 + 1, 0, none⟩ (.slice Ab n cb)).setCell ⟨w.heap.size + 1 + 1 + 1, 1, none⟩ (.slice Ub n db)).setCell ⟨w.heap.size + 1 + 1 + 1, 2, none⟩ (.int .i64 sp)).drew) _ _ _ from (Blk.drew (StkB.put (Blk.putFar Ky0_20.out (Nat.ne_of_gt nx0_y0)))))
        have Kx_21 := Lib.hid (show Blk (((((((wc.setCell ⟨w.heap.size + 1 + 1, 0, none⟩ (.slice Aa n ca)).setCell ⟨w.heap.size + 1 + 1, 1, none⟩ (.slice Ua n da)).setCell ⟨w.heap.size + 1 + 1, 2, none⟩ (.int .i64 sp)).setCell ⟨w.heap.size + 1 + 1 + 1, 0, none⟩ (.slice Ab n cb)).setCell ⟨w.heap.size + 1 + 1 + 1, 1, none⟩ (.slice Ub n db)).setCell ⟨w.heap.size + 1 + 1 + 1, 2, none⟩ (.int .i64 sp)).drew) _ _ _ from (Blk.drew (Blk.putFar (Blk.putFar Kx_20.out (Nat.ne_of_gt nx0_x)) (Nat.ne_of_gt ny0_x))))
        have Ky_21 := Lib.hid (show Blk (((((((wc.setCell ⟨w.heap.size + 1 + 1, 0, none⟩ (.slice Aa n ca)).setCell ⟨w.heap.size + 1 + 1, 1, none⟩ (.slice Ua n da)).setCell ⟨w.heap.size + 1 + 1, 2, none⟩ (.int .i64 sp)).setCell ⟨w.heap.size + 1 + 1 + 1, 0, none⟩ (.slice Ab n cb)).setCell ⟨w.heap.size + 1 + 1 + 1, 1, none⟩ (.slice Ub n db)).setCell ⟨w.heap.size + 1 + 1 + 1, 2, none⟩ (.int .i64 sp)).drew) _ _ _ from (Blk.drew (Blk.putFar (Blk.putFar Ky_20.out (Nat.ne_of_gt nx0_y)) (Nat.ne_of_gt ny0_y))))
        have H_21 := Lib.hid (show w.grownBy (((((((wc.setCell ⟨w.heap.size + 1 + 1, 0, none⟩ (.slice Aa n ca)).setCell ⟨w.heap.size + 1 + 1, 1, none⟩ (.slice Ua n da)).setCell ⟨w.heap.size + 1 + 1, 2, none⟩ (.int .i64 sp)).setCell ⟨w.heap.size + 1 + 1 + 1, 0, none⟩ (.slice Ab n cb)).setCell ⟨w.heap.size + 1 + 1 + 1, 1, none⟩ (.slice Ub n db)).setCell ⟨w.heap.size + 1 + 1 + 1, 2, none⟩ (.int .i64 sp)).drew) (some g) from (GB.dr (GB.put (GB.put H_20.out mx0) my0)))
        have C_21 := Lib.hid (show CodesAt (((((((wc.setCell ⟨w.heap.size + 1 + 1, 0, none⟩ (.slice Aa n ca)).setCell ⟨w.heap.size + 1 + 1, 1, none⟩ (.slice Ua n da)).setCell ⟨w.heap.size + 1 + 1, 2, none⟩ (.int .i64 sp)).setCell ⟨w.heap.size + 1 + 1 + 1, 0, none⟩ (.slice Ab n cb)).setCell ⟨w.heap.size + 1 + 1 + 1, 1, none⟩ (.slice Ub n db)).setCell ⟨w.heap.size + 1 + 1 + 1, 2, none⟩ (.int .i64 sp)).drew) _ _ _ _ _ _ _ from (CodesAt.dr (CodesAt.put (CodesAt.put C_20.out (Nat.ne_of_lt ncc_x0) (Nat.le_trans mB (Nat.le_of_lt ncc_x0))) (Nat.ne_of_lt ncc_y0) (Nat.le_trans mB (Nat.le_of_lt ncc_y0)))))
        clear Ka_20 Kb_20 Kx0_20 Ky0_20 Kx_20 Ky_20 Rab_20 Rau_20 Rbb_20 Rbu_20 Rxb_20 Rxu_20 Ryb_20 Ryu_20 H_20 C_20 pa0 pa1 pa2 fa0 fa1 fa2 za pb0 pb1 pb2 fb0 fb1 fb2 zb px00 px01 px02 fx00 fx01 fx02 zx0 py00 py01 py02 fy00 fy01 fy02 zy0 px0 px1 px2 fx0 fx1 fx2 zx py0 py1 py2 fy0 fy1 fy2 zy
        generalize ((((((wc.setCell ⟨w.heap.size + 1 + 1, 0, none⟩ (.slice Aa n ca)).setCell ⟨w.heap.size + 1 + 1, 1, none⟩ (.slice Ua n da)).setCell ⟨w.heap.size + 1 + 1, 2, none⟩ (.int .i64 sp)).setCell ⟨w.heap.size + 1 + 1 + 1, 0, none⟩ (.slice Ab n cb)).setCell ⟨w.heap.size + 1 + 1 + 1, 1, none⟩ (.slice Ub n db)).setCell ⟨w.heap.size + 1 + 1 + 1, 2, none⟩ (.int .i64 sp)).drew = wf at *
        obtain ⟨pa0, pa1, pa2, fa0, fa1, fa2, za⟩ := Blk.three Ka_21.out
        obtain ⟨pb0, pb1, pb2, fb0, fb1, fb2, zb⟩ := Blk.three Kb_21.out
        obtain ⟨px00, px01, px02, fx00, fx01, fx02, zx0⟩ := Blk.three Kx0_21.out
        obtain ⟨py00, py01, py02, fy00, fy01, fy02, zy0⟩ := Blk.three Ky0_21.out
        obtain ⟨px0, px1, px2, fx0, fx1, fx2, zx⟩ := Blk.three Kx_21.out
        obtain ⟨py0, py1, py2, fy0, fy1, fy2, zy⟩ := Blk.three Ky_21.out
        refine hK9 _ _ ?_
        refine wp_ret ?_
        change bodyPost Try.prog Try.f43 _ .ret _ _
        refine bodyPost_ret (v := .tuple #[.agg #[.slice Aa n ca, .slice Ua n da, .int .i64 sp], .agg #[.slice Ab n cb, .slice Ub n db, .int .i64 sp], .bool true]) (by simp [results, Try.results43, go_sem, px00, px01, px02, py00, py01, py02]) rfl ?_
        exact ⟨Aa, ca, Ua, da, Ab, cb, Ub, db, sp, px, lb, lu, rfl, ⟨q1, q2, q3, q4, hsp⟩, Rab_21.out, Rau_21.out, Rbb_21.out, Rbu_21.out, C_21.out, H_21.out, HLQ.out.1, HLQ.out.2⟩
end Go.Proofs.Ytgamodmenlhedaa
