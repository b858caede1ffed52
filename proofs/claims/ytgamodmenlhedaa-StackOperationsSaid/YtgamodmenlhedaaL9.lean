/- The draws Word and Value; the sanity check of chapter 9; a new stack. -/
import Derived.Test.YtgamodmenlhedaaRmv
import Derived.Test.YtgamodmenlhedaaCo
import Derived.Test.YtgamodmenlhedaaStk
namespace Go.Proofs.Ytgamodmenlhedaa
open Go.RowKit
set_option linter.unusedVariables false
set_option maxRecDepth 10000

theorem Reads.grownNe {w w' : World} {B size n g : Nat} {t : TypeId} {cs : Array Value} {A : Option Addr} {xs : List Value} (h : Reads w B size A n xs) (hg : Blk w g t cs) (hne : ∀ x ∈ xs, x ∉ cs) (hw : w.grownBy w' (some g)) (hB : B ≤ w.heap.size) : Reads w' B size A n xs :=
  ⟨h.1, fun hn => by
    obtain ⟨ad, e, hb, hc⟩ := h.2 hn
    refine ⟨ad, e, hb, fun j v hv => ?_⟩
    have hcj := hc j v hv
    by_cases hbl : ad.block = g
    · exfalso
      unfold World.cell? at hcj
      rw [block_of_add, hbl, show w.heap[g]? = _ from hg] at hcj
      simp only at hcj
      split at hcj
      · cases hcj
      · exact hne v (List.mem_of_getElem? hv) (Array.mem_of_getElem? hcj)
    · rw [World.cell?_of_block (hw.block _ (by rw [block_of_add]; omega) (by rw [block_of_add]; intro e; exact hbl (by injection e)))]
      exact hcj⟩
section
variable {w w' : World} {A : Option Addr} {n : Nat} {l : List Nat} {u : List Bool} {g : Nat} {t : TypeId} {cs : Array Value}
theorem BsZ.grown (h : BsZ w A n l) (hg : Blk w g t cs) (hne : ∀ a : Int, .int .u8 a ∉ cs) (hw : w.grownBy w' (some g)) : BsZ w' A n l :=
  ⟨Reads.more (Reads.grownNe h.1 hg (fun x hx => by obtain ⟨k, _, rfl⟩ := List.mem_map.1 hx; exact hne _) hw (Nat.le_refl _)) hw.size, h.2⟩
theorem SlZ.grown (h : SlZ w A n u) (hg : Blk w g t cs) (hne : ∀ a : Bool, .bool a ∉ cs) (hw : w.grownBy w' (some g)) : SlZ w' A n u :=
  Reads.more (Reads.grownNe h hg (fun x hx => by obtain ⟨k, _, rfl⟩ := List.mem_map.1 hx; exact hne _) hw (Nat.le_refl _)) hw.size
end
section
variable {w w' : World} {B g n c p : Nat} {A : Option Addr} {l : List Nat}
theorem CodesAt.alloc (h : CodesAt w B g A n c l p) (o : Obj) : CodesAt (w.alloc o) B g A n c l p := ⟨h.1.alloc o, h.2.1.alloc (by have := h.1.lt; have := h.2.2.2.1; omega) o, h.2.2⟩
theorem CodesAt.after (h : CodesAt w B g A n c l p) (hb : Below w.heap.size w w') : CodesAt w' B g A n c l p := ⟨h.1.after hb, h.2.1.below (hb.mono (by have := h.1.lt; have := h.2.2.2.1; omega)), h.2.2⟩
theorem CodesAt.put (h : CodesAt w B g A n c l p) {g' : Nat} (hne : g ≠ g') (hB : B ≤ g') {A' U' : Option Addr} {n' c' m' d' : Nat} {sp' : Int} : CodesAt (putStk w g' A' n' c' U' m' d' sp') B g A n c l p :=
  ⟨h.1.putFar hne, h.2.1.below (Below.put (Below.refl B w) hB), h.2.2⟩
end
theorem grownBy_drewN' (w : World) (k : Nat) (r : Option Nat) : w.grownBy (w.drewN k) r := by
  have h := below_drewN (Below.refl w.heap.size w) k
  exact ⟨h.os, h.tape, h.output, h.size, fun j hj _ => h.block j hj⟩
theorem grownBy_of_below {w w' : World} (h : Below w.heap.size w w') (r : Option Nat) : w.grownBy w' r := ⟨h.os, h.tape, h.output, h.size, fun j hj _ => h.block j hj⟩
theorem grownBy_trans {a b c : World} {g : Nat} (h : a.grownBy b (some g)) (k : b.grownBy c (some g)) : a.grownBy c (some g) :=
  ⟨k.os.trans h.os, k.tape.trans h.tape, k.output.trans h.output, Nat.le_trans h.size k.size, fun j hj hn => (k.block j (Nat.lt_of_lt_of_le hj h.size) hn).trans (h.block j hj hn)⟩
theorem below_of_grown {w w' : World} {B g : Nat} (h : w.grownBy w' (some g)) (hB : B ≤ g) (hB' : B ≤ w.heap.size) : Below B w w' := ⟨h.os, h.tape, h.output, h.size, fun j hj => h.block j (by omega) (by intro e; injection e; omega)⟩

theorem grownBy_set {a b : World} {g : Nat} (h : a.grownBy b (some g)) {p : Addr} (hp : a.heap.size ≤ p.block) (v : Value) : a.grownBy (b.setCell p v) (some g) :=
  ⟨h.os, h.tape, h.output, by have := h.size; simpa [World.setCell] using this, fun j hj hn => (Below.heap_setCell b p v j (by omega)).trans (h.block j hj hn)⟩
theorem CodesAt.set {w : World} {B g n c p : Nat} {A : Option Addr} {l : List Nat} (h : CodesAt w B g A n c l p) {q : Addr} (hne : g ≠ q.block) (hB : B ≤ q.block) (v : Value) : CodesAt (w.setCell q v) B g A n c l p :=
  ⟨h.1.far hne v, h.2.1.below ((Below.refl B w).setCell hB v), h.2.2⟩
theorem Below.al {w0 w : World} (h : Below w0.heap.size w0 w) (o : Obj) : Below w0.heap.size w0 (w.alloc o) := h.alloc h.size o
theorem Below.step {w0 W w' : World} (h : Below w0.heap.size w0 W) (hb : Below W.heap.size W w') : Below w0.heap.size w0 w' := h.trans (hb.mono h.size)
theorem Below.stepG {w0 W w' : World} {g : Nat} (h : Below w0.heap.size w0 W) (hg : W.grownBy w' (some g)) (le : w0.heap.size ≤ g) : Below w0.heap.size w0 w' := h.trans (below_of_grown hg le h.size)
/-- a choice, and the list of choices behind it -/
theorem next_d (B g : Nat) (A : Option Addr) (n c : Nat) (l : List Nat) (p : Nat) (m : Int) (w : World) (h : CodesAt w B g A n c l p) (hm : m ≤ 1000000) (hm0 : -1000000 ≤ m) :
    Calls Try.prog 28 #[.pointer (some ⟨g, 0, none⟩), .int .i64 m] w fun e w' => ∃ v p' : Nat, (v = 0 ∨ (v : Int) < m) ∧ e = .returned (.int .i64 v) ∧ CodesAt w' B g A n c l p' ∧ w.grownBy w' (some g) :=
  (next_any B g A n c l p m w h hm hm0).mono fun e w' hh => by
    obtain ⟨v, p', k, hv, rfl, rfl, hc⟩ := hh
    refine ⟨v, p', hv, rfl, hc, grownBy_trans ?_ (grownBy_drewN' _ k _)⟩
    exact ⟨rfl, rfl, rfl, by simp [World.setCell], fun j hj hn => Below.heap_setCell w ⟨g, 1, none⟩ _ j (fun e => hn (by rw [e]))⟩
theorem u64_ex (x : Int) (h : 0 ≤ x) (h' : x < 18446744073709551616) : ∃ y : Nat, y < 18446744073709551616 ∧ x = (y : Int) := ⟨x.toNat, by omega, by omega⟩
theorem wrap_ex (x : Int) : ∃ y : Nat, y < 18446744073709551616 ∧ IntKind.u64.wrap x = (y : Int) := by
  rw [IntKind.wrap_u64]
  exact u64_ex _ (by omega) (by omega)

set_option maxHeartbeats 1000000 in
theorem word_d (B g : Nat) (A : Option Addr) (n c : Nat) (l : List Nat) (p : Nat) (w : World) (h : CodesAt w B g A n c l p) :
    Calls Try.prog 65 #[.pointer (some ⟨g, 0, none⟩)] w fun e w' => ∃ v p' : Nat, v < 18446744073709551616 ∧ e = .returned (.int .u64 v) ∧ CodesAt w' B g A n c l p' ∧ w.grownBy w' (some g) := by
  have HC := Lib.hid h
  clear h
  go_enter Try.func65, Try.ntmps65
  go_wp2_with fail
  refine (next_d _ _ _ _ _ _ _ 6 _ HC.out (by omega) (by omega)).mono ?_
  rintro e w1 ⟨v, p1, hv, rfl, c1, g1⟩
  have HC1 := Lib.hid c1
  have HG1 := Lib.hid g1
  clear HC c1 g1
  have hcase : v = 0 ∨ v = 1 ∨ v = 2 ∨ (3 ≤ v ∧ v < 6) := by omega
  clear hv
  rcases hcase with rfl | rfl | rfl | ⟨h3, h6⟩
  · go_wp2_with fail
    refine (next_d _ _ _ _ _ _ _ 3 _ HC1.out (by omega) (by omega)).mono ?_
    rintro e w2 ⟨v, p2, hv, rfl, c2, g2⟩
    go_wp2
    go_ret
    obtain ⟨y, hy, e⟩ := u64_ex (18446744073709551615 - (v : Int)) (by omega) (by omega)
    exact ⟨y, p2, hy, ret_int e, c2, grownBy_trans HG1.out g2⟩
  · go_wp2_with fail
    refine (next_d _ _ _ _ _ _ _ 64 _ HC1.out (by omega) (by omega)).mono ?_
    rintro e w2 ⟨v, p2, hv, rfl, c2, g2⟩
    have hv0 : (0 : Int) ≤ (v : Int) := by omega
    have hv1 : (v : Int) < 64 := by omega
    have hv2 : v < 64 := by omega
    go_wp2
    go_ret
    obtain ⟨y, hy, e⟩ := wrap_ex (2 ^ v)
    exact ⟨y, p2, hy, ret_int e, c2, grownBy_trans HG1.out g2⟩
  · go_wp2
    go_ret
    exact ⟨0, p1, by omega, rfl, HC1.out, HG1.out⟩
  · have h3' : ¬ (v = 0) := by omega
    have h4' : ¬ (v = 1) := by omega
    have h5' : ¬ (v = 2) := by omega
    have h3'' : ¬ ((v : Int) = 0) := by omega
    have h4'' : ¬ ((v : Int) = 1) := by omega
    have h5'' : ¬ ((v : Int) = 2) := by omega
    go_wp2_with fail
    refine (next_d _ _ _ _ _ _ _ 256 _ HC1.out (by omega) (by omega)).mono ?_
    rintro e w2 ⟨v, p2, hv, rfl, c2, g2⟩
    go_wp2
    go_ret
    exact ⟨v, p2, by omega, rfl, c2, grownBy_trans HG1.out g2⟩

set_option maxHeartbeats 1000000 in
theorem value_d (B g : Nat) (A : Option Addr) (n c : Nat) (l : List Nat) (p : Nat) (w : World) (h : CodesAt w B g A n c l p) :
    Calls Try.prog 32 #[.pointer (some ⟨g, 0, none⟩)] w fun e w' => ∃ a b p' : Nat, (a < 18446744073709551616 ∧ b < 18446744073709551616) ∧ e = .returned (.agg #[.int .u64 a, .int .u64 b]) ∧ CodesAt w' B g A n c l p' ∧ w.grownBy w' (some g) := by
  have HC := Lib.hid h
  have hg := h.1.lt
  have HR0 := Lib.hid (show Blk (w.alloc (.cells #[.int .u64 0, .int .u64 0] 52)) w.heap.size 52 #[.int .u64 0, .int .u64 0] from Blk.new w _ _)
  clear h
  go_enter Try.func32, Try.ntmps32
  go_wp2_with fail
  refine (word_d _ _ _ _ _ _ _ _ (HC.out.alloc _)).mono ?_
  rintro e w1 ⟨x, p1, hx, rfl, c1, g1⟩
  have HC1 := Lib.hid c1
  have HG1 := Lib.hid (grownBy_trans (grownBy_of_below ((Below.refl w.heap.size w).alloc (Nat.le_refl _) _) (some g)) g1)
  have HR1 := Lib.hid (HR0.out.grown g1 (by intro e; injection e; omega))
  have hg1 := HC1.out.1.lt
  clear HC c1 g1 HR0
  go_wp2_with fail
  refine (next_d _ _ _ _ _ _ _ 2 _ (HC1.out.alloc _) (by omega) (by omega)).mono ?_
  rintro e w2 ⟨v, p2, hv, rfl, c2, g2⟩
  have HV2 := Lib.hid ((Blk.new w1 52 #[.int .u64 x, .int .u64 0]).grown g2 (by intro e; injection e; omega))
  have HR2 := Lib.hid ((HR1.out.alloc (.cells #[.int .u64 x, .int .u64 0] 52)).grown g2 (by intro e; injection e; omega))
  have HC2 := Lib.hid c2
  have HG2 := Lib.hid (grownBy_trans HG1.out (grownBy_trans (grownBy_of_below ((Below.refl w1.heap.size w1).alloc (Nat.le_refl _) _) (some g)) g2))
  have l12 : w.heap.size < w1.heap.size := HR1.out.lt
  clear HC1 c2 g2 HR1 HG1
  have hcase : v = 1 ∨ v = 0 := by omega
  clear hv
  rcases hcase with rfl | rfl
  · go_wp2_with fail
    refine (word_d _ _ _ _ _ _ _ _ HC2.out).mono ?_
    rintro e w3 ⟨y, p3, hy, rfl, c3, g3⟩
    have HV3 := Lib.hid (HV2.out.grown g3 (by intro e; injection e; omega))
    have HR3 := Lib.hid (HR2.out.grown g3 (by intro e; injection e; omega))
    have HC3 := Lib.hid c3
    have HG3 := Lib.hid (grownBy_trans HG2.out g3)
    clear c3 g3 HV2 HR2 HC2 HG2
    obtain ⟨q0, q1, f0, f1, z0⟩ := HR3.out.two
    obtain ⟨r0, r1, k0, k1, z1⟩ := HV3.out.two
    go_wp2
    have hB := HC3.out.2.2.2.1
    refine bodyPost_ret (v := .agg #[.int .u64 x, .int .u64 y]) (by simp [results, Try.results32, go_sem, *]) rfl ?_
    exact ⟨x, y, p3, ⟨hx, hy⟩, rfl, ((HC3.out.set (by simp; omega) (by simp; omega) _).set (by simp; omega) (by simp; omega) _).set (by simp; omega) (by simp; omega) _, grownBy_set (grownBy_set (grownBy_set HG3.out (by simp; omega) _) (by simp) _) (by simp) _⟩
  · obtain ⟨q0, q1, f0, f1, z0⟩ := HR2.out.two
    obtain ⟨r0, r1, k0, k1, z1⟩ := HV2.out.two
    go_wp2
    have hB := HC2.out.2.2.2.1
    refine bodyPost_ret (v := .agg #[.int .u64 x, .int .u64 (0 : Nat)]) (by simp [results, Try.results32, go_sem, *]) rfl ?_
    exact ⟨x, 0, p2, ⟨hx, by omega⟩, rfl, (HC2.out.set (by simp; omega) (by simp; omega) _).set (by simp; omega) (by simp; omega) _, grownBy_set (grownBy_set HG2.out (by simp) _) (by simp) _⟩

/-- a new stack of so many bytes -/
theorem new_stk (n : Nat) (hn : n ≤ 1048576) (w : World) :
    Calls Try.prog 30 #[.int .i64 (n : Int), .int .i64 16] w (StkR w n (0, List.replicate n 0, List.replicate n false, n - n % 16)) :=
  (stknew_any n 16 (by omega) (by omega) (by omega) (by omega) w).mono fun e w' h => by
    have hr : newR (n : Int) 16 = (0, n, (n : Int) - n % 16) := by
      unfold newR
      rw [if_pos ⟨by omega, by omega, by decide +kernel⟩]; rfl
    rw [hr] at h
    obtain ⟨A1, c1, A2, c2, rfl, o1, o2, hb⟩ := h
    refine ⟨A1, c1, A2, c2, ?_, Bs.of_own o1 (fun x hx => by rw [(List.mem_replicate.1 hx).2]; decide), Sl.of_own o2, own_cap o1, own_cap o2, hb⟩
    rw [show ((n - n % 16 : Nat) : Int) = (n : Int) - n % 16 by omega]
theorem refnew_stk (n : Nat) (hn : n ≤ 1048576) (w : World) :
    Calls Try.prog 41 #[.int .i64 (n : Int), .int .i64 16] w (StkR w n (0, List.replicate n 0, List.replicate n false, n - n % 16)) :=
  (refstknew_any n 16 (by omega) (by omega) (by omega) (by omega) w).mono fun e w' h => by
    have hr : newR (n : Int) 16 = (0, n, (n : Int) - n % 16) := by
      unfold newR
      rw [if_pos ⟨by omega, by omega, by decide +kernel⟩]; rfl
    rw [hr] at h
    obtain ⟨A1, c1, A2, c2, rfl, o1, o2, hb⟩ := h
    refine ⟨A1, c1, A2, c2, ?_, Bs.of_own o1 (fun x hx => by rw [(List.mem_replicate.1 hx).2]; decide), Sl.of_own o2, own_cap o1, own_cap o2, hb⟩
    rw [show ((n - n % 16 : Nat) : Int) = (n : Int) - n % 16 by omega]
set_option maxHeartbeats 1000000 in
theorem awake09 (w : World) : Calls Try.prog 29 #[] w fun e w' => e = .returned (.bool true) ∧ Below w.heap.size w w' := by
  have hr : newR 40 16 = (0, 40, 32) := by decide +kernel
  have hc := stknew_any 40 16 (by omega) (by omega) (by omega) (by omega) w
  rw [hr] at hc
  go_enter Try.func29, Try.ntmps29
  go_wp2_with fail
  refine hc.mono ?_
  rintro e w1 ⟨A1, c1, A2, c2, rfl, _, _, hb⟩
  clear hc
  go_wp2
  go_ret
  exact ⟨rfl, hb.alloc (hb.size) _⟩
end Go.Proofs.Ytgamodmenlhedaa
