/- Draws: the list of choices carried along; the draw Int. -/
import Derived.Test.YtmeoabpigibaoaaZo
namespace Go.Proofs.Ytmeoabpigibaoaa
open Go.RowKit
set_option linter.unusedVariables false
set_option maxRecDepth 10000

theorem grownBy_step {a b c : World} {g : Nat} {row : Option Nat} (h : a.grownBy b (some g)) (k : b.grownBy c row) (hr : ∀ j, row = some j → a.heap.size ≤ j ∨ j = g) : a.grownBy c (some g) :=
  ⟨k.os.trans h.os, k.tape.trans h.tape, k.output.trans h.output, Nat.le_trans h.size k.size, fun j hj hn => (k.block j (Nat.lt_of_lt_of_le hj h.size) (fun e => by
    rcases hr j e.symm with h1 | h1
    · omega
    · exact hn (by rw [h1]))).trans (h.block j hj hn)⟩
theorem grownBy_al {a b : World} {g : Nat} (h : a.grownBy b (some g)) (o : Obj) : a.grownBy (b.alloc o) (some g) := grownBy_step h (World.grownBy_alloc b o none) (fun j e => by cases e)
theorem CodesAt.grown' {w w' : World} {B g n c p : Nat} {A : Option Addr} {l : List Nat} {row : Option Nat} (h : CodesAt w B g A n c l p) (hg : w.grownBy w' row) (h1 : row ≠ some g) (h2 : ∀ k, row = some k → B ≤ k) : CodesAt w' B g A n c l p :=
  ⟨h.1.grown hg (fun e => h1 e.symm), h.2.1.below ((Below.refl B w).grown hg (by have := h.1.lt; have := h.2.2.2.1; omega) h2), h.2.2⟩
/-- a row of the call's own across a draw -/
theorem own_draw {w0 w w' : World} {g n : Nat} {e : TypeId} {size : Nat} {v : Value} {xs : List Value} (h : w.ownsRow w0.heap.size e size v n xs) (hg : w.grownBy w' (some g)) (hlt : g < w0.heap.size) : w'.ownsRow w0.heap.size e size v n xs :=
  h.kept hg (by
    rcases hq : v.ownBlock with _ | k
    · exact .inl rfl
    · exact .inr (fun e => by injection e with e; have := (h.lt k hq).1; omega))
theorem own_ne_codes {w0 w : World} {g n : Nat} {e : TypeId} {size : Nat} {v : Value} {xs : List Value} (h : w.ownsRow w0.heap.size e size v n xs) (hlt : g < w0.heap.size) : v.ownBlock ≠ some g := fun e => by have := (h.lt g e).1; omega
theorem ten_ex (k : Nat) (hk : k < 10) : ∃ x : Int, (#[Value.int .i64 9223372036854775807, Value.int .i64 (-9223372036854775808), Value.int .i64 2147483648, Value.int .i64 2147483647, Value.int .i64 (-1), Value.int .i64 16777216, Value.int .i64 33554432, Value.int .i64 1048577, Value.int .i64 512, Value.int .i64 80] : Array Value)[k]? = some (.int .i64 x) := by
  have h : k = 0 ∨ k = 1 ∨ k = 2 ∨ k = 3 ∨ k = 4 ∨ k = 5 ∨ k = 6 ∨ k = 7 ∨ k = 8 ∨ k = 9 := by omega
  rcases h with rfl | rfl | rfl | rfl | rfl | rfl | rfl | rfl | rfl | rfl <;> exact ⟨_, rfl⟩
set_option maxHeartbeats 2000000 in
theorem int_d (B g : Nat) (A : Option Addr) (n c : Nat) (l : List Nat) (p : Nat) (w : World) (h : CodesAt w B g A n c l p) :
    Calls Try.prog 13 #[.pointer (some ⟨g, 0, none⟩)] w fun e w' => ∃ (x : Int) (p' : Nat), e = .returned (.int .i64 x) ∧ CodesAt w' B g A n c l p' ∧ w.grownBy w' (some g) := by
  have HC := Lib.hid h
  clear h
  go_enter Try.func13, Try.ntmps13
  go_wp2_with fail
  refine (next_d _ _ _ _ _ _ _ 12 _ HC.out (by omega) (by omega)).mono ?_
  rintro e w1 ⟨k, p1, hk, rfl, c1, g1⟩
  have HC1 := Lib.hid c1
  have HG1 := Lib.hid g1
  have hgl := c1.1.lt
  clear HC c1 g1
  by_cases h11 : k = 11
  · subst h11
    go_wp2_with fail
    refine (next_d _ _ _ _ _ _ _ 10 _ (HC1.out.alloc _) (by omega) (by omega)).mono ?_
    rintro e w2 ⟨v, p2, hv, rfl, c2, g2⟩
    obtain ⟨x, hx⟩ := ten_ex v (by omega)
    have hb := ((Blk.new w1 3 #[Value.int .i64 9223372036854775807, Value.int .i64 (-9223372036854775808), Value.int .i64 2147483648, Value.int .i64 2147483647, Value.int .i64 (-1), Value.int .i64 16777216, Value.int .i64 33554432, Value.int .i64 1048577, Value.int .i64 512, Value.int .i64 80]).grown g2 (by intro e; injection e; omega))
    have hcell := (Blk.cell hb v).trans hx
    have HC2 := Lib.hid c2
    have HG2 := Lib.hid (grownBy_trans (grownBy_al HG1.out _) g2)
    have hv0 : (0 : Int) ≤ (v : Int) := by omega
    have hv1 : (v : Int) < 10 := by omega
    clear hx hb c2 g2 hv
    go_wp2
    go_ret
    exact ⟨x, p2, rfl, HC2.out, HG2.out⟩
  · have hk11 : ¬ ((k : Int) = 11) := by omega
    have hk0 : (0 : Int) ≤ (k : Int) := by omega
    have hk1 : (k : Int) < 12 := by omega
    clear hk
    go_wp2_with fail
    refine (next_d _ _ _ _ _ _ _ 256 _ HC1.out (by omega) (by omega)).mono ?_
    rintro e w2 ⟨v, p2, hv, rfl, c2, g2⟩
    have HC2 := Lib.hid c2
    have HG2 := Lib.hid (grownBy_trans HG1.out g2)
    have hv0 : (0 : Int) ≤ (v : Int) := by omega
    have hv1 : (v : Int) < 256 := by omega
    clear c2 g2 hv
    go_wp2_with fail
    refine (next_d _ _ _ _ _ _ _ 7 _ HC2.out (by omega) (by omega)).mono ?_
    rintro e w3 ⟨u, p3, hu, rfl, c3, g3⟩
    have HC3 := Lib.hid c3
    have HG3 := Lib.hid (grownBy_trans HG2.out g3)
    have hu0 : (0 : Int) ≤ (u : Int) := by omega
    have hu1 : (u : Int) < 7 := by omega
    have hu2 : u < 7 := by omega
    clear c3 g3 hu
    go_wp2
    go_ret
    exact ⟨_, p3, rfl, HC3.out, HG3.out⟩
end Go.Proofs.Ytmeoabpigibaoaa
