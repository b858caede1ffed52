/- Rows of the call's own: kept where only new memory is made; made with a length. -/
import Derived.Test.YtmeoabpigibaoaaZb
namespace Go.Proofs.Ytmeoabpigibaoaa
open Go.RowKit
set_option linter.unusedVariables false
set_option maxRecDepth 10000

theorem own_keep {w w' : World} {base B n : Nat} {e : TypeId} {size : Nat} {v : Value} {xs : List Value} (h : w.ownsRow base e size v n xs) (hb : Below B w w') (hB : w.heap.size ≤ B) : w'.ownsRow base e size v n xs := by
  refine ⟨h.1, ?_⟩
  rcases h.2 with h1 | ⟨g, cap, cur, h1, h2, h3, r⟩
  · exact .inl h1
  · have hg : g < w.heap.size := by
      rcases Nat.lt_or_ge g w.heap.size with hlt | hge
      · exact hlt
      · rw [Array.getElem?_eq_none hge] at h3; cases h3
    exact .inr ⟨g, cap, cur, h1, h2, (hb.block g (by omega)).trans h3, r⟩
theorem run_make_rowN {P : Program} (t e : TypeId) (i : TypeInfo) (z : Value) (ht : P.underlying t = some (.slice e)) (hi : P.info? e = some i) (hz : i.zero = some z)
    (kl kc : IntKind) (n c : Nat) (hnc : n ≤ c) (hbytes : i.bytes * c ≤ 281474976710656) (h63 : c ≤ 9223372036854775807) (w : World) :
    (Instr.makeSlice t (.int kl (n : Int)) (.int kc (c : Int))).run P w = .ok (.slice (some ⟨w.heap.size, 0, none⟩) n c) (w.alloc (.cells (madeCells z.cells (c * i.size)) e)) := by
  have hb : (i.bytes : Int) * (c : Int) ≤ 281474976710656 := by
    have h : ((i.bytes * c : Nat) : Int) ≤ 281474976710656 := by omega
    rwa [Int.natCast_mul] at h
  have hr := run_make (P := P) w t e i z ht hi hz kl kc n c (by omega) (by omega) hb (by omega)
  simp only [Int.toNat_natCast] at hr
  exact hr
theorem info_int : (Try.prog.info? 3).map (fun i => (i.zero, i.size, i.bytes)) = some (some (.int .i64 0), 1, 8) := by kernel_rfl
def zi (s : Nat) : Array Value := madeCells #[.int .i64 0] s
theorem zi_list (s : Nat) : (zi s).toList = (List.replicate s (0 : Int)).map (Value.int .i64) := by
  unfold zi
  rw [toList_madeCells_one]
  simp
theorem zi_size (s : Nat) : (zi s).size = s * 1 := by rw [← Array.length_toList, zi_list]; simp
theorem make_ints (s : Nat) (hs : s ≤ 1048576) (w : World) : (Instr.makeSlice 67 (.int .i64 (s : Int)) (.int .i64 (s : Int))).run Try.prog w = .ok (.slice (some ⟨w.heap.size, 0, none⟩) s s) (w.alloc (.cells (zi s) 3)) := by
  obtain ⟨i0, hi0, hz0, hz1, hz2⟩ := info_parts info_int
  have := run_make_rowN (P := Try.prog) 67 3 i0 _ Try.underlying67 hi0 hz0 .i64 .i64 s s (Nat.le_refl _) (by rw [hz2]; omega) (by omega) w
  rw [hz1, Nat.mul_one] at this
  exact this
theorem made_ints (w : World) (base s : Nat) (hb : base ≤ w.heap.size) (hs : s ≤ 1048576) : (w.alloc (.cells (zi s) 3)).ownsRow base 3 1 (.slice (some ⟨w.heap.size, 0, none⟩) s s) s ((List.replicate s (0 : Int)).map (Value.int .i64)) := by
  have o1 := World.ownsRow_lit (base := base) (e := 3) (size := 1) w (zi s) s hb (by unfold maxLen; omega) (zi_size s)
  rw [zi_list] at o1
  exact o1
theorem own_two {w : World} {b b' n m k1 k2 g s s' : Nat} {e1 e2 : TypeId} {V1 : Option Addr} {xs ys : List Value} (h1 : w.ownsRow b e1 s (.slice V1 n k1) n xs) (h2 : w.ownsRow b' e2 s' (.slice (some ⟨g, 0, none⟩) m k2) m ys) (hne : e1 ≠ e2) :
    (Value.slice V1 n k1).ownBlock = none ∨ (Value.slice V1 n k1).ownBlock ≠ some g := by
  rcases h2.2 with ⟨h, _⟩ | ⟨g', cap, cur, hv, _, hh, _⟩
  · cases h
  · cases hv
    exact .inr (own_blk_ne h1 hh hne)
end Go.Proofs.Ytmeoabpigibaoaa
