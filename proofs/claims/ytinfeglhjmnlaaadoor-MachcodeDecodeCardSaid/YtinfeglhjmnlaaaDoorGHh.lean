/- Bytes of targets, the reference: Encode. -/
import Derived.Test.YtinfeglhjmnlaaaDoorGHg
import Derived.Test.YtinfeglhjmnlaaaDoorGHs
import Derived.Test.YtinfeglhjmnlaaaDoorGKx
import Derived.Deep.RegionHeld3
import Derived.BigQuiet
import Derived.Deep.QuietTactic
namespace Go.Proofs.YtinfeglhjmnlaaaDoor.pm
open Go.RowKit
set_option linter.unusedVariables false
set_option maxRecDepth 10000
attribute [local go_sem ↓] Go.wp_at_zero Go.wp_at_succ

section
variable {al bd : Int} {t : List Fr} {A : Option Addr} {ct lo hi : Nat}
set_option maxHeartbeats 4000000 in
theorem refencode_bad (h64 : RgT al t) (hbd : I64 bd) (he : encE al bd t = tgE al t ∧ tgE al t ≠ 0 ∨ tgE al t = 0 ∧ encE al bd t = 4 ∧ (bd < 0 ∨ 2147483647 < bd)) (w : World) (hg : Gx w lo hi A t) (hh : hi ≤ w.heap.size) (hm : t.length ≤ maxLen) :
    Calls Tryd.prog 12 #[.agg #[.int .i64 al, .slice A t.length ct], .int .i64 bd] w (EncD al bd t w) := by
  obtain ⟨W1, hW1⟩ : ∃ W1, W1 = w.alloc (.cells #[.int .i64 al, .slice A t.length ct] 29) := ⟨_, rfl⟩
  have hB1 : Below w.heap.size w W1 := by rw [hW1]; exact (Below.refl _ _).alloc (Nat.le_refl _) _
  have HKT : Hid (Blk W1 w.heap.size 29 #[.int .i64 al, .slice A t.length ct]) := Lib.hid (by rw [hW1]; exact Blk.new _ _ _)
  have HC := Lib.hid (refcheck10_any A ct h64.1 W1 lo hi (hg.keep (Kp.of_below hB1 hh)) (by have := hB1.size; omega) hm)
  have HB1 := Lib.hid hB1
  have HW1 := Lib.hid hW1
  obtain ⟨c0, c1, -, -, cz⟩ := HKT.out.c2
  have HEE := Lib.hid he
  have HBN := Lib.hid (fun W => refbnd_any bd W)
  generalize hte : tgE al t = te at HC he HEE
  clear hg hW1 hB1 h64 hte
  go_enter Tryd.func12, Tryd.ntmps12
  go_upto_region 1 with (fail)
  rw [← HW1.out]
  rcases he with ⟨h1, h2⟩ | ⟨h1, h2, h3⟩
  · have HE : Hid (∀ w', Below w.heap.size w w' → EncD al bd t w (.returned (.tuple #[.slice none 0 0, .int .i64 te])) w') := Lib.hid (fun w' hb => EncD.err h1 h2 hb)
    have hne : (te != 0) = true := by simpa using h2
    clear h1 h2
    go_wp2_with fail
    refine HC.out.mono ?_
    rintro e w' ⟨rfl, bel⟩
    have HB2 := Lib.hid (HB1.out.trans (bel.mono HB1.out.size))
    clear bel
    go_wp2
    go_ret2
    exact HE.out _ HB2.out
  · subst h1
    have HE : Hid (∀ w', Below w.heap.size w w' → EncD al bd t w (.returned (.tuple #[.slice none 0 0, .int .i64 4])) w') := Lib.hid (fun w' hb => EncD.err h2 (by decide) hb)
    have hb : bndB bd = false := by unfold bndB inB; rw [decide_eq_false_iff_not]; omega
    rw [hb] at HBN
    clear h2 hb
    go_wp2_with fail
    refine HC.out.mono ?_
    rintro e w' ⟨rfl, bel⟩
    have HB2 := Lib.hid (HB1.out.trans (bel.mono HB1.out.size))
    clear bel HEE h3
    go_wp2_with fail
    refine (HBN.out _).mono ?_
    rintro e w' ⟨rfl, rfl⟩
    go_wp2
    go_ret2
    exact HE.out _ HB2.out
theorem belKp {B lo hi : Nat} {w w' : World} (h : Below B w w') (hh : hi ≤ B) : Kp lo hi w w' := fun b _ hb => h.block b (by omega)
theorem belPt {g base : Nat} {w w' : World} (h : Below w.heap.size w w') (hb : base ≤ w.heap.size) : PtW g base w w' := ⟨h.size, fun b hb _ _ => h.block b hb, h.mono hb⟩
/-- blocks that hold no bytes are kept, and all below base -/
def NB (base : Nat) (w w' : World) : Prop := NoB w w' ∧ Below base w w'
theorem NB.refl (base : Nat) (w : World) : NB base w w := ⟨⟨Nat.le_refl _, fun _ _ _ => rfl⟩, Below.refl _ _⟩
theorem NB.trans {base : Nat} {w w1 w' : World} (h : NB base w w1) (k : NB base w1 w') : NB base w w' := ⟨⟨Nat.le_trans h.1.1 k.1.1, fun b hb hc => by
  have e := h.1.2 b hb hc
  rw [k.1.2 b (by have := h.1.1; omega) (by rw [e]; exact hc), e]⟩, h.2.trans k.2⟩
theorem NB.of_below {base : Nat} {w w' : World} (h : Below w.heap.size w w') (hb : base ≤ w.heap.size) : NB base w w' := ⟨⟨h.size, fun b hb _ => h.block b hb⟩, h.mono hb⟩
theorem NB.append {base n : Nat} {w w' : World} {o : Value} {xs : List Value} (hown : OwM w base o n xs) (hg : w.grownBy w' o.ownBlock) (hb : base ≤ w.heap.size) : NB base w w' := ⟨⟨hg.size, hown.other hg⟩, hown.below hg hb⟩
theorem NB.blk {base k : Nat} {w w' : World} {t : TypeId} {cs : Array Value} (h : NB base w w') (hK : Blk w k t cs) (ht : t ≠ 5) : Blk w' k t cs := h.1.blk hK ht
/-- a row of bytes of the call's own -/
def OwL (base : Nat) (L : List Nat) (V : Option Addr) (c : Nat) (w : World) : Prop := w.ownsRow base 5 1 (.slice V L.length c) L.length (nb L)
theorem OwL.put {base : Nat} {L : List Nat} {V : Option Addr} {c v : Nat} {W W' : World} (h : OwL base L V c W) (hb : Below W.heap.size W W') (hl : ∀ y ∈ L, y < 256) (hv : v < 18446744073709551616) (hz : L.length ≤ 140737488350000) (hbase : base ≤ W.heap.size) :
    Calls Tryd.prog 37 #[.slice V L.length c, .int .u64 v] W' fun e w' => ∃ V' c', e = .returned (.slice V' (L ++ put v).length c') ∧ OwL base (L ++ put v) V' c' w' ∧ Below W'.heap.size W' w' :=
  (refput_any V L.length c L v hv W' W'.heap.size ⟨Reads.of_own (own_keep h hb (Nat.le_refl _)), hl⟩ (Nat.le_refl _) (by omega)).mono (by
    rintro e w' ⟨r, rfl, own, bel⟩
    obtain ⟨V', c', rfl, _⟩ := own_form own
    exact ⟨V', c', rfl, own_less own (by have := hb.size; omega), bel⟩)
theorem put_bytes {L : List Nat} {v : Nat} (hl : ∀ y ∈ L, y < 256) (hv : v < 18446744073709551616) : ∀ y ∈ L ++ put v, y < 256 := by
  intro y hy
  rcases List.mem_append.1 hy with h | h
  · exact hl y h
  · exact put_lt _ hv y h
end
end Go.Proofs.YtinfeglhjmnlaaaDoor.pm
