/- Bytes of targets: both encoders as one contract; the sanity check of chapter 11. -/
import Derived.Test.YtinfeglhjmnlaaaDoorGHf
import Derived.Test.YtinfeglhjmnlaaaDoorGHi
namespace Go.Proofs.YtinfeglhjmnlaaaDoor.pm
open Go.RowKit
set_option linter.unusedVariables false
set_option maxRecDepth 10000

section
variable {al bd : Int} {t : List Fr} {A : Option Addr} {ct lo hi : Nat}
theorem enc_cases (hbd : I64 bd) : (tgE al t = 0 ∧ (0 ≤ bd ∧ bd ≤ 2147483647)) ∨ (encE al bd t = tgE al t ∧ tgE al t ≠ 0 ∨ tgE al t = 0 ∧ encE al bd t = 4 ∧ (bd < 0 ∨ 2147483647 < bd)) := by
  by_cases h : tgE al t = 0
  · by_cases h2 : bd < 0 ∨ 2147483647 < bd
    · right; right
      exact ⟨h, by unfold encE; rw [if_neg (by omega), if_pos h2], h2⟩
    · left; exact ⟨h, by omega⟩
  · right; left
    exact ⟨by unfold encE; rw [if_pos h], h⟩
theorem enc_any (h64 : RgT al t) (hbd : I64 bd) (w : World) (hT : Dt w) (hg : Gx w lo hi A t) (hh : hi ≤ w.heap.size) (hm : t.length ≤ maxLen) :
    Calls Tryd.prog 20 #[.agg #[.int .i64 al, .slice A t.length ct], .int .i64 bd] w (EncD al bd t w) := by
  rcases enc_cases (al := al) (t := t) hbd with ⟨h1, h2⟩ | h
  · exact encode_ok h64 h1 h2 w hT hg hh hm
  · exact encode_bad h64 hbd h w hg hh hm
theorem refenc_any (h64 : RgT al t) (hbd : I64 bd) (w : World) (hg : Gx w lo hi A t) (hh : hi ≤ w.heap.size) (hm : t.length ≤ maxLen) :
    Calls Tryd.prog 12 #[.agg #[.int .i64 al, .slice A t.length ct], .int .i64 bd] w (EncD al bd t w) := by
  rcases enc_cases (al := al) (t := t) hbd with ⟨h1, h2⟩ | h
  · exact refencode_ok h64 h1 h2 w hg hh hm
  · exact refencode_bad h64 hbd h w hg hh hm
end
theorem reads_litN (w : World) (t : TypeId) (vs : List Value) (size n : Nat) (h : vs.length = n * size) : Reads (w.alloc (.cells vs.toArray t)) (w.heap.size + 1) size (some ⟨w.heap.size, 0, none⟩) n vs := by
  refine ⟨h, fun _ => ⟨⟨w.heap.size, 0, none⟩, rfl, Nat.lt_succ_self _, fun j u hu => ?_⟩⟩
  have e : (⟨w.heap.size, 0, none⟩ : Addr).add j = ⟨w.heap.size, j, none⟩ := by rcases j with _ | j <;> simp [Addr.add]
  rw [e, (Blk.new w t vs.toArray).cell j]
  simpa using hu
def t11 : List Fr := [⟨0, 0, [⟨23, 0, 0, 0, 0⟩]⟩]
theorem gx_t11 (w : World) : Gx ((w.alloc (.cells #[.int .i64 23, .int .i64 0, .int .i64 0, .int .i64 0, .int .u64 0] 58)).alloc (.cells #[.int .i64 0, .int .i64 0, .slice (some ⟨w.heap.size, 0, none⟩) 1 1] 61)) 0 (w.heap.size + 2) (some ⟨w.heap.size + 1, 0, none⟩) t11 := by
  have hr := reads_litN (w.alloc (.cells #[.int .i64 23, .int .i64 0, .int .i64 0, .int .i64 0, .int .u64 0] 58)) 61 [.int .i64 0, .int .i64 0, .slice (some ⟨w.heap.size, 0, none⟩) 1 1] 3 1 rfl
  have hs : (w.alloc (.cells #[.int .i64 23, .int .i64 0, .int .i64 0, .int .i64 0, .int .u64 0] 58)).heap.size = w.heap.size + 1 := by simp
  rw [hs] at hr
  refine ⟨_, Rx.of_reads hr, fun i hi => ?_⟩
  have hi0 : i = 0 := by have : i < 1 := hi; omega
  subst hi0
  have hn := reads_litN w 58 [.int .i64 23, .int .i64 0, .int .i64 0, .int .i64 0, .int .u64 0] 5 1 rfl
  refine ⟨some ⟨w.heap.size, 0, none⟩, 1, rfl, rfl, rfl, ?_, by decide, by decide⟩
  exact (Rx.of_reads (hn.alloc (by simp) _)).more (Nat.le_refl _) (by omega)
theorem rg_t11 : RgT 16 t11 := by
  refine ⟨⟨by unfold I64; omega, fun f hf => ?_⟩, fun f hf x hx => ?_⟩
  · obtain rfl := List.mem_singleton.1 hf
    refine ⟨by unfold I64; simp, by unfold I64; simp, fun x hx => ?_⟩
    obtain rfl := List.mem_singleton.1 hx
    unfold InR I64
    simp
  · obtain rfl := List.mem_singleton.1 hf
    obtain rfl := List.mem_singleton.1 hx
    simp
theorem tg_t11 : tgE 16 t11 = 0 := by decide +kernel
theorem enc_t11 : encE 16 0 t11 = 0 ∧ (encB 16 0 t11).length = 15 := by decide +kernel
theorem awake11 (w : World) (hT : Dt w) : Calls Tryd.prog 11 #[] w fun e w' => e = .returned (.bool true) ∧ Below w.heap.size w w' := by
  obtain ⟨W1, hW1⟩ : ∃ W1, W1 = (w.alloc (.cells #[.int .i64 23, .int .i64 0, .int .i64 0, .int .i64 0, .int .u64 0] 58)).alloc (.cells #[.int .i64 0, .int .i64 0, .slice (some ⟨w.heap.size, 0, none⟩) 1 1] 61) := ⟨_, rfl⟩
  have hb : Below w.heap.size w W1 := by rw [hW1]; exact ((Below.refl _ _).alloc (Nat.le_refl _) _).alloc (by simp) _
  have hg := gx_t11 w
  rw [← hW1] at hg
  have hsz : W1.heap.size = w.heap.size + 2 := by rw [hW1]; simp
  have HE := Lib.hid (enc_any (ct := 1) rg_t11 (bd := 0) (by unfold I64; omega) W1 (hT.below hb hT.1) hg (by omega) (by decide))
  have HB := Lib.hid hb
  have HW1 := Lib.hid hW1
  clear hb hg hsz hW1 hT
  go_enter Tryd.func11, Tryd.ntmps11
  go_wp2_with (rw [← HW1.out]; refine HE.out.mono ?_; rintro e w' ⟨V, c, rfl, own, bel⟩; rw [enc_t11.1, enc_t11.2])
  go_ret
  exact ⟨rfl, HB.out.trans (bel.mono HB.out.size)⟩
end Go.Proofs.YtinfeglhjmnlaaaDoor.pm
