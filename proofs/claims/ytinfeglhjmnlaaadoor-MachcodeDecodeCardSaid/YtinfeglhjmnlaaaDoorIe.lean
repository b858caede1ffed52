/- Words for the laws about bytes of targets: the copy with a right checksum, a changed byte, what is drawn can be written. -/
import Derived.Test.YtinfeglhjmnlaaaDoorGHk
import Derived.Test.YtinfeglhjmnlaaaDoorGKy
import Derived.Test.YtinfeglhjmnlaaaDoorGKq
import Derived.Test.YtinfeglhjmnlaaaDoorGHn
import Derived.Deep.RegionLaw
namespace Go.Proofs.YtinfeglhjmnlaaaDoor.pm
open Go.RowKit
set_option linter.unusedVariables false
set_option maxRecDepth 10000

def mend (l : List Nat) : List Nat := if l.length < 4 then l else sealL (l.take (l.length - 4))
theorem mend_len (l : List Nat) : (mend l).length = l.length := by
 unfold mend
 split
 · rfl
 · rw [sealL_len, List.length_take]; omega
theorem mend_bytes {l : List Nat} (h : ∀ x ∈ l, x < 256) : ∀ x ∈ mend l, x < 256 := by
 unfold mend
 split
 · exact h
 · exact sealL_bytes (fun x hx => h x (List.mem_of_mem_take hx))
theorem own_capM {w : World} {base n c : Nat} {e : TypeId} {size : Nat} {A : Option Addr} {xs : List Value} (h : w.ownsRow base e size (.slice A n c) n xs) : n ≤ c ∧ c ≤ maxLen := by
 rcases h.2 with ⟨h1, rfl⟩ | ⟨g, cap, cur, h1, _, _, h2, h3, _⟩
 · simp at h1
   omega
 · simp at h1
   omega
def ByD (l : List Nat) (w : World) (e : Ending) (w' : World) : Prop := ∃ V c, e = .returned (.slice V l.length c) ∧ Bs w' w'.heap.size V l.length l ∧ l.length ≤ c ∧ c ≤ maxLen ∧ Below w.heap.size w w'
set_option maxHeartbeats 2000000 in
theorem mended11_any (A : Option Addr) (n c : Nat) (l : List Nat) (w : World) (hb : Bs w w.heap.size A n l) (hn : n ≤ 2000000) (hc : n ≤ c) (hcm : c ≤ maxLen) :
 Calls Tryd.prog 16 #[.slice A n c] w (ByD (mend l) w) := by
 have hln := hb.len
 have HLN := Lib.hid hln
 have HB := Lib.hid hb
 have HML : Hid ((mend l).length = n) := Lib.hid (by rw [mend_len, hln])
 by_cases h4 : n < 4
 · have HE : Hid (mend l = l) := Lib.hid (by unfold mend; rw [if_pos (by omega)])
   have h4i : (n : Int) < 4 := by omega
   have HC := Lib.hid hc
   have HCM := Lib.hid hcm
   clear hln hb h4 hc hcm
   go_enter Tryd.func16, Tryd.ntmps16
   go_wp2
   go_ret
   refine ⟨A, c, by rw [HML.out]; rfl, ?_, by rw [HML.out]; exact HC.out, HCM.out, Below.refl _ _⟩
   rw [HML.out, HE.out]
   exact HB.out
 · obtain ⟨k, hk⟩ : ∃ k, n = k + 4 := ⟨n - 4, by omega⟩
   have HE : Hid (mend l = sealL (l.take k)) := Lib.hid (by unfold mend; rw [if_neg (by omega), hln, hk, Nat.add_sub_cancel])
   have HBT := Lib.hid (hb.take (m := k) (by omega))
   have HTL : Hid ((l.take k).length = k) := Lib.hid (by rw [List.length_take]; omega)
   obtain ⟨lk, hlk⟩ : ∃ x, x = l.take k := ⟨_, rfl⟩
   rw [← hlk] at HBT HTL HE
   have HNK := Lib.hid hk
   have hkc : k ≤ c := by omega
   have hk2 : k ≤ 2000000 := by omega
   have hki0 : (0 : Int) ≤ (k : Int) := by omega
   have hkci : (k : Int) ≤ (c : Int) := by omega
   have hcc : (c : Int) ≤ 9223372036854775807 := by unfold maxLen at hcm; omega
   obtain ⟨xn, hxn⟩ : ∃ x : Int, (n : Int) = x := ⟨_, rfl⟩
   have hx1 : ¬ xn < 4 := by omega
   have hx3 : IntKind.i64.wrap (xn - 4) = (k : Int) := by rw [IntWalk.i64_in _ (by omega)]; omega
   obtain ⟨i0, hi0, hz0, hz1, hz2⟩ := info_parts info_u8
   clear hln hb hk hlk h4 hn hc hcm
   go_enter Tryd.func16, Tryd.ntmps16
   go_upto_region 3 with (fail)
   go_wp2_with (at_builtin; refine wpList_append_any _ rfl (.const (.slice none 0 0)) (.tmp 11) _ rfl w.heap.size 5 i0 _ 1 1 Tryd.underlying22 hi0 hz0 hz1 hz2 rfl (by omega) (.slice none 0 0) 0 [] rfl (World.ownsRow_nil _ _ _ _) _ A k c (nb lk) rfl HBT.out.1 (nb_one lk) (by unfold maxLen; omega) (by omega) (by simp) ?_; intro o1 w1 own1' hg1' hat1')
   have own1 : w1.ownsRow w.heap.size 5 1 o1 k (nb lk) := by simpa using own1'
   have bel1 : Below w.heap.size w w1 := below_append (Below.refl _ _) (World.ownsRow_nil w w.heap.size 5 1) hg1' (Nat.le_refl _) (by simp)
   obtain ⟨V, c1, rfl, hm1⟩ := own_form own1
   have HS := Lib.hid (refseal_any w.heap.size V k c1 lk w1 HTL.out (.inl own1) HBT.out.2 (by omega) bel1.size)
   have HB1 := Lib.hid bel1
   clear own1 own1' hg1' hat1' bel1 hm1
   refine HS.out.mono ?_
   rintro e w2 ⟨V2, c2, rfl, own2, -, bel2⟩
   go_wp2
   go_ret
   obtain ⟨h1, h2⟩ := own_capM own2
   rw [HE.out]
   exact ⟨V2, c2, rfl, Bs.of_own own2 (sealL_bytes HBT.out.2), h1, h2, HB1.out.trans bel2⟩
theorem tgp_rg {most : Nat} {al : Int} {p : List Fr} (hm : most ≤ 80) (h : TgP most al p) : tgE al p = 0 ∧ RgT al p ∧ (∀ f ∈ p, f.code.length ≤ 1024) := by
 have hE := tgp_ok hm h
 obtain ⟨h1, h2, h3, h4, h5⟩ := h
 have ha : 16 ≤ al ∧ al ≤ 64 := by unfold AlOk at h1; omega
 have hr : RgT al p := by
  refine ⟨⟨⟨by omega, by omega⟩, fun f hf => ?_⟩, fun f hf x hx => ?_⟩
  · obtain ⟨a, b, c, d, e, g, k, l, -⟩ := h5 f hf
    exact ⟨⟨by omega, by omega⟩, ⟨by omega, by omega⟩, fun x hx => (l x hx).1.2.1⟩
  · obtain ⟨-, -, -, -, -, -, -, l, -⟩ := h5 f hf
    exact (l x hx).1.2.2
 refine ⟨hE, hr, fun f hf => ?_⟩
 obtain ⟨i, hi, rfl⟩ := List.mem_iff_getElem.1 hf
 have := ((hr.rt hE).fr i hi).nc
 rw [show p.getD i Fr.z = p[i] by simp [List.getD, hi]] at this
 exact this.2
theorem drawn_enc {most : Nat} {al bd : Int} {p : List Fr} (hm : most ≤ 12) (h : TgP most al p) (hb : 0 ≤ bd ∧ bd ≤ 2147483647) : encE al bd p = 0 ∧ RgT al p ∧ 10 ≤ (encB al bd p).length ∧ (encB al bd p).length ≤ 600000 ∧ (∀ x ∈ encB al bd p, x < 256) := by
 obtain ⟨h1, h2, h3⟩ := tgp_rg (by omega) h
 have hl := bodyT_len al bd p h3
 have h4 : p.length ≤ 12 := Nat.le_trans h.2.2.1 hm
 have he := encE_ok (al := al) (bd := bd) (t := p) h1 hb (by omega)
 have hg := body_least al bd p
 have hB := encB_eq he
 refine ⟨he, h2, ?_, ?_, ?_⟩
 · rw [hB, sealL_len]; omega
 · rw [hB, sealL_len]; omega
 · rw [hB]
   exact sealL_bytes (bodyT_bytes (et_of (h2.rt h1)) hb)
theorem eqT_refl' (x : List Fr) : eqL sameFr x x = true := eqL_all (z := Fr.z) rfl fun j _ => by
 have h2 : ∀ l : List Ins, eqL inEq l l = true := fun l => eqL_all (z := Ins.z) rfl fun j _ => by simp [inEq]
 simp [sameFr, h2]
theorem sameTg_refl' (a : Int) (x : List Fr) : sameTg a a x x = true := by simp [sameTg, eqT_refl']
end Go.Proofs.YtinfeglhjmnlaaaDoor.pm
