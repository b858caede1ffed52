/- Bytes of targets: the reference's Decode where the length, the first bytes or the checksum are wrong. -/
import Derived.Test.YtinfeglhjmnlaaaDoorIj
import Derived.Test.YtinfeglhjmnlaaaDoorIk
import Derived.Laws.IdiomStrings
import Derived.Laws.Strings
namespace Go.Proofs.YtinfeglhjmnlaaaDoor.pm
open Go.RowKit
set_option linter.unusedVariables false
set_option maxRecDepth 10000

def strB (l : List Nat) : ByteArray := ⟨(l.map UInt8.ofNat).toArray⟩
theorem strB_inj {l m : List Nat} (hl : ∀ x ∈ l, x < 256) (hm : ∀ x ∈ m, x < 256) : strB l = strB m ↔ l = m := by
 constructor
 · intro h
   have h1 : (l.map UInt8.ofNat) = (m.map UInt8.ofNat) := by
    have := congrArg (fun b : ByteArray => b.data.toList) h
    simpa [strB] using this
   have h2 : ∀ k : List Nat, (∀ x ∈ k, x < 256) → (k.map UInt8.ofNat).map UInt8.toNat = k := by
    intro k hk
    rw [List.map_map]
    conv => rhs; rw [← List.map_id k]
    refine List.map_congr_left (fun x hx => ?_)
    have := hk x hx
    simp
    omega
   rw [← h2 l hl, ← h2 m hm, h1]
 · intro h; rw [h]
theorem conv_take {w : World} {B n c : Nat} {A : Option Addr} {l : List Nat} (hb : Bs w B A n l) (k : Nat) (hk : k ≤ n) (h0 : 0 < k) :
 (convert 22 9 (.slice A k c)).run Tryd.prog w = .ok (.string (strB (l.take k))) w := by
 have hln := hb.len
 obtain ⟨ad, rfl, -, hc0⟩ := hb.at_ (by omega : 0 < n)
 have hlen : ((l.take k).map UInt8.ofNat).length = k := by simp; omega
 have := run_convert_bytes_back (P := Tryd.prog) w 22 9 5 ad c ((l.take k).map UInt8.ofNat) Tryd.underlying22 Tryd.underlying5 Tryd.underlying9 (fun j hj => by
  have hj' : j < k := by omega
  obtain ⟨ad', ha', -, hcj⟩ := hb.at_ (by omega : j < n)
  obtain rfl := Option.some.inj ha'
  rw [hcj]
  have h256 := hb.lt j
  simp only [List.getElem_map, List.getElem_take]
  rw [List.getD_eq_getElem?_getD, List.getElem?_eq_getElem (by omega)] at h256 ⊢
  simp only [Option.getD_some] at h256 ⊢
  congr 2
  simp
  omega)
 rw [hlen] at this
 exact this
set_option maxHeartbeats 2000000 in
theorem refdec_err (A : Option Addr) (n c : Nat) (l : List Nat) (w : World) (hb : Bs w w.heap.size A n l) (hn : n ≤ maxLen) (hc : n ≤ c) (hcm : c ≤ maxLen) (he : 1048576 < n ∨ n < 10 ∨ ¬ (l.take 4 = mgT ∧ crcB l = true)) :
 Calls Tryd.prog 18 #[.slice A n c] w (DcD l w) := by
 have hln := hb.len
 obtain ⟨W1, hW1⟩ : ∃ W1, W1 = w.alloc (.cells #[.int .i64 0, .slice none 0 0] 29) := ⟨_, rfl⟩
 have hB1 : Below w.heap.size w W1 := by rw [hW1]; exact (Below.refl _ _).alloc (Nat.le_refl _) _
 have HKT : Hid (Blk W1 w.heap.size 29 #[.int .i64 0, .slice none 0 0]) := Lib.hid (by rw [hW1]; exact Blk.new _ _ _)
 have HB1 := Lib.hid hB1
 have HW1 := Lib.hid hW1
 have HZ := Lib.hid (blk_put2 HKT.out (.int .i64 0) (.slice none 0 0))
 have HZB : Hid (Below w.heap.size w ((W1.setCell ⟨w.heap.size, 0, none⟩ (.int .i64 0)).setCell ⟨w.heap.size, 1, none⟩ (.slice none 0 0))) := Lib.hid ((hB1.setCell (p := ⟨w.heap.size, 0, none⟩) (Nat.le_refl _) _).setCell (p := ⟨w.heap.size, 1, none⟩) (Nat.le_refl _) _)
 have hni : (n : Int) ≤ 9223372036854775807 := by unfold maxLen at hn; omega
 obtain ⟨d0, d1, df0, df1, dz⟩ := HKT.out.c2
 by_cases h1 : 1048576 < n
 · have HE : Hid (decE l = 3) := Lib.hid (by unfold decE; rw [if_pos (by omega)])
   have h1i : (1048576 : Int) < (n : Int) := by omega
   clear hW1 hB1 hb he hln h1
   go_enter Tryd.func18, Tryd.ntmps18
   go_upto_region 1 with (fail)
   rw [← HW1.out]
   go_wp2
   obtain ⟨e0, e1, -⟩ := HZ.out.c2
   exact bodyPost_ret (v := .tuple #[.agg #[.int .i64 0, .slice none 0 0], .int .i64 0, .int .i64 3]) (by simp [results, Tryd.results18, go_sem, e0, e1]) rfl (DcD.err HE.out (by decide) HZB.out)
 by_cases h2 : n < 10
 · have HE : Hid (decE l = 1) := Lib.hid (by unfold decE; rw [if_neg (by omega), if_pos (by omega)])
   have h1i : ¬ (1048576 : Int) < (n : Int) := by omega
   have h2i : (n : Int) < 10 := by omega
   clear hW1 hB1 hb he hln h1 h2
   go_enter Tryd.func18, Tryd.ntmps18
   go_upto_region 1 with (fail)
   rw [← HW1.out]
   go_wp2
   obtain ⟨e0, e1, -⟩ := HZ.out.c2
   exact bodyPost_ret (v := .tuple #[.agg #[.int .i64 0, .slice none 0 0], .int .i64 0, .int .i64 1]) (by simp [results, Tryd.results18, go_sem, e0, e1]) rfl (DcD.err HE.out (by decide) HZB.out)
 have h3 : ¬ (l.take 4 = mgT ∧ crcB l = true) := (he.resolve_left h1).resolve_left h2
 have HE : Hid (decE l = 2) := Lib.hid (decE_none (by omega) (by omega) (by
  cases hd : decT false l with
  | none => rfl
  | some r =>
   have hs := dec_seal hb.2 hd
   exact absurd ⟨hs.1, by unfold crcB; exact decide_eq_true ⟨by omega, hs.2⟩⟩ h3))
 have h1i : ¬ (1048576 : Int) < (n : Int) := by omega
 have h2i : ¬ (n : Int) < 10 := by omega
 have hb1 := hb.below hB1
 have hcv : ∀ c', (convert 22 9 (.slice A 4 c')).run Tryd.prog W1 = .ok (.string (strB (l.take 4))) W1 := fun c' => conv_take (c := c') hb1 4 (by omega) (by decide)
 have hmg : strB mgT = { data := #[70, 82, 77, 49] } := rfl
 have hst := strB_inj (l := l.take 4) (m := mgT) (fun x hx => hb.2 x (List.mem_of_mem_take hx)) (by decide)
 rw [hmg] at hst
 have HC := Lib.hid (crcis_any A n c l W1 w.heap.size hb1 (by omega) hc hcm)
 have h4c : (4 : Int) ≤ (c : Int) := by omega
 have h4c' : 4 ≤ c := by omega
 obtain ⟨sv, hsv⟩ : ∃ s, s = strB (l.take 4) := ⟨_, rfl⟩
 rw [← hsv] at hcv hst
 clear hW1 hB1 hb he hln h1 h2 hmg hsv hb1
 by_cases hm : l.take 4 = mgT
 · have hcb : crcB l = false := by
    cases hcb : crcB l with
    | true => exact absurd ⟨hm, hcb⟩ h3
    | false => rfl
   rw [hcb] at HC
   have hse := hst.2 hm
   subst hse
   clear hm h3 hcb hst
   go_enter Tryd.func18, Tryd.ntmps18
   go_upto_region 1 with (fail)
   rw [← HW1.out]
   go_wp2_with fail
   refine HC.out.mono ?_
   rintro e w2 ⟨rfl, rfl⟩
   go_wp2
   obtain ⟨e0, e1, -⟩ := HZ.out.c2
   exact bodyPost_ret (v := .tuple #[.agg #[.int .i64 0, .slice none 0 0], .int .i64 0, .int .i64 2]) (by simp [results, Tryd.results18, go_sem, e0, e1]) rfl (DcD.err HE.out (by decide) HZB.out)
 · have hse : ¬ sv = { data := #[70, 82, 77, 49] } := fun h => hm (hst.1 h)
   have hse3 : ¬ sv.toList = [70, 82, 77, 49] := fun h => hse (by rw [ByteArray.toList_eq] at h; cases sv with | mk d => exact congrArg ByteArray.mk (Array.toList_inj.1 (by simpa using h)))
   have hse4 : (sv.toList == [70, 82, 77, 49]) = false := by rw [beq_eq_false_iff_ne]; exact hse3
   clear hm h3 hst
   go_enter Tryd.func18, Tryd.ntmps18
   go_upto_region 1 with (fail)
   rw [← HW1.out]
   go_wp2
   obtain ⟨e0, e1, -⟩ := HZ.out.c2
   exact bodyPost_ret (v := .tuple #[.agg #[.int .i64 0, .slice none 0 0], .int .i64 0, .int .i64 2]) (by simp [results, Tryd.results18, go_sem, e0, e1]) rfl (DcD.err HE.out (by decide) HZB.out)
end Go.Proofs.YtinfeglhjmnlaaaDoor.pm
