/- Strings of bytes. -/
import Derived.Test.YtinfeglhjmnlaaaDoorGBa
import Derived.Laws.IdiomStrings
import Derived.Laws.Strings
namespace Go.Proofs.YtinfeglhjmnlaaaDoor.pm
open Go.RowKit
set_option linter.unusedVariables false
set_option maxRecDepth 10000

def strB (l : List Nat) : ByteArray := ⟨(l.map UInt8.ofNat).toArray⟩
theorem strB_inj {l m : List Nat} (hl : ∀ x ∈ l, x < 256) (hm : ∀ x ∈ m, x < 256) : strB l = strB m ↔ l = m := by
 constructor
 · intro h
   have h1 : (l.map UInt8.ofNat) = (m.map UInt8.ofNat) := by
    have := congrArg (fun b : ByteArray => b.data.toList) h
    simpa [strB] using this
   have h2 : ∀ k : List Nat, (∀ x ∈ k, x < 256) → (k.map UInt8.ofNat).map UInt8.toNat = k := by
    intro k hk
    rw [List.map_map]
    conv => rhs; rw [← List.map_id k]
    refine List.map_congr_left (fun x hx => ?_)
    have := hk x hx
    simp
    omega
   rw [← h2 l hl, ← h2 m hm, h1]
 · intro h; rw [h]
theorem conv_take {w : World} {B n c : Nat} {A : Option Addr} {l : List Nat} (hb : Bs w B A n l) (k : Nat) (hk : k ≤ n) (h0 : 0 < k) :
 (convert 22 9 (.slice A k c)).run Tryd.prog w = .ok (.string (strB (l.take k))) w := by
 have hln := hb.len
 obtain ⟨ad, rfl, -, hc0⟩ := hb.at_ (by omega : 0 < n)
 have hlen : ((l.take k).map UInt8.ofNat).length = k := by simp; omega
 have := run_convert_bytes_back (P := Tryd.prog) w 22 9 5 ad c ((l.take k).map UInt8.ofNat) Tryd.underlying22 Tryd.underlying5 Tryd.underlying9 (fun j hj => by
  have hj' : j < k := by omega
  obtain ⟨ad', ha', -, hcj⟩ := hb.at_ (by omega : j < n)
  obtain rfl := Option.some.inj ha'
  rw [hcj]
  have h256 := hb.lt j
  simp only [List.getElem_map, List.getElem_take]
  rw [List.getD_eq_getElem?_getD, List.getElem?_eq_getElem (by omega)] at h256 ⊢
  simp only [Option.getD_some] at h256 ⊢
  congr 2
  simp
  omega)
 rw [hlen] at this
 exact this
end Go.Proofs.YtinfeglhjmnlaaaDoor.pm
