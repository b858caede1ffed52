/- The draw Target: plain facts. -/
import Derived.Test.YtmeoabpigibaoaaKtg
import Derived.Test.YtmeoabpigibaoaaPd5
namespace Go.Proofs.Ytmeoabpigibaoaa.pm
open Go.RowKit
set_option linter.unusedVariables false
set_option maxRecDepth 10000

theorem slots_right {sl : List (Int × Int)} (h : ∀ s ∈ sl, SlotOk s) (hl : sl.length ≤ 6) : slotsE sl = 0 := by
  unfold slotsE
  rw [if_neg (by omega), if_pos]
  refine List.all_eq_true.2 (fun s hs => ?_)
  obtain ⟨a, b⟩ := slot_pow (h s hs)
  rw [a, b]
  rfl
theorem mxO_al (g : Nat → Int) : ∀ n, (∀ j, j < n → g j ≤ 16 ∨ g j = 32 ∨ g j = 64) → AlOk (mxO g n)
  | 0, _ => .inl rfl
  | n + 1, h => by
    have ih := mxO_al g n (fun j hj => h j (by omega))
    have := h n (by omega)
    unfold AlOk at ih ⊢
    unfold mxO
    split <;> omega
theorem alP_ok {m : Nat} {p : List Fn} (hp : PrOk m p) : AlOk (alP p) := by
  refine mxO_al _ _ (fun j hj => ?_)
  have hok := hp.2.2.2 _ (getD_mem' (z := Fn.z) hj)
  have h1 : AlOk (alS (p.getD j Fn.z).slots) := by
    unfold alS
    rw [if_pos (slots_right hok.2.2.2.1 hok.2.2.1)]
    refine mxO_al _ _ (fun i hi => ?_)
    have h2 := hok.2.2.2.1 _ (getD_mem' (z := (0, 0)) hi)
    unfold SlotOk at h2
    omega
  unfold AlOk at h1
  omega
/-- frames while they are changed -/
def TInv (al : Int) (ps : List Int) (t : List Fr) : Prop := t.map Fr.params = ps ∧ ∀ f ∈ t, FrP al ps f
def CurOk (ps : List Int) (prm sz : Int) (len : Nat) (c : List Ins) : Prop := c.length = len ∧ (∀ x ∈ c, TiOk ps.length prm sz len x ∧ (x.op = 22 → 16 * ps.getD x.a.toNat 0 ≤ sz)) ∧ (c.getD (len - 1) Ins.z).op ∈ [(23 : Int), 24]
theorem CurOk.of {al : Int} {ps : List Int} {f : Fr} (h : FrP al ps f) : CurOk ps f.params f.size f.code.length f.code := ⟨rfl, h.2.2.2.2.2.2.2.1, h.2.2.2.2.2.2.2.2⟩
theorem CurOk.set {ps : List Int} {prm sz : Int} {len k : Nat} {c : List Ins} (h : CurOk ps prm sz len c) (hk : k < len) (ho : (c.getD k Ins.z).op = 16) {u : Int} (h0 : 0 ≤ u) (h1 : u + (c.getD k Ins.z).c ≤ sz) (h2 : sz ≤ 671) : CurOk ps prm sz len (c.set k (setA u (c.getD k Ins.z))) := by
  obtain ⟨a1, a2, a3⟩ := h
  have hkc : k < c.length := by omega
  refine ⟨by rw [List.length_set]; exact a1, fun x hx => ?_, ?_⟩
  · rcases List.mem_or_eq_of_mem_set hx with h | rfl
    · exact a2 x h
    · have hm := getD_mem' (z := Ins.z) hkc
      obtain ⟨b1, b2⟩ := a2 _ hm
      exact ⟨store_ok b1 ho h0 h1 h2, fun e => by have : (c.getD k Ins.z).op = 22 := e; omega⟩
  · rw [List.getD_eq_getElem?_getD, List.getElem?_set]
    split
    · rename_i e
      subst e
      rw [ho] at a3
      simp at a3
    · rw [← List.getD_eq_getElem?_getD]; exact a3
theorem TInv.set {al : Int} {ps : List Int} {t : List Fr} {j : Nat} (h : TInv al ps t) (hj : j < t.length) {c : List Ins} (hc : CurOk ps (t.getD j Fr.z).params (t.getD j Fr.z).size (t.getD j Fr.z).code.length c) : TInv al ps (t.set j ⟨(t.getD j Fr.z).params, (t.getD j Fr.z).size, c⟩) := by
  have hm := getD_mem' (z := Fr.z) hj
  obtain ⟨f0, f1, f2, f3, f4, f5, f6, f7, f8⟩ := h.2 _ hm
  refine ⟨?_, fun f hf => ?_⟩
  · rw [List.map_set, ← h.1]
    apply List.ext_getElem?
    intro i
    rw [List.getElem?_set]
    split
    · rename_i e
      subst e
      simp only [List.length_map, hj, if_true, List.getElem?_map]
      rw [List.getElem?_eq_getElem hj, List.getD_eq_getElem?_getD, List.getElem?_eq_getElem hj]
      rfl
    · rfl
  · rcases List.mem_or_eq_of_mem_set hf with h' | rfl
    · exact h.2 f h'
    · obtain ⟨c1, c2, c3⟩ := hc
      refine ⟨f0, f1, f2, f3, f4, by show 1 ≤ c.length; omega, by show c.length ≤ 200; omega, ?_, ?_⟩
      · show ∀ x ∈ c, TiOk ps.length _ _ c.length x ∧ _
        rw [c1]; exact c2
      · show (c.getD (c.length - 1) Ins.z).op ∈ _
        rw [c1]; exact c3
theorem tinv_start {m : Nat} {p : List Fn} {al : Int} (hm : m ≤ 80) (hp : PrOk m p) (ha : AlOk al) : TInv al (p.map Fn.params) (p.map (lowF p al)) := by
  refine ⟨?_, fun f hf => ?_⟩
  · rw [List.map_map]; rfl
  · obtain ⟨g, hg, rfl⟩ := List.mem_map.1 hf
    exact lowF_ok hm hp (hp.2.2.2 g hg) ha
theorem tgp_of {m : Nat} {p : List Fn} {al : Int} {t : List Fr} (hp : PrOk m p) (ha : AlOk al) (h : TInv al (p.map Fn.params) t) : TgP m al t := by
  have hl : t.length = p.length := by have := congrArg List.length h.1; simpa using this
  refine ⟨ha, by rw [hl]; exact hp.1, by rw [hl]; exact hp.2.1, ?_, fun f hf => by rw [h.1]; exact h.2 f hf⟩
  have h1 := congrArg (fun l : List Int => l.getD 0 0) h.1
  have h0 : 0 < t.length := by rw [hl]; exact hp.1
  have h0' : 0 < p.length := hp.1
  simp only [List.getD_eq_getElem?_getD, List.getElem?_map, List.getElem?_eq_getElem h0, List.getElem?_eq_getElem h0', Option.map_some, Option.getD_some] at h1
  have h2 := hp.2.2.1
  rw [List.getD_eq_getElem?_getD, List.getElem?_eq_getElem h0', Option.getD_some] at h2
  rw [List.getD_eq_getElem?_getD, List.getElem?_eq_getElem h0, Option.getD_some, h1, h2]
/-- the row of frames, one of whose code slices is another one -/
theorem Wx.set {w : World} {lo hi : Nat} {vs : List Value} {t : List Fr} {j : Nat} (h : Wx w lo hi vs t) (ht : Tx w vs t.length) (hl : vs.length = t.length * 3) (hj : j < t.length) {c : List Ins} {Ac : Option Addr} {cc : Nat} (hn : Nx w lo hi Ac c) (hT : TyA w Ac c.length 42) (hm : c.length ≤ maxLen) (hcc : c.length ≤ cc) :
    Wx w lo hi (vs.set (j * 3 + 2) (.slice Ac c.length cc)) (t.set j ⟨(t.getD j Fr.z).params, (t.getD j Fr.z).size, c⟩) ∧ Tx w (vs.set (j * 3 + 2) (.slice Ac c.length cc)) t.length := by
  refine ⟨fun i hi => ?_, fun i hi Ai m c' hv => ?_⟩
  · rw [List.length_set] at hi
    by_cases hij : i = j
    · subst hij
      obtain ⟨Ai, ci, h1, h2, h3, h5, h6⟩ := h i hi
      have e : (t.set i ⟨(t.getD i Fr.z).params, (t.getD i Fr.z).size, c⟩).getD i Fr.z = ⟨(t.getD i Fr.z).params, (t.getD i Fr.z).size, c⟩ := by
        rw [List.getD_eq_getElem?_getD (l := t.set _ _), List.getElem?_set_self hi]; rfl
      rw [e]
      refine ⟨Ac, cc, ?_, ?_, ?_, hn, hm, hcc⟩
      · rw [List.getElem?_set_ne (by omega)]; exact h1
      · rw [List.getElem?_set_ne (by omega)]; exact h2
      · rw [List.getElem?_set_self (by omega)]
    · obtain ⟨Ai, ci, h1, h2, h3, h5, h6⟩ := h i hi
      have e : (t.set j ⟨(t.getD j Fr.z).params, (t.getD j Fr.z).size, c⟩).getD i Fr.z = t.getD i Fr.z := by
        rw [List.getD_eq_getElem?_getD, List.getElem?_set_ne (fun e => hij e.symm), ← List.getD_eq_getElem?_getD]
      rw [e]
      refine ⟨Ai, ci, ?_, ?_, ?_, h5, h6⟩
      · rw [List.getElem?_set_ne (by omega)]; exact h1
      · rw [List.getElem?_set_ne (by omega)]; exact h2
      · rw [List.getElem?_set_ne (by omega)]; exact h3
  · by_cases hij : i = j
    · subst hij
      rw [List.getElem?_set_self (by omega)] at hv
      injection hv with hv
      injection hv with e1 e2 e3
      subst e1 e2 e3
      exact hT
    · rw [List.getElem?_set_ne (by omega)] at hv
      exact ht i hi _ _ _ hv
end Go.Proofs.Ytmeoabpigibaoaa.pm
