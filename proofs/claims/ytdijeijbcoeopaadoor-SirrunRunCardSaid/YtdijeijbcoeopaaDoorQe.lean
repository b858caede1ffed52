/- The reference's machine: enter. -/
import Derived.Test.YtdijeijbcoeopaaDoorGQa
import Derived.Deep.RegionLaw
import Derived.Test.YtdijeijbcoeopaaDoorRg
import Derived.StillTailTactics
set_option linter.unusedVariables false
set_option maxRecDepth 10000
set_option maxHeartbeats 8000000
namespace Go.Proofs.YtdijeijbcoeopaaDoor.pm
open Go.RowKit
attribute [local go_sem ↓] Go.wp_at_zero Go.wp_at_succ
theorem reads_blkQ {w : World} {g : Nat} {t : TypeId} {cs : Array Value} {n size : Nat} (h : Blk w g t cs) (hl : cs.size = n * size) : Reads w w.heap.size size (some ⟨g, 0, none⟩) n cs.toList :=
 ⟨by rw [Array.length_toList, hl], fun _ => ⟨⟨g, 0, none⟩, rfl, h.lt, fun j u hu => by
  have e : (⟨g, 0, none⟩ : Addr).add j = ⟨g, j, none⟩ := by unfold Addr.add; by_cases hj : j = 0 <;> simp [hj]
  rw [e, Blk.cell h j]
  rw [Array.getElem?_toList] at hu
  exact hu⟩⟩
theorem info_cell : (Tryd.prog.info? 118).map (fun i => (i.zero, i.size, i.bytes)) = some (some (.agg #[.int .u64 0, .int .u64 0, .bool false]), 3, 24) := by kernel_rfl
theorem info_ract : (Tryd.prog.info? 100).map (fun i => (i.zero, i.size, i.bytes)) = some (some (.agg #[.int .i64 0, .int .i64 0, .slice none 0 0, .slice none 0 0]), 4, 64) := by kernel_rfl
def zc (n : Nat) : Array Value := madeCells #[.int .u64 0, .int .u64 0, .bool false] (n * 3)
theorem zc_list (n : Nat) : (zc n).toList = (List.replicate n (none : Option (Nat × Nat))).flatMap cellV := by
 unfold zc
 apply List.ext_getElem
 · rw [flat_len cellV_len, List.length_replicate, Array.length_toList, size_madeCells]
 · intro i h1 h2
   have hl : i < n * 3 := by rw [Array.length_toList, size_madeCells] at h1; exact h1
   have h3 : i = i / 3 * 3 + i % 3 := by omega
   have hg := flat_get cellV_len (none : Option (Nat × Nat)) (List.replicate n none) (i / 3) (i % 3) (by rw [List.length_replicate]; omega) (by omega)
   rw [← h3] at hg
   rw [List.getElem?_eq_getElem h2] at hg
   have h4 : (List.replicate n (none : Option (Nat × Nat))).getD (i / 3) none = none := by
    rw [List.getD_eq_getElem?_getD, List.getElem?_replicate]
    split <;> rfl
   rw [h4] at hg
   have hm : i % 3 = 0 ∨ i % 3 = 1 ∨ i % 3 = 2 := by omega
   have he : (madeCells #[Value.int .u64 0, Value.int .u64 0, Value.bool false] (n * 3)).toList[i] = #[Value.int .u64 0, Value.int .u64 0, Value.bool false][i % 3]! := by
    simp [madeCells]
   rw [he]
   rcases hm with e | e | e <;> rw [e] at hg ⊢ <;> (simp [cellV] at hg; rw [hg]; rfl)
theorem zc_size (n : Nat) : (zc n).size = n * 3 := by unfold zc; exact size_madeCells _ _
theorem make_cells (s : Nat) (hs : s ≤ 1048576) (w : World) : (Instr.makeSlice 98 (.int .i64 (s : Int)) (.int .i64 (s : Int))).run Tryd.prog w = .ok (.slice (some ⟨w.heap.size, 0, none⟩) s s) (w.alloc (.cells (zc s) 118)) := by
 obtain ⟨i0, hi0, hz0, hz1, hz2⟩ := info_parts info_cell
 have := run_make_rowN (P := Tryd.prog) 98 118 i0 _ Tryd.underlying98 hi0 hz0 .i64 .i64 s s nL (by rw [hz2]; omega) (by omega) w
 rw [hz1] at this
 exact this
theorem made_cells {w : World} {lo g n : Nat} (h : Blk w g 118 (zc n)) (hlo : lo ≤ g) : CX w lo w.heap.size (some ⟨g, 0, none⟩) (List.replicate n none) := by
 have := reads_blkQ (n := n) (size := 3) h (zc_size n)
 rw [zc_list] at this
 unfold CX
 rw [List.length_replicate]
 exact ⟨this, fun ad e _ => by injection e with e; subst e; exact hlo⟩
theorem Below.of_grown_none {a b : World} (h : a.grownBy b none) : Below a.heap.size a b := below_of_grownR h (fun k hk => by cases hk) nL
theorem SVx.one {w : World} {lo hi : Nat} {vs : List Value} {l : List As8} (h : SVx w lo hi vs l) (hl : vs.length = l.length * 4) : ∀ u ∈ vs, u.oneCell' = true := by
 intro u hu
 obtain ⟨j, hj, rfl⟩ := List.mem_iff_getElem.1 hu
 obtain ⟨Sl, c1, Ar, c2, h1, h2, h3, h4, _⟩ := h (j / 4) (by omega)
 have hj3 : j = j / 4 * 4 ∨ j = j / 4 * 4 + 1 ∨ j = j / 4 * 4 + 2 ∨ j = j / 4 * 4 + 3 := by omega
 have e : vs[j]? = some vs[j] := List.getElem?_eq_getElem hj
 generalize vs[j] = u at e ⊢
 rcases hj3 with h0 | h0 | h0 | h0 <;> rw [h0] at e
 · rw [h1] at e; injection e with e; rw [← e]; rfl
 · rw [h2] at e; injection e with e; rw [← e]; rfl
 · rw [h3] at e; injection e with e; rw [← e]; rfl
 · rw [h4] at e; injection e with e; rw [← e]; rfl
section
variable {mb ca ct cp : Nat} {iv : Value} {As At : Option Addr} {s : Sx8} {p : List Fn} {ad : Addr}
theorem grown_below {a b c : World} {r : Option Nat} (h : a.grownBy b r) (k : Below a.heap.size b c) : a.grownBy c r :=
 ⟨k.os.trans h.os, k.tape.trans h.tape, k.output.trans h.output, Nat.le_trans h.size k.size, fun j hj hn => (k.block j hj).trans (h.block j hj hn)⟩
theorem enter_rows {W w : World} {pv iv : Value} {b1 b2 c9 : Nat} {A9 : Option Addr} {vs : List Value} (f ns : Nat) (h : SAt W mb pv iv As ca At ct s) (hrx : Rx W (mb + 1) W.heap.size 4 As s.acts.length vs) (hvx : SVx W (mb + 1) W.heap.size vs s.acts)
 (hg : W.grownBy w (some mb)) (hb : Blk w mb 83 (rcs pv iv (.slice A9 (s.acts.length + 1) c9) (.slice At s.trace.length ct) s))
 (own : w.ownsRow W.heap.size 100 4 (.slice A9 (s.acts.length + 1) c9) (s.acts.length + 1) (vs ++ [.int .i64 (f : Int), .int .i64 0, .slice (some ⟨b1, 0, none⟩) ns ns, .slice (some ⟨b2, 0, none⟩) 8 8]))
 (k1 : Blk w b1 118 (zc ns)) (k2 : Blk w b2 118 (zc 8)) (h1 : W.heap.size ≤ b1) (h2 : W.heap.size ≤ b2) (hns : ns ≤ maxLen) :
 SAt w mb pv iv A9 c9 At ct { s with acts := s.acts ++ [⟨f, 0, List.replicate ns none, List.replicate 8 none⟩] } := by
 have hk : Kp (mb + 1) W.heap.size W w := Kp.of_grown hg nL (.inl (by omega))
 have hmb : mb < W.heap.size := h.blk.lt
 have hvl : vs.length = s.acts.length * 4 := hrx.1.1
 have hl : (s.acts ++ [(⟨f, 0, List.replicate ns none, List.replicate 8 none⟩ : As8)]).length = s.acts.length + 1 := by simp
 refine ⟨by show Blk w mb _ (rcs pv iv (.slice A9 (s.acts ++ [_]).length c9) _ _); rw [hl]; exact hb, ⟨vs ++ [.int .i64 (f : Int), .int .i64 0, .slice (some ⟨b1, 0, none⟩) ns ns, .slice (some ⟨b2, 0, none⟩) 8 8], by show Rx _ _ _ _ _ (s.acts ++ [_]).length _; rw [hl]; exact (Rx.of_own own).more (by omega) nL, ?_⟩, (h.tr.keep hk).more nL hg.size, ⟨by show (s.acts ++ [_]).length ≤ _; rw [hl]; exact (own_cap own).2, h.caps.2⟩⟩
 show SVx w (mb + 1) w.heap.size _ (s.acts ++ [(⟨f, 0, List.replicate ns none, List.replicate 8 none⟩ : As8)])
 intro i hi
 have hi' : i < s.acts.length + 1 := by rw [← hl]; exact hi
 rcases Nat.lt_or_ge i s.acts.length with hlt | hge
 · obtain ⟨Sl, c1, Ar, c2, e1, e2, e3, e4, q1, q2, q3⟩ := (hvx.keep hk).more nL hg.size i hlt
   have g : (s.acts ++ [(⟨f, 0, List.replicate ns none, List.replicate 8 none⟩ : As8)]).getD i As8.z = s.acts.getD i As8.z := by rw [List.getD_eq_getElem?_getD, List.getElem?_append_left hlt, ← List.getD_eq_getElem?_getD]
   rw [g]
   have ap : ∀ (l4 : List Value) k, k < 4 → (vs ++ l4)[i * 4 + k]? = vs[i * 4 + k]? := fun l4 k hk4 => List.getElem?_append_left (by omega)
   exact ⟨Sl, c1, Ar, c2, (ap _ 0 (by omega)).trans e1, (ap _ 1 (by omega)).trans e2, (ap _ 2 (by omega)).trans e3, (ap _ 3 (by omega)).trans e4, q1, q2, q3⟩
 · have e : i = s.acts.length := by omega
   subst e
   have g : (s.acts ++ [(⟨f, 0, List.replicate ns none, List.replicate 8 none⟩ : As8)]).getD s.acts.length As8.z = ⟨f, 0, List.replicate ns none, List.replicate 8 none⟩ := by simp
   rw [g]
   have ap : ∀ (l4 : List Value) k, (vs ++ l4)[s.acts.length * 4 + k]? = l4[k]? := fun l4 k => by rw [List.getElem?_append_right (by omega), hvl, Nat.add_sub_cancel_left]
   refine ⟨some ⟨b1, 0, none⟩, ns, some ⟨b2, 0, none⟩, 8, (ap _ 0).trans rfl, (ap _ 1).trans rfl, (ap _ 2).trans (by simp), (ap _ 3).trans (by simp), made_cells k1 (by omega), made_cells k2 (by omega), ⟨by simp, by simpa using hns⟩, ⟨by simp, by simp [maxLen]⟩⟩
def EntD (mb : Nat) (pv iv : Value) (At : Option Addr) (ct : Nat) (s : Sx8) (w : World) (e : Ending) (w' : World) : Prop :=
 e = .returned (.tuple #[]) ∧ w.grownBy w' (some mb) ∧ ∃ As' ca', SAt w' mb pv iv As' ca' At ct s
theorem senter_any (W1 : World) (f : Nat) (hf : f < p.length) (h : SAt W1 mb (.slice (some ad) p.length cp) iv As ca At ct s) (hfx : Fx W1 0 mb (some ad) p) (hn : s.acts.length ≤ 1000000) (hns : (p.getD f Fn.z).slots.length ≤ 1000) (hp : p.length ≤ 1000) :
 Calls Tryd.prog 34 #[.pointer (some ⟨mb, 0, none⟩), .int .i64 (f : Int)] W1 (EntD mb (.slice (some ad) p.length cp) iv At ct (s.enter p f) W1) := by
 obtain ⟨i0, hi0, hz0, hz1, hz2⟩ := info_parts info_ract
 obtain ⟨vs, hrx, hvx⟩ := h.acts
 have hcap := h.caps.1
 obtain ⟨n, hne⟩ : ∃ n, n = s.acts.length := ⟨_, rfl⟩
 obtain ⟨ns, hnse⟩ : ∃ ns, ns = (p.getD f Fn.z).slots.length := ⟨_, rfl⟩
 obtain ⟨z0, z17, z18, z19, z20, z25, z26, hlt⟩ := h.cells
 obtain ⟨ad', As', cs', Ai, ci, e', hbl, -, z1, -⟩ := hfx.whole hf
 obtain rfl : ad = ad' := by injection e'
 have zf := h.blk.frozen 17
 have HRD : Hid (∀ W, Below W1.heap.size W1 W → Reads W W1.heap.size 4 As n vs) := hQ (fun W hW => by rw [hne]; exact (hrx.keep (Kp.of_below hW nL)).1)
 have HV1 := hQ (SVx.one hvx hrx.1.1)
 have HVX := hQ hvx
 have HRX := hQ hrx
 have HM := hQ h
 have HFX := hQ hfx
 have HNE := hQ hne
 have HNS := hQ hnse
 rw [← hne] at z17 hn hcap
 rw [← hnse] at z1 hns
 have hmk := fun W => make_cells ns (by omega) W
 have hmk8 : ∀ W : World, (Instr.makeSlice 98 (.int .i64 8) (.int .i64 8)).run Tryd.prog W = .ok (.slice (some ⟨W.heap.size, 0, none⟩) 8 8) (W.alloc (.cells (zc 8) 118)) := fun W => make_cells 8 (by omega) W
 have hbW : ad.block < W1.heap.size := by omega
 have hbW2 : (ad.add (f * 3)).block < W1.heap.size := by rw [block_of_add]; omega
 have hfi : (f : Int) < (p.length : Int) := by omega
 have hf0 : (0 : Int) ≤ (f : Int) := by omega
 have hni : (n : Int) ≤ 1000000 := by omega
 have hnsi : (ns : Int) ≤ 1000 := by omega
 clear h hfx hrx hvx hne hnse e' z18 z19 z20 z25 z26
 go_enter Tryd.func34, Tryd.ntmps34
 go_upto_region 0 with (fail)
 refine wp_region_rg (fun (X : Nat → Prop) (j : Nat) (u : Nat → Value) (w : World) => match j with
  | 0 => u 0 = .pointer (some ⟨mb, 0, none⟩)
  | 1 => u 1 = .pointer (some ⟨mb, 0, none⟩)
  | 2 => u 2 = .pointer (some ⟨mb, 0, none⟩)
  | 3 => u 3 = .pointer (some ⟨mb, 17, none⟩)
  | 4 => u 4 = .slice As n ca
  | 5 => (∃ A6 c6, u 5 = .slice A6 n c6) ∧ (¬ X 21 → w.ownsRow W1.heap.size 100 4 (u 5) n vs)
  | 6 => u 6 = .int .i64 (f : Int)
  | 7 => u 7 = .pointer (some ⟨mb, 0, none⟩)
  | 8 => u 8 = .pointer (some ⟨mb, 0, none⟩)
  | 9 => u 9 = .pointer (some ⟨mb, 0, none⟩)
  | 10 => u 10 = .pointer (some ⟨mb, 0, none⟩)
  | 11 => u 11 = .slice (some ad) p.length cp
  | 12 => u 12 = .int .i64 (f : Int)
  | 13 => u 13 = .pointer (some (ad.add (f * 3)))
  | 14 => u 14 = .pointer (some ⟨(ad.add (f * 3)).block, (ad.add (f * 3)).off + 1, none⟩)
  | 15 => u 15 = (Value.slice As' ns cs')
  | 16 => u 16 = .int .i64 (ns : Int)
  | 17 => ∃ b, u 17 = .slice (some ⟨b, 0, none⟩) ns ns ∧ W1.heap.size ≤ b ∧ Blk w b 118 (zc ns)
  | 18 => ∃ b, u 18 = .slice (some ⟨b, 0, none⟩) 8 8 ∧ W1.heap.size ≤ b ∧ Blk w b 118 (zc 8)
  | 19 => u 19 = .agg #[.int .i64 (f : Int), .int .i64 0, u 17, u 18]
  | 20 => ∃ b, u 20 = .slice (some ⟨b, 0, none⟩) 1 1 ∧ W1.heap.size ≤ b ∧ (¬ X 21 → Blk w b 100 #[.int .i64 (f : Int), .int .i64 0, u 17, u 18])
  | 21 => (∃ A9 c9, u 21 = .slice A9 (n + 1) c9) ∧ w.ownsRow W1.heap.size 100 4 (u 21) (n + 1) (vs ++ [.int .i64 (f : Int), .int .i64 0, u 17, u 18])
  | 22 => u 22 = .pointer (some ⟨mb, 0, none⟩)
  | 23 => u 23 = .pointer (some ⟨mb, 17, none⟩)
  | 24 => Blk w mb 83 (rcs (.slice (some ad) p.length cp) iv (u 21) (.slice At s.trace.length ct) s)
  | _ => True)
  (fun X w' => (¬ X 24 → Below W1.heap.size W1 w') ∧ W1.grownBy w' (some mb)) (fun w w' => Below w.heap.size w w') [21, 24] [0, 0, 2, 6, 14, 30, 0, 0, 128, 384, 896, 1920, 0, 8064, 16256, 32640, 65408, 130944, 0, 524224, 1048512, 2097150, 4194303, 8388607, 16777215]
  [[], [], [(1, 5)], [(2, 6)], [(3, 7)], [(4, 8)], [], [], [(7, 11)], [(8, 12)], [(9, 13)], [(10, 14)], [], [(11, 15), (12, 16)], [(13, 17)], [(14, 18)], [(15, 19)], [(16, 20)], [], [(6, 10), (17, 21), (18, 22)], [(19, 23)], [(5, 9), (20, 24)], [(0, 4)], [(22, 26)], [(21, 25), (23, 27)]]
  [(0, 4), (1, 5), (2, 6), (3, 7), (4, 8), (5, 9), (6, 10), (7, 11), (8, 12), (9, 13), (10, 14), (11, 15), (12, 16), (13, 17), (14, 18), (15, 19), (16, 20), (17, 21), (18, 22), (19, 23), (20, 24), (21, 25), (22, 26), (23, 27)] (by kernel_rfl) (by kernel_rfl) ?hsG ?hsT ?h0 ?hs ?he
 case hsG =>
  intro i X w w' hsp hR hG
  exact ⟨fun h => (hG.1 (fun q => h (.inr q))).trans (hR.mono (hG.1 (fun q => h (.inr q))).size), grownBy_trans hG.2 (grownBy_of_below hR _)⟩
 case hsT =>
  intro i X j u u' w w' hsp hij hni hXj hR hu h
  match j, hij, hni, hXj, hu, h with
  | 0, hij, hni, hXj, hu, h => exact (hu 0 (.inl rfl)).trans h
  | 1, hij, hni, hXj, hu, h => exact (hu 1 (.inl rfl)).trans h
  | 2, hij, hni, hXj, hu, h => exact (hu 2 (.inl rfl)).trans h
  | 3, hij, hni, hXj, hu, h => exact (hu 3 (.inl rfl)).trans h
  | 4, hij, hni, hXj, hu, h => exact (hu 4 (.inl rfl)).trans h
  | 5, hij, hni, hXj, hu, h => exact (by obtain ⟨⟨A6, c6, e⟩, ho⟩ := h; exact ⟨⟨A6, c6, (hu 5 (.inl rfl)).trans e⟩, fun hx => by rw [hu 5 (.inl rfl)]; exact own_keep (ho (fun q => hx (.inr q))) hR nL⟩)
  | 6, hij, hni, hXj, hu, h => exact (hu 6 (.inl rfl)).trans h
  | 7, hij, hni, hXj, hu, h => exact (hu 7 (.inl rfl)).trans h
  | 8, hij, hni, hXj, hu, h => exact (hu 8 (.inl rfl)).trans h
  | 9, hij, hni, hXj, hu, h => exact (hu 9 (.inl rfl)).trans h
  | 10, hij, hni, hXj, hu, h => exact (hu 10 (.inl rfl)).trans h
  | 11, hij, hni, hXj, hu, h => exact (hu 11 (.inl rfl)).trans h
  | 12, hij, hni, hXj, hu, h => exact (hu 12 (.inl rfl)).trans h
  | 13, hij, hni, hXj, hu, h => exact (hu 13 (.inl rfl)).trans h
  | 14, hij, hni, hXj, hu, h => exact (hu 14 (.inl rfl)).trans h
  | 15, hij, hni, hXj, hu, h => exact (hu 15 (.inl rfl)).trans h
  | 16, hij, hni, hXj, hu, h => exact (hu 16 (.inl rfl)).trans h
  | 17, hij, hni, hXj, hu, h => exact (by obtain ⟨b, e, hb, hk⟩ := h; exact ⟨b, (hu 17 (.inl rfl)).trans e, hb, hk.after hR⟩)
  | 18, hij, hni, hXj, hu, h => exact (by obtain ⟨b, e, hb, hk⟩ := h; exact ⟨b, (hu 18 (.inl rfl)).trans e, hb, hk.after hR⟩)
  | 19, hij, hni, hXj, hu, h => exact (by have h1 := h; simp only [← hu 17 (.inr rfl), ← hu 18 (.inr rfl), ← hu 19 (.inl rfl)] at h1; exact h1)
  | 20, hij, hni, hXj, hu, h => exact (by obtain ⟨b, e, hb, hk⟩ := h; refine ⟨b, (hu 20 (.inl rfl)).trans e, hb, fun hx => ?_⟩; rw [hu 17 (.inr rfl), hu 18 (.inr rfl)]; exact (hk (fun q => hx (.inr q))).after hR)
  | 21, hij, hni, hXj, hu, h => exact (by obtain ⟨⟨A9, c9, e⟩, ho⟩ := h; rw [hu 21 (.inl rfl), hu 17 (.inr rfl), hu 18 (.inr rfl)]; exact ⟨⟨A9, c9, e⟩, own_keep ho hR nL⟩)
  | 22, hij, hni, hXj, hu, h => exact (hu 22 (.inl rfl)).trans h
  | 23, hij, hni, hXj, hu, h => exact (hu 23 (.inl rfl)).trans h
  | 24, hij, hni, hXj, hu, h => exact (by have h1 := h; rw [← hu 21 (.inr rfl)] at h1; exact h1.after hR)
  | _ + 25, _, _, _, _, h => exact trivial
 case h0 => exact ⟨fun _ => bR.drew, grownBy_of_below ((Below.refl W1.heap.size W1).drew) _⟩
 case hs =>
  refine RgAll.cons [] rfl (by decide) ?_ ?_
  · intro u w X hi hA hF hG hT K hK
    simp only [lay, Act.put, sA, sZ, sS] at hK ⊢
    clear hi hA hF hG hT
    go_simp
    exact hK _ _ bR (updV_self _ _ _)
  refine RgAll.cons [] rfl (by decide) ?_ ?_
  · intro u w X hi hA hF hG hT K hK
    simp only [lay, Act.put, sA, sZ, sS] at hK ⊢
    clear hi hA hF hG hT
    go_simp
    exact hK _ _ bR (updV_self _ _ _)
  refine RgAll.cons [(1, 5)] rfl (by decide) ?_ ?_
  · intro u w X hi hA hF hG hT K hK
    have t1 : u 1 = .pointer (some ⟨mb, 0, none⟩) := hT 1 (hA 1 rfl)
    simp only [lay, Act.put, sA, sZ, sS, t1] at hK ⊢
    clear hi hA hF hG hT
    go_simp
    exact hK _ _ bR (updV_self _ _ _)
  refine RgAll.cons [(2, 6)] rfl (by decide) ?_ ?_
  · intro u w X hi hA hF hG hT K hK
    have t2 : u 2 = .pointer (some ⟨mb, 0, none⟩) := hT 2 (hA 2 rfl)
    simp only [lay, Act.put, sA, sZ, sS, t2] at hK ⊢
    clear hi hA hF hG hT
    go_simp
    exact hK _ _ bR (updV_self _ _ _)
  refine RgAll.cons [(3, 7)] rfl (by decide) ?_ ?_
  · intro u w X hi hA hF hG hT K hK
    have t3 : u 3 = .pointer (some ⟨mb, 17, none⟩) := hT 3 (hA 3 rfl)
    simp only [lay, Act.put, sA, sZ, sS, t3] at hK ⊢
    have HBw : Below W1.heap.size W1 w := hG.1 (hF 24 rfl)
    have z0w := (HBw.cell (p := ⟨mb, 0, none⟩) hlt).trans z0
    have z1w := (HBw.cell (p := ⟨(ad.add (f * 3)).block, (ad.add (f * 3)).off + 1, none⟩) hbW2).trans z1
    have z17w := (HBw.cell (p := ⟨mb, 17, none⟩) hlt).trans z17
    have hzw := HBw.size
    clear hi hA hF hG hT
    go_simp
    exact hK _ _ bR (updV_self _ _ _)
  refine RgAll.cons [(4, 8)] rfl (by decide) ?_ ?_
  · intro u w X hi hA hF hG hT K hK
    have t4 : u 4 = .slice As n ca := hT 4 (hA 4 rfl)
    simp only [lay, Act.put, sA, sZ, sS, t4] at hK ⊢
    have HBw : Below W1.heap.size W1 w := hG.1 (hF 24 rfl)
    have z0w := (HBw.cell (p := ⟨mb, 0, none⟩) hlt).trans z0
    have z1w := (HBw.cell (p := ⟨(ad.add (f * 3)).block, (ad.add (f * 3)).off + 1, none⟩) hbW2).trans z1
    have z17w := (HBw.cell (p := ⟨mb, 17, none⟩) hlt).trans z17
    have hzw := HBw.size
    have hNX : ¬ X 21 := hF 21 rfl
    rw [if_pos (show Region.wanted _ _ = true by simp [Region.wanted])]
    refine wp_append_any _ (.const (.slice none 0 0)) (.tmp 8) 81 rfl W1.heap.size 100 i0 _ 4 64 Tryd.underlying81 hi0 hz0 hz1 hz2 rfl (by omega) (.slice none 0 0) 0 [] rfl (World.ownsRow_nil _ _ _ _) W1.heap.size As n ca vs (by simp [Act.eval]) (HRD.out _ HBw) HV1.out (by unfold maxLen; omega) (by omega) hzw ?_
    intro v6 w6 own6 gX atX
    simp only [Nat.zero_add, List.nil_append] at own6
    obtain ⟨A6, c6, rfl, -⟩ := own_form own6
    exact hK _ _ (Below.of_grown_none gX) ⟨⟨A6, c6, updV_self _ _ _⟩, fun _ => by rw [updV_self]; exact own6⟩
  refine RgAll.cons [] rfl (by decide) ?_ ?_
  · intro u w X hi hA hF hG hT K hK
    simp only [lay, Act.put, sA, sZ, sS] at hK ⊢
    clear hi hA hF hG hT
    go_simp
    exact hK _ _ bR (updV_self _ _ _)
  refine RgAll.cons [] rfl (by decide) ?_ ?_
  · intro u w X hi hA hF hG hT K hK
    simp only [lay, Act.put, sA, sZ, sS] at hK ⊢
    clear hi hA hF hG hT
    go_simp
    exact hK _ _ bR (updV_self _ _ _)
  refine RgAll.cons [(7, 11)] rfl (by decide) ?_ ?_
  · intro u w X hi hA hF hG hT K hK
    have t7 : u 7 = .pointer (some ⟨mb, 0, none⟩) := hT 7 (hA 7 rfl)
    simp only [lay, Act.put, sA, sZ, sS, t7] at hK ⊢
    clear hi hA hF hG hT
    go_simp
    exact hK _ _ bR (updV_self _ _ _)
  refine RgAll.cons [(8, 12)] rfl (by decide) ?_ ?_
  · intro u w X hi hA hF hG hT K hK
    have t8 : u 8 = .pointer (some ⟨mb, 0, none⟩) := hT 8 (hA 8 rfl)
    simp only [lay, Act.put, sA, sZ, sS, t8] at hK ⊢
    clear hi hA hF hG hT
    go_simp
    exact hK _ _ bR (updV_self _ _ _)
  refine RgAll.cons [(9, 13)] rfl (by decide) ?_ ?_
  · intro u w X hi hA hF hG hT K hK
    have t9 : u 9 = .pointer (some ⟨mb, 0, none⟩) := hT 9 (hA 9 rfl)
    simp only [lay, Act.put, sA, sZ, sS, t9] at hK ⊢
    clear hi hA hF hG hT
    go_simp
    exact hK _ _ bR (updV_self _ _ _)
  refine RgAll.cons [(10, 14)] rfl (by decide) ?_ ?_
  · intro u w X hi hA hF hG hT K hK
    have t10 : u 10 = .pointer (some ⟨mb, 0, none⟩) := hT 10 (hA 10 rfl)
    simp only [lay, Act.put, sA, sZ, sS, t10] at hK ⊢
    have HBw : Below W1.heap.size W1 w := hG.1 (hF 24 rfl)
    have z0w := (HBw.cell (p := ⟨mb, 0, none⟩) hlt).trans z0
    have z1w := (HBw.cell (p := ⟨(ad.add (f * 3)).block, (ad.add (f * 3)).off + 1, none⟩) hbW2).trans z1
    have z17w := (HBw.cell (p := ⟨mb, 17, none⟩) hlt).trans z17
    have hzw := HBw.size
    clear hi hA hF hG hT
    go_simp
    exact hK _ _ bR (updV_self _ _ _)
  refine RgAll.cons [] rfl (by decide) ?_ ?_
  · intro u w X hi hA hF hG hT K hK
    simp only [lay, Act.put, sA, sZ, sS] at hK ⊢
    clear hi hA hF hG hT
    go_simp
    exact hK _ _ bR (updV_self _ _ _)
  refine RgAll.cons [(11, 15), (12, 16)] rfl (by decide) ?_ ?_
  · intro u w X hi hA hF hG hT K hK
    have t11 : u 11 = .slice (some ad) p.length cp := hT 11 (hA 11 rfl)
    have t12 : u 12 = .int .i64 (f : Int) := hT 12 (hA 12 rfl)
    simp only [lay, Act.put, sA, sZ, sS, t11, t12] at hK ⊢
    clear hi hA hF hG hT
    go_simp
    exact hK _ _ bR (updV_self _ _ _)
  refine RgAll.cons [(13, 17)] rfl (by decide) ?_ ?_
  · intro u w X hi hA hF hG hT K hK
    have t13 : u 13 = .pointer (some (ad.add (f * 3))) := hT 13 (hA 13 rfl)
    simp only [lay, Act.put, sA, sZ, sS, t13] at hK ⊢
    clear hi hA hF hG hT
    go_simp
    exact hK _ _ bR (updV_self _ _ _)
  refine RgAll.cons [(14, 18)] rfl (by decide) ?_ ?_
  · intro u w X hi hA hF hG hT K hK
    have t14 : u 14 = .pointer (some ⟨(ad.add (f * 3)).block, (ad.add (f * 3)).off + 1, none⟩) := hT 14 (hA 14 rfl)
    simp only [lay, Act.put, sA, sZ, sS, t14] at hK ⊢
    have HBw : Below W1.heap.size W1 w := hG.1 (hF 24 rfl)
    have z0w := (HBw.cell (p := ⟨mb, 0, none⟩) hlt).trans z0
    have z1w := (HBw.cell (p := ⟨(ad.add (f * 3)).block, (ad.add (f * 3)).off + 1, none⟩) hbW2).trans z1
    have z17w := (HBw.cell (p := ⟨mb, 17, none⟩) hlt).trans z17
    have hzw := HBw.size
    clear hi hA hF hG hT
    go_simp
    exact hK _ _ bR (updV_self _ _ _)
  refine RgAll.cons [(15, 19)] rfl (by decide) ?_ ?_
  · intro u w X hi hA hF hG hT K hK
    have t15 : u 15 = (Value.slice As' ns cs') := hT 15 (hA 15 rfl)
    simp only [lay, Act.put, sA, sZ, sS, t15] at hK ⊢
    clear hi hA hF hG hT
    go_simp
    exact hK _ _ bR (updV_self _ _ _)
  refine RgAll.cons [(16, 20)] rfl (by decide) ?_ ?_
  · intro u w X hi hA hF hG hT K hK
    have t16 : u 16 = .int .i64 (ns : Int) := hT 16 (hA 16 rfl)
    simp only [lay, Act.put, sA, sZ, sS, t16] at hK ⊢
    have HBw : Below W1.heap.size W1 w := hG.1 (hF 24 rfl)
    have z0w := (HBw.cell (p := ⟨mb, 0, none⟩) hlt).trans z0
    have z1w := (HBw.cell (p := ⟨(ad.add (f * 3)).block, (ad.add (f * 3)).off + 1, none⟩) hbW2).trans z1
    have z17w := (HBw.cell (p := ⟨mb, 17, none⟩) hlt).trans z17
    have hzw := HBw.size
    clear hi hA hF hG hT
    go_simp
    exact hK _ _ (bR.alloc nL _) ⟨w.heap.size, updV_self _ _ _, hzw, Blk.new _ _ _⟩
  refine RgAll.cons [] rfl (by decide) ?_ ?_
  · intro u w X hi hA hF hG hT K hK
    simp only [lay, Act.put, sA, sZ, sS] at hK ⊢
    have HBw : Below W1.heap.size W1 w := hG.1 (hF 24 rfl)
    have z0w := (HBw.cell (p := ⟨mb, 0, none⟩) hlt).trans z0
    have z1w := (HBw.cell (p := ⟨(ad.add (f * 3)).block, (ad.add (f * 3)).off + 1, none⟩) hbW2).trans z1
    have z17w := (HBw.cell (p := ⟨mb, 17, none⟩) hlt).trans z17
    have hzw := HBw.size
    clear hi hA hF hG hT
    go_simp
    exact hK _ _ (bR.alloc nL _) ⟨w.heap.size, updV_self _ _ _, hzw, Blk.new _ _ _⟩
  refine RgAll.cons [(6, 10), (17, 21), (18, 22)] rfl (by decide) ?_ ?_
  · intro u w X hi hA hF hG hT K hK
    have t6 : u 6 = .int .i64 (f : Int) := hT 6 (hA 6 rfl)
    have t17 : ∃ b, u 17 = .slice (some ⟨b, 0, none⟩) ns ns ∧ W1.heap.size ≤ b ∧ Blk w b 118 (zc ns) := hT 17 (hA 17 rfl)
    have t18 : ∃ b, u 18 = .slice (some ⟨b, 0, none⟩) 8 8 ∧ W1.heap.size ≤ b ∧ Blk w b 118 (zc 8) := hT 18 (hA 18 rfl)
    simp only [lay, Act.put, sA, sZ, sS, t6] at hK ⊢
    obtain ⟨b17, e17, -, -⟩ := t17
    obtain ⟨b18, e18, -, -⟩ := t18
    simp only [e17, e18] at hK ⊢
    clear hi hA hF hG hT
    go_simp
    refine hK _ _ bR ?_
    simp [updV, e17, e18]
  refine RgAll.cons [(19, 23)] rfl (by decide) ?_ ?_
  · intro u w X hi hA hF hG hT K hK
    have t17 : ∃ b, u 17 = .slice (some ⟨b, 0, none⟩) ns ns ∧ W1.heap.size ≤ b ∧ Blk w b 118 (zc ns) := hT 17 (hA 17 rfl)
    have t18 : ∃ b, u 18 = .slice (some ⟨b, 0, none⟩) 8 8 ∧ W1.heap.size ≤ b ∧ Blk w b 118 (zc 8) := hT 18 (hA 18 rfl)
    have t19 : u 19 = .agg #[.int .i64 (f : Int), .int .i64 0, u 17, u 18] := hT 19 (hA 19 rfl)
    simp only [lay, Act.put, sA, sZ, sS, t19] at hK ⊢
    have HBw : Below W1.heap.size W1 w := hG.1 (hF 24 rfl)
    have hzw := HBw.size
    obtain ⟨b17, e17, -, -⟩ := t17
    obtain ⟨b18, e18, -, -⟩ := t18
    simp only [e17, e18] at hK ⊢
    clear hi hA hF hG hT
    go_simp
    exact hK _ _ (bR.alloc nL _) ⟨w.heap.size, updV_self _ _ _, hzw, fun _ => by simp only [updV_ne _ _ (show 17 ≠ 20 by decide), updV_ne _ _ (show 18 ≠ 20 by decide), e17, e18]; exact Blk.new _ _ _⟩
  refine RgAll.consS [(5, 9), (20, 24)] rfl ?_ ?_
  · intro u w X hi hA hF hG hT K hK
    have t5 : (∃ A6 c6, u 5 = .slice A6 n c6) ∧ (¬ X 21 → w.ownsRow W1.heap.size 100 4 (u 5) n vs) := hT 5 (hA 5 rfl)
    have t17 : ∃ b, u 17 = .slice (some ⟨b, 0, none⟩) ns ns ∧ W1.heap.size ≤ b ∧ Blk w b 118 (zc ns) := hT 17 (hA 17 rfl)
    have t18 : ∃ b, u 18 = .slice (some ⟨b, 0, none⟩) 8 8 ∧ W1.heap.size ≤ b ∧ Blk w b 118 (zc 8) := hT 18 (hA 18 rfl)
    have t20 : ∃ b, u 20 = .slice (some ⟨b, 0, none⟩) 1 1 ∧ W1.heap.size ≤ b ∧ (¬ X 21 → Blk w b 100 #[.int .i64 (f : Int), .int .i64 0, u 17, u 18]) := hT 20 (hA 20 rfl)
    simp only [lay, Act.put, sA, sZ, sS] at hK ⊢
    have HBw : Below W1.heap.size W1 w := hG.1 (hF 24 rfl)
    have hzw := HBw.size
    obtain ⟨⟨A6, c6, e5⟩, ho5⟩ := t5
    have own5 := ho5 hi
    obtain ⟨b17, e17, hb17, hk17⟩ := t17
    obtain ⟨b18, e18, hb18, hk18⟩ := t18
    obtain ⟨b20, e20, hb20, hk20'⟩ := t20
    have hk20 := hk20' hi
    rw [e5] at own5
    rw [e17, e18] at hk20
    simp only [e5, e20] at hK ⊢
    rw [if_pos (show Region.wanted _ _ = true by simp [Region.wanted])]
    refine wp_append_any _ (.tmp 9) (.tmp 24) 81 rfl W1.heap.size 100 i0 _ 4 64 Tryd.underlying81 hi0 hz0 hz1 hz2 rfl (by omega) (.slice A6 n c6) n vs (by simp [Act.eval]) own5 w.heap.size (some ⟨b20, 0, none⟩) 1 1 [.int .i64 (f : Int), .int .i64 0, .slice (some ⟨b17, 0, none⟩) ns ns, .slice (some ⟨b18, 0, none⟩) 8 8] (by simp [Act.eval]) (reads_blkQ hk20 rfl) (by simp [Value.oneCell']) (by unfold maxLen; omega) (by omega) hzw ?_
    intro v9 w9 own9 gY atY
    have hb9 : Below W1.heap.size w w9 := below_of_grownR gY (fun k hk => (own5.lt k hk).1) hzw
    obtain ⟨A9, c9, rfl, -⟩ := own_form own9
    have k17 := hk17.grown gY (fun e => blk_own_ne (gb := 0) hk17 own5 (by decide) e.symm)
    have k18 := hk18.grown gY (fun e => blk_own_ne (gb := 0) hk18 own5 (by decide) e.symm)
    refine hK _ w9 ⟨fun _ => HBw.trans hb9, grown_below hG.2 hb9⟩ ?_
    intro j hj
    match j, hj with
    | 0, hj => exact (updV_ne _ _ (by decide)).trans (hT 0 (hj.resolve_left (by decide)))
    | 1, hj => exact (updV_ne _ _ (by decide)).trans (hT 1 (hj.resolve_left (by decide)))
    | 2, hj => exact (updV_ne _ _ (by decide)).trans (hT 2 (hj.resolve_left (by decide)))
    | 3, hj => exact (updV_ne _ _ (by decide)).trans (hT 3 (hj.resolve_left (by decide)))
    | 4, hj => exact (updV_ne _ _ (by decide)).trans (hT 4 (hj.resolve_left (by decide)))
    | 5, hj => exact (by simp only [updV_ne _ _ (show 5 ≠ 21 by decide)]; exact ⟨⟨A6, c6, e5⟩, fun h => absurd (by simp) h⟩)
    | 6, hj => exact (updV_ne _ _ (by decide)).trans (hT 6 (hj.resolve_left (by decide)))
    | 7, hj => exact (updV_ne _ _ (by decide)).trans (hT 7 (hj.resolve_left (by decide)))
    | 8, hj => exact (updV_ne _ _ (by decide)).trans (hT 8 (hj.resolve_left (by decide)))
    | 9, hj => exact (updV_ne _ _ (by decide)).trans (hT 9 (hj.resolve_left (by decide)))
    | 10, hj => exact (updV_ne _ _ (by decide)).trans (hT 10 (hj.resolve_left (by decide)))
    | 11, hj => exact (updV_ne _ _ (by decide)).trans (hT 11 (hj.resolve_left (by decide)))
    | 12, hj => exact (updV_ne _ _ (by decide)).trans (hT 12 (hj.resolve_left (by decide)))
    | 13, hj => exact (updV_ne _ _ (by decide)).trans (hT 13 (hj.resolve_left (by decide)))
    | 14, hj => exact (updV_ne _ _ (by decide)).trans (hT 14 (hj.resolve_left (by decide)))
    | 15, hj => exact (updV_ne _ _ (by decide)).trans (hT 15 (hj.resolve_left (by decide)))
    | 16, hj => exact (updV_ne _ _ (by decide)).trans (hT 16 (hj.resolve_left (by decide)))
    | 17, hj => exact (by simp only [updV_ne _ _ (show 17 ≠ 21 by decide)]; exact ⟨b17, e17, hb17, k17⟩)
    | 18, hj => exact (by simp only [updV_ne _ _ (show 18 ≠ 21 by decide)]; exact ⟨b18, e18, hb18, k18⟩)
    | 19, hj => exact (by simp only [updV_ne _ _ (show 19 ≠ 21 by decide), updV_ne _ _ (show 17 ≠ 21 by decide), updV_ne _ _ (show 18 ≠ 21 by decide)]; exact hT 19 (hj.resolve_left (by decide)))
    | 20, hj => exact (by simp only [updV_ne _ _ (show 20 ≠ 21 by decide)]; exact ⟨b20, e20, hb20, fun h => absurd (by simp) h⟩)
    | 21, hj => exact (by simp only [updV_self]; simp only [updV_ne _ _ (show 17 ≠ 21 by decide), updV_ne _ _ (show 18 ≠ 21 by decide)]; rw [e17, e18]; exact ⟨⟨A9, c9, rfl⟩, own9⟩)
    | 22, hj => exact (updV_ne _ _ (by decide)).trans (hT 22 (hj.resolve_left (by decide)))
    | 23, hj => exact (updV_ne _ _ (by decide)).trans (hT 23 (hj.resolve_left (by decide)))
    | 24, hj => exact absurd (hj.resolve_left (by decide)) (hF 24 rfl)
    | _ + 25, hj => exact trivial
  refine RgAll.cons [(0, 4)] rfl (by decide) ?_ ?_
  · intro u w X hi hA hF hG hT K hK
    have t0 : u 0 = .pointer (some ⟨mb, 0, none⟩) := hT 0 (hA 0 rfl)
    simp only [lay, Act.put, sA, sZ, sS, t0] at hK ⊢
    clear hi hA hF hG hT
    go_simp
    exact hK _ _ bR (updV_self _ _ _)
  refine RgAll.cons [(22, 26)] rfl (by decide) ?_ ?_
  · intro u w X hi hA hF hG hT K hK
    have t22 : u 22 = .pointer (some ⟨mb, 0, none⟩) := hT 22 (hA 22 rfl)
    simp only [lay, Act.put, sA, sZ, sS, t22] at hK ⊢
    clear hi hA hF hG hT
    go_simp
    exact hK _ _ bR (updV_self _ _ _)
  refine RgAll.consS [(21, 25), (23, 27)] rfl ?_ ?_
  · intro u w X hi hA hF hG hT K hK
    have t17 : ∃ b, u 17 = .slice (some ⟨b, 0, none⟩) ns ns ∧ W1.heap.size ≤ b ∧ Blk w b 118 (zc ns) := hT 17 (hA 17 rfl)
    have t18 : ∃ b, u 18 = .slice (some ⟨b, 0, none⟩) 8 8 ∧ W1.heap.size ≤ b ∧ Blk w b 118 (zc 8) := hT 18 (hA 18 rfl)
    have t21 : (∃ A9 c9, u 21 = .slice A9 (n + 1) c9) ∧ w.ownsRow W1.heap.size 100 4 (u 21) (n + 1) (vs ++ [.int .i64 (f : Int), .int .i64 0, u 17, u 18]) := hT 21 (hA 21 rfl)
    have t23 : u 23 = .pointer (some ⟨mb, 17, none⟩) := hT 23 (hA 23 rfl)
    simp only [lay, Act.put, sA, sZ, sS, t23] at hK ⊢
    have HBw : Below W1.heap.size W1 w := hG.1 hi
    obtain ⟨⟨A9, c9, e21⟩, own9⟩ := t21
    obtain ⟨b17, e17, hb17, hk17⟩ := t17
    obtain ⟨b18, e18, hb18, hk18⟩ := t18
    have hbm := (HM.out.after HBw).blk
    have zfw := hbm.frozen 17
    have z17w := (HBw.cell (p := ⟨mb, 17, none⟩) hlt).trans z17
    have hzm : mb < w.heap.size := hbm.lt
    simp only [e21] at hK ⊢
    go_simp
    refine hK undef _ ⟨fun h => absurd (by simp) h, grownBy_trans hG.2 (grown_mb _ _ _ _)⟩ ?_
    intro j hj
    match j, hj with
    | 0, hj => exact (updV_ne _ _ (by decide)).trans (hT 0 (hj.resolve_left (by decide)))
    | 1, hj => exact (updV_ne _ _ (by decide)).trans (hT 1 (hj.resolve_left (by decide)))
    | 2, hj => exact (updV_ne _ _ (by decide)).trans (hT 2 (hj.resolve_left (by decide)))
    | 3, hj => exact (updV_ne _ _ (by decide)).trans (hT 3 (hj.resolve_left (by decide)))
    | 4, hj => exact (updV_ne _ _ (by decide)).trans (hT 4 (hj.resolve_left (by decide)))
    | 5, hj => exact (by simp only [updV_ne _ _ (show 5 ≠ 24 by decide)]; exact ⟨(hT 5 (hj.resolve_left (by decide))).1, fun h => absurd (.inr (hA 21 rfl)) h⟩)
    | 6, hj => exact (updV_ne _ _ (by decide)).trans (hT 6 (hj.resolve_left (by decide)))
    | 7, hj => exact (updV_ne _ _ (by decide)).trans (hT 7 (hj.resolve_left (by decide)))
    | 8, hj => exact (updV_ne _ _ (by decide)).trans (hT 8 (hj.resolve_left (by decide)))
    | 9, hj => exact (updV_ne _ _ (by decide)).trans (hT 9 (hj.resolve_left (by decide)))
    | 10, hj => exact (updV_ne _ _ (by decide)).trans (hT 10 (hj.resolve_left (by decide)))
    | 11, hj => exact (updV_ne _ _ (by decide)).trans (hT 11 (hj.resolve_left (by decide)))
    | 12, hj => exact (updV_ne _ _ (by decide)).trans (hT 12 (hj.resolve_left (by decide)))
    | 13, hj => exact (updV_ne _ _ (by decide)).trans (hT 13 (hj.resolve_left (by decide)))
    | 14, hj => exact (updV_ne _ _ (by decide)).trans (hT 14 (hj.resolve_left (by decide)))
    | 15, hj => exact (updV_ne _ _ (by decide)).trans (hT 15 (hj.resolve_left (by decide)))
    | 16, hj => exact (updV_ne _ _ (by decide)).trans (hT 16 (hj.resolve_left (by decide)))
    | 17, hj => exact (by simp only [updV_ne _ _ (show 17 ≠ 24 by decide)]; exact ⟨b17, e17, hb17, hk17.far (p := ⟨mb, 17, none⟩) (by show b17 ≠ mb; omega) _⟩)
    | 18, hj => exact (by simp only [updV_ne _ _ (show 18 ≠ 24 by decide)]; exact ⟨b18, e18, hb18, hk18.far (p := ⟨mb, 17, none⟩) (by show b18 ≠ mb; omega) _⟩)
    | 19, hj => exact (by simp only [updV_ne _ _ (show 19 ≠ 24 by decide), updV_ne _ _ (show 17 ≠ 24 by decide), updV_ne _ _ (show 18 ≠ 24 by decide)]; exact hT 19 (hj.resolve_left (by decide)))
    | 20, hj => exact (by simp only [updV_ne _ _ (show 20 ≠ 24 by decide)]; obtain ⟨b20, e20, hb20, -⟩ := hT 20 (hj.resolve_left (by decide)); exact ⟨b20, e20, hb20, fun h => absurd (.inr (hA 21 rfl)) h⟩)
    | 21, hj => exact (by simp only [updV_ne _ _ (show 21 ≠ 24 by decide), updV_ne _ _ (show 17 ≠ 24 by decide), updV_ne _ _ (show 18 ≠ 24 by decide)]; rw [e21] at own9 ⊢; exact ⟨⟨A9, c9, rfl⟩, own_far own9 ⟨mb, 17, none⟩ hlt _⟩)
    | 22, hj => exact (updV_ne _ _ (by decide)).trans (hT 22 (hj.resolve_left (by decide)))
    | 23, hj => exact (updV_ne _ _ (by decide)).trans (hT 23 (hj.resolve_left (by decide)))
    | 24, hj => exact (by simp only [updV_ne _ _ (show 21 ≠ 24 by decide)]; rw [e21]; exact hbm.set_ 17 _)
    | _ + 25, hj => exact trivial
  exact RgAll.nil
 intro u w X hX hG hT
 have t0 : u 0 = .pointer (some ⟨mb, 0, none⟩) := hT 0 (by simp)
 have t1 : u 1 = .pointer (some ⟨mb, 0, none⟩) := hT 1 (by simp)
 have t2 : u 2 = .pointer (some ⟨mb, 0, none⟩) := hT 2 (by simp)
 have t3 : u 3 = .pointer (some ⟨mb, 17, none⟩) := hT 3 (by simp)
 have t4 : u 4 = .slice As n ca := hT 4 (by simp)
 have t5 : (∃ A6 c6, u 5 = .slice A6 n c6) ∧ (¬ X 21 → w.ownsRow W1.heap.size 100 4 (u 5) n vs) := hT 5 (by simp)
 have t6 : u 6 = .int .i64 (f : Int) := hT 6 (by simp)
 have t7 : u 7 = .pointer (some ⟨mb, 0, none⟩) := hT 7 (by simp)
 have t8 : u 8 = .pointer (some ⟨mb, 0, none⟩) := hT 8 (by simp)
 have t9 : u 9 = .pointer (some ⟨mb, 0, none⟩) := hT 9 (by simp)
 have t10 : u 10 = .pointer (some ⟨mb, 0, none⟩) := hT 10 (by simp)
 have t11 : u 11 = .slice (some ad) p.length cp := hT 11 (by simp)
 have t12 : u 12 = .int .i64 (f : Int) := hT 12 (by simp)
 have t13 : u 13 = .pointer (some (ad.add (f * 3))) := hT 13 (by simp)
 have t14 : u 14 = .pointer (some ⟨(ad.add (f * 3)).block, (ad.add (f * 3)).off + 1, none⟩) := hT 14 (by simp)
 have t15 : u 15 = (Value.slice As' ns cs') := hT 15 (by simp)
 have t16 : u 16 = .int .i64 (ns : Int) := hT 16 (by simp)
 have t17 : ∃ b, u 17 = .slice (some ⟨b, 0, none⟩) ns ns ∧ W1.heap.size ≤ b ∧ Blk w b 118 (zc ns) := hT 17 (by simp)
 have t18 : ∃ b, u 18 = .slice (some ⟨b, 0, none⟩) 8 8 ∧ W1.heap.size ≤ b ∧ Blk w b 118 (zc 8) := hT 18 (by simp)
 have t19 : u 19 = .agg #[.int .i64 (f : Int), .int .i64 0, u 17, u 18] := hT 19 (by simp)
 have t20 : ∃ b, u 20 = .slice (some ⟨b, 0, none⟩) 1 1 ∧ W1.heap.size ≤ b ∧ (¬ X 21 → Blk w b 100 #[.int .i64 (f : Int), .int .i64 0, u 17, u 18]) := hT 20 (by simp)
 have t21 : (∃ A9 c9, u 21 = .slice A9 (n + 1) c9) ∧ w.ownsRow W1.heap.size 100 4 (u 21) (n + 1) (vs ++ [.int .i64 (f : Int), .int .i64 0, u 17, u 18]) := hT 21 (by simp)
 have t22 : u 22 = .pointer (some ⟨mb, 0, none⟩) := hT 22 (by simp)
 have t23 : u 23 = .pointer (some ⟨mb, 17, none⟩) := hT 23 (by simp)
 have t24 : Blk w mb 83 (rcs (.slice (some ad) p.length cp) iv (u 21) (.slice At s.trace.length ct) s) := hT 24 (by simp)
 simp only [lay, Act.put, sA, sZ, sS, t0, t1, t2, t3, t4, t6, t7, t8, t9, t10, t11, t12, t13, t14, t15, t16, t19, t22, t23]
 clear hT t0 t1 t2 t3 t4 t6 t7 t8 t9 t10 t11 t12 t13 t14 t15 t16 t19 t22 t23
 obtain ⟨b17, e17, hb17, hk17⟩ := t17
 obtain ⟨b18, e18, hb18, hk18⟩ := t18
 obtain ⟨⟨A9, c9, e21⟩, own9⟩ := t21
 rw [e21, e17, e18] at own9
 rw [e21] at t24
 rw [HNE.out] at own9 t24
 have hA := enter_rows f ns HM.out HRX.out HVX.out hG.2 t24 own9 hk17 hk18 hb17 hb18 (by unfold maxLen; omega)
 have HGW := hQ hG.2
 clear hX hG t5 t20 e17 e18 e21 hk17 hk18 own9 t24 z0 z1 z17 zf
 generalize hs2 : ({ s with acts := s.acts ++ [⟨f, 0, List.replicate ns none, List.replicate 8 none⟩] } : Sx8) = s2 at hA
 have hl2 : s2.acts.length = n + 1 := by rw [← hs2]; simp [HNE.out]
 have hd2 : s2.deep = s.deep := by rw [← hs2]
 obtain ⟨q0, q17, -, q19, -, -, -, qlt⟩ := hA.cells
 rw [hl2] at q17
 rw [hd2] at q19
 have qf := hA.blk.frozen 19
 have HA := hQ hA
 have HS2 := hQ hs2
 have HD2 := hQ hd2
 have HL2 := hQ hl2
 obtain ⟨dp, hdp⟩ : ∃ d, d = s.deep := ⟨_, rfl⟩
 rw [← hdp] at q19
 have HDP := hQ hdp
 clear hA hs2 hd2 hl2 hdp
 go_upto_region 1 with (fail)
 go_still_tail 13, (by kernel_rfl)
 change wpList _ _ _ _ _ w.drew
 go_wp2
 obtain ⟨D, hD⟩ : ∃ D : Nat, D = if s.deep < s.acts.length + 1 then s.acts.length + 1 else s.deep := ⟨_, rfl⟩
 have e9 : max (dp : Int) ((n : Int) + 1) = (D : Int) := by
  have h1 := HDP.out
  have h2 := HNE.out
  rw [hD]
  split <;> omega
 rw [e9]
 go_end0
 have hm := (HA.out.mset 19 (.int .i64 (D : Int)) { s2 with deep := D } rfl rfl rfl).after (bR.drew)
 have es : ({ s2 with deep := D } : Sx8) = s.enter p f := by
  rw [← HS2.out, hD]
  unfold Sx8.enter
  rw [← HNS.out]
 rw [es] at hm
 exact ⟨rfl, grownBy_trans HGW.out (grownBy_trans (grown_mb _ _ _ _) (grownBy_of_below (bR.drew) _)), A9, c9, hm⟩
end
end Go.Proofs.YtdijeijbcoeopaaDoor.pm
