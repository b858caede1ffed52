/- Bytes of targets: machcode.reader.frame. -/
import Derived.Test.YtinfeglhjmnlaaaDoorGHv
import Derived.Test.YtinfeglhjmnlaaaDoorGHs
import Derived.Test.YtinfeglhjmnlaaaDoorGHb
import Derived.Test.YtinfeglhjmnlaaaDoorGKv
import Derived.Deep.CutBlock
namespace Go.Proofs.YtinfeglhjmnlaaaDoor.pm
open Go.RowKit
set_option linter.unusedVariables false
set_option maxRecDepth 10000

section
variable {l : List Nat} {M p : Nat} {b : Bool}
theorem rdF_le (f : Nat) (l : List Nat) : ∀ p k v, (rdF f l p k v).2.1 ≤ l.length := by
  induction f with
  | zero => intro p k v; simp [rdF]
  | succ f ih =>
    intro p k v
    by_cases hp : p < l.length
    · by_cases h : 128 ≤ l.getD p 0
      · rw [rdF_big hp rfl h]; exact ih _ _ _
      · by_cases hb : (k = 9 ∧ 1 < l.getD p 0) ∨ (0 < k ∧ l.getD p 0 = 0)
        · rw [rdF_bad hp rfl h hb]; exact Nat.zero_le _
        · rw [rdF_ok hp rfl h hb]; show p + 1 ≤ _; omega
    · rw [rdF_short hp]; exact Nat.zero_le _
theorem rdU_le (l : List Nat) (x : Int) : (rdU l x).2.1 ≤ l.length := by
  unfold rdU
  split
  · exact rdF_le _ _ _ _ _
  · exact Nat.zero_le _
theorem any_pos (hp : p ≤ M) (hl : l.length ≤ M) : (anyP l p b).2.1 ≤ M := by
  unfold anyP
  split
  · exact Nat.le_trans (rdU_le _ _) hl
  · exact hp
theorem up_pos {lim : Nat} (hp : p ≤ M) (hl : l.length ≤ M) : (upP l lim p b).2.1 ≤ M := by
  unfold upP
  split
  · exact any_pos hp hl
  · exact any_pos hp hl
theorem op_pos (hp : p ≤ M) (hl : l.length ≤ M) : (opP l p b).2.1 ≤ M := by
  unfold opP
  split
  · exact hp
  · rename_i h
    show p + 1 ≤ M
    have : ¬ l.length ≤ p := fun h' => h (.inr h')
    omega
theorem ops_pos {k : Nat} (hp : p ≤ M) (hl : l.length ≤ M) : (opsP l k p b).2.1 ≤ M := by
  induction k with
  | zero => exact hp
  | succ k ih => exact up_pos ih hl
theorem ops_len (l : List Nat) (k p : Nat) (b : Bool) : (opsP l k p b).1.length = k := by
  induction k with
  | zero => rfl
  | succ k ih => unfold opsP; simp [ih]
theorem ops_le (l : List Nat) (k p : Nat) (b : Bool) : ∀ v ∈ (opsP l k p b).1, v ≤ 2147483647 := by
  induction k with
  | zero => intro v hv; cases hv
  | succ k ih =>
    intro v hv
    unfold opsP at hv
    rcases List.mem_append.1 hv with h | h
    · exact ih v h
    · rw [List.mem_singleton.1 h]; exact upP_le _ _ _ _
theorem imm_pos {q : Bool} (hp : p ≤ M) (hl : l.length ≤ M) : (immP l q p b).2.1 ≤ M := by
  unfold immP
  cases q
  · exact hp
  · exact any_pos hp hl
theorem ins_pos (hp : p ≤ M) (hl : l.length ≤ M) : (insP l p b).2.1 ≤ M := imm_pos (ops_pos (op_pos hp hl) hl) hl
theorem op_lt (hl : ∀ x ∈ l, x < 256) (p : Nat) (b : Bool) : (opP l p b).1 < 256 := by
  unfold opP
  split
  · simp
  · rename_i h
    have h1 : ¬ l.length ≤ p := fun h' => h (.inr h')
    exact hl _ (getD_mem' (by omega))
end
theorem code_stop (l : List Nat) (m p : Nat) (b : Bool) (h : m = 0 ∨ b = true) : codeP l m p b = ([], p, b) := by
  rcases h with rfl | rfl
  · rfl
  · cases m <;> rfl
theorem ins_cells (g : Nat) (on : Nat) (vs : List Nat) (i u : Nat) (hi : vs.length = i) (h3 : i < 3) :
    (#[Value.int .i64 (on : Int), .int .i64 ((vs.getD 0 0 : Nat) : Int), .int .i64 ((vs.getD 1 0 : Nat) : Int), .int .i64 ((vs.getD 2 0 : Nat) : Int), .int .u64 0] : Array Value).setIfInBounds (i + 1) (.int .i64 (u : Int)) =
    #[Value.int .i64 (on : Int), .int .i64 (((vs ++ [u]).getD 0 0 : Nat) : Int), .int .i64 (((vs ++ [u]).getD 1 0 : Nat) : Int), .int .i64 (((vs ++ [u]).getD 2 0 : Nat) : Int), .int .u64 0] := by
  subst hi
  match vs, h3 with
  | [], _ => rfl
  | [a], _ => rfl
  | [a, b], _ => rfl
theorem inV_snoc (l : List Ins) (x : Ins) : inV (l ++ [x]) = inV l ++ icells x := by unfold inV; simp
theorem grown_al {w W : World} {row : Option Nat} (h : w.grownBy W row) (o : Obj) : w.grownBy (W.alloc o) row := ⟨h.os, h.tape, h.output, by have := h.size; simp; omega, fun b hb hne => (Below.heap_alloc W o b (by have := h.size; omega)).trans (h.block b hb hne)⟩
theorem grown_set' {w W : World} {row : Option Nat} (h : w.grownBy W row) {a : Addr} (ha : w.heap.size ≤ a.block) (u : Value) : w.grownBy (W.setCell a u) row := ⟨h.os, h.tape, h.output, by have := h.size; simpa using this, fun b hb hne => (Below.heap_setCell W a u b (by omega)).trans (h.block b hb hne)⟩
theorem grown_own {w W W' : World} {row r2 : Option Nat} (h : w.grownBy W row) (h2 : W.grownBy W' r2) (hr : ∀ j, r2 = some j → w.heap.size ≤ j) : w.grownBy W' row := ⟨h2.os.trans h.os, h2.tape.trans h.tape, h2.output.trans h.output, Nat.le_trans h.size h2.size, fun b hb hne => (h2.block b (by have := h.size; omega) (fun e => by have := hr b e.symm; omega)).trans (h.block b hb hne)⟩
theorem grown_bel {w W W' : World} {row : Option Nat} (h : w.grownBy W row) (h2 : Below W.heap.size W W') : w.grownBy W' row := ⟨h2.os.trans h.os, h2.tape.trans h.tape, h2.output.trans h.output, Nat.le_trans h.size h2.size, fun b hb hne => (h2.block b (by have := h.size; omega)).trans (h.block b hb hne)⟩
theorem own_off {w : World} {base n g i : Nat} {e t : TypeId} {size : Nat} {v : Value} {xs : List Value} {cs : Array Value} (h : w.ownsRow base e size v n xs) (hK : Blk w g t cs) (hne : t ≠ e) (u : Value) : (w.setCell ⟨g, i, none⟩ u).ownsRow base e size v n xs := by
  refine ⟨h.1, ?_⟩
  rcases h.2 with h1 | ⟨g', cap, cur, h1, h2, h3, r⟩
  · exact .inl h1
  · have hg : g' ≠ g := by
      rintro rfl
      have hK' : w.heap[g']? = some (.cells cs t (0, 0)) := hK
      rw [h3] at hK'
      injection hK' with hK'
      injection hK' with _ hK' _
      exact hne hK'.symm
    exact .inr ⟨g', cap, cur, h1, h2, (Below.heap_setCell w ⟨g, i, none⟩ u g' hg).trans h3, r⟩
theorem own_offb {w : World} {base n g i : Nat} {e : TypeId} {size : Nat} {v : Value} {xs : List Value} (h : w.ownsRow base e size v n xs) (hne : v.ownBlock ≠ some g) (u : Value) : (w.setCell ⟨g, i, none⟩ u).ownsRow base e size v n xs := by
  refine ⟨h.1, ?_⟩
  rcases h.2 with h1 | ⟨g', cap, cur, h1, h2, h3, r⟩
  · exact .inl h1
  · have hg : g' ≠ g := by
      rintro rfl
      subst h1
      exact hne rfl
    exact .inr ⟨g', cap, cur, h1, h2, (Below.heap_setCell w ⟨g, i, none⟩ u g' hg).trans h3, r⟩
theorem reads_litX (w : World) (t : TypeId) (vs : List Value) (size n : Nat) (h : vs.length = n * size) : Reads (w.alloc (.cells vs.toArray t)) (w.heap.size + 1) size (some ⟨w.heap.size, 0, none⟩) n vs := by
  refine ⟨h, fun _ => ⟨⟨w.heap.size, 0, none⟩, rfl, Nat.lt_succ_self _, fun j u hu => ?_⟩⟩
  have e : (⟨w.heap.size, 0, none⟩ : Addr).add j = ⟨w.heap.size, j, none⟩ := by rcases j with _ | j <;> simp [Addr.add]
  rw [e, (Blk.new w t vs.toArray).cell j]
  simpa using hu
/-- what a frame under way looks like: its place for the answer, its cells, its code -/
structure FI (gr g4 g5 : Nat) (a : Nat) (sz : Int) (cs : List Ins) (o : Value) (w W : World) : Prop where
  f : Blk W g4 61 #[.int .i64 0, .int .i64 0, .slice none 0 0]
  x : Blk W g5 61 #[.int .i64 (a : Int), .int .i64 sz, o]
  ow : W.ownsRow g4 58 5 o cs.length (inV cs)
  g : w.grownBy W (some gr)
section
variable {gr g4 g5 a gx i : Nat} {sz : Int} {cs : List Ins} {o : Value} {w W W' : World}
theorem FI.bel (h : FI gr g4 g5 a sz cs o w W) (hb : Below W.heap.size W W') : FI gr g4 g5 a sz cs o w W' := ⟨h.f.after hb, h.x.after hb, own_keep h.ow hb (Nat.le_refl _), grown_bel h.g hb⟩
theorem FI.grown (h : FI gr g4 g5 a sz cs o w W) (hg : W.grownBy W' (some gr)) (h4 : gr < g4) (h5 : g4 < g5) : FI gr g4 g5 a sz cs o w W' :=
  ⟨h.f.grown hg (by intro h; injection h with h; omega), h.x.grown hg (by intro h; injection h with h; omega), h.ow.kept hg (by
    rcases hq : o.ownBlock with _ | k
    · exact .inl rfl
    · right
      intro e
      injection e with e
      have := h.ow.lt k hq
      omega), h.g.trans hg⟩
theorem FI.set (h : FI gr g4 g5 a sz cs o w W) (hx : w.heap.size ≤ gx) (h4 : g4 ≠ gx) (h5 : g5 ≠ gx) (ho : o.ownBlock ≠ some gx) (i : Nat) (u : Value) : FI gr g4 g5 a sz cs o w (W.setCell ⟨gx, i, none⟩ u) :=
  ⟨h.f.far h4 _, h.x.far h5 _, own_offb h.ow ho u, grown_set' h.g hx u⟩
end
def FrD (gr : Nat) (A : Option Addr) (n c : Nat) (r : Fr × Nat × Bool) (w : World) (e : Ending) (w' : World) : Prop :=
  ∃ V cc, e = .returned (.agg #[.int .i64 r.1.params, .int .i64 r.1.size, .slice V r.1.code.length cc]) ∧ (Nx w' w.heap.size w'.heap.size V r.1.code ∧ TyA w' V r.1.code.length 58) ∧ r.1.code.length ≤ cc ∧ r.1.code.length ≤ 1024 ∧
    Blk w' gr 79 #[.slice A n c, .int .i64 (r.2.1 : Int), .bool r.2.2] ∧ w.grownBy w' (some gr)
set_option maxHeartbeats 4000000 in
theorem frame11 (gr B : Nat) (A : Option Addr) (n c : Nat) (l : List Nat) (p : Nat) (b : Bool) (al : Int) (kk : Nat) (hk : kk ≤ 24) (hal : al = ((2 ^ kk : Nat) : Int)) (w : World) (hK : Blk w gr 79 #[.slice A n c, .int .i64 (p : Int), .bool b]) (hb : Bs w B A n l) (hgr : B ≤ gr) (hn : n ≤ 2000000) (hp : p ≤ 2000000) :
    Calls Tryd.prog 47 #[.pointer (some ⟨gr, 0, none⟩), .int .i64 al] w (FrD gr A n c (frameP l al p b) w) := by
  have hlen : l.length = n := hb.len
  have HLN := Lib.hid hlen
  have hBw : B ≤ w.heap.size := by have := hK.lt; omega
  have HRD := Lib.hid (fun (W : World) (h : w.grownBy W (some gr)) => (⟨hb.1.grown h hBw (by intro g e; injection e with e; omega), hb.2⟩ : Bs W B A n l))
  have hgw := hK.lt
  have HAL := Lib.hid hal
  clear hal
  obtain ⟨W1, hW1⟩ : ∃ W1, W1 = w.alloc (.cells #[.int .i64 0, .int .i64 0, .slice none 0 0] 61) := ⟨_, rfl⟩
  have hg1 : w.grownBy W1 (some gr) := by rw [hW1]; exact ⟨rfl, rfl, rfl, by simp, fun b hb _ => Below.heap_alloc w _ b hb⟩
  have HK1 : Hid (Blk W1 gr 79 #[.slice A n c, .int .i64 (p : Int), .bool b]) := Lib.hid (by rw [hW1]; exact hK.alloc _)
  have HF1 : Hid (Blk W1 w.heap.size 61 #[.int .i64 0, .int .i64 0, .slice none 0 0]) := Lib.hid (by rw [hW1]; exact Blk.new _ _ _)
  have HG1 := Lib.hid hg1
  have HW1 := Lib.hid hW1
  have HA := Lib.hid (up11 gr B A n c l 8 p b W1 HK1.out (HRD.out _ hg1) hn hp (by decide))
  obtain ⟨a, pa, ba, hea⟩ : ∃ a pa ba, upP l 8 p b = (a, pa, ba) := ⟨_, _, _, rfl⟩
  have hpa : pa ≤ 2000000 := by have := up_pos (l := l) (lim := 8) (b := b) hp (by omega); rw [hea] at this; exact this
  rw [hea] at HA
  have HEA := Lib.hid hea
  clear hg1 hW1 hK hb hea
  go_enter Tryd.func47, Tryd.ntmps47
  go_upto_region 1 with (fail)
  rw [← HW1.out]
  go_upto_region 2 with (refine HA.out.mono ?_; rintro e w2 ⟨rfl, hk2, hg2⟩)
  obtain ⟨W3, hW3⟩ : ∃ W3, W3 = w2.alloc (.cells #[.int .i64 (a : Int), .int .i64 0, .slice none 0 0] 61) := ⟨_, rfl⟩
  obtain ⟨g5, hg5⟩ : ∃ g, g = w2.heap.size := ⟨_, rfl⟩
  obtain ⟨g4, hg4⟩ : ∃ g, g = w.heap.size := ⟨_, rfl⟩
  rw [← hW3, ← hg5, ← hg4]
  rw [← hg4] at HF1
  have HK3 : Hid (Blk W3 gr 79 #[.slice A n c, .int .i64 (pa : Int), .bool ba]) := Lib.hid (by rw [hW3]; exact hk2.alloc _)
  have HF3 : Hid (Blk W3 g4 61 #[.int .i64 0, .int .i64 0, .slice none 0 0]) := Lib.hid (by rw [hW3]; exact (HF1.out.grown hg2 (by intro h; injection h with h; omega)).alloc _)
  have HX3 : Hid (Blk W3 g5 61 #[.int .i64 (a : Int), .int .i64 0, .slice none 0 0]) := Lib.hid (by rw [hW3, hg5]; exact Blk.new _ _ _)
  have HG3 : Hid (w.grownBy W3 (some gr)) := Lib.hid (by rw [hW3]; exact grown_al (HG1.out.trans hg2) _)
  have hs2 : w.heap.size < w2.heap.size := by
    have h1 := hg2.size
    have h2 : W1.heap.size = w.heap.size + 1 := by rw [HW1.out]; simp
    omega
  have hg45 : g4 < g5 := by omega
  have hgr4 : gr < g4 := by omega
  have HG4 := Lib.hid hg4
  clear hW3 hg5 hk2 hg2 HA HF1 HK1 hg4
  have HB := Lib.hid (up11 gr B A n c l 2147483647 pa ba W3 HK3.out (HRD.out _ HG3.out) hn hpa (by decide))
  obtain ⟨s, ps, bs, hes⟩ : ∃ s ps bs, upP l 2147483647 pa ba = (s, ps, bs) := ⟨_, _, _, rfl⟩
  have hps : ps ≤ 2000000 := by have := up_pos (l := l) (lim := 2147483647) (b := ba) hpa (by omega); rw [hes] at this; exact this
  have hs31 : s ≤ 2147483647 := by have := upP_le l 2147483647 pa ba; rw [hes] at this; exact this
  rw [hes] at HB
  have HES := Lib.hid hes
  have hmr := mul_rng HAL.out hk hs31
  obtain ⟨sz, hsz⟩ : ∃ z : Int, al * (s : Int) = z := ⟨_, rfl⟩
  rw [hsz] at hmr
  have hmw : IntKind.i64.wrap sz = sz := IntWalk.i64_in _ (by omega)
  have HSZ := Lib.hid hsz
  have HMR := Lib.hid hmr
  clear hes hmr
  obtain ⟨x0, x1, x2, -, y1, y2, xz⟩ := HX3.out.c3
  go_upto_region 3 with (refine HB.out.mono ?_; rintro e w4 ⟨rfl, hk4, hg4'⟩; have HX4 := Lib.hid (HX3.out.grown hg4' (by intro h; injection h with h; omega)); obtain ⟨z0, z1, z2, -, zf1, -, zz⟩ := HX4.out.c3)
  obtain ⟨W5, hW5⟩ : ∃ W5, W5 = w4.setCell ⟨g5, 1, none⟩ (.int .i64 sz) := ⟨_, rfl⟩
  rw [← hW5]
  have hrne : gr ≠ g5 := by omega
  have HK5 : Hid (Blk W5 gr 79 #[.slice A n c, .int .i64 (ps : Int), .bool bs]) := Lib.hid (by rw [hW5]; exact hk4.far (by simpa using hrne) _)
  have HF5 : Hid (Blk W5 g4 61 #[.int .i64 0, .int .i64 0, .slice none 0 0]) := Lib.hid (by rw [hW5]; exact (HF3.out.grown hg4' (by intro h; injection h with h; omega)).far (by simp; omega) _)
  have HX5 : Hid (Blk W5 g5 61 #[.int .i64 (a : Int), .int .i64 sz, .slice none 0 0]) := Lib.hid (by rw [hW5]; exact HX4.out.set_ 1 _)
  have HG5 : Hid (w.grownBy W5 (some gr)) := Lib.hid (by rw [hW5]; exact grown_set' (HG3.out.trans hg4') (by show w.heap.size ≤ g5; have := HG4.out; omega) _)
  have HSZ2 := HSZ
  clear hW5 hk4 hg4' HX4 HB HF3 HX3 HK3 HG3 x0 x1 x2 y1 y2 xz z0 z1 z2 zf1 zz hsz hmw
  have HC := Lib.hid (up11 gr B A n c l 1024 ps bs W5 HK5.out (HRD.out _ HG5.out) hn hps (by decide))
  obtain ⟨N, pn, bn, hen⟩ : ∃ N pn bn, upP l 1024 ps bs = (N, pn, bn) := ⟨_, _, _, rfl⟩
  have hpn : pn ≤ 2000000 := by have := up_pos (l := l) (lim := 1024) (b := bs) hps (by omega); rw [hen] at this; exact this
  have hN : N ≤ 1024 := by have := upP_le l 1024 ps bs; rw [hen] at this; exact this
  rw [hen] at HC
  have HFR : Hid (frameP l al p b = (⟨(a : Int), sz, (codeP l N pn bn).1⟩, (codeP l N pn bn).2)) := Lib.hid (by
    unfold frameP
    have h1 : upP l M31 pa ba = (s, ps, bs) := HES.out
    simp only [HEA.out, h1, hen, HSZ.out])
  clear hen
  go_wp2_with (refine HC.out.mono ?_; rintro e w6 ⟨rfl, hk6, hg6⟩)
  have HK6 := Lib.hid hk6
  have HG6 := Lib.hid (HG5.out.trans hg6)
  have HF6 := Lib.hid (HF5.out.grown hg6 (by intro h; injection h with h; omega))
  have HX6 := Lib.hid (HX5.out.grown hg6 (by intro h; injection h with h; omega))
  clear hk6 hg6 HC HK5 HF5 HX5 HG5
  obtain ⟨i0, hi0, hz0, hz1, hz2⟩ := info_parts info_ins
  have hsw : w.heap.size = g4 := HG4.out.symm
  go_loopw [6] (fun x wr => ∃ (m q : Nat) (b' : Bool) (cs : List Ins) (o : Value), x = .int .i64 (m : Int) ∧ q ≤ 2000000 ∧ cs.length + m ≤ 1024 ∧ Hid (codeP l N pn bn = (cs ++ (codeP l m q b').1, (codeP l m q b').2)) ∧ Hid (Blk wr gr 79 #[.slice A n c, .int .i64 (q : Int), .bool b']) ∧
    Hid (Blk wr g4 61 #[.int .i64 0, .int .i64 0, .slice none 0 0]) ∧ Hid (Blk wr g5 61 #[.int .i64 (a : Int), .int .i64 sz, o]) ∧ Hid (wr.ownsRow g4 58 5 o cs.length (inV cs)) ∧ Hid (w.grownBy wr (some gr))) (fun x _ => (intOf x).toNat)
  case atStart => exact ⟨N, pn, bn, [], .slice none 0 0, rfl, hpn, by simpa using hN, Lib.hid (by simp), HK6, HF6, HX6, Lib.hid (World.ownsRow_nil _ _ _ _), HG6⟩
  case round =>
    obtain ⟨m, q, b', cs, o, rfl, hq, hcl, HCO, HKr, HFr, HXr, HOr, HGr⟩ := hrel
    have HCL := Lib.hid hcl
    have hm31 : (m : Int) ≤ 1024 := by omega
    clear hcl
    obtain ⟨r0, r1, r2, rf0, rf1, rf2, rz⟩ := HKr.out.c3
    obtain ⟨x0, x1, x2, -, y1, y2, xz⟩ := HXr.out.c3
    by_cases hend : m = 0 ∨ b' = true
    · have HE : Hid (codeP l N pn bn = (cs, q, b')) := Lib.hid (by rw [HCO.out, code_stop _ _ _ _ hend]; simp)
      obtain ⟨V, cc, rfl, hm1⟩ := own_form HOr.out
      obtain ⟨d0, d1, d2, df0, df1, df2, dz⟩ := HFr.out.c3
      have hHZ := Blk.put3 HFr.out (.int .i64 (a : Int)) (.int .i64 sz) (.slice V cs.length cc)
      have hFIN : FrD gr A n c (frameP l al p b) w (.returned (.agg #[.int .i64 (a : Int), .int .i64 sz, .slice V cs.length cc])) (((wr.setCell ⟨g4, 0, none⟩ (.int .i64 (a : Int))).setCell ⟨g4, 1, none⟩ (.int .i64 sz)).setCell ⟨g4, 2, none⟩ (.slice V cs.length cc)) := by
        have h1 := own_off (i := 0) HOr.out HFr.out (by decide) (.int .i64 (a : Int))
        have h2 := own_off (i := 1) h1 (HFr.out.set_ 0 (.int .i64 (a : Int))) (by decide) (.int .i64 sz)
        have h3 := own_off (i := 2) h2 ((HFr.out.set_ 0 (.int .i64 (a : Int))).set_ 1 (.int .i64 sz)) (by decide) (.slice V cs.length cc)
        have hg : w.heap.size ≤ g4 := by omega
        refine ⟨V, cc, ?_, ?_, by rw [HFR.out, HE.out]; exact (own_cap HOr.out).2, by rw [HFR.out, HE.out]; show cs.length ≤ 1024; have := HCL.out; omega, ?_, grown_set' (grown_set' (grown_set' HGr.out hg _) hg _) hg _⟩
        · rw [HFR.out, HE.out]
        · rw [HFR.out, HE.out, hsw]
          exact ⟨Rx.of_own h3, TyA.of_own h3⟩
        · rw [HFR.out, HE.out]
          exact ((HKr.out.far (by simp; omega) _).far (by simp; omega) _).far (by simp; omega) _
      have HFIN := Lib.hid hFIN
      have HHZ := Lib.hid hHZ
      clear hFIN hHZ
      by_cases hm0 : m = 0
      · subst hm0
        clear hend
        go_wp2
        obtain ⟨e0, e1, e2, -⟩ := HHZ.out.c3
        exact bodyPost_ret (v := .agg #[.int .i64 (a : Int), .int .i64 sz, .slice V cs.length cc]) (by simp [results, Tryd.results47, go_sem, e0, e1, e2]) rfl HFIN.out
      · have hb' : b' = true := hend.resolve_left hm0
        subst hb'
        have hm1' : (0 : Int) < (m : Int) := by omega
        clear hend hm0
        go_wp2
        obtain ⟨e0, e1, e2, -⟩ := HHZ.out.c3
        exact bodyPost_ret (v := .agg #[.int .i64 (a : Int), .int .i64 sz, .slice V cs.length cc]) (by simp [results, Tryd.results47, go_sem, e0, e1, e2]) rfl HFIN.out
    · obtain ⟨hm0, hb0⟩ := not_or.1 hend
      obtain ⟨m', hm'⟩ := Nat.exists_eq_succ_of_ne_zero hm0
      have HM' : Hid (m = m' + 1) := Lib.hid hm'
      have hbf : b' = false := by simpa using hb0
      subst hbf
      have HFI : Hid (FI gr g4 g5 a sz cs o w wr) := Lib.hid ⟨HFr.out, HXr.out, HOr.out, HGr.out⟩
      have HOPc := Lib.hid (op11 gr B A n c l q false wr HKr.out (HRD.out _ HGr.out) hgr hn hq)
      obtain ⟨on, p1, b1, heo⟩ : ∃ on p1 b1, opP l q false = (on, p1, b1) := ⟨_, _, _, rfl⟩
      have hp1 : p1 ≤ 2000000 := by have := op_pos (l := l) (b := false) hq (by omega); rw [heo] at this; exact this
      have hon : on < 256 := by have := op_lt (HRD.out _ HGr.out).2 q false; rw [heo] at this; exact this
      rw [heo] at HOPc
      have HEO := Lib.hid heo
      have hmi : (0 : Int) < (m : Int) := by omega
      clear hend hm0 hb0 heo hm' HFr HXr HOr HGr HKr
      generalize wr = wo at *
      go_wp2_with fail
      refine HOPc.out.mono ?_
      rintro e w7 ⟨rfl, hk7, hg7⟩
      simp only at hk7 ⊢
      clear r0 r1 r2 rf0 rf1 rf2 rz x0 x1 x2 y1 y2 xz
      go_upto_region 7 with (fail)
      obtain ⟨W8, hW8⟩ : ∃ W8, W8 = w7.alloc (.cells #[.int .i64 (on : Int), .int .i64 0, .int .i64 0, .int .i64 0, .int .u64 0] 58) := ⟨_, rfl⟩
      obtain ⟨gx, hgx⟩ : ∃ g, g = w7.heap.size := ⟨_, rfl⟩
      rw [← hW8, ← hgx]
      have hb8 : Below w7.heap.size w7 W8 := by rw [hW8]; exact (Below.refl _ _).alloc (Nat.le_refl _) _
      have hf7 := HFI.out.grown hg7 hgr4 hg45
      have HF8 := Lib.hid (hf7.bel hb8)
      have HK8 := Lib.hid (hk7.after hb8)
      have HI8 : Hid (Blk W8 gx 58 #[.int .i64 (on : Int), .int .i64 0, .int .i64 0, .int .i64 0, .int .u64 0]) := Lib.hid (by rw [hW8, hgx]; exact Blk.new _ _ _)
      have hx5 : g5 < gx := by rw [hgx]; exact hf7.x.lt
      have HNO : Hid (o.ownBlock ≠ some gx) := Lib.hid (fun e => by have := (hf7.ow.lt gx e).2; omega)
      have hwx : w.heap.size ≤ gx := by omega
      have HOPS := Lib.hid (ops_any gx (on : Int) W8 (HI8.out.cell 0) HI8.out.lt)
      obtain ⟨nn, hnn⟩ : ∃ k, k = opM (on : Int) := ⟨_, rfl⟩
      obtain ⟨ib, hib⟩ : ∃ k, k = immB (on : Int) := ⟨_, rfl⟩
      rw [← hnn, ← hib] at HOPS
      have HNN := Lib.hid hnn
      have HIB := Lib.hid hib
      have hnn3 : nn ≤ 3 := by rw [hnn]; exact opM_le _
      clear hW8 hgx hb8 hf7 hk7 hg7 hnn hib HOPc
      go_wp2_with fail
      refine HOPS.out.mono ?_
      rintro e w9 ⟨Ao, co, rfl, hops, bel9⟩
      go_upto_region 8 with (fail)
      have HF9 := Lib.hid (HF8.out.bel bel9)
      have HK9 := Lib.hid (HK8.out.after bel9)
      have HI9 := Lib.hid (HI8.out.after bel9)
      have hw8 : gx < W8.heap.size := HI8.out.lt
      have HAP : Hid (nn = 0 ∨ ∃ ad, Ao = some ⟨ad, 0, none⟩ ∧ Blk w9 ad 94 (ptrs gx nn).toArray ∧ gx < ad) := Lib.hid (hops.imp id (fun ⟨ad, h1, h2, h3⟩ => ⟨ad, h1, h2, by omega⟩))
      clear hops bel9 HF8 HK8 HI8 HOPS hw8
      have hnni : (nn : Int) ≤ 3 := by omega
      go_upto_region 9 with (fail)
      go_loopw [42] (fun x wr => ∃ i : Nat, i ≤ nn ∧ x = .int .i64 i ∧ Hid (Blk wr gr 79 #[.slice A n c, .int .i64 ((opsP l i p1 b1).2.1 : Int), .bool (opsP l i p1 b1).2.2]) ∧
        Hid (Blk wr gx 58 #[.int .i64 (on : Int), .int .i64 (((opsP l i p1 b1).1.getD 0 0 : Nat) : Int), .int .i64 (((opsP l i p1 b1).1.getD 1 0 : Nat) : Int), .int .i64 (((opsP l i p1 b1).1.getD 2 0 : Nat) : Int), .int .u64 0]) ∧
        Hid (FI gr g4 g5 a sz cs o w wr) ∧ Hid (nn = 0 ∨ ∃ ad, Ao = some ⟨ad, 0, none⟩ ∧ Blk wr ad 94 (ptrs gx nn).toArray ∧ gx < ad)) (fun x _ => nn - (intOf x).toNat)
      case atStart => exact ⟨0, by omega, rfl, HK9, HI9, HF9, HAP⟩
      case round =>
        obtain ⟨i, hi, rfl, HKi, HIi, HFi, HAi⟩ := hrel
        clear HK9 HI9 HF9 HAP
        by_cases hlti : i < nn
        · have hi0 : (0 : Int) ≤ (i : Int) := by omega
          have hi1 : (i : Int) < (nn : Int) := by omega
          obtain ⟨ap, hAo, hKP, hap⟩ := HAi.out.resolve_left (by omega)
          subst hAo
          have hc1 : wr.cell? ⟨ap, i, none⟩ = some (.pointer (some ⟨gx, i + 1, none⟩)) := by rw [hKP.cell i]; simp [ptrs, hlti]
          have hapz : ap < wr.heap.size := hKP.lt
          obtain ⟨vs, pi, bi, hst⟩ : ∃ vs pi bi, opsP l i p1 b1 = (vs, pi, bi) := ⟨_, _, _, rfl⟩
          have hlv : vs.length = i := by have := ops_len l i p1 b1; rw [hst] at this; exact this
          have hpi : pi ≤ 2000000 := by have := ops_pos (l := l) (k := i) (b := b1) hp1 (show l.length ≤ 2000000 by omega); rw [hst] at this; exact this
          rw [hst] at HKi HIi
          simp only at HKi HIi
          have HU := Lib.hid (up11 gr B A n c l 2147483647 pi bi wr HKi.out (HRD.out _ HFi.out.g) hn hpi (by decide))
          obtain ⟨u, pu, bu, heu⟩ : ∃ u pu bu, upP l 2147483647 pi bi = (u, pu, bu) := ⟨_, _, _, rfl⟩
          rw [heu] at HU
          have HST : Hid (opsP l (i + 1) p1 b1 = (vs ++ [u], pu, bu)) := Lib.hid (by
            have h1 : upP l M31 pi bi = (u, pu, bu) := heu
            unfold opsP
            simp only [hst, h1])
          have HKP := Lib.hid hKP
          have HLV := Lib.hid hlv
          clear heu hst hKP hlv HAi
          go_wp2_with fail
          refine HU.out.mono ?_
          rintro e w11 ⟨rfl, hk11, hg11⟩
          simp only at hk11 ⊢
          have hI11 := HIi.out.grown hg11 (by intro h; injection h with h; omega)
          have hfz := hI11.frozen (i + 1)
          have hgxz := hI11.lt
          obtain ⟨vold, hvold⟩ : ∃ v, w11.cell? ⟨gx, i + 1, none⟩ = some v := by
            rw [hI11.cell (i + 1)]
            have : i = 0 ∨ i = 1 ∨ i = 2 := by omega
            rcases this with rfl | rfl | rfl <;> exact ⟨_, rfl⟩
          have HI11 := Lib.hid hI11
          have HK11 := Lib.hid hk11
          have HG11 := Lib.hid hg11
          have HP11 := Lib.hid (HKP.out.grown hg11 (by intro h; injection h with h; omega))
          clear hI11 hk11 hg11 hc1 hapz
          go_wp2
          go_roundw
          case rel =>
            refine ⟨i + 1, by omega, by go_num, Lib.hid ?_, Lib.hid ?_, Lib.hid ((HFi.out.grown HG11.out hgr4 hg45).set hwx (by omega) (by omega) HNO.out _ _), Lib.hid (.inr ⟨ap, rfl, HP11.out.far (by simp; omega) _, hap⟩)⟩
            · rw [HST.out]
              exact HK11.out.far (by simp; omega) _
            · rw [HST.out]
              have h := HI11.out.set_ (i + 1) (.int .i64 (u : Int))
              rw [ins_cells gx on vs i u HLV.out (by omega)] at h
              exact h
          case measure => simp [intOf]; omega
        · have hin : i = nn := by omega
          subst hin
          obtain ⟨vs, pv, bv, hst⟩ : ∃ vs pv bv, opsP l i p1 b1 = (vs, pv, bv) := ⟨_, _, _, rfl⟩
          have hpv : pv ≤ 2000000 := by have := ops_pos (l := l) (k := i) (b := b1) hp1 (show l.length ≤ 2000000 by omega); rw [hst] at this; exact this
          rw [hst] at HKi HIi
          simp only at HKi HIi
          obtain ⟨im, pz, bz, him⟩ : ∃ im pz bz, immP l ib pv bv = (im, pz, bz) := ⟨_, _, _, rfl⟩
          have hpz : pz ≤ 2000000 := by have := imm_pos (l := l) (q := ib) (b := bv) hpv (show l.length ≤ 2000000 by omega); rw [him] at this; exact this
          have HIN : Hid (insP l q false = (insO on vs im, pz, bz)) := Lib.hid (by
            unfold insP insR
            rw [HEO.out]
            simp only
            rw [← HNN.out, ← HIB.out, hst]
            simp only [him])
          have HIM := Lib.hid him
          clear hst him HAi hlti hi
          generalize wr = wn at *
          go_upto_if 51 with (fail)
          go_cut [] (fun wx => Blk wx gr 79 #[.slice A n c, .int .i64 (pz : Int), .bool bz] ∧ Blk wx gx 58 #[.int .i64 (on : Int), .int .i64 ((vs.getD 0 0 : Nat) : Int), .int .i64 ((vs.getD 1 0 : Nat) : Int), .int .i64 ((vs.getD 2 0 : Nat) : Int), .int .u64 (im : Int)] ∧ FI gr g4 g5 a sz cs o w wx)
          case first =>
            cases ib with
            | false =>
              have h := HIM.out
              unfold immP at h
              simp only [Bool.false_eq_true, if_false, Prod.mk.injEq] at h
              obtain ⟨rfl, rfl, rfl⟩ := h
              go_wp2_with fail
              go_meet
              exact ⟨HKi.out, HIi.out, HFi.out⟩
            | true =>
              have h := HIM.out
              unfold immP at h
              simp only [if_true] at h
              have HAN := Lib.hid (any11 gr B A n c l pv bv wn HKi.out (HRD.out _ HFi.out.g) hn hpv)
              rw [h] at HAN
              clear h
              go_wp2_with fail
              refine HAN.out.mono ?_
              rintro e w12 ⟨rfl, hk12, hg12⟩
              simp only at hk12 ⊢
              have hI12 := HIi.out.grown hg12 (by intro h; injection h with h; omega)
              obtain ⟨t0, t1, t2, t3, t4, -, -, -, -, tf4, tz⟩ := hI12.c5
              have HI12 := Lib.hid hI12
              have HK12 := Lib.hid hk12
              have HG12 := Lib.hid hg12
              clear hI12 hk12 hg12
              go_wp2_with fail
              go_meet
              exact ⟨HK12.out.far (by simp; omega) _, HI12.out.set_ 4 _, (HFi.out.grown HG12.out hgr4 hg45).set hwx (by omega) (by omega) HNO.out _ _⟩
          case rest =>
            obtain ⟨hkc, hic, hfc⟩ := hcut
            generalize wc = wn2 at *
            have HKc := Lib.hid hkc
            have HFc := Lib.hid hfc
            obtain ⟨t0, t1, t2, t3, t4, -, -, -, -, tf4, tz⟩ := hic.c5
            obtain ⟨x0, x1, x2, -, y1, y2, xz⟩ := hfc.x.c3
            have HM2 := Lib.hid (⟨HCL.out, HM'.out⟩ : cs.length + m ≤ 1024 ∧ m = m' + 1)
            have hcsl : cs.length ≤ 1024 := by have := HCL.out; omega
            clear hkc hic hfc HKi HIi HFi
            go_wp2_with (at_builtin; refine wpList_append_any _ rfl (.tmp 56) (.tmp 58) _ rfl g4 58 i0 _ 5 40 Tryd.underlying59 hi0 hz0 hz1 hz2 rfl (by omega) _ cs.length (inV cs) rfl (HFc.out.ow.alloc _) (wn2.heap.size + 1) (some ⟨wn2.heap.size, 0, none⟩) 1 1 [.int .i64 (on : Int), .int .i64 ((vs.getD 0 0 : Nat) : Int), .int .i64 ((vs.getD 1 0 : Nat) : Int), .int .i64 ((vs.getD 2 0 : Nat) : Int), .int .u64 (im : Int)] rfl (reads_litX wn2 _ [_, _, _, _, _] 5 1 rfl) (by simp [Value.oneCell']) (by unfold maxLen; omega) (by omega) (by have := HFc.out.f.lt; simp; omega) ?_; intro v1 w13 hown1 hg1 hat1; obtain ⟨V3, c3, rfl, hm3⟩ := own_form hown1; have HX13 := Lib.hid ((HFc.out.x.alloc _).grown hg1 (fun e => own_blk_ne HFc.out.ow HFc.out.x (by decide) e.symm)); obtain ⟨bb0, bb1, bb2, -, bf1, bf2, bz'⟩ := HX13.out.c3)
            go_roundw
            case rel =>
              have hb1 : g4 ≤ wn2.heap.size := by have := HFc.out.f.lt; omega
              refine ⟨m', pz, bz, cs ++ [insO on vs im], .slice V3 (cs.length + 1) c3, ?_, hpz, ?_, Lib.hid ?_, Lib.hid (((HKc.out.alloc _).grown hg1 (fun e => own_blk_ne HFc.out.ow HKc.out (by decide) e.symm)).far (by simp; omega) _),
                Lib.hid (((HFc.out.f.alloc _).grown hg1 (fun e => own_blk_ne HFc.out.ow HFc.out.f (by decide) e.symm)).far (by simp; omega) _), Lib.hid (HX13.out.set_ 2 _), Lib.hid ?_,
                Lib.hid (grown_set' (grown_own (grown_al HFc.out.g _) hg1 (fun j hj => by have := ((HFc.out.ow.alloc (.cells #[.int .i64 (on : Int), .int .i64 ((vs.getD 0 0 : Nat) : Int), .int .i64 ((vs.getD 1 0 : Nat) : Int), .int .i64 ((vs.getD 2 0 : Nat) : Int), .int .u64 (im : Int)] 58)).lt j hj).1; omega)) (by show w.heap.size ≤ g5; omega) _)⟩
              · rw [show (m : Int) - 1 = (m' : Int) by have := HM'.out; omega]
              · have := HM2.out
                simp only [List.length_append, List.length_cons, List.length_nil]
                omega
              · have h : codeP l (m' + 1) q false = ((insP l q false).1 :: (codeP l m' (insP l q false).2.1 (insP l q false).2.2).1, (codeP l m' (insP l q false).2.1 (insP l q false).2.2).2) := rfl
                rw [HIN.out] at h
                rw [HCO.out, HM'.out, h]
                simp
              · have h := own_off (i := 2) hown1 HX13.out (by decide) (.slice V3 (cs.length + 1) c3)
                rw [inV_snoc]
                have hl : (cs ++ [insO on vs im]).length = cs.length + 1 := by simp
                rw [hl]
                exact h
            case measure =>
              have := HM'.out
              simp [intOf]
              omega
end Go.Proofs.YtinfeglhjmnlaaaDoor.pm
