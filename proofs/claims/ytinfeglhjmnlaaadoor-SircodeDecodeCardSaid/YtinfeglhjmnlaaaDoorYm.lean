/- Bytes of programs: sircode.reader.function. -/
import Derived.Test.YtinfeglhjmnlaaaDoorYk
import Derived.Test.YtinfeglhjmnlaaaDoorGYc
import Derived.Test.YtinfeglhjmnlaaaDoorGHb
import Derived.Test.YtinfeglhjmnlaaaDoorGPd
import Derived.Deep.CutBlock
namespace Go.Proofs.YtinfeglhjmnlaaaDoor.pm
open Go.RowKit
set_option linter.unusedVariables false
set_option maxRecDepth 10000

theorem galloc6 {w W : World} {row : Option Nat} (h : w.grownBy W row) (o : Obj) : w.grownBy (W.alloc o) row := ⟨h.os, h.tape, h.output, by have := h.size; simp; omega, fun b hb hne => (Below.heap_alloc W o b (by have := h.size; omega)).trans (h.block b hb hne)⟩
theorem gsetG6 {w W : World} {row : Option Nat} (h : w.grownBy W row) {a : Addr} (ha : w.heap.size ≤ a.block) (u : Value) : w.grownBy (W.setCell a u) row := ⟨h.os, h.tape, h.output, by have := h.size; simpa using this, fun b hb hne => (Below.heap_setCell W a u b (by omega)).trans (h.block b hb hne)⟩
theorem gown6 {w W W' : World} {row r2 : Option Nat} (h : w.grownBy W row) (h2 : W.grownBy W' r2) (hr : ∀ j, r2 = some j → w.heap.size ≤ j) : w.grownBy W' row := ⟨h2.os.trans h.os, h2.tape.trans h.tape, h2.output.trans h.output, Nat.le_trans h.size h2.size, fun b hb hne => (h2.block b (by have := h.size; omega) (fun e => by have := hr b e.symm; omega)).trans (h.block b hb hne)⟩
theorem gbel6 {w W W' : World} {row : Option Nat} (h : w.grownBy W row) (h2 : Below W.heap.size W W') : w.grownBy W' row := ⟨h2.os.trans h.os, h2.tape.trans h.tape, h2.output.trans h.output, Nat.le_trans h.size h2.size, fun b hb hne => (h2.block b (by have := h.size; omega)).trans (h.block b hb hne)⟩
theorem ooff6 {w : World} {base n g i : Nat} {e t : TypeId} {size : Nat} {v : Value} {xs : List Value} {cs : Array Value} (h : w.ownsRow base e size v n xs) (hK : Blk w g t cs) (hne : t ≠ e) (u : Value) : (w.setCell ⟨g, i, none⟩ u).ownsRow base e size v n xs := by
  refine ⟨h.1, ?_⟩
  rcases h.2 with h1 | ⟨g', cap, cur, h1, h2, h3, r⟩
  · exact .inl h1
  · have hg : g' ≠ g := by
      rintro rfl
      have hK' : w.heap[g']? = some (.cells cs t (0, 0)) := hK
      rw [h3] at hK'
      injection hK' with hK'
      injection hK' with _ hK' _
      exact hne hK'.symm
    exact .inr ⟨g', cap, cur, h1, h2, (Below.heap_setCell w ⟨g, i, none⟩ u g' hg).trans h3, r⟩
theorem ooffb6 {w : World} {base n g i : Nat} {e : TypeId} {size : Nat} {v : Value} {xs : List Value} (h : w.ownsRow base e size v n xs) (hne : v.ownBlock ≠ some g) (u : Value) : (w.setCell ⟨g, i, none⟩ u).ownsRow base e size v n xs := by
  refine ⟨h.1, ?_⟩
  rcases h.2 with h1 | ⟨g', cap, cur, h1, h2, h3, r⟩
  · exact .inl h1
  · have hg : g' ≠ g := by
      rintro rfl
      subst h1
      exact hne rfl
    exact .inr ⟨g', cap, cur, h1, h2, (Below.heap_setCell w ⟨g, i, none⟩ u g' hg).trans h3, r⟩
theorem litX6 (w : World) (t : TypeId) (vs : List Value) (size n : Nat) (h : vs.length = n * size) : Reads (w.alloc (.cells vs.toArray t)) (w.heap.size + 1) size (some ⟨w.heap.size, 0, none⟩) n vs := by
  refine ⟨h, fun _ => ⟨⟨w.heap.size, 0, none⟩, rfl, Nat.lt_succ_self _, fun j u hu => ?_⟩⟩
  have e : (⟨w.heap.size, 0, none⟩ : Addr).add j = ⟨w.heap.size, j, none⟩ := by rcases j with _ | j <;> simp [Addr.add]
  rw [e, (Blk.new w t vs.toArray).cell j]
  simpa using hu
theorem icell6 (on : Nat) (vs : List Nat) (i u : Nat) (hi : vs.length = i) (h3 : i < 3) :
    (#[Value.int .i64 (on : Int), .int .i64 ((vs.getD 0 0 : Nat) : Int), .int .i64 ((vs.getD 1 0 : Nat) : Int), .int .i64 ((vs.getD 2 0 : Nat) : Int), .int .u64 0] : Array Value).setIfInBounds (i + 1) (.int .i64 (u : Int)) =
    #[Value.int .i64 (on : Int), .int .i64 (((vs ++ [u]).getD 0 0 : Nat) : Int), .int .i64 (((vs ++ [u]).getD 1 0 : Nat) : Int), .int .i64 (((vs ++ [u]).getD 2 0 : Nat) : Int), .int .u64 0] := by
  subst hi
  match vs, h3 with
  | [], _ => rfl
  | [a], _ => rfl
  | [a, b], _ => rfl
theorem put3_6 {w : World} {g : Nat} {t : TypeId} {b0 b1 b2 : Value} (h : Blk w g t #[b0, b1, b2]) (a0 a1 a2 : Value) : Blk (((w.setCell ⟨g, 0, none⟩ a0).setCell ⟨g, 1, none⟩ a1).setCell ⟨g, 2, none⟩ a2) g t #[a0, a1, a2] := by
  have := ((h.set_ 0 a0).set_ 1 a1).set_ 2 a2
  simpa using this
/-- a slice of slots, in a block of slots -/
def SxT (W : World) (lo hi : Nat) (V : Option Addr) (ss : List (Int × Int)) : Prop := Sx W lo hi V ss ∧ TyA W V ss.length 103
theorem SxT.kp {W W' : World} {lo hi : Nat} {V : Option Addr} {ss : List (Int × Int)} (h : SxT W lo hi V ss) (hk : Kp lo hi W W') : SxT W' lo hi V ss := ⟨h.1.keep hk, TyA.keep h.2 hk (Rx.inside h.1)⟩
theorem SxT.more {W : World} {lo hi lo' hi' : Nat} {V : Option Addr} {ss : List (Int × Int)} (h : SxT W lo hi V ss) (h1 : lo' ≤ lo) (h2 : hi ≤ hi') : SxT W lo' hi' V ss := ⟨h.1.more h1 h2, h.2⟩
theorem SxT.kt {W W' : World} {lo hi : Nat} {V : Option Addr} {ss : List (Int × Int)} {t : TypeId} (h : SxT W lo hi V ss) (hk : Kt t lo hi W W') (hne : 103 ≠ t) : SxT W' lo hi V ss := ⟨Rx.keepT h.1 h.2 hk hne, TyA.keepT h.1 h.2 hk hne⟩
/-- a function under way: the place for the answer, its cells, the row that is written -/
structure UI (gr g2 g3 lo : Nat) (xc : Array Value) (ety : TypeId) (size : Nat) (o : Value) (k : Nat) (xs : List Value) (w W : World) : Prop where
  f : Blk W g2 97 #[.int .i64 0, .slice none 0 0, .slice none 0 0]
  x : Blk W g3 97 xc
  ow : W.ownsRow lo ety size o k xs
  g : w.grownBy W (some gr)
section
variable {gr g2 g3 lo gx k size : Nat} {xc : Array Value} {ety : TypeId} {o : Value} {xs : List Value} {w W W' : World}
theorem UI.bel (h : UI gr g2 g3 lo xc ety size o k xs w W) (hb : Below W.heap.size W W') : UI gr g2 g3 lo xc ety size o k xs w W' := ⟨h.f.after hb, h.x.after hb, own_keep h.ow hb (Nat.le_refl _), gbel6 h.g hb⟩
theorem UI.grown (h : UI gr g2 g3 lo xc ety size o k xs w W) (hg : W.grownBy W' (some gr)) (h4 : gr < g2) (h5 : g2 < g3) (h6 : g3 < lo) : UI gr g2 g3 lo xc ety size o k xs w W' :=
  ⟨h.f.grown hg (by intro h; injection h with h; omega), h.x.grown hg (by intro h; injection h with h; omega), h.ow.kept hg (by
    rcases hq : o.ownBlock with _ | j
    · exact .inl rfl
    · right
      intro e
      injection e with e
      have := h.ow.lt j hq
      omega), h.g.trans hg⟩
theorem UI.set (h : UI gr g2 g3 lo xc ety size o k xs w W) (hx : w.heap.size ≤ gx) (h4 : g2 ≠ gx) (h5 : g3 ≠ gx) (ho : o.ownBlock ≠ some gx) (i : Nat) (u : Value) : UI gr g2 g3 lo xc ety size o k xs w (W.setCell ⟨gx, i, none⟩ u) :=
  ⟨h.f.far h4 _, h.x.far h5 _, ooffb6 h.ow ho u, gsetG6 h.g hx u⟩
end
def FuD (gr : Nat) (A : Option Addr) (n c : Nat) (r : Fn × Nat × Nat) (w : World) (e : Ending) (w' : World) : Prop :=
  ∃ Vs cs Vi ci, e = .returned (.agg #[.int .i64 r.1.params, .slice Vs r.1.slots.length cs, .slice Vi r.1.code.length ci]) ∧ (Sx w' w.heap.size w'.heap.size Vs r.1.slots ∧ TyA w' Vs r.1.slots.length 103) ∧ (Nx w' w.heap.size w'.heap.size Vi r.1.code ∧ TyA w' Vi r.1.code.length 58) ∧
    (r.1.slots.length ≤ cs ∧ r.1.code.length ≤ ci) ∧ Blk w' gr 135 #[.slice A n c, .int .i64 (r.2.1 : Int), .int .i64 (r.2.2 : Int)] ∧ w.grownBy w' (some gr)
set_option maxHeartbeats 8000000 in
theorem function6 (gr B : Nat) (A : Option Addr) (n c : Nat) (l : List Nat) (p : Nat) (w : World) (hK : Blk w gr 135 #[.slice A n c, .int .i64 (p : Int), .int .i64 ((0 : Nat) : Int)]) (hb : Bs w B A n l) (hgr : B ≤ gr) (hn : n ≤ 2000000) (hp : p ≤ 2000000) :
    Calls Tryd.prog 100 #[.pointer (some ⟨gr, 0, none⟩)] w (FuD gr A n c (funS l p) w) := by
  have hlen : l.length = n := hb.len
  have hll : l.length ≤ 2000000 := by omega
  have HLN := Lib.hid hlen
  have hBw : B ≤ w.heap.size := by have := hK.lt; omega
  have HRD := Lib.hid (fun (W : World) (h : w.grownBy W (some gr)) => (⟨hb.1.grown h hBw (by intro g e; injection e with e; omega), hb.2⟩ : Bs W B A n l))
  have HUP := Lib.hid (fun (W : World) (lim er q e : Nat) (hk : Blk W gr 135 #[.slice A n c, .int .i64 (q : Int), .int .i64 (e : Int)]) (h : w.grownBy W (some gr)) (hq : q ≤ 2000000) (hl : lim ≤ 2147483647) => up6 gr B A n c l lim er q e W hk (HRD.out W h) hn hq hl)
  have hgw := hK.lt
  obtain ⟨W1, hW1⟩ : ∃ W1, W1 = w.alloc (.cells #[.int .i64 0, .slice none 0 0, .slice none 0 0] 97) := ⟨_, rfl⟩
  obtain ⟨g2, hg2⟩ : ∃ g, g = w.heap.size := ⟨_, rfl⟩
  have hg1 : w.grownBy W1 (some gr) := by rw [hW1]; exact ⟨rfl, rfl, rfl, by simp, fun b hb _ => Below.heap_alloc w _ b hb⟩
  have HK1 : Hid (Blk W1 gr 135 #[.slice A n c, .int .i64 (p : Int), .int .i64 ((0 : Nat) : Int)]) := Lib.hid (by rw [hW1]; exact hK.alloc _)
  have HF1 : Hid (Blk W1 g2 97 #[.int .i64 0, .slice none 0 0, .slice none 0 0]) := Lib.hid (by rw [hW1, hg2]; exact Blk.new _ _ _)
  have HG1 := Lib.hid hg1
  have HW1 := Lib.hid hW1
  have HG2 := Lib.hid hg2
  have hs1 : W1.heap.size = g2 + 1 := by rw [hW1, hg2]; simp
  have hgr2 : gr < g2 := by omega
  have HA := Lib.hid (HUP.out W1 2147483647 4 p 0 HK1.out hg1 hp (by decide))
  obtain ⟨a, pa, ea, hea⟩ : ∃ a pa ea, upS l 2147483647 4 p 0 = (a, pa, ea) := ⟨_, _, _, rfl⟩
  have hpa : pa ≤ 2000000 := by have := upS_pos (lim := 2147483647) (er := 4) (e := 0) hp hll; rw [hea] at this; exact this
  rw [hea] at HA
  have HEA := Lib.hid hea
  clear hg1 hW1 hK hb hea hg2
  go_enter Tryd.func100, Tryd.ntmps100
  go_upto_region 1 with (fail)
  rw [← HW1.out, ← HG2.out]
  go_upto_region 2 with (go_at_call 98; refine HA.out.mono ?_; rintro e w2 ⟨rfl, hk2, hg2⟩)
  obtain ⟨W3, hW3⟩ : ∃ W3, W3 = w2.alloc (.cells #[.int .i64 (a : Int), .slice none 0 0, .slice none 0 0] 97) := ⟨_, rfl⟩
  obtain ⟨g3, hg3⟩ : ∃ g, g = w2.heap.size := ⟨_, rfl⟩
  rw [← hW3, ← hg3]
  have hs2 := hg2.size
  have hg23 : g2 < g3 := by omega
  obtain ⟨lo, hlo⟩ : ∃ lo, lo = g3 + 1 := ⟨_, rfl⟩
  have hlo3 : g3 < lo := by omega
  have HK3 : Hid (Blk W3 gr 135 #[.slice A n c, .int .i64 (pa : Int), .int .i64 (ea : Int)]) := Lib.hid (by rw [hW3]; exact hk2.alloc _)
  have HU3 : Hid (UI gr g2 g3 lo #[.int .i64 (a : Int), .slice none 0 0, .slice none 0 0] 103 2 (.slice none 0 0) 0 [] w W3) := Lib.hid (by
    rw [hW3]
    exact ⟨(HF1.out.grown hg2 (by intro h; injection h with h; omega)).alloc _, by rw [hg3]; exact Blk.new _ _ _, World.ownsRow_nil _ _ _ _, galloc6 (HG1.out.trans hg2) _⟩)
  clear hW3 hg3 hk2 hg2 HA HF1 HK1 HG1 HW1 hs1 hs2
  have HC := Lib.hid (HUP.out W3 512 3 pa ea HK3.out HU3.out.g hpa (by decide))
  obtain ⟨N, pn, en, hen⟩ : ∃ N pn en, upS l 512 3 pa ea = (N, pn, en) := ⟨_, _, _, rfl⟩
  have hpn : pn ≤ 2000000 := by have := upS_pos (lim := 512) (er := 3) (e := ea) hpa hll; rw [hen] at this; exact this
  have hN : N ≤ 512 := by have := (upS_le l 512 3 pa ea).1; rw [hen] at this; exact this
  rw [hen] at HC
  have HEN := Lib.hid hen
  clear hen
  go_wp2_with (go_at_call 98; refine HC.out.mono ?_; rintro e w4 ⟨rfl, hk4, hg4⟩)
  have HK4 := Lib.hid hk4
  have HU4 := Lib.hid (HU3.out.grown hg4 hgr2 hg23 hlo3)
  clear hk4 hg4 HC HU3 HK3
  obtain ⟨i0, hi0, hz0, hz1, hz2⟩ := info_parts info_slot
  obtain ⟨i1, hi1, hy0, hy1, hy2⟩ := info_parts info_ins
  have hsw : w.heap.size = g2 := HG2.out.symm
  go_loopw [4] (fun x wr => ∃ (m q e : Nat) (ss : List (Int × Int)) (o : Value), x = .int .i64 (m : Int) ∧ q ≤ 2000000 ∧ ss.length + m ≤ 512 ∧ Hid (manyS (slotS l) N pn en = (ss ++ (manyS (slotS l) m q e).1, (manyS (slotS l) m q e).2)) ∧
    Hid (Blk wr gr 135 #[.slice A n c, .int .i64 (q : Int), .int .i64 (e : Int)]) ∧ Hid (UI gr g2 g3 lo #[.int .i64 (a : Int), o, .slice none 0 0] 103 2 o ss.length (slV ss) w wr)) (fun x _ => (intOf x).toNat)
  case atStart => exact ⟨N, pn, en, [], .slice none 0 0, rfl, hpn, by simpa using hN, Lib.hid (by simp), HK4, HU4⟩
  case round =>
    obtain ⟨m, q, e', ss, o, rfl, hq, hcl, HCO, HKr, HUr⟩ := hrel
    have HCL := Lib.hid hcl
    have hm31 : (m : Int) ≤ 512 := by omega
    clear hcl HK4 HU4
    obtain ⟨r0, r1, r2, rf0, rf1, rf2, rz⟩ := HKr.out.c3
    by_cases hend : m = 0 ∨ e' ≠ 0
    · have HE : Hid (manyS (slotS l) N pn en = (ss, q, e')) := Lib.hid (by rw [HCO.out, manyS_stop hend]; simp)
      by_cases hm0 : m = 0
      case' pos =>
        subst hm0
        clear hend
        go_upto_region 8 with (fail)
      case' neg =>
        have hb' : e' ≠ 0 := hend.resolve_left hm0
        have hbe : ((e' : Int) == 0) = false := by rw [beq_eq_false_iff_ne]; omega
        have hmi : (0 : Int) < (m : Int) := by omega
        clear hend hm0 hb'
        go_upto_region 8 with (fail)
      all_goals
        have HFU : Hid (∀ (M pm em : Nat), upS l 1024 3 q e' = (M, pm, em) → funS l p = (⟨(a : Int), ss, (manyS (insS l) M pm em).1⟩, (manyS (insS l) M pm em).2.1, endR l (manyS (insS l) M pm em).2.1 (manyS (insS l) M pm em).2.2)) := Lib.hid (fun M pm em h => by
          have h1 : upS l M31 4 p 0 = (a, pa, ea) := HEA.out
          unfold funS
          simp only [h1, HEN.out, HE.out, h])
        obtain ⟨V, sc, hov, hm1⟩ := own_form HUr.out.ow
        subst hov
        have HSX : Hid (SxT wr lo wr.heap.size V ss) := Lib.hid ⟨Rx.of_own HUr.out.ow, TyA.of_own HUr.out.ow⟩
        have HSC := Lib.hid (own_cap HUr.out.ow).2
        have HSL : Hid (ss.length ≤ 512) := Lib.hid (by have := HCL.out; omega)
        have HUc : Hid (UI gr g2 g3 lo #[.int .i64 (a : Int), .slice V ss.length sc, .slice none 0 0] 58 5 (.slice none 0 0) 0 [] w wr) := Lib.hid ⟨HUr.out.f, HUr.out.x, World.ownsRow_nil _ _ _ _, HUr.out.g⟩
        have HD := Lib.hid (HUP.out wr 1024 3 q e' HKr.out HUr.out.g hq (by decide))
        obtain ⟨M, pm, em, hem⟩ : ∃ M pm em, upS l 1024 3 q e' = (M, pm, em) := ⟨_, _, _, rfl⟩
        have hpm : pm ≤ 2000000 := by have := upS_pos (lim := 1024) (er := 3) (e := e') hq hll; rw [hem] at this; exact this
        have hM : M ≤ 1024 := by have := (upS_le l 1024 3 q e').1; rw [hem] at this; exact this
        rw [hem] at HD
        have HFN := Lib.hid (HFU.out M pm em hem)
        have hgz : lo ≤ wr.heap.size := by have := HUr.out.x.lt; omega
        clear hem hm1 HFU HE HCO HCL HKr HUr hm31 r0 r1 r2 rf0 rf1 rf2 rz HEA HEN
        obtain ⟨sl, hsl⟩ : ∃ k, k = ss.length := ⟨_, rfl⟩
        have HSLE := Lib.hid hsl
        simp only [← hsl] at HUc HSL HSC
        clear hsl
        go_wp2_with (go_at_call 98; refine HD.out.mono ?_; rintro e w9 ⟨rfl, hk9, hg9⟩)
        have HK9 := Lib.hid hk9
        have HU9 := Lib.hid (HUc.out.grown hg9 hgr2 hg23 hlo3)
        have hgz9 : lo ≤ w9.heap.size := Nat.le_trans hgz hg9.size
        have HS9 : Hid (SxT w9 lo w9.heap.size V ss) := Lib.hid ((HSX.out.kp (Kp.of_grown hg9 (Nat.le_refl _) (.inl (by omega)))).more (Nat.le_refl _) hg9.size)
        clear hk9 hg9 HD HUc HSX hgz
        go_loopw [6] (fun x wr => ∃ (m q e : Nat) (cs : List Ins) (o : Value), x = .int .i64 (m : Int) ∧ q ≤ 2000000 ∧ cs.length + m ≤ 1024 ∧ lo ≤ wr.heap.size ∧ Hid (manyS (insS l) M pm em = (cs ++ (manyS (insS l) m q e).1, (manyS (insS l) m q e).2)) ∧
          Hid (Blk wr gr 135 #[.slice A n c, .int .i64 (q : Int), .int .i64 (e : Int)]) ∧ Hid (UI gr g2 g3 lo #[.int .i64 (a : Int), .slice V sl sc, o] 58 5 o cs.length (inV cs) w wr) ∧ Hid (SxT wr lo wr.heap.size V ss)) (fun x _ => (intOf x).toNat)
        case atStart => exact ⟨M, pm, em, [], .slice none 0 0, rfl, hpm, by simpa using hM, hgz9, Lib.hid (by simp), HK9, HU9, HS9⟩
        case round =>
          obtain ⟨m, q, e', cs, o, rfl, hq, hcl, hlz, HCO, HKr, HUr, HSr⟩ := hrel
          have HCL := Lib.hid hcl
          have hm31 : (m : Int) ≤ 1024 := by omega
          clear hcl HK9 HU9 HS9
          obtain ⟨r0, r1, r2, rf0, rf1, rf2, rz⟩ := HKr.out.c3
          by_cases hend : m = 0 ∨ e' ≠ 0
          · have HEc : Hid (manyS (insS l) M pm em = (cs, q, e')) := Lib.hid (by rw [HCO.out, manyS_stop hend]; simp)
            have HFE : Hid (funS l p = (⟨(a : Int), ss, cs⟩, q, endR l q e')) := Lib.hid (by rw [HFN.out, HEc.out])
            obtain ⟨Vi, ic, hov, hm1⟩ := own_form HUr.out.ow
            subst hov
            have HED := Lib.hid (end6 gr A n c l q e' wr hlen HKr.out)
            have HCI := Lib.hid (own_cap HUr.out.ow).2
            obtain ⟨cl, hcl⟩ : ∃ k, k = cs.length := ⟨_, rfl⟩
            have HCLE := Lib.hid hcl
            have HXr := Lib.hid HUr.out.x
            simp only [← hcl] at HXr HCI
            clear hcl hm1 HEc HFN HCO HCL
            by_cases hm0 : m = 0
            case' pos =>
              subst hm0
              clear hend
              go_upto_region 21 with (fail)
            case' neg =>
              have hb' : e' ≠ 0 := hend.resolve_left hm0
              have hbe2 : ((e' : Int) == 0) = false := by rw [beq_eq_false_iff_ne]; omega
              have hmi2 : (0 : Int) < (m : Int) := by omega
              clear hend hm0 hb'
              go_upto_region 21 with (fail)
            all_goals
              clear r0 r1 r2 rf0 rf1 rf2 rz
              go_wp2_with fail
              refine HED.out.mono ?_
              rintro e w10 ⟨rfl, hk10, hg10⟩
              have HU10 := Lib.hid (HUr.out.grown hg10 hgr2 hg23 hlo3)
              have HX10 := Lib.hid (HXr.out.grown hg10 (by intro h; injection h with h; omega))
              have HK10 := Lib.hid hk10
              have HS10 : Hid (SxT w10 lo wr.heap.size V ss) := Lib.hid (HSr.out.kp (Kp.of_grown hg10 (Nat.le_refl _) (.inl (by omega))))
              have hz10 : wr.heap.size ≤ w10.heap.size := hg10.size
              have hsw2 : w.heap.size ≤ lo := by omega
              clear hk10 hg10 HED
              obtain ⟨x0, x1, x2, -, -, -, xz⟩ := HX10.out.c3
              obtain ⟨d0, d1, d2, df0, df1, df2, dz⟩ := HU10.out.f.c3
              have HHZ := Lib.hid (put3_6 HU10.out.f (.int .i64 (a : Int)) (.slice V sl sc) (.slice Vi cl ic))
              have HFIN : Hid (FuD gr A n c (funS l p) w (.returned (.agg #[.int .i64 (a : Int), .slice V sl sc, .slice Vi cl ic])) (((w10.setCell ⟨g2, 0, none⟩ (.int .i64 (a : Int))).setCell ⟨g2, 1, none⟩ (.slice V sl sc)).setCell ⟨g2, 2, none⟩ (.slice Vi cl ic))) := Lib.hid (by
                rw [HFE.out]
                have hkz : Kp lo w10.heap.size w10 (((w10.setCell ⟨g2, 0, none⟩ (.int .i64 (a : Int))).setCell ⟨g2, 1, none⟩ (.slice V sl sc)).setCell ⟨g2, 2, none⟩ (.slice Vi cl ic)) := (((Kp.refl _ _ _).set (.inl (by show g2 < lo; omega)) _).set (.inl (by show g2 < lo; omega)) _).set (.inl (by show g2 < lo; omega)) _
                have h1 := (HS10.out.more (Nat.le_refl _) hz10).kp hkz
                have h2 : Nx w10 lo w10.heap.size Vi cs := Rx.of_own HU10.out.ow
                have h3 : TyA w10 Vi cs.length 58 := TyA.of_own HU10.out.ow
                refine ⟨V, sc, Vi, ic, by simp only; rw [← HSLE.out, ← HCLE.out], ⟨(h1.more hsw2 (by simp)).1, h1.2⟩, ⟨(h2.keep hkz).more hsw2 (by simp), TyA.keep h3 hkz (Rx.inside h2)⟩, ⟨by simp only; rw [← HSLE.out]; exact HSC.out, by simp only; rw [← HCLE.out]; exact HCI.out⟩, ?_, gsetG6 (gsetG6 (gsetG6 HU10.out.g (by show w.heap.size ≤ g2; omega) _) (by show w.heap.size ≤ g2; omega) _) (by show w.heap.size ≤ g2; omega) _⟩
                exact ((HK10.out.far (by show gr ≠ g2; omega) _).far (by show gr ≠ g2; omega) _).far (by show gr ≠ g2; omega) _)
              clear HU10 HX10 HK10 HS10
              go_wp2
              obtain ⟨e0, e1, e2, -⟩ := HHZ.out.c3
              exact bodyPost_ret (v := .agg #[.int .i64 (a : Int), .slice V sl sc, .slice Vi cl ic]) (by simp [results, Tryd.results100, go_sem, e0, e1, e2]) rfl HFIN.out
          · obtain ⟨hm0, hb0⟩ := not_or.1 hend
            obtain ⟨m', hm'⟩ := Nat.exists_eq_succ_of_ne_zero hm0
            have HM' : Hid (m = m' + 1) := Lib.hid hm'
            have hbf : e' = 0 := by simpa using hb0
            subst hbf
            have hmi : (0 : Int) < (m : Int) := by omega
            clear hend hm0 hb0 hm'
            generalize wr = wo at *
            obtain ⟨hz, hhz⟩ : ∃ k, k = wo.heap.size := ⟨_, rfl⟩
            rw [← hhz] at HSr
            have HO := Lib.hid (op6 gr B A n c l q 0 wo HKr.out (HRD.out _ HUr.out.g) hgr hn hq)
            obtain ⟨on, p1, e1, heo⟩ : ∃ v p e, opX l q 0 = (v, p, e) := ⟨_, _, _, rfl⟩
            have hp1 : p1 ≤ 2000000 := by have := opX_pos (e := 0) hq hll; rw [heo] at this; exact this
            have hon : on < 25 := by have := opX_lt l q 0; rw [heo] at this; exact this
            rw [heo] at HO
            have HEO := Lib.hid heo
            clear heo
            go_wp2_with fail
            refine HO.out.mono ?_
            rintro e w7 ⟨rfl, hk7, hg7⟩
            simp only at hk7 ⊢
            clear r0 r1 r2 rf0 rf1 rf2 rz
            go_upto_region 12 with (fail)
            obtain ⟨W8, hW8⟩ : ∃ W8, W8 = w7.alloc (.cells #[.int .i64 (on : Int), .int .i64 0, .int .i64 0, .int .i64 0, .int .u64 0] 58) := ⟨_, rfl⟩
            obtain ⟨gx, hgx⟩ : ∃ g, g = w7.heap.size := ⟨_, rfl⟩
            rw [← hW8, ← hgx]
            have hb8 : Below w7.heap.size w7 W8 := by rw [hW8]; exact (Below.refl _ _).alloc (Nat.le_refl _) _
            have hu7 := HUr.out.grown hg7 hgr2 hg23 hlo3
            have hzx : hz ≤ gx := by rw [hhz, hgx]; exact hg7.size
            have hkp8 : Kp lo hz wo W8 := (Kp.of_grown hg7 (by omega) (.inl (by omega))).trans (Kp.of_below hb8 (by omega))
            have HU8 := Lib.hid (hu7.bel hb8)
            have HK8 := Lib.hid (hk7.after hb8)
            have HI8 : Hid (Blk W8 gx 58 #[.int .i64 (on : Int), .int .i64 0, .int .i64 0, .int .i64 0, .int .u64 0]) := Lib.hid (by rw [hW8, hgx]; exact Blk.new _ _ _)
            have hx3 : g3 < gx := by rw [hgx]; exact hu7.x.lt
            have HNO : Hid (o.ownBlock ≠ some gx) := Lib.hid (fun e => by have := (hu7.ow.lt gx e).2; omega)
            have hwx : w.heap.size ≤ gx := by omega
            have HOPS := Lib.hid (sops_any gx (on : Int) W8 (HI8.out.cell 0) HI8.out.lt)
            obtain ⟨nn, hnn⟩ : ∃ k, k = opS (on : Int) := ⟨_, rfl⟩
            obtain ⟨ib, hib⟩ : ∃ k, k = immB (on : Int) := ⟨_, rfl⟩
            rw [← hnn, ← hib] at HOPS
            have HNN := Lib.hid hnn
            have HIB := Lib.hid hib
            have hnn3 : nn ≤ 3 := by rw [hnn]; exact opS_le _
            clear hW8 hgx hb8 hu7 hk7 hg7 hnn hib HO
            go_wp2_with fail
            refine HOPS.out.mono ?_
            rintro e w9 ⟨Ao, co, rfl, hops, bel9⟩
            go_upto_region 13 with (fail)
            have hw8 : gx < W8.heap.size := HI8.out.lt
            have HKP9 : Hid (Kp lo hz wo w9) := Lib.hid (hkp8.trans (Kp.of_below bel9 (by omega)))
            have HU9 := Lib.hid (HU8.out.bel bel9)
            have HK9 := Lib.hid (HK8.out.after bel9)
            have HI9 := Lib.hid (HI8.out.after bel9)
            have HAP : Hid (nn = 0 ∨ ∃ ad, Ao = some ⟨ad, 0, none⟩ ∧ Blk w9 ad 94 (ptrs gx nn).toArray ∧ gx < ad) := Lib.hid (hops.imp id (fun ⟨ad, h1, h2, h3⟩ => ⟨ad, h1, h2, by omega⟩))
            clear hops bel9 hkp8 HU8 HK8 HI8 HOPS hw8
            have hnni : (nn : Int) ≤ 3 := by omega
            go_upto_region 14 with (fail)
            go_loopw [63] (fun x wr => ∃ i : Nat, i ≤ nn ∧ x = .int .i64 i ∧ Hid (Blk wr gr 135 #[.slice A n c, .int .i64 ((opsS l i p1 e1).2.1 : Int), .int .i64 ((opsS l i p1 e1).2.2 : Int)]) ∧
              Hid (Blk wr gx 58 #[.int .i64 (on : Int), .int .i64 (((opsS l i p1 e1).1.getD 0 0 : Nat) : Int), .int .i64 (((opsS l i p1 e1).1.getD 1 0 : Nat) : Int), .int .i64 (((opsS l i p1 e1).1.getD 2 0 : Nat) : Int), .int .u64 0]) ∧
              Hid (UI gr g2 g3 lo #[.int .i64 (a : Int), .slice V sl sc, o] 58 5 o cs.length (inV cs) w wr) ∧ Hid (Kp lo hz wo wr) ∧ Hid (nn = 0 ∨ ∃ ad, Ao = some ⟨ad, 0, none⟩ ∧ Blk wr ad 94 (ptrs gx nn).toArray ∧ gx < ad)) (fun x _ => nn - (intOf x).toNat)
            case atStart => exact ⟨0, by omega, rfl, HK9, HI9, HU9, HKP9, HAP⟩
            case round =>
              obtain ⟨i, hi, rfl, HKi, HIi, HFi, HKPi, HAi⟩ := hrel
              clear HK9 HI9 HU9 HKP9 HAP
              by_cases hlti : i < nn
              · have hi0 : (0 : Int) ≤ (i : Int) := by omega
                have hi1 : (i : Int) < (nn : Int) := by omega
                obtain ⟨ap, hAo, hKP, hap⟩ := HAi.out.resolve_left (by omega)
                subst hAo
                have hc1 : wr.cell? ⟨ap, i, none⟩ = some (.pointer (some ⟨gx, i + 1, none⟩)) := by rw [hKP.cell i]; simp [ptrs, hlti]
                have hapz : ap < wr.heap.size := hKP.lt
                have hwrz : hz ≤ wr.heap.size := by have := HIi.out.lt; omega
                obtain ⟨vs, pi, bi, hst⟩ : ∃ vs pi bi, opsS l i p1 e1 = (vs, pi, bi) := ⟨_, _, _, rfl⟩
                have hlv : vs.length = i := by have := opsS_len l i p1 e1; rw [hst] at this; exact this
                have hpi : pi ≤ 2000000 := by have := opsS_pos (l := l) (k := i) (e := e1) hp1 hll; rw [hst] at this; exact this
                rw [hst] at HKi HIi
                simp only at HKi HIi
                have HU := Lib.hid (HUP.out wr 2147483647 4 pi bi HKi.out HFi.out.g hpi (by decide))
                obtain ⟨u, pu, bu, heu⟩ : ∃ u pu bu, upS l 2147483647 4 pi bi = (u, pu, bu) := ⟨_, _, _, rfl⟩
                rw [heu] at HU
                have HST : Hid (opsS l (i + 1) p1 e1 = (vs ++ [u], pu, bu)) := Lib.hid (by
                  have h1 : upS l M31 4 pi bi = (u, pu, bu) := heu
                  unfold opsS
                  simp only [hst, h1])
                have HKP := Lib.hid hKP
                have HLV := Lib.hid hlv
                clear heu hst hKP hlv HAi
                go_wp2_with fail
                refine HU.out.mono ?_
                rintro e w11 ⟨rfl, hk11, hg11⟩
                simp only at hk11 ⊢
                have hI11 := HIi.out.grown hg11 (by intro h; injection h with h; omega)
                have hfz := hI11.frozen (i + 1)
                have hgxz := hI11.lt
                obtain ⟨vold, hvold⟩ : ∃ v, w11.cell? ⟨gx, i + 1, none⟩ = some v := by
                  rw [hI11.cell (i + 1)]
                  have : i = 0 ∨ i = 1 ∨ i = 2 := by omega
                  rcases this with rfl | rfl | rfl <;> exact ⟨_, rfl⟩
                have HI11 := Lib.hid hI11
                have HK11 := Lib.hid hk11
                have HG11 := Lib.hid hg11
                have HP11 := Lib.hid (HKP.out.grown hg11 (by intro h; injection h with h; omega))
                have HKP11 : Hid (Kp lo hz wo w11) := Lib.hid (HKPi.out.trans (Kp.of_grown hg11 hwrz (.inl (by omega))))
                clear hI11 hk11 hg11 hc1 hapz hwrz
                go_wp2
                go_roundw
                case rel =>
                  refine ⟨i + 1, by omega, by go_num, Lib.hid ?_, Lib.hid ?_, Lib.hid ((HFi.out.grown HG11.out hgr2 hg23 hlo3).set hwx (by omega) (by omega) HNO.out _ _), Lib.hid (HKP11.out.set (.inr hzx) _), Lib.hid (.inr ⟨ap, rfl, HP11.out.far (by simp; omega) _, hap⟩)⟩
                  · rw [HST.out]
                    exact HK11.out.far (by simp; omega) _
                  · rw [HST.out]
                    have h := HI11.out.set_ (i + 1) (.int .i64 (u : Int))
                    rw [icell6 on vs i u HLV.out (by omega)] at h
                    exact h
                case measure => simp [intOf]; omega
              · have hin : i = nn := by omega
                subst hin
                obtain ⟨vs, pv, bv, hst⟩ : ∃ vs pv bv, opsS l i p1 e1 = (vs, pv, bv) := ⟨_, _, _, rfl⟩
                have hpv : pv ≤ 2000000 := by have := opsS_pos (l := l) (k := i) (e := e1) hp1 hll; rw [hst] at this; exact this
                rw [hst] at HKi HIi
                simp only at HKi HIi
                obtain ⟨im, pz, bz, him⟩ : ∃ im pz bz, immS l ib pv bv = (im, pz, bz) := ⟨_, _, _, rfl⟩
                have hpz : pz ≤ 2000000 := by have := immS_pos (l := l) (q := ib) (e := bv) hpv hll; rw [him] at this; exact this
                have HIN : Hid (insS l q 0 = (mkI on vs im, pz, bz)) := Lib.hid (by
                  unfold insS insR6
                  rw [HEO.out]
                  simp only
                  rw [← HNN.out, ← HIB.out, hst]
                  simp only [him])
                have HIM := Lib.hid him
                have hwrz : hz ≤ wr.heap.size := by have := HIi.out.lt; omega
                clear hst him HAi hlti hi
                generalize wr = wn at *
                go_upto_if 72 with (fail)
                go_cut [] (fun wx => Blk wx gr 135 #[.slice A n c, .int .i64 (pz : Int), .int .i64 (bz : Int)] ∧ Blk wx gx 58 #[.int .i64 (on : Int), .int .i64 ((vs.getD 0 0 : Nat) : Int), .int .i64 ((vs.getD 1 0 : Nat) : Int), .int .i64 ((vs.getD 2 0 : Nat) : Int), .int .u64 (im : Int)] ∧ UI gr g2 g3 lo #[.int .i64 (a : Int), .slice V sl sc, o] 58 5 o cs.length (inV cs) w wx ∧ Kp lo hz wo wx)
                case first =>
                  cases ib with
                  | false =>
                    have h := HIM.out
                    unfold immS at h
                    simp only [Bool.false_eq_true, if_false, Prod.mk.injEq] at h
                    obtain ⟨rfl, rfl, rfl⟩ := h
                    go_wp2_with fail
                    go_meet
                    exact ⟨HKi.out, HIi.out, HFi.out, HKPi.out⟩
                  | true =>
                    have h := HIM.out
                    unfold immS at h
                    simp only [if_true] at h
                    have HAN := Lib.hid (any6 gr B A n c l pv bv wn HKi.out (HRD.out _ HFi.out.g) hn hpv)
                    rw [h] at HAN
                    clear h
                    go_wp2_with fail
                    refine HAN.out.mono ?_
                    rintro e w12 ⟨rfl, hk12, hg12⟩
                    simp only at hk12 ⊢
                    have hI12 := HIi.out.grown hg12 (by intro h; injection h with h; omega)
                    obtain ⟨t0, t1, t2, t3, t4, -, -, -, -, tf4, tz⟩ := hI12.c5
                    have HI12 := Lib.hid hI12
                    have HK12 := Lib.hid hk12
                    have HG12 := Lib.hid hg12
                    clear hI12 hk12 hg12
                    go_wp2_with fail
                    go_meet
                    exact ⟨HK12.out.far (by simp; omega) _, HI12.out.set_ 4 _, (HFi.out.grown HG12.out hgr2 hg23 hlo3).set hwx (by omega) (by omega) HNO.out _ _, (HKPi.out.trans (Kp.of_grown HG12.out hwrz (.inl (by omega)))).set (.inr hzx) _⟩
                case rest =>
                  obtain ⟨hkc, hic, hfc, hkpc⟩ := hcut
                  generalize wc = wn2 at *
                  have HKc := Lib.hid hkc
                  have HFc := Lib.hid hfc
                  obtain ⟨t0, t1, t2, t3, t4, -, -, -, -, tf4, tz⟩ := hic.c5
                  obtain ⟨x0, x1, x2, -, y1, y2, xz⟩ := hfc.x.c3
                  have HM2 := Lib.hid (⟨HCL.out, HM'.out⟩ : cs.length + m ≤ 1024 ∧ m = m' + 1)
                  have hcsl : cs.length ≤ 1024 := by have := HCL.out; omega
                  have hzn2 : hz ≤ wn2.heap.size := by have := hic.lt; omega
                  have hb1 : lo ≤ wn2.heap.size := by have := hfc.x.lt; omega
                  have HSn : Hid (SxT (wn2.alloc (.cells #[.int .i64 (on : Int), .int .i64 ((vs.getD 0 0 : Nat) : Int), .int .i64 ((vs.getD 1 0 : Nat) : Int), .int .i64 ((vs.getD 2 0 : Nat) : Int), .int .u64 (im : Int)] 58)) lo wn2.heap.size V ss) := Lib.hid ((HSr.out.kp (hkpc.alloc hzn2 _)).more (Nat.le_refl _) hzn2)
                  clear hkc hic hfc hkpc HKi HIi HFi HKPi
                  go_wp2_with (at_builtin; refine wpList_append_any _ rfl (.tmp 77) (.tmp 79) _ rfl lo 58 i1 _ 5 40 Tryd.underlying59 hi1 hy0 hy1 hy2 rfl (by omega) _ cs.length (inV cs) rfl (HFc.out.ow.alloc _) (wn2.heap.size + 1) (some ⟨wn2.heap.size, 0, none⟩) 1 1 [.int .i64 (on : Int), .int .i64 ((vs.getD 0 0 : Nat) : Int), .int .i64 ((vs.getD 1 0 : Nat) : Int), .int .i64 ((vs.getD 2 0 : Nat) : Int), .int .u64 (im : Int)] rfl (litX6 wn2 _ [_, _, _, _, _] 5 1 rfl) (by simp [Value.oneCell']) (by unfold maxLen; omega) (by omega) (by simp; omega) ?_; intro v1 w13 hown1 hg1 hat1; obtain ⟨V3, c3, rfl, hm3⟩ := own_form hown1; have HX13 := Lib.hid ((HFc.out.x.alloc _).grown hg1 (fun e => own_blk_ne HFc.out.ow HFc.out.x (by decide) e.symm)); obtain ⟨bb0, bb1, bb2, -, bf1, bf2, bz'⟩ := HX13.out.c3)
                  have HOa := Lib.hid (HFc.out.ow.alloc (.cells #[.int .i64 (on : Int), .int .i64 ((vs.getD 0 0 : Nat) : Int), .int .i64 ((vs.getD 1 0 : Nat) : Int), .int .i64 ((vs.getD 2 0 : Nat) : Int), .int .u64 (im : Int)] 58))
                  have hs13 : wn2.heap.size + 1 ≤ w13.heap.size := by have := hg1.size; simpa using this
                  have HS13 : Hid (SxT (w13.setCell ⟨g3, 2, none⟩ (.slice V3 (cs.length + 1) c3)) lo (w13.setCell ⟨g3, 2, none⟩ (.slice V3 (cs.length + 1) c3)).heap.size V ss) := Lib.hid (((HSn.out.kt (Kt.of_own HOa.out hg1 (by simp)) (by decide)).kp ((Kp.refl _ _ _).set (.inl hlo3) _)).more (Nat.le_refl _) (by simp; omega))
                  go_roundw
                  case rel =>
                    refine ⟨m', pz, bz, cs ++ [mkI on vs im], .slice V3 (cs.length + 1) c3, ?_, hpz, ?_, by simp; omega, Lib.hid ?_, Lib.hid (((HKc.out.alloc _).grown hg1 (fun e => own_blk_ne HFc.out.ow HKc.out (by decide) e.symm)).far (by simp; omega) _),
                      Lib.hid ⟨((HFc.out.f.alloc _).grown hg1 (fun e => own_blk_ne HFc.out.ow HFc.out.f (by decide) e.symm)).far (by simp; omega) _, HX13.out.set_ 2 _, ?_, gsetG6 (gown6 (galloc6 HFc.out.g _) hg1 (fun j hj => by have := (HOa.out.lt j hj).1; omega)) (by show w.heap.size ≤ g3; omega) _⟩, HS13⟩
                    · rw [show (m : Int) - 1 = (m' : Int) by have := HM'.out; omega]
                    · have := HM2.out
                      simp only [List.length_append, List.length_cons, List.length_nil]
                      omega
                    · have h := manyS_succ (f := insS l) (n := m') (p := q)
                      rw [HIN.out] at h
                      rw [HCO.out, HM'.out, h]
                      simp
                    · have h := ooff6 (i := 2) hown1 HX13.out (by decide) (.slice V3 (cs.length + 1) c3)
                      rw [inV_app]
                      have hl : (cs ++ [mkI on vs im]).length = cs.length + 1 := by simp
                      rw [hl]
                      exact h
                  case measure =>
                    have := HM'.out
                    simp [intOf]
                    omega
    · obtain ⟨hm0, hb0⟩ := not_or.1 hend
      obtain ⟨m', hm'⟩ := Nat.exists_eq_succ_of_ne_zero hm0
      have HM' : Hid (m = m' + 1) := Lib.hid hm'
      have hbf : e' = 0 := by simpa using hb0
      subst hbf
      have hmi : (0 : Int) < (m : Int) := by omega
      clear hend hm0 hb0 hm'
      generalize wr = wo at *
      have H1 := Lib.hid (HUP.out wo 2147483647 4 q 0 HKr.out HUr.out.g hq (by decide))
      obtain ⟨v1, p1, e1, he1⟩ : ∃ v p e, upS l 2147483647 4 q 0 = (v, p, e) := ⟨_, _, _, rfl⟩
      have hp1 : p1 ≤ 2000000 := by have := upS_pos (lim := 2147483647) (er := 4) (e := 0) hq hll; rw [he1] at this; exact this
      rw [he1] at H1
      have HE1 := Lib.hid he1
      clear he1
      go_wp2_with fail
      refine H1.out.mono ?_
      rintro e w5 ⟨rfl, hk5, hg5⟩
      simp only at hk5 ⊢
      clear r0 r1 r2 rf0 rf1 rf2 rz
      go_upto_region 6 with (fail)
      obtain ⟨W6, hW6⟩ : ∃ W6, W6 = w5.alloc (.cells #[.int .i64 (v1 : Int), .int .i64 0] 103) := ⟨_, rfl⟩
      obtain ⟨gx, hgx⟩ : ∃ g, g = w5.heap.size := ⟨_, rfl⟩
      rw [← hW6, ← hgx]
      have hb6 : Below w5.heap.size w5 W6 := by rw [hW6]; exact (Below.refl _ _).alloc (Nat.le_refl _) _
      have hu5 := HUr.out.grown hg5 hgr2 hg23 hlo3
      have HU6 := Lib.hid (hu5.bel hb6)
      have HK6 := Lib.hid (hk5.after hb6)
      have HI6 : Hid (Blk W6 gx 103 #[.int .i64 (v1 : Int), .int .i64 0]) := Lib.hid (by rw [hW6, hgx]; exact Blk.new _ _ _)
      have hx3 : g3 < gx := by rw [hgx]; exact hu5.x.lt
      have HNO : Hid (o.ownBlock ≠ some gx) := Lib.hid (fun e => by have := (hu5.ow.lt gx e).2; omega)
      have hwx : w.heap.size ≤ gx := by omega
      clear hW6 hgx hb6 hu5 hk5 hg5 H1
      have H2 := Lib.hid (HUP.out W6 24 4 p1 e1 HK6.out HU6.out.g hp1 (by decide))
      obtain ⟨v2, p2, e2, he2⟩ : ∃ v p e, upS l 24 4 p1 e1 = (v, p, e) := ⟨_, _, _, rfl⟩
      have hp2 : p2 ≤ 2000000 := by have := upS_pos (lim := 24) (er := 4) (e := e1) hp1 hll; rw [he2] at this; exact this
      have hv2 : v2 ≤ 24 := by have := (upS_le l 24 4 p1 e1).1; rw [he2] at this; exact this
      rw [he2] at H2
      have HSL : Hid (slotS l q 0 = (((v1 : Int), ((2 ^ v2 : Nat) : Int)), p2, e2)) := Lib.hid (by
        have h1 : upS l M31 4 q 0 = (v1, p1, e1) := HE1.out
        unfold slotS
        rw [h1]
        simp only [he2])
      obtain ⟨al, hal⟩ : ∃ al : Int, al = ((2 ^ v2 : Nat) : Int) := ⟨_, rfl⟩
      have hal24 : 1 ≤ al ∧ al ≤ 16777216 := by
        have h1 := Nat.two_pow_pos v2
        have h2 : 2 ^ v2 ≤ 2 ^ 24 := Nat.pow_le_pow_right (by decide) hv2
        have h3 : (2 : Nat) ^ 24 = 16777216 := by decide
        omega
      have hsh : wrap64 ((2 : Int) ^ v2) = al := by
        have h1 : ((2 : Int) ^ v2) = al := by rw [hal]; push_cast; rfl
        rw [h1]
        exact IntWalk.wrap64_in _ ⟨by omega, by omega⟩
      rw [← hal] at HSL
      clear he2 hal hal24
      go_wp2_with fail
      refine H2.out.mono ?_
      rintro e w7 ⟨rfl, hk7, hg7⟩
      simp only at hk7 ⊢
      have hI7 := HI6.out.grown hg7 (by intro h; injection h with h; omega)
      obtain ⟨t0, t1, tf0, tf1, tz⟩ := hI7.c2
      have HI7 := Lib.hid hI7
      have HK7 := Lib.hid hk7
      have HU7 := Lib.hid (HU6.out.grown hg7 hgr2 hg23 hlo3)
      clear hI7 hk7 hg7 HI6 HK6 HU6 H2
      go_upto_region 7 with (fail)
      obtain ⟨W8, hW8⟩ : ∃ W8, W8 = w7.setCell ⟨gx, 1, none⟩ (.int .i64 al) := ⟨_, rfl⟩
      rw [← hW8]
      have HI8 : Hid (Blk W8 gx 103 #[.int .i64 (v1 : Int), .int .i64 al]) := Lib.hid (by rw [hW8]; exact HI7.out.set_ 1 _)
      have HK8 : Hid (Blk W8 gr 135 #[.slice A n c, .int .i64 (p2 : Int), .int .i64 (e2 : Int)]) := Lib.hid (by rw [hW8]; exact HK7.out.far (by simp; omega) _)
      have HU8 := Lib.hid (by rw [hW8]; exact HU7.out.set hwx (by omega) (by omega) HNO.out 1 _ : UI gr g2 g3 lo #[.int .i64 (a : Int), o, .slice none 0 0] 103 2 o ss.length (slV ss) w W8)
      clear hW8 t0 t1 tf0 tf1 tz HI7 HK7 HU7 hsh
      have hssl : ss.length ≤ 512 := by have := HCL.out; omega
      obtain ⟨x0, x1, x2, -, y1, y2, xz⟩ := HU8.out.x.c3
      obtain ⟨t0, t1, tf0, tf1, tz⟩ := HI8.out.c2
      have hb1 : lo ≤ W8.heap.size := by have := HU8.out.x.lt; omega
      go_wp2_with (at_builtin; refine wpList_append_any _ rfl (.tmp 36) (.tmp 38) _ rfl lo 103 i0 _ 2 16 Tryd.underlying95 hi0 hz0 hz1 hz2 rfl (by omega) _ ss.length (slV ss) rfl (HU8.out.ow.alloc _) (W8.heap.size + 1) (some ⟨W8.heap.size, 0, none⟩) 1 1 [.int .i64 (v1 : Int), .int .i64 al] rfl (litX6 W8 _ [_, _] 2 1 rfl) (by simp [Value.oneCell']) (by unfold maxLen; omega) (by omega) (by simp; omega) ?_; intro v1' w13 hown1 hg1 hat1; obtain ⟨V3, c3, rfl, hm3⟩ := own_form hown1; have HX13 := Lib.hid ((HU8.out.x.alloc _).grown hg1 (fun e => own_blk_ne HU8.out.ow HU8.out.x (by decide) e.symm)); obtain ⟨bb0, bb1, bb2, -, bf1, bf2, bz'⟩ := HX13.out.c3)
      go_roundw
      case rel =>
        refine ⟨m', p2, e2, ss ++ [((v1 : Int), al)], .slice V3 (ss.length + 1) c3, ?_, hp2, ?_, Lib.hid ?_, Lib.hid (((HK8.out.alloc _).grown hg1 (fun e => own_blk_ne HU8.out.ow HK8.out (by decide) e.symm)).far (by simp; omega) _), Lib.hid ⟨((HU8.out.f.alloc _).grown hg1 (fun e => own_blk_ne HU8.out.ow HU8.out.f (by decide) e.symm)).far (by simp; omega) _, HX13.out.set_ 1 _, ?_, gsetG6 (gown6 (galloc6 HU8.out.g _) hg1 (fun j hj => by have := ((HU8.out.ow.alloc (.cells #[.int .i64 (v1 : Int), .int .i64 al] 103)).lt j hj).1; omega)) (by show w.heap.size ≤ g3; omega) _⟩⟩
        · rw [show (m : Int) - 1 = (m' : Int) by have := HM'.out; omega]
        · have := HM'.out
          have := HCL.out
          simp only [List.length_append, List.length_cons, List.length_nil]
          omega
        · have h := manyS_succ (f := slotS l) (n := m') (p := q)
          rw [HSL.out] at h
          rw [HCO.out, HM'.out, h]
          simp
        · have h := ooff6 (i := 1) hown1 HX13.out (by decide) (.slice V3 (ss.length + 1) c3)
          rw [slV_app]
          have hl : (ss ++ [((v1 : Int), al)]).length = ss.length + 1 := by simp
          rw [hl]
          exact h
      case measure =>
        have := HM'.out
        simp [intOf]
        omega
end Go.Proofs.YtinfeglhjmnlaaaDoor.pm
