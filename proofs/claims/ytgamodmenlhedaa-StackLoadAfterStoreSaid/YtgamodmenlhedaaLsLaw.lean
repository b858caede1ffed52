/- StackLoadAfterStore: the walk of the law. -/
import Derived.Test.YtgamodmenlhedaaL9
import Derived.Test.YtgamodmenlhedaaCp
import Derived.Test.YtgamodmenlhedaaVtr
import Derived.Deep.RegionHeld3
namespace Go.Proofs.Ytgamodmenlhedaa.ls
open Go.RowKit
set_option linter.unusedVariables false
set_option maxRecDepth 10000

section
variable {wr W W' : World} {gs g B n c m d k e : Nat} {A U X : Option Addr} {sp : Int} {l : List Nat}
/-- what a region with draws keeps of the world in which it began: the variable s, all blocks but that of the choices, and the choices -/
theorem sr_mk (hk : StkB wr gs A n c U m d sp) (hne : g < gs) (hg : wr.grownBy W (some g)) (hc : ∃ p, CodesAt W B g X k e l p) : W.cell? ⟨gs, 0, none⟩ = some (.slice A n c) ∧ W.cell? ⟨gs, 1, none⟩ = some (.slice U m d) ∧ W.cell? ⟨gs, 2, none⟩ = some (.int .i64 sp) ∧ wr.grownBy W (some g) ∧ ∃ p, CodesAt W B g X k e l p := by
  have hk' : StkB W gs A n c U m d sp := Blk.grown hk hg (by intro e; injection e; omega)
  exact ⟨Blk.cell hk' 0, Blk.cell hk' 1, Blk.cell hk' 2, hg, hc⟩
theorem sr_drew (hk : StkB wr gs A n c U m d sp) (hne : g < gs) (hc : ∃ p, CodesAt wr B g X k e l p) : wr.drew.cell? ⟨gs, 0, none⟩ = some (.slice A n c) ∧ wr.drew.cell? ⟨gs, 1, none⟩ = some (.slice U m d) ∧ wr.drew.cell? ⟨gs, 2, none⟩ = some (.int .i64 sp) ∧ wr.grownBy wr.drew (some g) ∧ ∃ p, CodesAt wr.drew B g X k e l p := by
  refine sr_mk hk hne (grownBy_drewN' wr 1 _) ?_
  obtain ⟨p, hc⟩ := hc
  exact ⟨p, hc⟩
theorem sr_alloc (hk : StkB wr gs A n c U m d sp) (hne : g < gs) (h : W.cell? ⟨gs, 0, none⟩ = some (.slice A n c) ∧ W.cell? ⟨gs, 1, none⟩ = some (.slice U m d) ∧ W.cell? ⟨gs, 2, none⟩ = some (.int .i64 sp) ∧ wr.grownBy W (some g) ∧ ∃ p, CodesAt W B g X k e l p) (o : Obj) : (W.alloc o).cell? ⟨gs, 0, none⟩ = some (.slice A n c) ∧ (W.alloc o).cell? ⟨gs, 1, none⟩ = some (.slice U m d) ∧ (W.alloc o).cell? ⟨gs, 2, none⟩ = some (.int .i64 sp) ∧ wr.grownBy (W.alloc o) (some g) ∧ ∃ p, CodesAt (W.alloc o) B g X k e l p := by
  obtain ⟨-, -, -, hg, p, hc⟩ := h
  exact sr_mk hk hne (grownBy_trans hg (grownBy_of_below ((Below.refl W.heap.size W).alloc (Nat.le_refl _) o) _)) ⟨p, hc.alloc o⟩
theorem sr_adrew (hk : StkB wr gs A n c U m d sp) (hne : g < gs) (hc : ∃ p, CodesAt wr B g X k e l p) (o : Obj) : (wr.alloc o).drew.cell? ⟨gs, 0, none⟩ = some (.slice A n c) ∧ (wr.alloc o).drew.cell? ⟨gs, 1, none⟩ = some (.slice U m d) ∧ (wr.alloc o).drew.cell? ⟨gs, 2, none⟩ = some (.int .i64 sp) ∧ wr.grownBy (wr.alloc o).drew (some g) ∧ ∃ p, CodesAt (wr.alloc o).drew B g X k e l p := by
  obtain ⟨p, hc⟩ := hc
  exact sr_mk hk hne (grownBy_trans (grownBy_of_below ((Below.refl wr.heap.size wr).alloc (Nat.le_refl _) o) _) (grownBy_drewN' _ 1 _)) ⟨p, hc.alloc o⟩
theorem sr_below (hk : StkB wr gs A n c U m d sp) (hne : g < gs) (h : W.cell? ⟨gs, 0, none⟩ = some (.slice A n c) ∧ W.cell? ⟨gs, 1, none⟩ = some (.slice U m d) ∧ W.cell? ⟨gs, 2, none⟩ = some (.int .i64 sp) ∧ wr.grownBy W (some g) ∧ ∃ p, CodesAt W B g X k e l p) (hb : Below W.heap.size W W') : W'.cell? ⟨gs, 0, none⟩ = some (.slice A n c) ∧ W'.cell? ⟨gs, 1, none⟩ = some (.slice U m d) ∧ W'.cell? ⟨gs, 2, none⟩ = some (.int .i64 sp) ∧ wr.grownBy W' (some g) ∧ ∃ p, CodesAt W' B g X k e l p := by
  obtain ⟨-, -, -, hg, p, hc⟩ := h
  exact sr_mk hk hne (grownBy_trans hg (grownBy_of_below hb _)) ⟨p, hc.after hb⟩
theorem sr_grown (hk : StkB wr gs A n c U m d sp) (hne : g < gs) (h : W.cell? ⟨gs, 0, none⟩ = some (.slice A n c) ∧ W.cell? ⟨gs, 1, none⟩ = some (.slice U m d) ∧ W.cell? ⟨gs, 2, none⟩ = some (.int .i64 sp) ∧ wr.grownBy W (some g) ∧ ∃ p, CodesAt W B g X k e l p) (hb : W.grownBy W' (some g)) {p : Nat} (hc : CodesAt W' B g X k e l p) : W'.cell? ⟨gs, 0, none⟩ = some (.slice A n c) ∧ W'.cell? ⟨gs, 1, none⟩ = some (.slice U m d) ∧ W'.cell? ⟨gs, 2, none⟩ = some (.int .i64 sp) ∧ wr.grownBy W' (some g) ∧ ∃ p, CodesAt W' B g X k e l p := by
  obtain ⟨-, -, -, hg, -⟩ := h
  exact sr_mk hk hne (grownBy_trans hg hb) ⟨p, hc⟩
theorem sr_set (hk : StkB wr gs A n c U m d sp) (hne : g < gs) (h : W.cell? ⟨gs, 0, none⟩ = some (.slice A n c) ∧ W.cell? ⟨gs, 1, none⟩ = some (.slice U m d) ∧ W.cell? ⟨gs, 2, none⟩ = some (.int .i64 sp) ∧ wr.grownBy W (some g) ∧ ∃ p, CodesAt W B g X k e l p) {ad : Addr} (hp : wr.heap.size ≤ ad.block) (v : Value) : (W.setCell ad v).cell? ⟨gs, 0, none⟩ = some (.slice A n c) ∧ (W.setCell ad v).cell? ⟨gs, 1, none⟩ = some (.slice U m d) ∧ (W.setCell ad v).cell? ⟨gs, 2, none⟩ = some (.int .i64 sp) ∧ wr.grownBy (W.setCell ad v) (some g) ∧ ∃ p, CodesAt (W.setCell ad v) B g X k e l p := by
  obtain ⟨-, -, -, hg, q, hc⟩ := h
  have hlt := Blk.lt hk
  exact sr_mk hk hne (grownBy_set hg hp v) ⟨q, hc.set (by omega) (by have := hc.2.2.2.1; omega) v⟩
theorem sr_set3 (hk : StkB wr gs A n c U m d sp) (hne : g < gs) (h : W.cell? ⟨gs, 0, none⟩ = some (.slice A n c) ∧ W.cell? ⟨gs, 1, none⟩ = some (.slice U m d) ∧ W.cell? ⟨gs, 2, none⟩ = some (.int .i64 sp) ∧ wr.grownBy W (some g) ∧ ∃ p, CodesAt W B g X k e l p) {b : Nat} (hp : wr.heap.size ≤ b) (u v x : Value) : (((W.setCell ⟨b, 0, none⟩ u).setCell ⟨b, 1, none⟩ v).setCell ⟨b, 2, none⟩ x).cell? ⟨gs, 0, none⟩ = some (.slice A n c) ∧ (((W.setCell ⟨b, 0, none⟩ u).setCell ⟨b, 1, none⟩ v).setCell ⟨b, 2, none⟩ x).cell? ⟨gs, 1, none⟩ = some (.slice U m d) ∧ (((W.setCell ⟨b, 0, none⟩ u).setCell ⟨b, 1, none⟩ v).setCell ⟨b, 2, none⟩ x).cell? ⟨gs, 2, none⟩ = some (.int .i64 sp) ∧ wr.grownBy (((W.setCell ⟨b, 0, none⟩ u).setCell ⟨b, 1, none⟩ v).setCell ⟨b, 2, none⟩ x) (some g) ∧ ∃ p, CodesAt (((W.setCell ⟨b, 0, none⟩ u).setCell ⟨b, 1, none⟩ v).setCell ⟨b, 2, none⟩ x) B g X k e l p :=
  sr_set hk hne (sr_set hk hne (sr_set hk hne h hp u) hp v) hp x
theorem sr_new (hk : StkB wr gs A n c U m d sp) (hne : g < gs) {o o' : Obj} (h : (W.alloc o).cell? ⟨gs, 0, none⟩ = some (.slice A n c) ∧ (W.alloc o).cell? ⟨gs, 1, none⟩ = some (.slice U m d) ∧ (W.alloc o).cell? ⟨gs, 2, none⟩ = some (.int .i64 sp) ∧ wr.grownBy (W.alloc o) (some g) ∧ ∃ p, CodesAt (W.alloc o) B g X k e l p) (hz : wr.heap.size ≤ W.heap.size) : (W.alloc o').cell? ⟨gs, 0, none⟩ = some (.slice A n c) ∧ (W.alloc o').cell? ⟨gs, 1, none⟩ = some (.slice U m d) ∧ (W.alloc o').cell? ⟨gs, 2, none⟩ = some (.int .i64 sp) ∧ wr.grownBy (W.alloc o') (some g) ∧ ∃ p, CodesAt (W.alloc o') B g X k e l p := by
  obtain ⟨-, -, -, hg, p, hc⟩ := h
  have hgw : g < W.heap.size := by have := Blk.lt hk; omega
  have hsame : ∀ j, j < W.heap.size → (W.alloc o').heap[j]? = (W.alloc o).heap[j]? := fun j hj => by rw [Below.heap_alloc W o' j hj, Below.heap_alloc W o j hj]
  refine sr_mk hk hne ⟨hg.os, hg.tape, hg.output, by simp; omega, fun j hj hn => (hsame j (by omega)).trans (hg.block j hj hn)⟩ ⟨p, ?_⟩
  exact ⟨(hsame g hgw).trans hc.1, Bs.below hc.2.1 ⟨rfl, rfl, rfl, by simp, fun j hj => hsame j (by have := hc.2.2.2.1; omega)⟩, hc.2.2⟩
end
theorem gAl (w : World) (o : Obj) (r : Option Nat) : w.grownBy (w.alloc o) r := grownBy_of_below ((Below.refl w.heap.size w).alloc (Nat.le_refl _) o) r
theorem gAD (w : World) (o : Obj) (g : Nat) : w.grownBy (w.alloc o).drew (some g) := grownBy_trans (gAl w o _) (grownBy_drewN' _ 1 _)
theorem gD (w : World) (g : Nat) : w.grownBy w.drew (some g) := grownBy_drewN' w 1 _
theorem CodesAt.dr {w : World} {B g n c p : Nat} {A : Option Addr} {l : List Nat} (h : CodesAt w B g A n c l p) : CodesAt w.drew B g A n c l p := h
section
variable {wr W W' : World} {g B k e : Nat} {X : Option Addr} {l : List Nat}
theorem tr_drew (hc : ∃ p, CodesAt wr B g X k e l p) : wr.grownBy wr.drew (some g) ∧ ∃ p, CodesAt wr.drew B g X k e l p := ⟨gD wr g, hc.elim fun p h => ⟨p, CodesAt.dr h⟩⟩
theorem tr_alloc (h : wr.grownBy W (some g) ∧ ∃ p, CodesAt W B g X k e l p) (o : Obj) : wr.grownBy (W.alloc o) (some g) ∧ ∃ p, CodesAt (W.alloc o) B g X k e l p := ⟨grownBy_trans h.1 (gAl W o _), h.2.elim fun p h => ⟨p, h.alloc o⟩⟩
theorem tr_adrew (hz : g < wr.heap.size) (hc : ∃ p, CodesAt wr B g X k e l p) (o : Obj) : wr.grownBy (wr.alloc o).drew (some g) ∧ ∃ p, CodesAt (wr.alloc o).drew B g X k e l p := ⟨gAD wr o g, hc.elim fun p h => ⟨p, CodesAt.dr (h.alloc o)⟩⟩
theorem tr_grown (h : wr.grownBy W (some g) ∧ ∃ p, CodesAt W B g X k e l p) (hb : W.grownBy W' (some g)) {p : Nat} (hc : CodesAt W' B g X k e l p) : wr.grownBy W' (some g) ∧ ∃ p, CodesAt W' B g X k e l p := ⟨grownBy_trans h.1 hb, p, hc⟩
end
section
variable {wc W W' : World} {gs gb gt gx gv : Nat} {a0 a1 a2 b0 b1 b2 t0 t1 t2 x0 x1 y0 y1 : Value}
/-- what a region keeps whose calls only make memory: five variables, and all blocks -/
theorem kk_mk (Ks : Blk wc gs 55 #[a0, a1, a2]) (Kb : Blk wc gb 55 #[b0, b1, b2]) (Kt : Blk wc gt 55 #[t0, t1, t2]) (Kx : Blk wc gx 52 #[x0, x1]) (Kv : Blk wc gv 52 #[y0, y1]) (h : Below wc.heap.size wc W) : W.cell? ⟨gs, 0, none⟩ = some (a0) ∧ W.cell? ⟨gs, 1, none⟩ = some (a1) ∧ W.cell? ⟨gs, 2, none⟩ = some (a2) ∧ W.cell? ⟨gb, 0, none⟩ = some (b0) ∧ W.cell? ⟨gb, 1, none⟩ = some (b1) ∧ W.cell? ⟨gb, 2, none⟩ = some (b2) ∧ W.cell? ⟨gt, 0, none⟩ = some (t0) ∧ W.cell? ⟨gt, 1, none⟩ = some (t1) ∧ W.cell? ⟨gt, 2, none⟩ = some (t2) ∧ W.cell? ⟨gx, 0, none⟩ = some (x0) ∧ W.cell? ⟨gx, 1, none⟩ = some (x1) ∧ W.cell? ⟨gv, 0, none⟩ = some (y0) ∧ W.cell? ⟨gv, 1, none⟩ = some (y1) ∧ Below wc.heap.size wc W := by
  have h1 := Blk.after Ks h
  have h2 := Blk.after Kb h
  have h3 := Blk.after Kt h
  have h4 := Blk.after Kx h
  have h5 := Blk.after Kv h
  exact ⟨Blk.cell h1 0, Blk.cell h1 1, Blk.cell h1 2, Blk.cell h2 0, Blk.cell h2 1, Blk.cell h2 2, Blk.cell h3 0, Blk.cell h3 1, Blk.cell h3 2, Blk.cell h4 0, Blk.cell h4 1, Blk.cell h5 0, Blk.cell h5 1, h⟩
theorem kk_drew (Ks : Blk wc gs 55 #[a0, a1, a2]) (Kb : Blk wc gb 55 #[b0, b1, b2]) (Kt : Blk wc gt 55 #[t0, t1, t2]) (Kx : Blk wc gx 52 #[x0, x1]) (Kv : Blk wc gv 52 #[y0, y1]) : wc.drew.cell? ⟨gs, 0, none⟩ = some (a0) ∧ wc.drew.cell? ⟨gs, 1, none⟩ = some (a1) ∧ wc.drew.cell? ⟨gs, 2, none⟩ = some (a2) ∧ wc.drew.cell? ⟨gb, 0, none⟩ = some (b0) ∧ wc.drew.cell? ⟨gb, 1, none⟩ = some (b1) ∧ wc.drew.cell? ⟨gb, 2, none⟩ = some (b2) ∧ wc.drew.cell? ⟨gt, 0, none⟩ = some (t0) ∧ wc.drew.cell? ⟨gt, 1, none⟩ = some (t1) ∧ wc.drew.cell? ⟨gt, 2, none⟩ = some (t2) ∧ wc.drew.cell? ⟨gx, 0, none⟩ = some (x0) ∧ wc.drew.cell? ⟨gx, 1, none⟩ = some (x1) ∧ wc.drew.cell? ⟨gv, 0, none⟩ = some (y0) ∧ wc.drew.cell? ⟨gv, 1, none⟩ = some (y1) ∧ Below wc.heap.size wc wc.drew := kk_mk Ks Kb Kt Kx Kv (Below.drew (Below.refl _ _))
theorem kk_step (Ks : Blk wc gs 55 #[a0, a1, a2]) (Kb : Blk wc gb 55 #[b0, b1, b2]) (Kt : Blk wc gt 55 #[t0, t1, t2]) (Kx : Blk wc gx 52 #[x0, x1]) (Kv : Blk wc gv 52 #[y0, y1]) (h : W.cell? ⟨gs, 0, none⟩ = some (a0) ∧ W.cell? ⟨gs, 1, none⟩ = some (a1) ∧ W.cell? ⟨gs, 2, none⟩ = some (a2) ∧ W.cell? ⟨gb, 0, none⟩ = some (b0) ∧ W.cell? ⟨gb, 1, none⟩ = some (b1) ∧ W.cell? ⟨gb, 2, none⟩ = some (b2) ∧ W.cell? ⟨gt, 0, none⟩ = some (t0) ∧ W.cell? ⟨gt, 1, none⟩ = some (t1) ∧ W.cell? ⟨gt, 2, none⟩ = some (t2) ∧ W.cell? ⟨gx, 0, none⟩ = some (x0) ∧ W.cell? ⟨gx, 1, none⟩ = some (x1) ∧ W.cell? ⟨gv, 0, none⟩ = some (y0) ∧ W.cell? ⟨gv, 1, none⟩ = some (y1) ∧ Below wc.heap.size wc W) (hb : Below W.heap.size W W') : W'.cell? ⟨gs, 0, none⟩ = some (a0) ∧ W'.cell? ⟨gs, 1, none⟩ = some (a1) ∧ W'.cell? ⟨gs, 2, none⟩ = some (a2) ∧ W'.cell? ⟨gb, 0, none⟩ = some (b0) ∧ W'.cell? ⟨gb, 1, none⟩ = some (b1) ∧ W'.cell? ⟨gb, 2, none⟩ = some (b2) ∧ W'.cell? ⟨gt, 0, none⟩ = some (t0) ∧ W'.cell? ⟨gt, 1, none⟩ = some (t1) ∧ W'.cell? ⟨gt, 2, none⟩ = some (t2) ∧ W'.cell? ⟨gx, 0, none⟩ = some (x0) ∧ W'.cell? ⟨gx, 1, none⟩ = some (x1) ∧ W'.cell? ⟨gv, 0, none⟩ = some (y0) ∧ W'.cell? ⟨gv, 1, none⟩ = some (y1) ∧ Below wc.heap.size wc W' := by
  have h0 := h.2.2.2.2.2.2.2.2.2.2.2.2.2
  exact kk_mk Ks Kb Kt Kx Kv (h0.trans (hb.mono h0.size))
end
theorem gcell {W W' : World} {g : Nat} (hg : W.grownBy W' (some g)) : (∀ b o, b < W.heap.size → ¬ (b = g) → W'.cell? ⟨b, o, none⟩ = W.cell? ⟨b, o, none⟩) ∧ (∀ b o, b < W.heap.size → ¬ (b = g) → W'.frozen? ⟨b, o, none⟩ = W.frozen? ⟨b, o, none⟩) :=
  ⟨fun b o h hn => World.cell?_of_block (hg.block b h (fun e => hn (by injection e))), fun b o h hn => World.frozen?_of_block (hg.block b h (fun e => hn (by injection e)))⟩
theorem push96 : pushV (List.replicate 100 0) (List.replicate 100 false) 96 48 = (0, List.replicate 100 0, List.replicate 100 false, 48) := by decide +kernel
theorem rep_lt0 : ∀ x ∈ List.replicate 100 0, x < 256 := fun x hx => by rw [(List.mem_replicate.1 hx).2]; decide
def szv (k : Nat) : Int := if k = 0 then 1 else if k = 1 then 2 else if k = 2 then 4 else 8
theorem szv_get (k : Nat) (h : k < 4) : (#[Value.int .i64 1, Value.int .i64 2, Value.int .i64 4, Value.int .i64 8] : Array Value)[k]? = some (.int .i64 (szv k)) := by
  have : k = 0 ∨ k = 1 ∨ k = 2 ∨ k = 3 := by omega
  rcases this with rfl | rfl | rfl | rfl <;> rfl
theorem szv_nat (k : Nat) (h : k < 4) : ∃ m : Nat, szv k = (m : Int) ∧ (m = 1 ∨ m = 2 ∨ m = 4 ∨ m = 8) := by
  have : k = 0 ∨ k = 1 ∨ k = 2 ∨ k = 3 := by omega
  rcases this with rfl | rfl | rfl | rfl
  · exact ⟨1, rfl, by omega⟩
  · exact ⟨2, rfl, by omega⟩
  · exact ⟨4, rfl, by omega⟩
  · exact ⟨8, rfl, by omega⟩
theorem ls_ok (k m : Nat) (hk : k < 40) (hm : m = 1 ∨ m = 2 ∨ m = 4 ∨ m = 8) : okV 100 48 (k : Int) (m : Int) = true := by
  rw [okV_iff, sizeB_iff]; omega
theorem ls_store (k m a b : Nat) (hk : k < 40) (hm : m = 1 ∨ m = 2 ∨ m = 4 ∨ m = 8) : storeV 100 48 (List.replicate 100 0) (List.replicate 100 false) a b (k : Int) (m : Int) = (0, splice (List.replicate 100 0) (48 + k) (bytesV a b m), splice (List.replicate 100 false) (48 + k) (List.replicate m true), 48) := by
  unfold storeV; rw [if_pos (ls_ok k m hk hm)]; rfl
theorem splice_mid {α : Type} (L cs : List α) (o : Nat) (h : o + cs.length ≤ L.length) : ((splice L o cs).drop o).take cs.length = cs := by
  apply List.ext_getElem?
  intro i
  rw [List.getElem?_take, List.getElem?_drop, splice_get _ _ _ _ h]
  by_cases hi : i < cs.length
  · rw [if_pos hi, if_neg (by omega), if_pos (by omega), show o + i - o = i by omega]
  · rw [if_neg hi, List.getElem?_eq_none (by omega)]
theorem ls_load (k m a b : Nat) (hk : k < 40) (hm : m = 1 ∨ m = 2 ∨ m = 4 ∨ m = 8) : loadV 100 48 (splice (List.replicate 100 0) (48 + k) (bytesV a b m)) (splice (List.replicate 100 false) (48 + k) (List.replicate m true)) (k : Int) (m : Int) = (((truncV a b m).1, (truncV a b m).2), true, 0) := by
  unfold loadV
  rw [if_pos (ls_ok k m hk hm)]
  have h1 := splice_mid (List.replicate 100 0) (bytesV a b m) (48 + k) (by rw [bytesV_len, List.length_replicate]; omega)
  have h2 := splice_mid (List.replicate 100 false) (List.replicate m true) (48 + k) (by rw [List.length_replicate, List.length_replicate]; omega)
  rw [bytesV_len] at h1
  rw [List.length_replicate] at h2
  rw [show (k : Int).toNat = k from rfl, show (m : Int).toNat = m from rfl, h1, if_pos (by rw [usedV_iff, h2]; simp), loV_bytes, hiV_bytes _ _ _ (by omega)]
theorem ls_trunc (a b m : Nat) (hm : m = 1 ∨ m = 2 ∨ m = 4 ∨ m = 8) : truncS a b (m : Int) = truncV a b m := by
  unfold truncS szOf
  rw [if_pos (by rw [sizeB_iff]; omega)]; rfl
theorem ls_out (k m a b : Nat) (hk : k < 40) (hm : m = 1 ∨ m = 2 ∨ m = 4 ∨ m = 8) (i : Nat) (hi : i < 100) (ho : i < 48 + k ∨ 48 + k + m ≤ i) : (splice (List.replicate 100 0) (48 + k) (bytesV a b m))[i]? = some 0 ∧ (splice (List.replicate 100 false) (48 + k) (List.replicate m true))[i]? = some false := by
  rw [splice_get _ _ _ _ (by rw [bytesV_len, List.length_replicate]; omega), splice_get _ _ _ _ (by rw [List.length_replicate, List.length_replicate]; omega), bytesV_len, List.length_replicate]
  have r0 : (List.replicate 100 0)[i]? = some 0 := by rw [List.getElem?_replicate, if_pos hi]
  have r1 : (List.replicate 100 false)[i]? = some false := by rw [List.getElem?_replicate, if_pos hi]
  rcases ho with h | h
  · rw [if_pos h, if_pos h]; exact ⟨r0, r1⟩
  · rw [if_neg (by omega), if_neg (by omega), if_neg (by omega), if_neg (by omega)]; exact ⟨r0, r1⟩
theorem noroom (lb : List Nat) (lu : List Bool) (a b k : Nat) : storeV 100 96 lb lu a b k 8 = (4, lb, lu, 96) := by
  unfold storeV
  rw [if_neg (by rw [okV_iff]; omega)]

set_option maxHeartbeats 8000000 in
theorem law (A : Option Addr) (n c : Nat) (l : List Nat) (a b : Nat) (ha : a < 18446744073709551616) (hb' : b < 18446744073709551616) (w : World)
    (hb : Bs w w.heap.size A n l) (hn : n ≤ maxLen) (hcap : n ≤ c) :
    Calls Try.prog 8 #[.slice A n c, .agg #[.int .u64 a, .int .u64 b]] w fun e w' => e = .returned (.bool true) ∧ Below w.heap.size w w' := by
  have HA := Lib.hid ha
  have HB := Lib.hid hb'
  have Rc_0 := Lib.hid (show BsZ w A n l from hb)
  clear ha hb' hb
  go_enter Try.func8, Try.ntmps8
  have H_0 := Lib.hid (Below.refl w.heap.size w)
  go_wp2_with fail
  refine Calls.mono (awake09 _) ?_
  rintro e w1 ⟨rfl, bel⟩
  have mv : w.heap.size ≤ w.heap.size := by have := H_0.out.size; omega
  have Rc_1 := Lib.hid (BsZ.below (BsZ.alloc Rc_0.out _) bel)
  have Kv_1 := Lib.hid (Blk.after (show Blk _ (w.heap.size) 52 #[.int .u64 a, .int .u64 b] from Blk.newAt (by simp [putStk, World.setCell])) bel)
  have H_1 := Lib.hid (Below.step (Below.al H_0.out _) bel)
  clear Rc_0 H_0 bel
  go_wp2_with fail
  refine (newcodes_any A n c l 60 w1 hn hcap (by omega)).mono ?_
  rintro e w2 ⟨rfl, rfl⟩
  have hco := codes_new (c := c) (Bs.more (Rc_1.out : Bs _ _ _ _ _) (Nat.le_refl _)) 60 (by omega)
  have C_2 := Lib.hid hco
  have mcc : w.heap.size ≤ w1.heap.size := H_1.out.size
  have Kv_2 := Lib.hid (Blk.alloc Kv_1.out (.cells #[.slice A (min n 60) c, .int .i64 0] 100))
  have nv_cc : w.heap.size < w1.heap.size := Blk.lt Kv_1.out
  have H_2 := Lib.hid (Below.al H_1.out (.cells #[.slice A (min n 60) c, .int .i64 0] 100))
  clear hco Kv_1 Rc_1 H_1
  have C1 := fun W : World => new_stk 100 (by omega) W
  rw [show 100 - 100 % 16 = 96 from rfl] at C1
  unfold StkR at C1
  obtain ⟨pv0, pv1, fv0, fv1, zv⟩ := Blk.two Kv_2.out
  go_wp2_with fail
  refine Calls.mono (C1 _) ?_
  rintro e w3 ⟨A3, c3, U3, d3, rfl, b3, t3, j3, i3, bel⟩
  have Kv_3 := Lib.hid (Blk.after Kv_2.out bel)
  have H_3 := Lib.hid (Below.step H_2.out bel)
  have C_3 := Lib.hid (CodesAt.after C_2.out bel)
  clear Kv_2 H_2 C_2 pv0 pv1 fv0 fv1 zv bel
  have Rsb_3 := Lib.hid (show BsZ _ _ _ _ from b3)
  clear b3
  have Rsu_3 := Lib.hid (show SlZ _ _ _ _ from t3)
  clear t3
  clear C1
  obtain ⟨pv0, pv1, fv0, fv1, zv⟩ := Blk.two Kv_3.out
  go_wp2_with fail
  refine Calls.mono (next_d _ _ _ _ _ _ _ 5 _ (CodesAt.alloc C_3.out _) (by omega) (by omega)) ?_
  rintro e w4 ⟨v, p4, hv, rfl, cc, gr⟩
  have nv_s : w.heap.size < w3.heap.size := by have := Blk.lt Kv_3.out; omega
  have ncc_s : w1.heap.size < w3.heap.size := by have := Blk.lt C_3.out.1; omega
  have ms : w.heap.size ≤ w3.heap.size := by have := H_3.out.size; omega
  have Rsb_4 := Lib.hid (BsZ.grown (BsZ.alloc Rsb_3.out _) (CodesAt.alloc C_3.out _).1 (by simp) gr)
  have Rsu_4 := Lib.hid (SlZ.grown (SlZ.alloc Rsu_3.out _) (CodesAt.alloc C_3.out _).1 (by simp) gr)
  have Kv_4 := Lib.hid (Blk.grown (Blk.alloc Kv_3.out _) gr (by intro e; injection e with e; exact absurd e (Nat.ne_of_lt nv_cc)))
  have Ks_4 := Lib.hid (Blk.grown (show Blk _ (w3.heap.size) 55 #[.slice A3 100 c3, .slice U3 100 d3, .int .i64 96] from Blk.newAt (by simp [putStk, World.setCell])) gr (by intro e; injection e with e; exact absurd e (Nat.ne_of_gt ncc_s)))
  have H_4 := Lib.hid (Below.stepG (Below.al H_3.out _) gr mcc)
  clear Kv_3 Rsb_3 Rsu_3 H_3 C_3 pv0 pv1 fv0 fv1 zv gr
  have C_4 := Lib.hid cc
  clear cc
  obtain ⟨pv0, pv1, fv0, fv1, zv⟩ := Blk.two Kv_4.out
  obtain ⟨ps0, ps1, ps2, fs0, fs1, fs2, zs⟩ := StkB.three Ks_4.out
  go_wp2_with fail
  have hv5 : v < 5 := by omega
  clear hv
  go_loopw [8] (fun i wr => ∃ (q : Nat) (j : Int) (p : Nat), i = .int .i64 j ∧ Hid (j = (q : Int) ∧ q < 5) ∧ Hid (Below w.heap.size w wr) ∧ Hid (Blk wr w.heap.size 52 #[.int .u64 a, .int .u64 b]) ∧ Hid (StkB wr w3.heap.size A3 100 c3 U3 100 d3 96) ∧ Hid (BsZ wr A3 100 (List.replicate 100 0)) ∧ Hid (SlZ wr U3 100 (List.replicate 100 false)) ∧ Hid (CodesAt wr w1.heap.size w1.heap.size A (min n 60) c (List.take (min n 60) l) p)) (fun i _ => (intOf i).toNat)
  case atStart => exact ⟨v, v, p4, rfl, Lib.hid ⟨rfl, hv5⟩, H_4, Kv_4, Ks_4, Rsb_4, Rsu_4, C_4⟩
  case round =>
    clear H_4 Kv_4 Ks_4 Rsb_4 Rsu_4 C_4 pv0 pv1 fv0 fv1 zv ps0 ps1 ps2 fs0 fs1 fs2 zs
    obtain ⟨q, j, p, rfl, HJ, H_9, Kv_9, Ks_9, Rsb_9, Rsu_9, C_9⟩ := hrel
    obtain ⟨hj, hq5⟩ := HJ.out
    rcases Nat.eq_zero_or_pos q with hq0 | hq0
    · subst hq0
      obtain rfl : j = 0 := by omega
      clear hj hq5 HJ
      obtain ⟨pv0, pv1, fv0, fv1, zv⟩ := Blk.two Kv_9.out
      obtain ⟨ps0, ps1, ps2, fs0, fs1, fs2, zs⟩ := StkB.three Ks_9.out
      go_wp2_with fail
      have PU := fun (W : World) (h : BsZ W A3 100 (List.replicate 100 0)) (h' : SlZ W U3 100 (List.replicate 100 false)) => push_any A3 U3 100 c3 d3 96 _ _ 48 (by omega) (by omega) W h h' (by omega) (by omega) j3 i3
      simp only [StkR, push96] at PU
      go_wp2_with fail
      refine Calls.mono (PU _ Rsb_9.out Rsu_9.out) ?_
      rintro e w10 ⟨A4, c4, U4, d4, rfl, b4, t4, j4, i4, bel⟩
      have Kv_10 := Lib.hid (Blk.after Kv_9.out bel)
      have Ks_10 := Lib.hid (Blk.after Ks_9.out bel)
      have H_10 := Lib.hid (Below.step H_9.out bel)
      have C_10 := Lib.hid (CodesAt.after C_9.out bel)
      clear Kv_9 Ks_9 Rsb_9 Rsu_9 H_9 C_9 pv0 pv1 fv0 fv1 zv ps0 ps1 ps2 fs0 fs1 fs2 zs bel
      have Rsb_10 := Lib.hid (show BsZ _ _ _ _ from b4)
      clear b4
      have Rsu_10 := Lib.hid (show SlZ _ _ _ _ from t4)
      clear t4
      clear PU
      have CP := fun (W : World) (h : BsZ W A4 100 (List.replicate 100 0)) (h' : SlZ W U4 100 (List.replicate 100 false)) => copy_any A4 U4 100 c4 d4 48 _ _ W h h' (by omega) j4 i4
      obtain ⟨pv0, pv1, fv0, fv1, zv⟩ := Blk.two Kv_10.out
      obtain ⟨ps0, ps1, ps2, fs0, fs1, fs2, zs⟩ := StkB.three Ks_10.out
      go_wp2_with fail
      refine Calls.mono (CP _ (BsZ.put Rsb_10.out Ks_10.out) (SlZ.put Rsu_10.out Ks_10.out)) ?_
      rintro e w11 ⟨V1, k1, V2, k2, rfl, o1, o2, hk1, hk2, bel⟩
      have Rsb_11 := Lib.hid (BsZ.below (BsZ.put Rsb_10.out Ks_10.out) bel)
      have Rsu_11 := Lib.hid (SlZ.below (SlZ.put Rsu_10.out Ks_10.out) bel)
      have Kv_11 := Lib.hid (Blk.after (Blk.putFar Kv_10.out (Nat.ne_of_lt nv_s)) bel)
      have Ks_11 := Lib.hid (Blk.after (StkB.put Ks_10.out) bel)
      have H_11 := Lib.hid (Below.step (Below.put H_10.out ms) bel)
      have C_11 := Lib.hid (CodesAt.after (CodesAt.put C_10.out (Nat.ne_of_lt ncc_s) (Nat.le_of_lt ncc_s)) bel)
      clear Kv_10 Ks_10 Rsb_10 Rsu_10 H_10 C_10 pv0 pv1 fv0 fv1 zv ps0 ps1 ps2 fs0 fs1 fs2 zs bel
      have bb := (show BsZ w11 V1 100 _ from Bs.of_own o1 rep_lt0)
      have bu := (show SlZ w11 V2 100 _ from Sl.of_own o2)
      clear o1 o2 CP
      have Rbb_11 := Lib.hid (show BsZ _ _ _ _ from bb)
      clear bb
      have Rbu_11 := Lib.hid (show SlZ _ _ _ _ from bu)
      clear bu
      go_wp2_with fail
      have nv_b : w.heap.size < w11.heap.size := by have := Blk.lt Kv_11.out; omega
      have ns_b : w3.heap.size < w11.heap.size := by have := Blk.lt Ks_11.out; omega
      have ncc_b : w1.heap.size < w11.heap.size := by have := Blk.lt C_11.out.1; omega
      have mb : w.heap.size ≤ w11.heap.size := by have := H_11.out.size; omega
      have Rsb_12 := Lib.hid (show BsZ (w11.alloc (Obj.cells #[.slice V1 100 k1, .slice V2 100 k2, .int .i64 48] 55)) _ _ _ from (BsZ.alloc Rsb_11.out _))
      have Rsu_12 := Lib.hid (show SlZ (w11.alloc (Obj.cells #[.slice V1 100 k1, .slice V2 100 k2, .int .i64 48] 55)) _ _ _ from (SlZ.alloc Rsu_11.out _))
      have Rbb_12 := Lib.hid (show BsZ (w11.alloc (Obj.cells #[.slice V1 100 k1, .slice V2 100 k2, .int .i64 48] 55)) _ _ _ from (BsZ.alloc Rbb_11.out _))
      have Rbu_12 := Lib.hid (show SlZ (w11.alloc (Obj.cells #[.slice V1 100 k1, .slice V2 100 k2, .int .i64 48] 55)) _ _ _ from (SlZ.alloc Rbu_11.out _))
      have Kv_12 := Lib.hid (show Blk (w11.alloc (Obj.cells #[.slice V1 100 k1, .slice V2 100 k2, .int .i64 48] 55)) _ _ _ from (Blk.alloc Kv_11.out _))
      have Ks_12 := Lib.hid (show Blk (w11.alloc (Obj.cells #[.slice V1 100 k1, .slice V2 100 k2, .int .i64 48] 55)) _ _ _ from (Blk.alloc Ks_11.out _))
      have Kb_12 := Lib.hid (show Blk (w11.alloc (Obj.cells #[.slice V1 100 k1, .slice V2 100 k2, .int .i64 48] 55)) _ _ _ from (show Blk _ (w11.heap.size) 55 #[.slice V1 100 k1, .slice V2 100 k2, .int .i64 48] from Blk.newAt (by simp [putStk, World.setCell])))
      have H_12 := Lib.hid (show Below w.heap.size w (w11.alloc (Obj.cells #[.slice V1 100 k1, .slice V2 100 k2, .int .i64 48] 55)) from (Below.al H_11.out _))
      have C_12 := Lib.hid (show CodesAt (w11.alloc (Obj.cells #[.slice V1 100 k1, .slice V2 100 k2, .int .i64 48] 55)) _ _ _ _ _ _ _ from (CodesAt.alloc C_11.out _))
      clear Kv_11 Ks_11 Rsb_11 Rsu_11 Rbb_11 Rbu_11 H_11 C_11
      generalize w11.alloc (Obj.cells #[.slice V1 100 k1, .slice V2 100 k2, .int .i64 48] 55) = wb at *
      have hzb : w1.heap.size < wb.heap.size := Blk.lt C_12.out.1
      have nb9 : ¬ (wb.heap.size = w1.heap.size) := by omega
      go_region_with (first
        | (go_at_call 28; have CC5' := CC5; refine Calls.mono (next_d w1.heap.size w1.heap.size A (min n 60) c (List.take (min n 60) l) p5 4 _ ?_ (by omega) (by omega)) ?_; (with_reducible first | exact CC5'.out | exact CodesAt.alloc CC5'.out _); rintro e w6 ⟨v6, p6, hv6, rfl, cc6, g6⟩; have gq6 : wb.grownBy w6 (some w1.heap.size) := (by with_reducible first | exact grownBy_trans gq5 g6 | exact grownBy_trans (grownBy_trans gq5 (gAl _ _ _)) g6); obtain ⟨hc6, hf6⟩ := gcell g6; have zz6 := g6.size; (try simp at zz6); (try (have y56 : w5.heap.size < w6.heap.size := (by omega))); (try (have y96 : wb.heap.size < w6.heap.size := (by omega))); have n6 : ¬ (w6.heap.size = w1.heap.size) := (by omega); have he6 := szv_get v6 (by omega); have k60 : (0 : Int) ≤ (v6 : Int) := (by omega); have k61 : (v6 : Int) < 4 := (by omega); have CC6 := Lib.hid cc6; have GQ6 := Lib.hid gq6; clear cc6 gq6)
        | (go_at_call 28; (fail_if_success have CC5' := CC5); refine Calls.mono (next_d w1.heap.size w1.heap.size A (min n 60) c (List.take (min n 60) l) p 40 _ ?_ (by omega) (by omega)) ?_; (with_reducible first | exact CodesAt.dr C_12.out | exact CodesAt.dr (CodesAt.alloc C_12.out _)); rintro e w5 ⟨v5, p5, hv5, rfl, cc5, g5⟩; have gq5 : wb.grownBy w5 (some w1.heap.size) := (by with_reducible first | exact grownBy_trans (gD _ _) g5 | exact grownBy_trans (gAD _ _ _) g5); obtain ⟨hc5, hf5⟩ := gcell g5; have zz5 := g5.size; (try simp at zz5); (try (have y95 : wb.heap.size < w5.heap.size := (by omega))); have z5 : wb.heap.size ≤ w5.heap.size := gq5.size; have n5 : ¬ (w5.heap.size = w1.heap.size) := (by omega); have CC5 := Lib.hid cc5; clear cc5))
      all_goals
        have gq6 := GQ6.out
        obtain ⟨m, hm, hm4⟩ := szv_nat v6 (by omega)
        (try simp only [hm])
        have hv540 : v5 < 40 := by omega
        clear hc5 hf5 hc6 hf6 g5 g6 gq5 he6 hv5 hv6 zz6 GQ6 hzb nb9 n5 n6 k60 k61 hm
        have Rsb_13 := Lib.hid (BsZ.grown Rsb_12.out C_12.out.1 (by simp) gq6)
        have Rsu_13 := Lib.hid (SlZ.grown Rsu_12.out C_12.out.1 (by simp) gq6)
        have Rbb_13 := Lib.hid (BsZ.grown Rbb_12.out C_12.out.1 (by simp) gq6)
        have Rbu_13 := Lib.hid (SlZ.grown Rbu_12.out C_12.out.1 (by simp) gq6)
        have Kv_13 := Lib.hid (Blk.grown Kv_12.out gq6 (by intro e; injection e with e; exact absurd e (Nat.ne_of_lt nv_cc)))
        have Ks_13 := Lib.hid (Blk.grown Ks_12.out gq6 (by intro e; injection e with e; exact absurd e (Nat.ne_of_gt ncc_s)))
        have Kb_13 := Lib.hid (Blk.grown Kb_12.out gq6 (by intro e; injection e with e; exact absurd e (Nat.ne_of_gt ncc_b)))
        have H_13 := Lib.hid (Below.stepG H_12.out gq6 mcc)
        clear Kv_12 Ks_12 Kb_12 Rsb_12 Rsu_12 Rbb_12 Rbu_12 H_12 C_12 gq6
        have C_13 := CC6
        have ST := fun (W : World) (h : BsZ W A4 100 (List.replicate 100 0)) (h' : SlZ W U4 100 (List.replicate 100 false)) => store_any A4 U4 100 c4 d4 48 _ _ v5 m (by omega) (by omega) (by omega) (by omega) a b HA.out HB.out W h h' (by omega) (by omega) j4 i4
        simp only [StkR, ls_store v5 m a b hv540 hm4] at ST
        have hld := ls_load v5 m a b hv540 hm4
        have hget := ls_out v5 m a b hv540 hm4
        generalize splice (List.replicate 100 0) (48 + v5) (bytesV a b m) = lb' at *
        generalize splice (List.replicate 100 false) (48 + v5) (List.replicate m true) = lu' at *
        obtain ⟨pv0, pv1, fv0, fv1, zv⟩ := Blk.two Kv_13.out
        obtain ⟨ps0, ps1, ps2, fs0, fs1, fs2, zs⟩ := StkB.three Ks_13.out
        obtain ⟨pb0, pb1, pb2, fb0, fb1, fb2, zb⟩ := StkB.three Kb_13.out
        go_wp2_with fail
        refine Calls.mono (ST _ (by with_reducible first | exact Rsb_13.out | exact BsZ.alloc Rsb_13.out _) (by with_reducible first | exact Rsu_13.out | exact SlZ.alloc Rsu_13.out _)) ?_
        rintro e w20 ⟨A7, c7, U7, d7, rfl, b7, t7, j7, i7, bel⟩
        have Rsb_20 := Lib.hid (BsZ.below (by with_reducible first | exact Rsb_13.out | exact BsZ.alloc Rsb_13.out _) bel)
        have Rsu_20 := Lib.hid (SlZ.below (by with_reducible first | exact Rsu_13.out | exact SlZ.alloc Rsu_13.out _) bel)
        have Rbb_20 := Lib.hid (BsZ.below (by with_reducible first | exact Rbb_13.out | exact BsZ.alloc Rbb_13.out _) bel)
        have Rbu_20 := Lib.hid (SlZ.below (by with_reducible first | exact Rbu_13.out | exact SlZ.alloc Rbu_13.out _) bel)
        have Kv_20 := Lib.hid (Blk.after (by with_reducible first | exact Kv_13.out | exact Blk.alloc Kv_13.out _) bel)
        have Ks_20 := Lib.hid (Blk.after (by with_reducible first | exact Ks_13.out | exact Blk.alloc Ks_13.out _) bel)
        have Kb_20 := Lib.hid (Blk.after (by with_reducible first | exact Kb_13.out | exact Blk.alloc Kb_13.out _) bel)
        have H_20 := Lib.hid (Below.step (by with_reducible first | exact H_13.out | exact Below.al H_13.out _) bel)
        clear bel ST pv0 pv1 fv0 fv1 zv ps0 ps1 ps2 fs0 fs1 fs2 zs pb0 pb1 pb2 fb0 fb1 fb2 zb Kv_13 Ks_13 Kb_13 Rsb_13 Rsu_13 Rbb_13 Rbu_13 H_13 C_13 CC6
        have Rtb_20 := Lib.hid (show BsZ _ _ _ _ from b7)
        clear b7
        have Rtu_20 := Lib.hid (show SlZ _ _ _ _ from t7)
        clear t7
        have LO := fun (W : World) (h : BsZ W A7 100 lb') (h' : SlZ W U7 100 lu') => load_any A7 U7 100 c7 d7 48 lb' lu' v5 m (by omega) (by omega) (by omega) (by omega) W h h' (by omega) (by omega) j7 i7
        simp only [LoadR, hld] at LO
        obtain ⟨pv0, pv1, fv0, fv1, zv⟩ := Blk.two Kv_20.out
        obtain ⟨ps0, ps1, ps2, fs0, fs1, fs2, zs⟩ := StkB.three Ks_20.out
        obtain ⟨pb0, pb1, pb2, fb0, fb1, fb2, zb⟩ := StkB.three Kb_20.out
        go_wp2_with fail
        refine Calls.mono (LO _ (BsZ.alloc Rtb_20.out _) (SlZ.alloc Rtu_20.out _)) ?_
        rintro e w21 ⟨rfl, bel⟩
        have nv_t : w.heap.size < w20.heap.size := by have := Blk.lt Kv_20.out; omega
        have ns_t : w3.heap.size < w20.heap.size := by have := Blk.lt Ks_20.out; omega
        have nb_t : w11.heap.size < w20.heap.size := by have := Blk.lt Kb_20.out; omega
        have mt : w.heap.size ≤ w20.heap.size := by have := H_20.out.size; omega
        have Rsb_21 := Lib.hid (BsZ.below (BsZ.alloc Rsb_20.out _) bel)
        have Rsu_21 := Lib.hid (SlZ.below (SlZ.alloc Rsu_20.out _) bel)
        have Rbb_21 := Lib.hid (BsZ.below (BsZ.alloc Rbb_20.out _) bel)
        have Rbu_21 := Lib.hid (SlZ.below (SlZ.alloc Rbu_20.out _) bel)
        have Rtb_21 := Lib.hid (BsZ.below (BsZ.alloc Rtb_20.out _) bel)
        have Rtu_21 := Lib.hid (SlZ.below (SlZ.alloc Rtu_20.out _) bel)
        have Kv_21 := Lib.hid (Blk.after (Blk.alloc Kv_20.out _) bel)
        have Ks_21 := Lib.hid (Blk.after (Blk.alloc Ks_20.out _) bel)
        have Kb_21 := Lib.hid (Blk.after (Blk.alloc Kb_20.out _) bel)
        have Kt_21 := Lib.hid (Blk.after (show Blk _ (w20.heap.size) 55 #[.slice A7 100 c7, .slice U7 100 d7, .int .i64 48] from Blk.newAt (by simp [putStk, World.setCell])) bel)
        have H_21 := Lib.hid (Below.step (Below.al H_20.out _) bel)
        clear Kv_20 Ks_20 Kb_20 Rsb_20 Rsu_20 Rbb_20 Rbu_20 Rtb_20 Rtu_20 H_20 pv0 pv1 fv0 fv1 zv ps0 ps1 ps2 fs0 fs1 fs2 zs pb0 pb1 pb2 fb0 fb1 fb2 zb bel
        have TR := fun W : World => reftrunc_any a b HA.out HB.out m (by omega) (by omega) W
        simp only [fromV, ls_trunc a b m hm4] at TR
        clear LO hld
        obtain ⟨pv0, pv1, fv0, fv1, zv⟩ := Blk.two Kv_21.out
        obtain ⟨ps0, ps1, ps2, fs0, fs1, fs2, zs⟩ := StkB.three Ks_21.out
        obtain ⟨pb0, pb1, pb2, fb0, fb1, fb2, zb⟩ := StkB.three Kb_21.out
        obtain ⟨pt0, pt1, pt2, ft0, ft1, ft2, zt⟩ := StkB.three Kt_21.out
        go_wp2_with fail
        have nv_x : w.heap.size < w21.heap.size := by have := Blk.lt Kv_21.out; omega
        have ns_x : w3.heap.size < w21.heap.size := by have := Blk.lt Ks_21.out; omega
        have nb_x : w11.heap.size < w21.heap.size := by have := Blk.lt Kb_21.out; omega
        have nt_x : w20.heap.size < w21.heap.size := by have := Blk.lt Kt_21.out; omega
        have mx : w.heap.size ≤ w21.heap.size := by have := H_21.out.size; omega
        have Rsb_22 := Lib.hid (show BsZ (w21.alloc (Obj.cells #[.int .u64 ((truncV a b m).1 : Nat), .int .u64 ((truncV a b m).2 : Nat)] 52)) _ _ _ from (BsZ.alloc Rsb_21.out _))
        have Rsu_22 := Lib.hid (show SlZ (w21.alloc (Obj.cells #[.int .u64 ((truncV a b m).1 : Nat), .int .u64 ((truncV a b m).2 : Nat)] 52)) _ _ _ from (SlZ.alloc Rsu_21.out _))
        have Rbb_22 := Lib.hid (show BsZ (w21.alloc (Obj.cells #[.int .u64 ((truncV a b m).1 : Nat), .int .u64 ((truncV a b m).2 : Nat)] 52)) _ _ _ from (BsZ.alloc Rbb_21.out _))
        have Rbu_22 := Lib.hid (show SlZ (w21.alloc (Obj.cells #[.int .u64 ((truncV a b m).1 : Nat), .int .u64 ((truncV a b m).2 : Nat)] 52)) _ _ _ from (SlZ.alloc Rbu_21.out _))
        have Rtb_22 := Lib.hid (show BsZ (w21.alloc (Obj.cells #[.int .u64 ((truncV a b m).1 : Nat), .int .u64 ((truncV a b m).2 : Nat)] 52)) _ _ _ from (BsZ.alloc Rtb_21.out _))
        have Rtu_22 := Lib.hid (show SlZ (w21.alloc (Obj.cells #[.int .u64 ((truncV a b m).1 : Nat), .int .u64 ((truncV a b m).2 : Nat)] 52)) _ _ _ from (SlZ.alloc Rtu_21.out _))
        have Kv_22 := Lib.hid (show Blk (w21.alloc (Obj.cells #[.int .u64 ((truncV a b m).1 : Nat), .int .u64 ((truncV a b m).2 : Nat)] 52)) _ _ _ from (Blk.alloc Kv_21.out _))
        have Ks_22 := Lib.hid (show Blk (w21.alloc (Obj.cells #[.int .u64 ((truncV a b m).1 : Nat), .int .u64 ((truncV a b m).2 : Nat)] 52)) _ _ _ from (Blk.alloc Ks_21.out _))
        have Kb_22 := Lib.hid (show Blk (w21.alloc (Obj.cells #[.int .u64 ((truncV a b m).1 : Nat), .int .u64 ((truncV a b m).2 : Nat)] 52)) _ _ _ from (Blk.alloc Kb_21.out _))
        have Kt_22 := Lib.hid (show Blk (w21.alloc (Obj.cells #[.int .u64 ((truncV a b m).1 : Nat), .int .u64 ((truncV a b m).2 : Nat)] 52)) _ _ _ from (Blk.alloc Kt_21.out _))
        have Kx_22 := Lib.hid (show Blk (w21.alloc (Obj.cells #[.int .u64 ((truncV a b m).1 : Nat), .int .u64 ((truncV a b m).2 : Nat)] 52)) _ _ _ from (show Blk _ (w21.heap.size) 52 #[.int .u64 ((truncV a b m).1 : Nat), .int .u64 ((truncV a b m).2 : Nat)] from Blk.newAt (by simp [putStk, World.setCell])))
        have H_22 := Lib.hid (show Below w.heap.size w (w21.alloc (Obj.cells #[.int .u64 ((truncV a b m).1 : Nat), .int .u64 ((truncV a b m).2 : Nat)] 52)) from (Below.al H_21.out _))
        clear Kv_21 Ks_21 Kb_21 Kt_21 Rsb_21 Rsu_21 Rbb_21 Rbu_21 Rtb_21 Rtu_21 H_21 pv0 pv1 fv0 fv1 zv ps0 ps1 ps2 fs0 fs1 fs2 zs pb0 pb1 pb2 fb0 fb1 fb2 zb pt0 pt1 pt2 ft0 ft1 ft2 zt
        generalize w21.alloc (Obj.cells #[.int .u64 ((truncV a b m).1 : Nat), .int .u64 ((truncV a b m).2 : Nat)] 52) = wc at *
        generalize truncV a b m = tv at *
        have HTR := Lib.hid TR
        clear TR
        go_region_held3 (fun W => W.cell? ⟨w3.heap.size, 0, none⟩ = some (.slice A4 100 c4) ∧ W.cell? ⟨w3.heap.size, 1, none⟩ = some (.slice U4 100 d4) ∧ W.cell? ⟨w3.heap.size, 2, none⟩ = some (.int .i64 48) ∧ W.cell? ⟨w11.heap.size, 0, none⟩ = some (.slice V1 100 k1) ∧ W.cell? ⟨w11.heap.size, 1, none⟩ = some (.slice V2 100 k2) ∧ W.cell? ⟨w11.heap.size, 2, none⟩ = some (.int .i64 48) ∧ W.cell? ⟨w20.heap.size, 0, none⟩ = some (.slice A7 100 c7) ∧ W.cell? ⟨w20.heap.size, 1, none⟩ = some (.slice U7 100 d7) ∧ W.cell? ⟨w20.heap.size, 2, none⟩ = some (.int .i64 48) ∧ W.cell? ⟨w21.heap.size, 0, none⟩ = some (.int .u64 (tv.1 : Nat)) ∧ W.cell? ⟨w21.heap.size, 1, none⟩ = some (.int .u64 (tv.2 : Nat)) ∧ W.cell? ⟨w.heap.size, 0, none⟩ = some (.int .u64 (a : Nat)) ∧ W.cell? ⟨w.heap.size, 1, none⟩ = some (.int .u64 (b : Nat)) ∧ Below wc.heap.size wc W)
          (with_reducible first
          | assumption
          | exact kk_step Ks_22.out Kb_22.out Kt_22.out Kx_22.out Kv_22.out (by assumption) bel6
          | exact kk_step Ks_22.out Kb_22.out Kt_22.out Kx_22.out Kv_22.out (by assumption) bel5
          | exact kk_drew Ks_22.out Kb_22.out Kt_22.out Kx_22.out Kv_22.out)
          (first
          | (go_at_call 36; refine (HTR.out _).mono ?_; rintro e w5 ⟨rfl, bel5⟩)
          | (go_at_call 37; have hbW := (by with_reducible assumption : _ ∧ _ ∧ _ ∧ _ ∧ _ ∧ _ ∧ _ ∧ _ ∧ _ ∧ _ ∧ _ ∧ _ ∧ _ ∧ Below wc.heap.size wc _); have hb0 := hbW.2.2.2.2.2.2.2.2.2.2.2.2.2; refine Calls.mono (stk_same A4 V1 U4 V2 100 c4 k1 100 d4 k2 48 _ _ _ _ (BsZ.below Rsb_22.out hb0) (BsZ.below Rbb_22.out hb0) (SlZ.below Rsu_22.out hb0) (SlZ.below Rbu_22.out hb0) (Nat.le_refl _) (by unfold maxLen; omega) (by unfold maxLen; omega)) ?_; rintro e w6 ⟨rfl, bel6⟩))
        all_goals
          have hbW := (by with_reducible assumption : _ ∧ _ ∧ _ ∧ _ ∧ _ ∧ _ ∧ _ ∧ _ ∧ _ ∧ _ ∧ _ ∧ _ ∧ _ ∧ Below wc.heap.size wc _)
          have HBW := Lib.hid hbW.2.2.2.2.2.2.2.2.2.2.2.2.2
          have Ks9 := Lib.hid (Blk.after Ks_22.out HBW.out)
          have Kt9 := Lib.hid (Blk.after Kt_22.out HBW.out)
          have Rsb9 := Lib.hid (BsZ.below Rsb_22.out HBW.out)
          have Rsu9 := Lib.hid (SlZ.below Rsu_22.out HBW.out)
          have Rtb9 := Lib.hid (BsZ.below Rtb_22.out HBW.out)
          have Rtu9 := Lib.hid (SlZ.below Rtu_22.out HBW.out)
          have H9 := Lib.hid (Below.step H_22.out HBW.out)
          clear hbW HBW bel5 bel6
          go_wp2_with fail
          go_loopw [20] (fun x wr => ∃ q : Nat, x = .int .i64 q ∧ Hid (q ≤ 100) ∧ Hid (Below w.heap.size w wr) ∧ Hid (StkB wr w3.heap.size A4 100 c4 U4 100 d4 48) ∧ Hid (StkB wr w20.heap.size A7 100 c7 U7 100 d7 48) ∧ Hid (BsZ wr A4 100 (List.replicate 100 0)) ∧ Hid (SlZ wr U4 100 (List.replicate 100 false)) ∧ Hid (BsZ wr A7 100 lb') ∧ Hid (SlZ wr U7 100 lu')) (fun x _ => 100 - (intOf x).toNat)
          case atStart => exact ⟨0, rfl, Lib.hid (by omega), H9, Ks9, Kt9, Rsb9, Rsu9, Rtb9, Rtu9⟩
          case round =>
            clear Ks9 Kt9 Rsb9 Rsu9 Rtb9 Rtu9 H9
            obtain ⟨q, rfl, HQ, H9, Ks9, Kt9, Rsb9, Rsu9, Rtb9, Rtu9⟩ := hrel
            obtain ⟨s0, s1, s2, -, -, -, zs9⟩ := StkB.three Ks9.out
            obtain ⟨t0, t1, t2, -, -, -, zt9⟩ := StkB.three Kt9.out
            by_cases hq : q < 100
            · have hvi : (v5 : Int) < 40 := by omega
              have hv0 : (0 : Int) ≤ (v5 : Int) := by omega
              have hmi : (m : Int) ≤ 8 := by omega
              have hm0 : (0 : Int) ≤ (m : Int) := by omega
              have hqi : (q : Int) < 100 := by omega
              have hq0 : (0 : Int) ≤ (q : Int) := by omega
              rcases (show (48 + v5 ≤ q ∧ q < 48 + v5 + m) ∨ (q < 48 + v5 ∨ (48 + v5 ≤ q ∧ 48 + v5 + m ≤ q)) by omega) with ⟨g1, g2⟩ | hout
              · have g1i : (48 : Int) + (v5 : Int) ≤ (q : Int) := by omega
                have g2i : (q : Int) < 48 + (v5 : Int) + (m : Int) := by omega
                go_wp2_with fail
                go_quiet (fail)
                go_wp2
                go_roundw
                case rel => exact ⟨q + 1, by go_num, Lib.hid (by omega), Lib.hid (below_drewN H9.out _), Lib.hid (Blk.drewN Ks9.out _), Lib.hid (Blk.drewN Kt9.out _), Lib.hid (BsZ.drewN Rsb9.out _), Lib.hid (SlZ.drewN Rsu9.out _), Lib.hid (BsZ.drewN Rtb9.out _), Lib.hid (SlZ.drewN Rtu9.out _)⟩
                case measure => simp [intOf] <;> omega
              · obtain ⟨e1, e2⟩ := hget q hq (by omega)
                obtain ⟨ad1, rfl, -, c1⟩ := Bs.at_ (Rtb9.out : Bs _ _ _ _ _) hq
                obtain ⟨ad2, rfl, -, c2⟩ := Bs.at_ (Rsb9.out : Bs _ _ _ _ _) hq
                obtain ⟨ad3, y3, rfl, -, hy3, c3'⟩ := Sl.at_ (Rtu9.out : Sl _ _ _ _ _ _) hq
                obtain ⟨ad4, y4, rfl, -, hy4, c4'⟩ := Sl.at_ (Rsu9.out : Sl _ _ _ _ _ _) hq
                rw [List.getD_eq_getElem?_getD, e1] at c1
                rw [List.getD_eq_getElem?_getD, List.getElem?_replicate, if_pos hq] at c2
                rw [e2] at hy3
                rw [List.getElem?_replicate, if_pos hq] at hy4
                obtain rfl : false = y3 := by injection hy3
                obtain rfl : false = y4 := by injection hy4
                simp only [Option.getD_some] at c1 c2
                clear e1 e2 hy3 hy4 hget
                rcases hout with g1 | ⟨g1, g2⟩
                · have g1i : ¬ ((48 : Int) + (v5 : Int) ≤ (q : Int)) := by omega
                  go_wp2_with fail
                  go_quiet (fail)
                  go_wp2
                  go_roundw
                  case rel => exact ⟨q + 1, by go_num, Lib.hid (by omega), Lib.hid (below_drewN H9.out _), Lib.hid (Blk.drewN Ks9.out _), Lib.hid (Blk.drewN Kt9.out _), Lib.hid (BsZ.drewN Rsb9.out _), Lib.hid (SlZ.drewN Rsu9.out _), Lib.hid (BsZ.drewN Rtb9.out _), Lib.hid (SlZ.drewN Rtu9.out _)⟩
                  case measure => simp [intOf] <;> omega
                · have g1i : (48 : Int) + (v5 : Int) ≤ (q : Int) := by omega
                  have g2i : ¬ ((q : Int) < 48 + (v5 : Int) + (m : Int)) := by omega
                  go_wp2_with fail
                  go_quiet (fail)
                  go_wp2
                  go_roundw
                  case rel => exact ⟨q + 1, by go_num, Lib.hid (by omega), Lib.hid (below_drewN H9.out _), Lib.hid (Blk.drewN Ks9.out _), Lib.hid (Blk.drewN Kt9.out _), Lib.hid (BsZ.drewN Rsb9.out _), Lib.hid (SlZ.drewN Rsu9.out _), Lib.hid (BsZ.drewN Rtb9.out _), Lib.hid (SlZ.drewN Rtu9.out _)⟩
                  case measure => simp [intOf] <;> omega
            · obtain rfl : q = 100 := by have := HQ.out; omega
              clear hget HQ hq
              go_wp2
              go_ret
              exact ⟨rfl, H9.out⟩
    · have hj0 : 0 < j := by omega
      have hj5 : j < 5 := by omega
      have HJJ := Lib.hid hj
      have HQ5 := Lib.hid hq5
      clear hj hq5 HJ
      have HN := fun (W : World) (p : Nat) (h : CodesAt W w1.heap.size w1.heap.size A (min n 60) c (List.take (min n 60) l) p) => next_d _ _ _ _ _ _ p 40 W h (by omega) (by omega)
      obtain ⟨pv0, pv1, fv0, fv1, zv⟩ := Blk.two Kv_9.out
      obtain ⟨ps0, ps1, ps2, fs0, fs1, fs2, zs⟩ := StkB.three Ks_9.out
      go_wp2_with fail
      have HKS := Ks_9
      clear pv0 pv1 fv0 fv1 zv fs0 fs1 fs2 ms mv
      have n9 : ¬ (wr.heap.size = w1.heap.size) := by omega
      go_region_held3 (fun W => W.cell? ⟨w3.heap.size, 0, none⟩ = some (.slice A3 100 c3) ∧ W.cell? ⟨w3.heap.size, 1, none⟩ = some (.slice U3 100 d3) ∧ W.cell? ⟨w3.heap.size, 2, none⟩ = some (.int .i64 96) ∧ wr.grownBy W (some w1.heap.size) ∧ ∃ p, CodesAt W w1.heap.size w1.heap.size A (min n 60) c (List.take (min n 60) l) p)
        (with_reducible first
        | exact sr_below HKS.out ncc_s (by assumption) bel7
        | exact sr_grown HKS.out ncc_s (by assumption) g6 cc6
        | exact sr_grown HKS.out ncc_s (by assumption) g5 cc5
        | exact sr_drew HKS.out ncc_s ⟨_, C_9.out⟩
        | exact sr_adrew HKS.out ncc_s ⟨_, C_9.out⟩ _
        | exact sr_set3 HKS.out ncc_s (by assumption) z6 _ _ _
        | exact sr_set3 HKS.out ncc_s (by assumption) z5 _ _ _
        | exact sr_set3 HKS.out ncc_s (by assumption) (Nat.le_refl _) _ _ _
        | exact sr_new HKS.out ncc_s (by assumption) z7
        | exact sr_alloc HKS.out ncc_s (by assumption) _)
        (first
        | (go_at_call 28; obtain ⟨-, -, -, gq, pq, cq⟩ := (by with_reducible assumption : _ ∧ _ ∧ _ ∧ _ ∧ ∃ p, CodesAt _ w1.heap.size w1.heap.size A (min n 60) c (List.take (min n 60) l) p); refine (HN _ _ cq).mono ?_; rintro e w5 ⟨v5, p5, hv5, rfl, cc5, g5⟩; have z5 : wr.heap.size ≤ w5.heap.size := Nat.le_trans gq.size g5.size; obtain ⟨hc5, hf5⟩ := gcell g5; have zz5 := g5.size; (try simp at zz5); (try (have y95 : wr.heap.size < w5.heap.size := (by omega))); have n5 : ¬ (w5.heap.size = w1.heap.size) := (by omega))
        | (go_at_call 32; obtain ⟨-, -, -, gq, pq, cq⟩ := (by with_reducible assumption : _ ∧ _ ∧ _ ∧ _ ∧ ∃ p, CodesAt _ w1.heap.size w1.heap.size A (min n 60) c (List.take (min n 60) l) p); refine (value_d _ _ _ _ _ _ _ _ cq).mono ?_; rintro e w6 ⟨x6, y6, p6, ⟨hx6, hy6⟩, rfl, cc6, g6⟩; have z6 : wr.heap.size ≤ w6.heap.size := Nat.le_trans gq.size g6.size; obtain ⟨hc6, hf6⟩ := gcell g6; have zz6 := g6.size; (try simp at zz6); (try (have y96 : wr.heap.size < w6.heap.size := (by omega))); (try (have y56 : w5.heap.size < w6.heap.size := (by omega))); have n6 : ¬ (w6.heap.size = w1.heap.size) := (by omega))
        | (go_at_call 31; obtain ⟨-, -, -, gq, pq, cq⟩ := (by with_reducible assumption : _ ∧ _ ∧ _ ∧ _ ∧ ∃ p, CodesAt _ w1.heap.size w1.heap.size A (min n 60) c (List.take (min n 60) l) p); refine Calls.mono (store_any _ _ 100 _ _ 96 _ _ v5 8 (by omega) (by omega) (by omega) (by omega) x6 y6 hx6 hy6 _ (Rsb_9.out.grown C_9.out.1 (by simp) gq) (Rsu_9.out.grown C_9.out.1 (by simp) gq) (by omega) (by omega) j3 i3) ?_; rw [noroom]; rintro e w7 ⟨A7, c7, U7, d7, rfl, b7, t7, j7, i7, bel7⟩; have z7 : wr.heap.size ≤ w7.heap.size := Nat.le_trans gq.size bel7.size; obtain ⟨hc7, hf7⟩ := bcell bel7; have zz7 := bel7.size; (try simp at zz7); (try (have y97 : wr.heap.size < w7.heap.size := (by omega))); (try (have y57 : w5.heap.size < w7.heap.size := (by omega))); (try (have y67 : w6.heap.size < w7.heap.size := (by omega)))))
      all_goals
        obtain ⟨-, -, -, gq8, p8, cq8⟩ := (by with_reducible assumption : _ ∧ _ ∧ _ ∧ _ ∧ ∃ p, CodesAt _ w1.heap.size w1.heap.size A (min n 60) c (List.take (min n 60) l) p)
        have HG := Lib.hid gq8
        have HC := Lib.hid cq8
        clear gq8 cq8 hc5 hf5 hc6 hf6 hc7 hf7 g5 g6 bel7 cc5 cc6 b7 t7
        go_wp2
        go_roundw
        case rel =>
          exact ⟨q - 1, j - 1, p8, by go_num, Lib.hid ⟨by have := HJJ.out; omega, by have := HQ5.out; omega⟩, Lib.hid (Below.stepG H_9.out HG.out mcc), Lib.hid (Blk.grown Kv_9.out HG.out (by intro e; injection e with e; omega)), Lib.hid (Blk.grown Ks_9.out HG.out (by intro e; injection e with e; omega)), Lib.hid (BsZ.grown Rsb_9.out C_9.out.1 (by simp) HG.out), Lib.hid (SlZ.grown Rsu_9.out C_9.out.1 (by simp) HG.out), HC⟩
        case measure => simp [intOf] <;> omega
end Go.Proofs.Ytgamodmenlhedaa.ls
