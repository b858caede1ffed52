/- Small lemmas that all walks of this seat use: what a call that only makes memory leaves as it was; order facts for the walk's discharger. -/
import Derived.Test.YtcnndoefgjbmiaaGreatRows
import Derived.WalkKit
import Derived.ProofKit
import Derived.OpenShut
import Derived.Below
import Derived.Lib.Hide
import Derived.Laws.OwnMore
import Derived.Deep.AppendLies
import Derived.Deep.Draws
import Derived.Laws.Rows
import Derived.Maps.AppendAt
import Derived.RegionTactic
import Derived.OwnWalk
import Derived.Lib.SliceRun
import Derived.Handy
import Derived.Lib.SmallJoins
import Derived.Deep.Slices
import Derived.Deep.Fields
import Derived.ChangeSame
import Derived.BigQuiet
import Derived.Deep.QuietTactic
import Derived.Deep.DeepCutAuto
set_option linter.unusedVariables false
set_option maxRecDepth 10000
set_option maxHeartbeats 8000000
namespace Go.Proofs.YtcnndoefgjbmiaaGreat
open Go.RowKit
theorem hQ {p : Prop} (h : p) : Hid p := h
theorem nL {n : Nat} : n ≤ n := Nat.le_refl n
theorem bR {n : Nat} {w : World} : Below n w w := Below.refl n w
theorem sA {α : Type} (l : List α) (i : Nat) (a : α) : l.toArray.setIfInBounds i a = (l.set i a).toArray := List.setIfInBounds_toArray l i a
theorem sS {α : Type} (l : List α) (i : Nat) (x a : α) : (x :: l).set (i + 1) a = x :: l.set i a := rfl
theorem sZ {α : Type} (l : List α) (x a : α) : (x :: l).set 0 a = a :: l := rfl
theorem bcell {W w1 : World} (hb : Below W.heap.size W w1) : (∀ b o, b < W.heap.size → w1.cell? ⟨b, o, none⟩ = W.cell? ⟨b, o, none⟩) ∧ (∀ b o, b < W.heap.size → w1.frozen? ⟨b, o, none⟩ = W.frozen? ⟨b, o, none⟩) :=
 ⟨fun b o h => hb.cell (p := ⟨b, o, none⟩) h, fun b o h => hb.frozen (p := ⟨b, o, none⟩) h⟩
theorem ret_int {k : IntKind} {a b : Int} (h : a = b) : Ending.returned (.int k a) = .returned (.int k b) := by rw [h]
theorem ret_bool {a b : Bool} (h : a = b) : Ending.returned (.bool a) = .returned (.bool b) := by rw [h]
theorem take_succ_getD (l : List Nat) (k : Nat) (h : k < l.length) : l.take (k + 1) = l.take k ++ [l.getD k 0] := by
 rw [List.take_succ_eq_append_getElem h, List.getD_eq_getElem?_getD, List.getElem?_eq_getElem h]; rfl
theorem lt_s2 {a b : Nat} (h : a < b) : a < b + 1 + 1 := by omega
theorem lt_s3 {a b : Nat} (h : a < b) : a < b + 1 + 1 + 1 := by omega
theorem lt_s4 {a b : Nat} (h : a < b) : a < b + 1 + 1 + 1 + 1 := by omega
theorem lt_s5 {a b : Nat} (h : a < b) : a < b + 1 + 1 + 1 + 1 + 1 := by omega
theorem lt_s6 {a b : Nat} (h : a < b) : a < b + 1 + 1 + 1 + 1 + 1 + 1 := by omega
theorem lt_s7 {a b : Nat} (h : a < b) : a < b + 1 + 1 + 1 + 1 + 1 + 1 + 1 := by omega
theorem lt_s8 {a b : Nat} (h : a < b) : a < b + 1 + 1 + 1 + 1 + 1 + 1 + 1 + 1 := by omega
attribute [go_sem] lt_s2 lt_s3 lt_s4 lt_s5 lt_s6 lt_s7 lt_s8
theorem block_of_add (a : Addr) (n : Nat) : (a.add n).block = a.block := by unfold Addr.add; split <;> rfl
theorem add_of_add (a : Addr) (i j : Nat) : (a.add i).add j = a.add (i + j) := by
 unfold Addr.add
 by_cases hi : i = 0 <;> by_cases hj : j = 0 <;> simp [hi, hj, Nat.add_assoc]
def Reads (w : World) (B size : Nat) (A : Option Addr) (n : Nat) (xs : List Value) : Prop :=
 xs.length = n * size ∧ (0 < n → ∃ ad, A = some ad ∧ ad.block < B ∧ ∀ j u, xs[j]? = some u → w.cell? (ad.add j) = some u)
section
variable {w w' : World} {B B' size n : Nat} {A : Option Addr} {xs : List Value}
theorem Reads.none_ : Reads w B size A 0 [] := ⟨by simp, fun h => absurd h (by omega)⟩
theorem Reads.at_ {k : Nat} (h : Reads w B 1 A n xs) (hk : k < n) : ∃ ad u, A = some ad ∧ ad.block < B ∧ xs[k]? = some u ∧ w.cell? (ad.add k) = some u := by
 obtain ⟨ad, e, hb, hc⟩ := h.2 (by omega)
 have hl : k < xs.length := by have := h.1; omega
 exact ⟨ad, xs[k], e, hb, List.getElem?_eq_getElem hl, hc k _ (List.getElem?_eq_getElem hl)⟩
theorem Reads.keep (h : Reads w B size A n xs) (hk : ∀ p : Addr, p.block < B → w'.cell? p = w.cell? p) : Reads w' B size A n xs :=
 ⟨h.1, fun hn => by
  obtain ⟨ad, e, hb, hc⟩ := h.2 hn
  exact ⟨ad, e, hb, fun j u hu => (hk _ (by rw [block_of_add]; exact hb)).trans (hc j u hu)⟩⟩
theorem Reads.more (h : Reads w B size A n xs) (hB : B ≤ B') : Reads w B' size A n xs :=
 ⟨h.1, fun hn => by
  obtain ⟨ad, e, hb, hc⟩ := h.2 hn
  exact ⟨ad, e, by omega, hc⟩⟩
theorem Reads.below (h : Reads w B size A n xs) (hb : Below B w w') : Reads w' B size A n xs := h.keep fun _ hp => hb.cell hp
theorem Reads.drewN (h : Reads w B size A n xs) (k : Nat) : Reads (w.drewN k) B size A n xs := h
theorem Reads.alloc (h : Reads w B size A n xs) (hB : B ≤ w.heap.size) (o : Obj) : Reads (w.alloc o) B size A n xs := h.keep fun p hp => World.cell?_alloc_lt w o p (by omega)
theorem Reads.setCell (h : Reads w B size A n xs) {p : Addr} (hB : B ≤ p.block) (u : Value) : Reads (w.setCell p u) B size A n xs :=
 h.keep fun q hq => World.cell?_setCell_other w p q u (fun e => by subst e; omega)
theorem Reads.cut (h : Reads w B size A n xs) {k cap : Nat} (hk : k ≤ n) (hc : n ≤ cap) :
 Reads w B size (if cap = k then A else A.map (·.add (k * size))) (n - k) (xs.drop (k * size)) := by
 refine ⟨by rw [List.length_drop, h.1, Nat.sub_mul], fun hn => ?_⟩
 obtain ⟨ad, rfl, hb, hcell⟩ := h.2 (by omega)
 rw [if_neg (by omega)]
 refine ⟨ad.add (k * size), rfl, by rw [block_of_add]; exact hb, fun j u hu => ?_⟩
 rw [add_of_add]
 exact hcell _ u (by rw [← hu, List.getElem?_drop])
theorem Reads.of_own {base : Nat} {e : TypeId} {c : Nat} (h : w.ownsRow base e size (.slice A n c) n xs) : Reads w w.heap.size size A n xs := by
 refine ⟨h.1, fun hn => ?_⟩
 obtain ⟨g, cap, hv, _, hlt⟩ := h.form hn
 have hA : A = some ⟨g, 0, none⟩ := by injection hv
 subst hA
 exact ⟨_, rfl, hlt, h.cells (g := g) rfl⟩
end
def Blk (w : World) (g : Nat) (t : TypeId) (cs : Array Value) : Prop := w.heap[g]? = some (.cells cs t (0, 0))
section
variable {w w' : World} {g : Nat} {t : TypeId} {cs : Array Value}
theorem Blk.lt (h : Blk w g t cs) : g < w.heap.size := by
 rcases Nat.lt_or_ge g w.heap.size with hlt | hge
 · exact hlt
 · unfold Blk at h; rw [Array.getElem?_eq_none hge] at h; cases h
theorem Blk.cell (h : Blk w g t cs) (i : Nat) : w.cell? ⟨g, i, none⟩ = cs[i]? := cell_of_row w g i cs t (0, 0) h
theorem Blk.frozen (h : Blk w g t cs) (i : Nat) : w.frozen? ⟨g, i, none⟩ = false := by
 unfold Blk at h
 simp [World.frozen?, h]
theorem Blk.new (w : World) (t : TypeId) (cs : Array Value) : Blk (w.alloc (.cells cs t)) w.heap.size t cs := heap_alloc_new w _
theorem Blk.drew (h : Blk w g t cs) : Blk w.drew g t cs := h
theorem Blk.drewN (h : Blk w g t cs) (n : Nat) : Blk (w.drewN n) g t cs := h
theorem Blk.alloc (h : Blk w g t cs) (o : Obj) : Blk (w.alloc o) g t cs := (Below.heap_alloc w o g h.lt).trans h
theorem Blk.set_ (h : Blk w g t cs) (i : Nat) (u : Value) : Blk (w.setCell ⟨g, i, none⟩ u) g t (cs.setIfInBounds i u) := by
 unfold Blk at h ⊢
 simp [World.setCell, Array.getElem?_modify, h]
theorem Blk.far (h : Blk w g t cs) {p : Addr} (hp : g ≠ p.block) (u : Value) : Blk (w.setCell p u) g t cs := (Below.heap_setCell w p u g hp).trans h
theorem Blk.below {B : Nat} (h : Blk w g t cs) (hb : Below B w w') (hg : g < B) : Blk w' g t cs := (hb.block g hg).trans h
theorem Blk.grown {row : Option Nat} (h : Blk w g t cs) (hb : w.grownBy w' row) (hg : some g ≠ row) : Blk w' g t cs := (hb.block g h.lt hg).trans h
theorem Blk.ne_ {g' : Nat} {t' : TypeId} {cs' : Array Value} (h : Blk w g t cs) (h' : Blk w g' t' cs') (hne : t ≠ t') : g ≠ g' := by
 rintro rfl
 unfold Blk at h h'
 rw [h] at h'
 injection h' with h'
 injection h' with _ ht
 exact hne ht
theorem own_blk_ne {base : Nat} {e : TypeId} {size n : Nat} {v : Value} {xs : List Value} (h : w.ownsRow base e size v n xs) (hg : Blk w g t cs) (hne : e ≠ t) : v.ownBlock ≠ some g := by
 rcases h.2 with ⟨rfl, _⟩ | ⟨g', cap, cur, rfl, _, hh, _⟩
 · simp [Value.ownBlock]
 · intro he
   have : g' = g := by simpa [Value.ownBlock] using he
   subst this
   exact Blk.ne_ (t := e) hh hg hne rfl
end
section
variable {P : Program} (w : World)
theorem run_append_of_nil (base : Nat) (t ty e : TypeId) (i : TypeInfo) (size : Nat) (ht : P.underlying t = some (.slice e)) (hi : P.info? e = some i)
 (v : Value) (n : Nat) (xs : List Value) (hown : w.ownsRow base e size v n xs) (c : Nat) : (Builtin.append_ #[t, t] ty #[v, .slice none 0 c]).run P w = .ok v w := by
 rcases hown.2 with ⟨rfl, rfl⟩ | ⟨g, cap, cur, rfl, _, _, hnc, _⟩
 · simp [Builtin.append_, run_underlying ht, sizeOf, typeInfo, hi, Builtin.lenOf, Builtin.firstCells]
 · simp [Builtin.append_, run_underlying ht, sizeOf, typeInfo, hi, Builtin.lenOf, Builtin.firstCells, hnc, storeCells]
theorem run_append_any (base : Nat) (t ty e : TypeId) (i : TypeInfo) (z : Value) (size bytes : Nat) (ht : P.underlying t = some (.slice e)) (hi : P.info? e = some i) (hz : i.zero = some z)
 (hsize : i.size = size) (hby : i.bytes = bytes) (hzs : z.cells.size = size) (hsz : 0 < size)
 (v : Value) (n : Nat) (xs : List Value) (hown : w.ownsRow base e size v n xs)
 (B : Nat) (A : Option Addr) (m c : Nat) (news : List Value) (hr : Reads w B size A m news) (h1 : ∀ u ∈ news, u.oneCell' = true)
 (h63 : n + m ≤ maxLen) (hbytes : (n + m) * bytes ≤ 140737488355328) (hbase : base ≤ w.heap.size) :
 ∃ v' w', (Builtin.append_ #[t, t] ty #[v, .slice A m c]).run P w = .ok v' w' ∧ w'.ownsRow base e size v' (n + m) (xs ++ news) ∧ w.grownBy w' v.ownBlock ∧
  (v'.ownBlock = v.ownBlock ∨ v'.ownBlock = some w.heap.size) := by
 rcases A with _ | ad
 · have hm : m = 0 := by
    rcases Nat.eq_zero_or_pos m with h0 | h0
    · exact h0
    · obtain ⟨ad, h, _⟩ := hr.2 h0
      cases h
   subst hm
   have hn : news = [] := List.eq_nil_of_length_eq_zero (by simpa using hr.1)
   subst hn
   exact ⟨v, w, run_append_of_nil w base t ty e i size ht hi v n xs hown c, by simpa using hown, World.grownBy.refl w _, .inl rfl⟩
 · have hcells : ∀ j u, news[j]? = some u → w.cell? (ad.add j) = some u := by
    intro j u hu
    rcases Nat.eq_zero_or_pos m with h0 | h0
    · subst h0
      have hn : news = [] := List.eq_nil_of_length_eq_zero (by simpa using hr.1)
      subst hn
      simp at hu
    · obtain ⟨ad', h, _, hc⟩ := hr.2 h0
      injection h with h
      subst h
      exact hc j u hu
   obtain ⟨v', w', hrun, h2, h3, _, h5⟩ := run_append_own_at (P := P) w base t ty e i z size bytes ht hi hz hsize hby hzs hsz v n xs hown ad m c news hr.1 hcells h1 h63 hbytes hbase
   exact ⟨v', w', hrun, h2, h3, h5⟩
theorem wp_append_any {o : Oper} {a : Act} {K : Act → World → Prop} {Q : Exit → Act → World → Prop} (s x : Operand) (t : TypeId)
 (ho : o.op = .call { callee := .builtin .append, args := #[s, x], argTypes := #[t, t] })
 (base : Nat) (e : TypeId) (i : TypeInfo) (z : Value) (size bytes : Nat) (ht : P.underlying t = some (.slice e)) (hi : P.info? e = some i) (hz : i.zero = some z)
 (hsize : i.size = size) (hby : i.bytes = bytes) (hzs : z.cells.size = size) (hsz : 0 < size)
 (v : Value) (n : Nat) (xs : List Value) (hs : a.eval s = v) (hown : w.ownsRow base e size v n xs)
 (B : Nat) (A : Option Addr) (m c : Nat) (news : List Value) (hx : a.eval x = .slice A m c) (hr : Reads w B size A m news) (h1 : ∀ u ∈ news, u.oneCell' = true)
 (h63 : n + m ≤ maxLen) (hbytes : (n + m) * bytes ≤ 140737488355328) (hbase : base ≤ w.heap.size)
 (h : ∀ v' w', w'.ownsRow base e size v' (n + m) (xs ++ news) → w.grownBy w' v.ownBlock → (v'.ownBlock = v.ownBlock ∨ v'.ownBlock = some w.heap.size) → K (a.put o.dst v') w') : o.wp P a w K Q := by
 obtain ⟨v', w', hrun, h2, h3, h4⟩ := run_append_any (P := P) w base t o.type e i z size bytes ht hi hz hsize hby hzs hsz v n xs hown B A m c news hr h1 h63 hbytes hbase
 unfold Oper.wp execOp
 simp only [ho, resolve, invoke, builtin, Sem.run_bind, Sem.run_pure, Result.andThen_ok, List.map_toArray, List.map_cons, List.map_nil, hs, hx, hrun]
 exact h v' w' h2 h3 h4
theorem wpList_append_any {ops : Array Oper} {rest : List Oper} {o : Oper} {a : Act} {Q : Exit → Act → World → Prop} (hgd : o.guard = none) (s x : Operand) (t : TypeId)
 (ho : o.op = .call { callee := .builtin .append, args := #[s, x], argTypes := #[t, t] })
 (base : Nat) (e : TypeId) (i : TypeInfo) (z : Value) (size bytes : Nat) (ht : P.underlying t = some (.slice e)) (hi : P.info? e = some i) (hz : i.zero = some z)
 (hsize : i.size = size) (hby : i.bytes = bytes) (hzs : z.cells.size = size) (hsz : 0 < size)
 (v : Value) (n : Nat) (xs : List Value) (hs : a.eval s = v) (hown : w.ownsRow base e size v n xs)
 (B : Nat) (A : Option Addr) (m c : Nat) (news : List Value) (hx : a.eval x = .slice A m c) (hr : Reads w B size A m news) (h1 : ∀ u ∈ news, u.oneCell' = true)
 (h63 : n + m ≤ maxLen) (hbytes : (n + m) * bytes ≤ 140737488355328) (hbase : base ≤ w.heap.size)
 (h : ∀ v' w', w'.ownsRow base e size v' (n + m) (xs ++ news) → w.grownBy w' v.ownBlock → (v'.ownBlock = v.ownBlock ∨ v'.ownBlock = some w.heap.size) → wpList P ops Q rest (a.put o.dst v') w') : wpList P ops Q (o :: rest) a w :=
 wpList_plain hgd fun _ hK => wp_append_any w s x t ho base e i z size bytes ht hi hz hsize hby hzs hsz v n xs hs hown B A m c news hx hr h1 h63 hbytes hbase fun v' w' h2 h3 h4 => hK _ _ (h v' w' h2 h3 h4)
theorem step_append_any {ops : Array Oper} {o : Oper} {a : Act} {K : Act → World → Prop} {Q : Exit → Act → World → Prop} {E : Prop} (hgd : o.guard = none) (s x : Operand) (t : TypeId)
 (ho : o.op = .call { callee := .builtin .append, args := #[s, x], argTypes := #[t, t] })
 (base : Nat) (e : TypeId) (i : TypeInfo) (z : Value) (size bytes : Nat) (ht : P.underlying t = some (.slice e)) (hi : P.info? e = some i) (hz : i.zero = some z)
 (hsize : i.size = size) (hby : i.bytes = bytes) (hzs : z.cells.size = size) (hsz : 0 < size)
 (v : Value) (n : Nat) (xs : List Value) (hs : a.eval s = v) (hown : w.ownsRow base e size v n xs)
 (B : Nat) (A : Option Addr) (m c : Nat) (news : List Value) (hx : a.eval x = .slice A m c) (hr : Reads w B size A m news) (h1 : ∀ u ∈ news, u.oneCell' = true)
 (h63 : n + m ≤ maxLen) (hbytes : (n + m) * bytes ≤ 140737488355328) (hbase : base ≤ w.heap.size)
 (h : ∀ v' w', w'.ownsRow base e size v' (n + m) (xs ++ news) → w.grownBy w' v.ownBlock → (v'.ownBlock = v.ownBlock ∨ v'.ownBlock = some w.heap.size) → K (a.put o.dst v') w') :
 if Region.wanted o (yielded ops a.tmps) = true then Oper.wp P o a w K Q else E := by
 have hw : Region.wanted o (yielded ops a.tmps) = true := by simp [Region.wanted, hgd]
 rw [if_pos hw]
 exact wp_append_any w s x t ho base e i z size bytes ht hi hz hsize hby hzs hsz v n xs hs hown B A m c news hx hr h1 h63 hbytes hbase h
end
open Go.Joins Go.ChangeShapes Go.WideShapes Go.RowKit Go.Deep
section
variable {H : Type} {enc : TypeId × Value → H} {P : Program} {w : World} {base : Nat} {spare : Nat → Bool} {held : Bool}
end
theorem cell_lt {w : World} {a : Addr} {v : Value} (h : w.cell? a = some v) : a.block < w.heap.size := by
 rcases Nat.lt_or_ge a.block w.heap.size with hlt | hge
 · exact hlt
 · unfold World.cell? at h; rw [Array.getElem?_eq_none hge] at h; simp at h
def nb (l : List Nat) : List Value := l.map fun (x : Nat) => Value.int .u8 (x : Int)
theorem nb_length (l : List Nat) : (nb l).length = l.length := by simp [nb]
theorem nb_get (l : List Nat) (i : Nat) : (nb l)[i]? = (l[i]?).map fun (x : Nat) => Value.int .u8 (x : Int) := by simp [nb]
theorem nb_one (l : List Nat) : ∀ u ∈ nb l, u.oneCell' = true := by
 intro u hu
 obtain ⟨x, _, rfl⟩ := List.mem_map.1 hu
 rfl
theorem nb_append (l m : List Nat) : nb (l ++ m) = nb l ++ nb m := by simp [nb]
def Bs (w : World) (B : Nat) (A : Option Addr) (n : Nat) (l : List Nat) : Prop := Reads w B 1 A n (nb l) ∧ ∀ x ∈ l, x < 256
theorem Bs.len {w : World} {B n : Nat} {A : Option Addr} {l : List Nat} (h : Bs w B A n l) : l.length = n := by have := h.1.1; simpa [nb_length] using this
theorem Bs.below {w w' : World} {B n : Nat} {A : Option Addr} {l : List Nat} (h : Bs w B A n l) (hb : Below B w w') : Bs w' B A n l := ⟨h.1.below hb, h.2⟩
theorem Bs.more {w : World} {B B' n : Nat} {A : Option Addr} {l : List Nat} (h : Bs w B A n l) (hb : B ≤ B') : Bs w B' A n l := ⟨h.1.more hb, h.2⟩
theorem Bs.lt {w : World} {B n : Nat} {A : Option Addr} {l : List Nat} (h : Bs w B A n l) (k : Nat) : l.getD k 0 < 256 := by
 rcases Nat.lt_or_ge k l.length with hk | hk
 · rw [List.getD_eq_getElem?_getD, List.getElem?_eq_getElem hk]; exact h.2 _ (List.getElem_mem hk)
 · rw [List.getD_eq_getElem?_getD, List.getElem?_eq_none hk]; decide
theorem Bs.at_ {w : World} {B n k : Nat} {A : Option Addr} {l : List Nat} (h : Bs w B A n l) (hk : k < n) : ∃ ad, A = some ad ∧ ad.block < B ∧ w.cell? (ad.add k) = some (.int .u8 ((l.getD k 0 : Nat) : Int)) := by
 obtain ⟨ad, u, e, hb, hx, hc⟩ := h.1.at_ hk
 have hl := h.len
 rw [nb_get, List.getElem?_eq_getElem (by omega)] at hx
 refine ⟨ad, e, hb, ?_⟩
 rw [hc, List.getD_eq_getElem?_getD, List.getElem?_eq_getElem (by omega)]
 simpa using hx.symm
theorem Bs.alloc {w : World} {B n : Nat} {A : Option Addr} {l : List Nat} (h : Bs w B A n l) (hB : B ≤ w.heap.size) (o : Obj) : Bs (w.alloc o) B A n l := ⟨h.1.alloc hB o, h.2⟩
theorem Bs.drewN {w : World} {B n : Nat} {A : Option Addr} {l : List Nat} (h : Bs w B A n l) (k : Nat) : Bs (w.drewN k) B A n l := ⟨h.1.drewN k, h.2⟩
theorem Bs.none_n {w : World} {B n : Nat} {l : List Nat} (h : Bs w B none n l) : n = 0 ∧ l = [] := by
 have hl := h.len
 rcases Nat.eq_zero_or_pos n with h0 | h0
 · subst h0; exact ⟨rfl, List.eq_nil_of_length_eq_zero hl⟩
 · obtain ⟨ad, h, _⟩ := h.at_ h0
   cases h
theorem Bs.of_own {w : World} {base n c : Nat} {e : TypeId} {A : Option Addr} {l : List Nat} (h : w.ownsRow base e 1 (.slice A n c) n (nb l)) (hl : ∀ x ∈ l, x < 256) : Bs w w.heap.size A n l := ⟨Reads.of_own h, hl⟩
theorem own_form {w : World} {base n : Nat} {e : TypeId} {size : Nat} {v : Value} {xs : List Value} (h : w.ownsRow base e size v n xs) : ∃ A c, v = .slice A n c ∧ n ≤ maxLen := by
 rcases h.2 with ⟨rfl, rfl⟩ | ⟨g, cap, cur, rfl, _, _, h1, h2, _⟩
 · exact ⟨none, 0, rfl, by simp⟩
 · exact ⟨_, cap, rfl, by omega⟩
theorem reads_one (w : World) (x : Value) (t : TypeId) : Reads (w.alloc (.cells #[x] t)) (w.heap.size + 1) 1 (some ⟨w.heap.size, 0, none⟩) 1 [x] :=
 ⟨rfl, fun _ => ⟨_, rfl, by simp, cell_one_new w x t⟩⟩
theorem below_append {B : Nat} {w w1 w2 : World} {base n : Nat} {e : TypeId} {size : Nat} {v : Value} {xs : List Value} (hb : Below B w w1) (hown : w1.ownsRow base e size v n xs) (hg : w1.grownBy w2 v.ownBlock) (h1 : B ≤ base) (h2 : base ≤ w1.heap.size) : Below B w w2 :=
 hb.grown hg (by omega) fun k hk => by have := (hown.lt k hk).1; omega
theorem own_base {w : World} {base base' n : Nat} {e : TypeId} {size : Nat} {v : Value} {xs : List Value} (h : w.ownsRow base e size v n xs) (hb : base' ≤ base) : w.ownsRow base' e size v n xs := by
 refine ⟨h.1, ?_⟩
 rcases h.2 with h2 | ⟨g, cap, cur, hv, hg, r⟩
 · exact .inl h2
 · exact .inr ⟨g, cap, cur, hv, by omega, r⟩
theorem below_drewN {B : Nat} {a w : World} (h : Below B a w) (n : Nat) : Below B a (w.drewN n) := ⟨h.os, h.tape, h.output, h.size, h.block⟩
theorem Bs.take {w : World} {B n m : Nat} {A : Option Addr} {l : List Nat} (h : Bs w B A n l) (hm : m ≤ n) : Bs w B A m (l.take m) := by
 have hl := h.len
 refine ⟨⟨by simp [nb_length]; omega, fun hp => ?_⟩, fun x hx => h.2 x (List.mem_of_mem_take hx)⟩
 obtain ⟨ad, e, hb, hc⟩ := h.1.2 (by omega)
 refine ⟨ad, e, hb, fun j u hu => hc j u ?_⟩
 rw [nb_get, List.getElem?_take] at hu
 rw [nb_get]
 split at hu
 · exact hu
 · simp at hu
theorem info_u8 : (Tryz.prog.info? 5).map (fun i => (i.zero, i.size, i.bytes)) = some (some (.int .u8 0), 1, 1) := by kernel_rfl
theorem Bs.of_row {w : World} {a : Option Addr} {len cap : Nat} {zs : List Int}
 (h : (a = none ∧ len = 0 ∧ cap = 0 ∧ zs = []) ∨ ∃ x, a = some x ∧ len ≤ cap ∧ cap ≤ maxLen ∧ zs.length = cap ∧ (∀ i, i < zs.length → w.cell? (x.add i) = some (.int .u8 (zs.getD i 0))) ∧ ∀ n ∈ zs, (Lit.int .u8 n).wf = true) :
 ∃ l, Bs w w.heap.size a len l ∧ len ≤ maxLen := by
 rcases h with ⟨rfl, rfl, rfl, rfl⟩ | ⟨x, rfl, hl, hm, hz, hc, hwf⟩
 · exact ⟨[], ⟨by simpa [nb] using Reads.none_, by simp⟩, by simp⟩
 · have hb : ∀ z ∈ zs, 0 ≤ z ∧ z ≤ 255 := fun z hz => by simpa [Lit.wf, IntKind.min, IntKind.max, IntKind.signed, IntKind.bits] using hwf z hz
   refine ⟨(zs.take len).map Int.toNat, ⟨⟨by simp [nb_length]; omega, fun hn => ?_⟩, ?_⟩, by omega⟩
   · have h0 := hc 0 (by omega)
     refine ⟨x, rfl, ?_, ?_⟩
     · have := cell_lt h0
       rwa [block_of_add] at this
     · intro j u hu
       rw [nb_get, List.getElem?_map, List.getElem?_take] at hu
       split at hu
       · rename_i hj
         rw [List.getElem?_eq_getElem (by omega)] at hu
         have hj' := hc j (by omega)
         rw [List.getD_eq_getElem?_getD, List.getElem?_eq_getElem (by omega)] at hj'
         rw [hj', ← Option.some.inj hu]
         have := hb zs[j] (List.getElem_mem (by omega))
         simp [Int.toNat_of_nonneg this.1]
       · simp at hu
   · intro y hy
     obtain ⟨z, hz, rfl⟩ := List.mem_map.1 hy
     have := hb z (List.mem_of_mem_take hz)
     omega
def Sl {α : Type} (f : α → Value) (w : World) (B : Nat) (A : Option Addr) (n : Nat) (l : List α) : Prop := Reads w B 1 A n (l.map f)
section
variable {α : Type} {f : α → Value} {w w' : World} {B B' n m : Nat} {A : Option Addr} {l : List α}
theorem Sl.len (h : Sl f w B A n l) : l.length = n := by have := h.1; simpa using this
theorem Sl.below (h : Sl f w B A n l) (hb : Below B w w') : Sl f w' B A n l := Reads.below h hb
theorem Sl.more (h : Sl f w B A n l) (hb : B ≤ B') : Sl f w B' A n l := Reads.more h hb
theorem Sl.alloc (h : Sl f w B A n l) (hB : B ≤ w.heap.size) (o : Obj) : Sl f (w.alloc o) B A n l := Reads.alloc h hB o
theorem Sl.at_ {k : Nat} (h : Sl f w B A n l) (hk : k < n) : ∃ ad x, A = some ad ∧ ad.block < B ∧ l[k]? = some x ∧ w.cell? (ad.add k) = some (f x) := by
 obtain ⟨ad, u, e, hb, hx, hc⟩ := Reads.at_ h hk
 have hl := h.len
 rw [List.getElem?_map, List.getElem?_eq_getElem (by omega)] at hx
 refine ⟨ad, l[k], e, hb, List.getElem?_eq_getElem (by omega), ?_⟩
 rw [hc, ← hx]; rfl
theorem Sl.of_own {base c : Nat} {e : TypeId} (h : w.ownsRow base e 1 (.slice A n c) n (l.map f)) : Sl f w w.heap.size A n l := Reads.of_own h
theorem Sl.take (h : Sl f w B A n l) (hm : m ≤ n) : Sl f w B A m (l.take m) := by
 have hl := h.len
 refine ⟨by simp; omega, fun hp => ?_⟩
 obtain ⟨ad, e, hb, hc⟩ := h.2 (by omega)
 refine ⟨ad, e, hb, fun j u hu => hc j u ?_⟩
 rw [List.getElem?_map, List.getElem?_take] at hu
 rw [List.getElem?_map]
 split at hu
 · exact hu
 · simp at hu
end
def powB (x : Int) : Bool := (List.range 25).any fun k => x == ((2 ^ k : Nat) : Int)
theorem powB_iff (x : Int) : powB x = true ↔ ∃ k, k ≤ 24 ∧ x = ((2 ^ k : Nat) : Int) := by
 unfold powB
 rw [List.any_eq_true]
 constructor
 · rintro ⟨k, hk, h⟩
   exact ⟨k, by have := List.mem_range.1 hk; omega, eq_of_beq h⟩
 · rintro ⟨k, hk, h⟩
   exact ⟨k, List.mem_range.2 (by omega), by rw [h]; exact beq_self_eq_true _⟩
theorem pow24 {k : Nat} (h : k ≤ 24) : 1 ≤ 2 ^ k ∧ 2 ^ k ≤ 16777216 := ⟨Nat.one_le_two_pow, Nat.le_trans (Nat.pow_le_pow_right (by decide) h) (by decide)⟩
theorem powB_range (x : Int) (h : powB x = true) : 1 ≤ x ∧ x ≤ 16777216 := by
 obtain ⟨k, hk, rfl⟩ := (powB_iff x).1 h
 have := pow24 hk
 omega
theorem powB_and (n : Nat) (h0 : 1 ≤ n) (h1 : n ≤ 16777216) : decide (n &&& (n - 1) = 0) = powB (n : Int) := by
 rw [Bool.eq_iff_iff, decide_eq_true_iff, Nat.and_sub_one_eq_zero_iff_isPowerOfTwo (by omega), powB_iff]
 constructor
 · rintro ⟨k, hk⟩
   refine ⟨k, ?_, by rw [hk]⟩
   rcases Nat.lt_or_ge 24 k with h | h
   · have h2 : 2 ^ 25 ≤ 2 ^ k := Nat.pow_le_pow_right (by decide) h
     omega
   · exact h
 · rintro ⟨k, _, hk⟩
   exact ⟨k, by omega⟩
theorem ofInt_i64 (a : Nat) (ha : a < 9223372036854775808) : (BitVec.ofInt 64 (a : Int)).toNat = a := by
 rw [BitVec.ofInt_natCast, BitVec.toNat_ofNat]; exact Nat.mod_eq_of_lt (by omega)
theorem i64_and_nat (a b : Nat) (ha : a < 9223372036854775808) (hb : b < 9223372036854775808) : bits .and .i64 (a : Int) (b : Int) = ((a &&& b : Nat) : Int) := by
 have hx : a &&& b < 2 ^ 63 := Nat.and_lt_two_pow _ (by omega)
 show IntKind.i64.wrap ((BitVec.ofInt 64 (a : Int) &&& BitVec.ofInt 64 (b : Int)).toNat : Int) = _
 rw [BitVec.toNat_and, ofInt_i64 a ha, ofInt_i64 b hb, IntKind.wrap_i64]
 omega
theorem i64_andNot_pow (a k : Nat) (ha : a < 9223372036854775808) (hk : k ≤ 24) : bits .andNot .i64 (a : Int) ((2 ^ k - 1 : Nat) : Int) = ((a - a % 2 ^ k : Nat) : Int) := by
 have hp := pow24 hk
 show IntKind.i64.wrap ((BitVec.ofInt 64 (a : Int) &&& ~~~ BitVec.ofInt 64 ((2 ^ k - 1 : Nat) : Int)).toNat : Int) = _
 have e : (BitVec.ofInt 64 (a : Int) &&& ~~~ BitVec.ofInt 64 ((2 ^ k - 1 : Nat) : Int)).toNat = a - a % 2 ^ k := by
  rw [BitVec.toNat_and, BitVec.toNat_not, ofInt_i64 a ha, ofInt_i64 _ (by omega)]
  apply Nat.eq_of_testBit_eq
  intro i
  have e2 : a - a % 2 ^ k = 2 ^ k * (a / 2 ^ k) := by have := Nat.div_add_mod a (2 ^ k); omega
  rw [Nat.testBit_and, show 2 ^ 64 - 1 - (2 ^ k - 1) = 2 ^ 64 - (2 ^ k - 1 + 1) by omega, Nat.testBit_two_pow_sub_succ (by omega), Nat.testBit_two_pow_sub_one, e2, Nat.testBit_two_pow_mul, Nat.testBit_div_two_pow]
  by_cases hik : i < k
  · simp [hik]; intro h; omega
  · by_cases hi : i < 64
    · simp [hik, hi, show k ≤ i by omega, Nat.sub_add_cancel (show k ≤ i by omega)]
    · have : a.testBit i = false := Nat.testBit_lt_two_pow (Nat.lt_of_lt_of_le ha (Nat.le_trans (by decide : 9223372036854775808 ≤ 2 ^ 63) (Nat.pow_le_pow_right (by decide) (by omega))))
      simp [this, Nat.sub_add_cancel (show k ≤ i by omega)]
 rw [e, IntKind.wrap_i64]
 have : a - a % 2 ^ k ≤ a := Nat.sub_le _ _
 omega
theorem setCell_self {w : World} {g i : Nat} {v : Value} {cs : Array Value} {t : TypeId} {fr : Nat × Nat} (hg : w.heap[g]? = some (.cells cs t fr)) (hv : cs[i]? = some v) : w.setCell ⟨g, i, none⟩ v = w := by
 have e : (w.setCell ⟨g, i, none⟩ v).heap = w.heap := by
  apply Array.ext_getElem?
  intro k
  by_cases hk : k = g
  · subst hk
    simp only [World.setCell, Array.getElem?_modify]
    simp only [if_true, hg]
    simp
    apply Array.ext_getElem?
    intro j
    by_cases hj : j = i
    · subst hj
      rw [hv]
      have := (Array.getElem?_eq_some_iff.1 hv).1
      simp [this]
    · rw [Array.getElem?_setIfInBounds_ne (by omega)]
  · exact Below.heap_setCell w ⟨g, i, none⟩ v k hk
 cases w
 simp only [World.setCell] at e ⊢
 congr
def CodesAt (w : World) (B g : Nat) (A : Option Addr) (n c : Nat) (l : List Nat) (p : Nat) : Prop :=
 Blk w g 60 #[.slice A n c, .int .i64 p] ∧ Bs w B A n l ∧ p ≤ n ∧ B ≤ g ∧ n ≤ 1000
theorem newcodes_any (A : Option Addr) (n c : Nat) (l : List Nat) (m : Nat) (w : World) (hn : n ≤ maxLen) (hc : n ≤ c) (hm : m ≤ 1000) :
 Calls Tryz.prog 13 #[.slice A n c, .int .i64 m] w fun e w' => e = .returned (.pointer (some ⟨w.heap.size, 0, none⟩)) ∧ w' = w.alloc (.cells #[.slice A (min n m) c, .int .i64 0] 60) := by
 unfold maxLen at hn
 by_cases hq : m < n
 · have hmi : min n m = m := by omega
   have HM := hQ hmi
   have h1 : (m : Int) ≤ (c : Int) := by omega
   have h2 : m ≤ c := by omega
   clear hmi
   go_enter Tryz.func13, Tryz.ntmps13
   go_wp2
   go_ret
   exact ⟨rfl, by rw [HM.out]⟩
 · have hmi : min n m = n := by omega
   have HM := hQ hmi
   have h1 : (n : Int) ≤ (c : Int) := by omega
   clear hmi
   go_enter Tryz.func13, Tryz.ntmps13
   go_wp2
   go_ret
   exact ⟨rfl, by rw [HM.out]⟩
theorem left_any (g : Nat) (A : Option Addr) (n c : Nat) (p : Nat) (w : World) (hb : Blk w g 60 #[.slice A n c, .int .i64 p]) :
 Calls Tryz.prog 18 #[.pointer (some ⟨g, 0, none⟩)] w fun e w' => e = .returned (.bool (decide (p < n))) ∧ ∃ k, w' = w.drewN k := by
 have c0 := hb.cell 0
 have c1 := hb.cell 1
 simp at c0 c1
 clear hb
 go_enter Tryz.func18, Tryz.ntmps18
 go_wp2_with fail
 go_quiet (fail)
 go_wp2
 go_ret
 exact ⟨ret_bool (by first | rfl | simp), _, rfl⟩
def Next1 (w : World) (g : Nat) (B : Nat) (A : Option Addr) (n c : Nat) (l : List Nat) (m : Int) (e : Ending) (w' : World) : Prop :=
 ∃ v p' k : Nat, (v = 0 ∨ (v : Int) < m) ∧ e = .returned (.int .i64 v) ∧ w' = (w.setCell ⟨g, 1, none⟩ (.int .i64 p')).drewN k ∧ CodesAt w' B g A n c l p'
theorem next_any (B g : Nat) (A : Option Addr) (n c : Nat) (l : List Nat) (p : Nat) (m : Int) (w : World) (h : CodesAt w B g A n c l p) (hm : m ≤ 1000000) (hm0 : -1000000 ≤ m) :
 Calls Tryz.prog 7 #[.pointer (some ⟨g, 0, none⟩), .int .i64 m] w (Next1 w g B A n c l m) := by
 obtain ⟨hb, hs, hp, hB, hn⟩ := h
 have c0 := hb.cell 0
 have c1 := hb.cell 1
 have fr := hb.frozen 1
 have hlt := hb.lt
 simp at c0 c1
 have HB := hQ hb
 have HS := hQ hs
 by_cases hl : p < n
 · obtain ⟨ad, rfl, hbl, hcell⟩ := hs.at_ hl
   have hx := hs.lt p
   generalize l.getD p 0 = x at *
   have hpi : (p : Int) < (n : Int) := by omega
   have hp0 : (0 : Int) ≤ (p : Int) := by omega
   clear hb hs
   by_cases hm1 : 1 ≤ m
   · go_enter Tryz.func7, Tryz.ntmps7
     go_wp2_with fail
     refine (left_any g _ n c p w HB.out).mono ?_
     rintro e w1 ⟨rfl, k, rfl⟩
     rw [show decide (p < n) = true by simpa using hl]
     go_wp2_with fail
     have hxm0 : 0 ≤ (x : Int) * m := Int.mul_nonneg (by omega) (by omega)
     have hxm1 : (x : Int) * m ≤ 255 * m := Int.mul_le_mul_of_nonneg_right (by omega) (by omega)
     have hxm2 : (x : Int) * m ≤ 255000000 := by omega
     have HXM := hQ hxm1
     clear hxm1
     go_quiet (fail)
     go_wp2
     go_ret
     refine ⟨((x : Int) * m / 256).toNat, p + 1, _, .inr ?_, ret_int ?_, rfl, HB.out.set_ 1 _, ?_, by omega, hB, hn⟩
     · have := HXM.out
       omega
     · omega
     · exact ⟨HS.out.1.setCell (by simpa using hB) _, HS.out.2⟩
   · go_enter Tryz.func7, Tryz.ntmps7
     go_wp2_with fail
     refine (left_any g _ n c p w HB.out).mono ?_
     rintro e w1 ⟨rfl, k, rfl⟩
     rw [show decide (p < n) = true by simpa using hl]
     go_wp2
     go_ret
     exact ⟨0, p, k, .inl rfl, rfl, by rw [setCell_self HB.out (by simp)], ⟨HB.out.drewN k, HS.out.drewN k, hp, hB, hn⟩⟩
 · clear hb hs
   go_enter Tryz.func7, Tryz.ntmps7
   go_wp2_with fail
   refine (left_any g _ n c p w HB.out).mono ?_
   rintro e w1 ⟨rfl, k, rfl⟩
   rw [show decide (p < n) = false by simpa using hl]
   go_wp2
   go_ret
   exact ⟨0, p, k, .inl rfl, rfl, by rw [setCell_self HB.out (by simp)], ⟨HB.out.drewN k, HS.out.drewN k, hp, hB, hn⟩⟩
theorem Reads.box {w : World} {B size n g i : Nat} {t : TypeId} {cs : Array Value} {A : Option Addr} {xs : List Value} (h : Reads w B size A n xs) (hg : Blk w g t cs) (hne : ∀ x ∈ xs, x ∉ cs) (u : Value) : Reads (w.setCell ⟨g, i, none⟩ u) B size A n xs :=
 ⟨h.1, fun hn => by
  obtain ⟨ad, e, hb, hc⟩ := h.2 hn
  refine ⟨ad, e, hb, fun j v hv => ?_⟩
  have hcj := hc j v hv
  by_cases hbl : ad.block = g
  · exfalso
    unfold World.cell? at hcj
    rw [block_of_add, hbl, show w.heap[g]? = _ from hg] at hcj
    simp only at hcj
    split at hcj
    · cases hcj
    · exact hne v (List.mem_of_getElem? hv) (Array.mem_of_getElem? hcj)
  · rw [World.cell?_setCell_other w _ _ u (fun e => hbl (by have := congrArg Addr.block e; rw [block_of_add] at this; exact this.symm))]
    exact hcj⟩
theorem Blk.after {w w' : World} {g : Nat} {t : TypeId} {cs : Array Value} (h : Blk w g t cs) (hb : Below w.heap.size w w') : Blk w' g t cs := h.below hb h.lt
theorem Blk.newAt {w : World} {g : Nat} {t : TypeId} {cs : Array Value} (h : g = w.heap.size) : Blk (w.alloc (.cells cs t)) g t cs := by subst h; exact Blk.new w t cs
theorem Blk.two {w : World} {g : Nat} {t : TypeId} {a b : Value} (h : Blk w g t #[a, b]) : w.cell? ⟨g, 0, none⟩ = some a ∧ w.cell? ⟨g, 1, none⟩ = some b ∧ w.frozen? ⟨g, 0, none⟩ = false ∧ w.frozen? ⟨g, 1, none⟩ = false ∧ g < w.heap.size :=
 ⟨Blk.cell h 0, Blk.cell h 1, Blk.frozen h 0, Blk.frozen h 1, Blk.lt h⟩
section
variable {w w' : World} {B g n c p : Nat} {A : Option Addr} {l : List Nat}
theorem CodesAt.alloc (h : CodesAt w B g A n c l p) (o : Obj) : CodesAt (w.alloc o) B g A n c l p := ⟨h.1.alloc o, h.2.1.alloc (by have := h.1.lt; have := h.2.2.2.1; omega) o, h.2.2⟩
theorem CodesAt.after (h : CodesAt w B g A n c l p) (hb : Below w.heap.size w w') : CodesAt w' B g A n c l p := ⟨h.1.after hb, h.2.1.below (hb.mono (by have := h.1.lt; have := h.2.2.2.1; omega)), h.2.2⟩
end
theorem grownBy_drewN' (w : World) (k : Nat) (r : Option Nat) : w.grownBy (w.drewN k) r := by
 have h := below_drewN (Below.refl w.heap.size w) k
 exact ⟨h.os, h.tape, h.output, h.size, fun j hj _ => h.block j hj⟩
theorem grownBy_of_below {w w' : World} (h : Below w.heap.size w w') (r : Option Nat) : w.grownBy w' r := ⟨h.os, h.tape, h.output, h.size, fun j hj _ => h.block j hj⟩
theorem grownBy_trans {a b c : World} {g : Nat} (h : a.grownBy b (some g)) (k : b.grownBy c (some g)) : a.grownBy c (some g) :=
 ⟨k.os.trans h.os, k.tape.trans h.tape, k.output.trans h.output, Nat.le_trans h.size k.size, fun j hj hn => (k.block j (Nat.lt_of_lt_of_le hj h.size) hn).trans (h.block j hj hn)⟩
theorem grownBy_set {a b : World} {g : Nat} (h : a.grownBy b (some g)) {p : Addr} (hp : a.heap.size ≤ p.block) (v : Value) : a.grownBy (b.setCell p v) (some g) :=
 ⟨h.os, h.tape, h.output, by have := h.size; simpa [World.setCell] using this, fun j hj hn => (Below.heap_setCell b p v j (by omega)).trans (h.block j hj hn)⟩
theorem CodesAt.set {w : World} {B g n c p : Nat} {A : Option Addr} {l : List Nat} (h : CodesAt w B g A n c l p) {q : Addr} (hne : g ≠ q.block) (hB : B ≤ q.block) (v : Value) : CodesAt (w.setCell q v) B g A n c l p :=
 ⟨h.1.far hne v, h.2.1.below ((Below.refl B w).setCell hB v), h.2.2⟩
theorem Below.al {w0 w : World} (h : Below w0.heap.size w0 w) (o : Obj) : Below w0.heap.size w0 (w.alloc o) := h.alloc h.size o
theorem Below.step {w0 W w' : World} (h : Below w0.heap.size w0 W) (hb : Below W.heap.size W w') : Below w0.heap.size w0 w' := h.trans (hb.mono h.size)
theorem next_d (B g : Nat) (A : Option Addr) (n c : Nat) (l : List Nat) (p : Nat) (m : Int) (w : World) (h : CodesAt w B g A n c l p) (hm : m ≤ 1000000) (hm0 : -1000000 ≤ m) :
 Calls Tryz.prog 7 #[.pointer (some ⟨g, 0, none⟩), .int .i64 m] w fun e w' => ∃ v p' : Nat, (v = 0 ∨ (v : Int) < m) ∧ e = .returned (.int .i64 v) ∧ CodesAt w' B g A n c l p' ∧ w.grownBy w' (some g) :=
 (next_any B g A n c l p m w h hm hm0).mono fun e w' hh => by
  obtain ⟨v, p', k, hv, rfl, rfl, hc⟩ := hh
  refine ⟨v, p', hv, rfl, hc, grownBy_trans ?_ (grownBy_drewN' _ k _)⟩
  exact ⟨rfl, rfl, rfl, by simp [World.setCell], fun j hj hn => Below.heap_setCell w ⟨g, 1, none⟩ _ j (fun e => hn (by rw [e]))⟩
theorem u64_ex (x : Int) (h : 0 ≤ x) (h' : x < 18446744073709551616) : ∃ y : Nat, y < 18446744073709551616 ∧ x = (y : Int) := ⟨x.toNat, by omega, by omega⟩
theorem wrap_ex (x : Int) : ∃ y : Nat, y < 18446744073709551616 ∧ IntKind.u64.wrap x = (y : Int) := by
 rw [IntKind.wrap_u64]
 exact u64_ex _ (by omega) (by omega)
theorem word_d (B g : Nat) (A : Option Addr) (n c : Nat) (l : List Nat) (p : Nat) (w : World) (h : CodesAt w B g A n c l p) :
 Calls Tryz.prog 17 #[.pointer (some ⟨g, 0, none⟩)] w fun e w' => ∃ v p' : Nat, v < 18446744073709551616 ∧ e = .returned (.int .u64 v) ∧ CodesAt w' B g A n c l p' ∧ w.grownBy w' (some g) := by
 have HC := hQ h
 clear h
 go_enter Tryz.func17, Tryz.ntmps17
 go_wp2_with fail
 refine (next_d _ _ _ _ _ _ _ 6 _ HC.out (by omega) (by omega)).mono ?_
 rintro e w1 ⟨v, p1, hv, rfl, c1, g1⟩
 have HC1 := hQ c1
 have HG1 := hQ g1
 clear HC c1 g1
 have hcase : v = 0 ∨ v = 1 ∨ v = 2 ∨ (3 ≤ v ∧ v < 6) := by omega
 clear hv
 rcases hcase with rfl | rfl | rfl | ⟨h3, h6⟩
 · go_wp2_with fail
   refine (next_d _ _ _ _ _ _ _ 3 _ HC1.out (by omega) (by omega)).mono ?_
   rintro e w2 ⟨v, p2, hv, rfl, c2, g2⟩
   go_wp2
   go_ret
   obtain ⟨y, hy, e⟩ := u64_ex (18446744073709551615 - (v : Int)) (by omega) (by omega)
   exact ⟨y, p2, hy, ret_int e, c2, grownBy_trans HG1.out g2⟩
 · go_wp2_with fail
   refine (next_d _ _ _ _ _ _ _ 64 _ HC1.out (by omega) (by omega)).mono ?_
   rintro e w2 ⟨v, p2, hv, rfl, c2, g2⟩
   have hv0 : (0 : Int) ≤ (v : Int) := by omega
   have hv1 : (v : Int) < 64 := by omega
   have hv2 : v < 64 := by omega
   go_wp2
   go_ret
   obtain ⟨y, hy, e⟩ := wrap_ex (2 ^ v)
   exact ⟨y, p2, hy, ret_int e, c2, grownBy_trans HG1.out g2⟩
 · go_wp2
   go_ret
   exact ⟨0, p1, by omega, rfl, HC1.out, HG1.out⟩
 · have h3' : ¬ (v = 0) := by omega
   have h4' : ¬ (v = 1) := by omega
   have h5' : ¬ (v = 2) := by omega
   have h3'' : ¬ ((v : Int) = 0) := by omega
   have h4'' : ¬ ((v : Int) = 1) := by omega
   have h5'' : ¬ ((v : Int) = 2) := by omega
   go_wp2_with fail
   refine (next_d _ _ _ _ _ _ _ 256 _ HC1.out (by omega) (by omega)).mono ?_
   rintro e w2 ⟨v, p2, hv, rfl, c2, g2⟩
   go_wp2
   go_ret
   exact ⟨v, p2, by omega, rfl, c2, grownBy_trans HG1.out g2⟩
theorem Blk.c2 {w : World} {g : Nat} {t : TypeId} {a0 a1 : Value} (h : Blk w g t #[a0, a1]) : w.cell? ⟨g, 0, none⟩ = some a0 ∧ w.cell? ⟨g, 1, none⟩ = some a1 ∧ w.frozen? ⟨g, 0, none⟩ = false ∧ w.frozen? ⟨g, 1, none⟩ = false ∧ g < w.heap.size :=
 ⟨Blk.cell h 0, Blk.cell h 1, Blk.frozen h 0, Blk.frozen h 1, Blk.lt h⟩
theorem Blk.c3 {w : World} {g : Nat} {t : TypeId} {a0 a1 a2 : Value} (h : Blk w g t #[a0, a1, a2]) : w.cell? ⟨g, 0, none⟩ = some a0 ∧ w.cell? ⟨g, 1, none⟩ = some a1 ∧ w.cell? ⟨g, 2, none⟩ = some a2 ∧ w.frozen? ⟨g, 0, none⟩ = false ∧ w.frozen? ⟨g, 1, none⟩ = false ∧ w.frozen? ⟨g, 2, none⟩ = false ∧ g < w.heap.size :=
 ⟨Blk.cell h 0, Blk.cell h 1, Blk.cell h 2, Blk.frozen h 0, Blk.frozen h 1, Blk.frozen h 2, Blk.lt h⟩
theorem Blk.c5 {w : World} {g : Nat} {t : TypeId} {a0 a1 a2 a3 a4 : Value} (h : Blk w g t #[a0, a1, a2, a3, a4]) : w.cell? ⟨g, 0, none⟩ = some a0 ∧ w.cell? ⟨g, 1, none⟩ = some a1 ∧ w.cell? ⟨g, 2, none⟩ = some a2 ∧ w.cell? ⟨g, 3, none⟩ = some a3 ∧ w.cell? ⟨g, 4, none⟩ = some a4 ∧ w.frozen? ⟨g, 0, none⟩ = false ∧ w.frozen? ⟨g, 1, none⟩ = false ∧ w.frozen? ⟨g, 2, none⟩ = false ∧ w.frozen? ⟨g, 3, none⟩ = false ∧ w.frozen? ⟨g, 4, none⟩ = false ∧ g < w.heap.size :=
 ⟨Blk.cell h 0, Blk.cell h 1, Blk.cell h 2, Blk.cell h 3, Blk.cell h 4, Blk.frozen h 0, Blk.frozen h 1, Blk.frozen h 2, Blk.frozen h 3, Blk.frozen h 4, Blk.lt h⟩
theorem Blk.c6 {w : World} {g : Nat} {t : TypeId} {a0 a1 a2 a3 a4 a5 : Value} (h : Blk w g t #[a0, a1, a2, a3, a4, a5]) : w.cell? ⟨g, 0, none⟩ = some a0 ∧ w.cell? ⟨g, 1, none⟩ = some a1 ∧ w.cell? ⟨g, 2, none⟩ = some a2 ∧ w.cell? ⟨g, 3, none⟩ = some a3 ∧ w.cell? ⟨g, 4, none⟩ = some a4 ∧ w.cell? ⟨g, 5, none⟩ = some a5 ∧ w.frozen? ⟨g, 0, none⟩ = false ∧ w.frozen? ⟨g, 1, none⟩ = false ∧ w.frozen? ⟨g, 2, none⟩ = false ∧ w.frozen? ⟨g, 3, none⟩ = false ∧ w.frozen? ⟨g, 4, none⟩ = false ∧ w.frozen? ⟨g, 5, none⟩ = false ∧ g < w.heap.size :=
 ⟨Blk.cell h 0, Blk.cell h 1, Blk.cell h 2, Blk.cell h 3, Blk.cell h 4, Blk.cell h 5, Blk.frozen h 0, Blk.frozen h 1, Blk.frozen h 2, Blk.frozen h 3, Blk.frozen h 4, Blk.frozen h 5, Blk.lt h⟩
theorem own_keep {w w' : World} {base B n : Nat} {e : TypeId} {size : Nat} {v : Value} {xs : List Value} (h : w.ownsRow base e size v n xs) (hb : Below B w w') (hB : w.heap.size ≤ B) : w'.ownsRow base e size v n xs := by
 refine ⟨h.1, ?_⟩
 rcases h.2 with h1 | ⟨g, cap, cur, h1, h2, h3, r⟩
 · exact .inl h1
 · have hg : g < w.heap.size := by
    rcases Nat.lt_or_ge g w.heap.size with hlt | hge
    · exact hlt
    · rw [Array.getElem?_eq_none hge] at h3; cases h3
   exact .inr ⟨g, cap, cur, h1, h2, (hb.block g (by omega)).trans h3, r⟩
theorem run_make_rowN {P : Program} (t e : TypeId) (i : TypeInfo) (z : Value) (ht : P.underlying t = some (.slice e)) (hi : P.info? e = some i) (hz : i.zero = some z)
 (kl kc : IntKind) (n c : Nat) (hnc : n ≤ c) (hbytes : i.bytes * c ≤ 281474976710656) (h63 : c ≤ 9223372036854775807) (w : World) :
 (Instr.makeSlice t (.int kl (n : Int)) (.int kc (c : Int))).run P w = .ok (.slice (some ⟨w.heap.size, 0, none⟩) n c) (w.alloc (.cells (madeCells z.cells (c * i.size)) e)) := by
 have hb : (i.bytes : Int) * (c : Int) ≤ 281474976710656 := by
  have h : ((i.bytes * c : Nat) : Int) ≤ 281474976710656 := by omega
  rwa [Int.natCast_mul] at h
 have hr := run_make (P := P) w t e i z ht hi hz kl kc n c (by omega) (by omega) hb (by omega)
 simp only [Int.toNat_natCast] at hr
 exact hr
theorem info_int : (Tryz.prog.info? 3).map (fun i => (i.zero, i.size, i.bytes)) = some (some (.int .i64 0), 1, 8) := by kernel_rfl
theorem own_two {w : World} {b b' n m k1 k2 g s s' : Nat} {e1 e2 : TypeId} {V1 : Option Addr} {xs ys : List Value} (h1 : w.ownsRow b e1 s (.slice V1 n k1) n xs) (h2 : w.ownsRow b' e2 s' (.slice (some ⟨g, 0, none⟩) m k2) m ys) (hne : e1 ≠ e2) :
 (Value.slice V1 n k1).ownBlock = none ∨ (Value.slice V1 n k1).ownBlock ≠ some g := by
 rcases h2.2 with ⟨h, _⟩ | ⟨g', cap, cur, hv, _, hh, _⟩
 · cases h
 · cases hv
   exact .inr (own_blk_ne h1 hh hne)
theorem grownBy_step {a b c : World} {g : Nat} {row : Option Nat} (h : a.grownBy b (some g)) (k : b.grownBy c row) (hr : ∀ j, row = some j → a.heap.size ≤ j ∨ j = g) : a.grownBy c (some g) :=
 ⟨k.os.trans h.os, k.tape.trans h.tape, k.output.trans h.output, Nat.le_trans h.size k.size, fun j hj hn => (k.block j (Nat.lt_of_lt_of_le hj h.size) (fun e => by
  rcases hr j e.symm with h1 | h1
  · omega
  · exact hn (by rw [h1]))).trans (h.block j hj hn)⟩
theorem grownBy_al {a b : World} {g : Nat} (h : a.grownBy b (some g)) (o : Obj) : a.grownBy (b.alloc o) (some g) := grownBy_step h (World.grownBy_alloc b o none) (fun j e => by cases e)
theorem CodesAt.grown' {w w' : World} {B g n c p : Nat} {A : Option Addr} {l : List Nat} {row : Option Nat} (h : CodesAt w B g A n c l p) (hg : w.grownBy w' row) (h1 : row ≠ some g) (h2 : ∀ k, row = some k → B ≤ k) : CodesAt w' B g A n c l p :=
 ⟨h.1.grown hg (fun e => h1 e.symm), h.2.1.below ((Below.refl B w).grown hg (by have := h.1.lt; have := h.2.2.2.1; omega) h2), h.2.2⟩
theorem own_draw {w0 w w' : World} {g n : Nat} {e : TypeId} {size : Nat} {v : Value} {xs : List Value} (h : w.ownsRow w0.heap.size e size v n xs) (hg : w.grownBy w' (some g)) (hlt : g < w0.heap.size) : w'.ownsRow w0.heap.size e size v n xs :=
 h.kept hg (by
  rcases hq : v.ownBlock with _ | k
  · exact .inl rfl
  · exact .inr (fun e => by injection e with e; have := (h.lt k hq).1; omega))
theorem own_ne_codes {w0 w : World} {g n : Nat} {e : TypeId} {size : Nat} {v : Value} {xs : List Value} (h : w.ownsRow w0.heap.size e size v n xs) (hlt : g < w0.heap.size) : v.ownBlock ≠ some g := fun e => by have := (h.lt g e).1; omega
end Go.Proofs.YtcnndoefgjbmiaaGreat
