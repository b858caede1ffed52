/- Slices in blocks of one type of elements: what stays while blocks of another type turn. -/
import Derived.Test.YtinfeglhjmnlaaaDoorGPm
import Derived.Test.YtinfeglhjmnlaaaDoorGBa
import Derived.Test.YtinfeglhjmnlaaaDoorGPu
import Derived.ArgAppend
import Derived.Lib.SlBytesConst
import Derived.Deep.CutBlock
namespace Go.Proofs.YtinfeglhjmnlaaaDoor.pm
open Go.RowKit
set_option linter.unusedVariables false
set_option maxRecDepth 10000

/-- a slice of numbers in a block between lo and hi -/
def Ix (w : World) (lo hi : Nat) (A : Option Addr) (l : List Int) : Prop := Rx w lo hi 1 A l.length (l.map (Value.int .i64))
section
variable {w w' : World} {lo hi lo' hi' k : Nat} {A : Option Addr} {l : List Int}
theorem Ix.keep (h : Ix w lo hi A l) (hk : Kp lo hi w w') : Ix w' lo hi A l := Rx.keep h hk
theorem Ix.more (h : Ix w lo hi A l) (hl : lo' ≤ lo) (hh : hi ≤ hi') : Ix w lo' hi' A l := Rx.more h hl hh
theorem Ix.at_ (h : Ix w lo hi A l) (hk : k < l.length) : ∃ ad, A = some ad ∧ ad.block < hi ∧ w.cell? (ad.add (k * 1)) = some (.int .i64 (l.getD k 0)) ∧ w.cell? (ad.add k) = some (.int .i64 (l.getD k 0)) := by
  obtain ⟨ad, e, hb, hc⟩ := h.1.2 (by omega)
  have h1 : (l.map (Value.int .i64))[k]? = some (.int .i64 (l.getD k 0)) := by
    rw [List.getElem?_map, List.getElem?_eq_getElem hk, List.getD_eq_getElem?_getD, List.getElem?_eq_getElem hk]
    rfl
  exact ⟨ad, e, hb, by rw [Nat.mul_one]; exact hc k _ h1, hc k _ h1⟩
end
theorem ints_one' (l : List Int) : ∀ u ∈ l.map (Value.int .i64), u.oneCell' = true := by
  intro u hu
  obtain ⟨a, _, rfl⟩ := List.mem_map.1 hu
  rfl
theorem reads_sing (w : World) (t : TypeId) (v : Value) : Reads (w.alloc (.cells #[v] t)) (w.heap.size + 1) 1 (some ⟨w.heap.size, 0, none⟩) 1 [v] := by
  refine ⟨rfl, fun _ => ⟨_, rfl, by simp, fun j u hu => ?_⟩⟩
  have hj : j = 0 := by
    rcases Nat.eq_zero_or_pos j with h | h
    · exact h
    · rw [List.getElem?_eq_none (by simp; omega)] at hu; cases hu
  subst hj
  have e : (⟨w.heap.size, 0, none⟩ : Addr).add 0 = ⟨w.heap.size, 0, none⟩ := rfl
  rw [e, (Blk.new w t #[v]).cell 0]
  simpa using hu
theorem take_snoc_at {α : Type} (l : List α) (z : α) {k : Nat} (h : k < l.length) : l.take (k + 1) = l.take k ++ [l.getD k z] := by
  rw [List.take_add_one, List.getElem?_eq_getElem h, List.getD_eq_getElem?_getD, List.getElem?_eq_getElem h]
  rfl
theorem Blk.kp {w w' : World} {g lo hi : Nat} {t : TypeId} {cs : Array Value} (h : Blk w g t cs) (hk : Kp lo hi w w') (h1 : lo ≤ g) (h2 : g < hi) : Blk w' g t cs := (hk g h1 h2).trans h
theorem Kp.cell {w w' : World} {lo hi : Nat} {a : Addr} {v : Value} (hk : Kp lo hi w w') (h1 : lo ≤ a.block) (h2 : a.block < hi) (h : w.cell? a = some v) : w'.cell? a = some v := (World.cell?_of_block (hk _ h1 h2)).trans h
theorem Kp.of_own {w w' : World} {lo hi base n : Nat} {e : TypeId} {size : Nat} {v : Value} {xs : List Value} (h : w.ownsRow base e size v n xs) (hg : w.grownBy w' v.ownBlock) (h1 : hi ≤ base) (h2 : hi ≤ w.heap.size) : Kp lo hi w w' :=
  Kp.of_grownR hg h2 (fun j hj => .inr (by have := (h.lt j hj).1; omega))
/-- the block that a slice lies in holds elements of this type -/
def TyA (w : World) (A : Option Addr) (n : Nat) (ty : TypeId) : Prop := ∀ ad, A = some ad → 0 < n → ∃ cs fr, w.heap[ad.block]? = some (.cells cs ty fr)
/-- between the blocks lo and hi nothing has turned but blocks of elements of type t -/
def Kt (t : TypeId) (lo hi : Nat) (w w' : World) : Prop := ∀ b, lo ≤ b → b < hi → (∀ cs fr, w.heap[b]? ≠ some (.cells cs t fr)) → w'.heap[b]? = w.heap[b]?
section
variable {w w1 w' : World} {lo hi lo' hi' n : Nat} {t ty : TypeId} {A : Option Addr}
theorem TyA.nil (w : World) (n : Nat) (ty : TypeId) : TyA w none n ty := fun ad e => by cases e
theorem TyA.of_own {base c size : Nat} {xs : List Value} (h : w.ownsRow base ty size (.slice A n c) n xs) : TyA w A n ty := fun ad e hn => by
  rcases h.2 with ⟨h1, h2⟩ | ⟨g, cap, cur, hv, _, hh, _⟩
  · injection h1 with h1; rw [e] at h1; cases h1
  · injection hv with hv
    rw [e] at hv
    injection hv with hv
    subst hv
    exact ⟨_, _, hh⟩
theorem TyA.keep (h : TyA w A n ty) (hk : Kp lo hi w w') (h1 : ∀ ad, A = some ad → 0 < n → lo ≤ ad.block ∧ ad.block < hi) : TyA w' A n ty := fun ad e hn => by
  obtain ⟨cs, fr, hc⟩ := h ad e hn
  obtain ⟨a, b⟩ := h1 ad e hn
  exact ⟨cs, fr, (hk _ a b).trans hc⟩
theorem Kt.refl (t : TypeId) (lo hi : Nat) (w : World) : Kt t lo hi w w := fun _ _ _ _ => rfl
theorem Kt.of_kp (h : Kp lo hi w w') : Kt t lo hi w w' := fun b h1 h2 _ => h b h1 h2
theorem Kt.trans (h : Kt t lo hi w w1) (k : Kt t lo hi w1 w') : Kt t lo hi w w' := fun b h1 h2 h3 => by
  have e := h b h1 h2 h3
  rw [k b h1 h2 (by rw [e]; exact h3), e]
theorem Kt.less (h : Kt t lo hi w w') (h1 : lo ≤ lo') (h2 : hi' ≤ hi) : Kt t lo' hi' w w' := fun b a b' c => h b (by omega) (by omega) c
theorem Kt.of_own {base size : Nat} {v : Value} {xs : List Value} (h : w.ownsRow base t size v n xs) (hg : w.grownBy w' v.ownBlock) (hh : hi ≤ w.heap.size) : Kt t lo hi w w' := fun b h1 h2 h3 => by
  refine hg.block b (by omega) (fun e => ?_)
  rcases h.2 with ⟨hv, _⟩ | ⟨g, cap, cur, hv, _, hc, _⟩
  · subst hv; simp [Value.ownBlock] at e
  · subst hv
    have : b = g := by simpa [Value.ownBlock] using e
    subst this
    exact h3 _ _ hc
theorem Kt.alloc (h : Kt t lo hi w w') (hh : hi ≤ w'.heap.size) (o : Obj) : Kt t lo hi w (w'.alloc o) := h.trans (Kt.of_kp (Kp.alloc (Kp.refl _ _ _) hh o))
theorem Rx.keepT {size : Nat} {xs : List Value} (h : Rx w lo hi size A n xs) (ht : TyA w A n ty) (hk : Kt t lo hi w w') (hne : ty ≠ t) : Rx w' lo hi size A n xs :=
  ⟨⟨h.1.1, fun hn => by
    obtain ⟨ad, e, hb, hc⟩ := h.1.2 hn
    obtain ⟨cs, fr, hty⟩ := ht ad e hn
    exact ⟨ad, e, hb, fun j u hu => (World.cell?_of_block (by rw [block_of_add]; exact hk _ (h.2 ad e hn) hb (fun cs' fr' e' => by rw [hty] at e'; injection e' with e'; injection e' with _ e'; exact hne e'))).trans (hc j u hu)⟩⟩, h.2⟩
theorem TyA.keepT {size : Nat} {xs : List Value} (h : Rx w lo hi size A n xs) (ht : TyA w A n ty) (hk : Kt t lo hi w w') (hne : ty ≠ t) : TyA w' A n ty := fun ad e hn => by
  obtain ⟨cs, fr, hty⟩ := ht ad e hn
  obtain ⟨ad', e', hb, _⟩ := h.1.2 hn
  rw [e] at e'
  injection e' with e'
  subst e'
  exact ⟨cs, fr, (hk _ (h.2 ad e hn) hb (fun cs' fr' e' => by rw [hty] at e'; injection e' with e'; injection e' with _ e'; exact hne e')).trans hty⟩
theorem Rx.inside {size : Nat} {xs : List Value} (h : Rx w lo hi size A n xs) : ∀ ad, A = some ad → 0 < n → lo ≤ ad.block ∧ ad.block < hi := fun ad e hn => by
  obtain ⟨ad', e', hb, _⟩ := h.1.2 hn
  rw [e] at e'
  injection e' with e'
  subst e'
  exact ⟨h.2 ad e hn, hb⟩
end
end Go.Proofs.YtinfeglhjmnlaaaDoor.pm
namespace Go.Proofs.YtinfeglhjmnlaaaDoor.pm
open Go.RowKit
set_option linter.unusedVariables false
set_option maxRecDepth 10000

/-- a row of bytes that the call owns; or one without room, that a constant left -/
def OwM (w : World) (base : Nat) (v : Value) (n : Nat) (xs : List Value) : Prop :=
  w.ownsRow base 5 1 v n xs ∨ ∃ g cur fz, v = .slice (some ⟨g, 0, none⟩) n n ∧ base ≤ g ∧ w.heap[g]? = some (.cells cur 5 fz) ∧ cur.toList = xs ∧ xs.length = n ∧ n ≤ maxLen
section
variable {w w' : World} {base n g : Nat} {v : Value} {xs : List Value}
theorem heap_lt {w : World} {g : Nat} {o : Obj} (h : w.heap[g]? = some o) : g < w.heap.size := by
  rcases Nat.lt_or_ge g w.heap.size with h' | h'
  · exact h'
  · rw [Array.getElem?_eq_none h'] at h; cases h
theorem OwM.kept (h : OwM w base v n xs) (hk : ∀ j, v.ownBlock = some j → w'.heap[j]? = w.heap[j]?) : OwM w' base v n xs := by
  rcases h with h | ⟨g, cur, fz, hv, hb, hh, r⟩
  · left
    refine ⟨h.1, ?_⟩
    rcases h.2 with h1 | ⟨g', cap, cur, h1, h2, h3, r⟩
    · exact .inl h1
    · exact .inr ⟨g', cap, cur, h1, h2, (hk g' (by subst h1; rfl)).trans h3, r⟩
  · exact .inr ⟨g, cur, fz, hv, hb, (hk g (by subst hv; rfl)).trans hh, r⟩
theorem OwM.blk (h : OwM w base v n xs) : ∀ j, v.ownBlock = some j → base ≤ j ∧ ∃ cur fz, w.heap[j]? = some (.cells cur 5 fz) := by
  intro j hj
  rcases h with h | ⟨g, cur, fz, hv, hb, hh, r⟩
  · rcases h.2 with ⟨h1, _⟩ | ⟨g', cap, cur, h1, h2, h3, r⟩
    · subst h1; simp [Value.ownBlock] at hj
    · subst h1
      have : g' = j := by simpa [Value.ownBlock] using hj
      subst this
      exact ⟨h2, _, _, h3⟩
  · subst hv
    have : g = j := by simpa [Value.ownBlock] using hj
    subst this
    exact ⟨hb, _, _, hh⟩
theorem OwM.alloc (h : OwM w base v n xs) (o : Obj) : OwM (w.alloc o) base v n xs := h.kept fun j hj => by
  obtain ⟨_, _, _, hh⟩ := h.blk j hj
  exact Below.heap_alloc w o j (heap_lt hh)
theorem OwM.drewN (h : OwM w base v n xs) (k : Nat) : OwM (w.drewN k) base v n xs := h.kept fun _ _ => rfl
theorem OwM.drew (h : OwM w base v n xs) : OwM w.drew base v n xs := h.kept fun _ _ => rfl
theorem OwM.after (h : OwM w base v n xs) (hb : Below w.heap.size w w') : OwM w' base v n xs := h.kept fun j hj => by
  obtain ⟨_, _, _, hh⟩ := h.blk j hj
  exact hb.block j (heap_lt hh)
theorem OwM.ne {t : TypeId} {cs : Array Value} (h : OwM w base v n xs) (hK : Blk w g t cs) (hne : t ≠ 5) : some g ≠ v.ownBlock := fun e => by
  obtain ⟨_, cur, fz, hh⟩ := h.blk g e.symm
  have hK' : w.heap[g]? = some (.cells cs t (0, 0)) := hK
  rw [hh] at hK'
  injection hK' with hK'
  injection hK' with _ hK' _
  exact hne hK'.symm
theorem OwM.far {t : TypeId} {cs : Array Value} {i : Nat} (h : OwM w base v n xs) (hK : Blk w g t cs) (hne : t ≠ 5) (u : Value) : OwM (w.setCell ⟨g, i, none⟩ u) base v n xs := h.kept fun j hj =>
  Below.heap_setCell w ⟨g, i, none⟩ u j (fun e => h.ne hK hne (by rw [hj, e]))
theorem own_far8 {g i : Nat} {t : TypeId} {cs : Array Value} (h : w.ownsRow base 5 1 v n xs) (hK : Blk w g t cs) (hne : t ≠ 5) (u : Value) : (w.setCell ⟨g, i, none⟩ u).ownsRow base 5 1 v n xs := by
  refine ⟨h.1, ?_⟩
  rcases h.2 with h1 | ⟨g', cap, cur, h1, h2, h3, r⟩
  · exact .inl h1
  · have hg : g' ≠ g := fun e => (show OwM w base v n xs from .inl h).ne hK hne (by subst h1; rw [← e]; rfl)
    exact .inr ⟨g', cap, cur, h1, h2, (Below.heap_setCell w ⟨g, i, none⟩ u g' hg).trans h3, r⟩
theorem OwM.len (h : OwM w base v n xs) : xs.length = n := by
  rcases h with h | ⟨g, cur, fz, hv, hb, hh, e, r, _⟩
  · rw [h.1, Nat.mul_one]
  · exact r
theorem OwM.form (h : OwM w base v n xs) : ∃ A c, v = .slice A n c ∧ n ≤ maxLen := by
  rcases h with h | ⟨g, cur, fz, hv, hb, hh, e, r, m⟩
  · exact own_form h
  · exact ⟨_, _, hv, m⟩
theorem OwM.bs {A : Option Addr} {c : Nat} {l : List Nat} (h : OwM w base (.slice A n c) n (nb l)) (hl : ∀ x ∈ l, x < 256) : Bs w w.heap.size A n l := by
  refine ⟨?_, hl⟩
  rcases h with h | ⟨g, cur, fz, hv, hb, hh, e, r, m⟩
  · exact Reads.of_own h
  · injection hv with hA _ _
    refine ⟨by simpa using r, fun hn => ⟨⟨g, 0, none⟩, hA, heap_lt hh, fun j u hu => ?_⟩⟩
    have e' : (⟨g, 0, none⟩ : Addr).add j = ⟨g, j, none⟩ := by unfold Addr.add; split <;> simp_all
    rw [e', cell_of_row w g j cur _ fz hh]
    rw [← e] at hu
    simpa using hu
/-- other blocks that hold no bytes stay -/
theorem OwM.other (h : OwM w base v n xs) (hg : w.grownBy w' v.ownBlock) : ∀ b, b < w.heap.size → (∀ cs fr, w.heap[b]? ≠ some (.cells cs 5 fr)) → w'.heap[b]? = w.heap[b]? := fun b hb hc =>
  hg.block b hb (fun e => by obtain ⟨_, cur, fz, hh⟩ := h.blk b e.symm; exact hc _ _ hh)
theorem OwM.below (h : OwM w base v n xs) (hg : w.grownBy w' v.ownBlock) (hb : base ≤ w.heap.size) : Below base w w' :=
  ⟨hg.os, hg.tape, hg.output, hg.size, fun b h1 => hg.block b (by omega) (fun e => by obtain ⟨h2, _⟩ := h.blk b e.symm; omega)⟩
end
section
variable {P : Program} (w : World)
theorem grown_any {w w' : World} (h : w.grownBy w' none) (row : Option Nat) : w.grownBy w' row := ⟨h.os, h.tape, h.output, h.size, fun b hb _ => h.block b hb (by simp)⟩
theorem own_less {w : World} {base base' n size : Nat} {e : TypeId} {v : Value} {xs : List Value} (h : w.ownsRow base' e size v n xs) (hb : base ≤ base') : w.ownsRow base e size v n xs := by
  refine ⟨h.1, ?_⟩
  rcases h.2 with h1 | ⟨g, cap, cur, h1, h2, r⟩
  · exact .inl h1
  · exact .inr ⟨g, cap, cur, h1, by omega, r⟩
theorem run_append_m (base : Nat) (t ty : TypeId) (i : TypeInfo) (ht : P.underlying t = some (.slice 5)) (hi : P.info? 5 = some i) (hz : i.zero = some (.int .u8 0)) (hs : i.size = 1) (hby : i.bytes = 1)
    (v : Value) (n : Nat) (xs : List Value) (hown : OwM w base v n xs) (B : Nat) (A : Option Addr) (m c : Nat) (news : List Value) (hm : 1 ≤ m) (hr : Reads w B 1 A m news) (h1 : ∀ u ∈ news, u.oneCell' = true)
    (h63 : n + m ≤ maxLen) (hbytes : n + m ≤ 140737488355328) (hbase : base ≤ w.heap.size) :
    ∃ v' w', (Builtin.append_ #[t, t] ty #[v, .slice A m c]).run P w = .ok v' w' ∧ w'.ownsRow base 5 1 v' (n + m) (xs ++ news) ∧ w.grownBy w' v.ownBlock := by
  rcases hown with h | ⟨g, cur, fz, hv, hb, hh, e, r, mm⟩
  · obtain ⟨v', w', h1, h2, h3, _⟩ := run_append_any (P := P) w base t ty 5 i _ 1 1 ht hi hz hs hby rfl (by decide) v n xs h B A m c news hr h1 h63 (by omega) hbase
    exact ⟨v', w', h1, h2, h3⟩
  · obtain ⟨ad, rfl, had, hcell⟩ := hr.2 hm
    subst hv
    have holds : ∀ j u, xs[j]? = some u → w.cell? ((⟨g, 0, none⟩ : Addr).add j) = some u := fun j u hu => by
      have e' : (⟨g, 0, none⟩ : Addr).add j = ⟨g, j, none⟩ := by unfold Addr.add; split <;> simp_all
      rw [e', cell_of_row w g j cur _ fz hh]
      rw [← e] at hu
      simpa using hu
    obtain ⟨v', w', h1, h2, h3⟩ := run_append_arg_grows (P := P) w t ty 5 i _ 1 1 ht hi hz hs hby rfl (by decide) ⟨g, 0, none⟩ n n xs (by omega) holds ad m c news hr.1 hcell (by omega) h63 (by omega)
    exact ⟨v', w', h1, own_less h2 hbase, grown_any h3 _⟩
theorem wp_append_m {o : Oper} {a : Act} {K : Act → World → Prop} {Q : Exit → Act → World → Prop} (s x : Operand) (t : TypeId)
    (ho : o.op = .call { callee := .builtin .append, args := #[s, x], argTypes := #[t, t] })
    (base : Nat) (i : TypeInfo) (ht : P.underlying t = some (.slice 5)) (hi : P.info? 5 = some i) (hz : i.zero = some (.int .u8 0)) (hs' : i.size = 1) (hby : i.bytes = 1)
    (v : Value) (n : Nat) (xs : List Value) (hs : a.eval s = v) (hown : OwM w base v n xs)
    (B : Nat) (A : Option Addr) (m c : Nat) (news : List Value) (hm : 1 ≤ m) (hx : a.eval x = .slice A m c) (hr : Reads w B 1 A m news) (h1 : ∀ u ∈ news, u.oneCell' = true)
    (h63 : n + m ≤ maxLen) (hbytes : n + m ≤ 140737488355328) (hbase : base ≤ w.heap.size)
    (h : ∀ v' w', w'.ownsRow base 5 1 v' (n + m) (xs ++ news) → w.grownBy w' v.ownBlock → K (a.put o.dst v') w') : o.wp P a w K Q := by
  obtain ⟨v', w', hrun, h2, h3⟩ := run_append_m (P := P) w base t o.type i ht hi hz hs' hby v n xs hown B A m c news hm hr h1 h63 hbytes hbase
  unfold Oper.wp execOp
  simp only [ho, resolve, invoke, builtin, Sem.run_bind, Sem.run_pure, Result.andThen_ok, List.map_toArray, List.map_cons, List.map_nil, hs, hx, hrun]
  exact h v' w' h2 h3
theorem wpList_append_m {ops : Array Oper} {rest : List Oper} {o : Oper} {a : Act} {Q : Exit → Act → World → Prop} (hgd : o.guard = none) (s x : Operand) (t : TypeId)
    (ho : o.op = .call { callee := .builtin .append, args := #[s, x], argTypes := #[t, t] })
    (base : Nat) (i : TypeInfo) (ht : P.underlying t = some (.slice 5)) (hi : P.info? 5 = some i) (hz : i.zero = some (.int .u8 0)) (hs' : i.size = 1) (hby : i.bytes = 1)
    (v : Value) (n : Nat) (xs : List Value) (hs : a.eval s = v) (hown : OwM w base v n xs)
    (B : Nat) (A : Option Addr) (m c : Nat) (news : List Value) (hm : 1 ≤ m) (hx : a.eval x = .slice A m c) (hr : Reads w B 1 A m news) (h1 : ∀ u ∈ news, u.oneCell' = true)
    (h63 : n + m ≤ maxLen) (hbytes : n + m ≤ 140737488355328) (hbase : base ≤ w.heap.size)
    (h : ∀ v' w', w'.ownsRow base 5 1 v' (n + m) (xs ++ news) → w.grownBy w' v.ownBlock → wpList P ops Q rest (a.put o.dst v') w') : wpList P ops Q (o :: rest) a w :=
  wpList_plain hgd fun _ hK => wp_append_m w s x t ho base i ht hi hz hs' hby v n xs hs hown B A m c news hm hx hr h1 h63 hbytes hbase fun v' w' h2 h3 => hK _ _ (h v' w' h2 h3)
end
end Go.Proofs.YtinfeglhjmnlaaaDoor.pm
namespace Go.Proofs.YtinfeglhjmnlaaaDoor.pm
open Go.RowKit
set_option linter.unusedVariables false
set_option maxRecDepth 10000

/-- only the box g and blocks of bytes may turn; below base nothing -/
structure PtW (g base : Nat) (w w' : World) : Prop where
  size : w.heap.size ≤ w'.heap.size
  other : ∀ b, b < w.heap.size → b ≠ g → (∀ cs fr, w.heap[b]? ≠ some (.cells cs 5 fr)) → w'.heap[b]? = w.heap[b]?
  bel : Below base w w'
section
variable {g base n : Nat} {w w1 w' : World} {A : Option Addr} {xs : List Value} {o : Value}
theorem PtW.refl (g base : Nat) (w : World) : PtW g base w w := ⟨Nat.le_refl _, fun _ _ _ _ => rfl, Below.refl _ _⟩
theorem PtW.trans (h : PtW g base w w1) (k : PtW g base w1 w') : PtW g base w w' := ⟨Nat.le_trans h.size k.size, fun b hb hn hc => by
  have e := h.other b hb hn hc
  rw [k.other b (by have := h.size; omega) hn (by rw [e]; exact hc), e], h.bel.trans k.bel⟩
theorem PtW.alloc (h : PtW g base w w1) (hb : base ≤ w1.heap.size) (ob : Obj) : PtW g base w (w1.alloc ob) := h.trans ⟨by simp, fun b hb _ _ => Below.heap_alloc w1 ob b hb, (Below.refl _ _).alloc hb _⟩
theorem PtW.append (h : PtW g base w w1) (hown : OwM w1 base o n xs) (hg : w1.grownBy w' o.ownBlock) (hb : base ≤ w1.heap.size) : PtW g base w w' :=
  h.trans ⟨hg.size, fun b hb _ hc => hown.other hg b hb hc, hown.below hg hb⟩
theorem PtW.set (h : PtW g base w w1) (hg : base ≤ g) (i : Nat) (u : Value) : PtW g base w (w1.setCell ⟨g, i, none⟩ u) :=
  h.trans ⟨by simp, fun b _ hn _ => Below.heap_setCell w1 _ u b hn, (Below.refl _ _).setCell (p := ⟨g, i, none⟩) hg u⟩
theorem PtW.blk {t : TypeId} {cs : Array Value} {k : Nat} (h : PtW g base w w') (hK : Blk w k t cs) (hn : k ≠ g) (ht : t ≠ 5) : Blk w' k t cs :=
  (h.other k hK.lt hn (fun cs' fr' e => by
    have hK' : w.heap[k]? = some (.cells cs t (0, 0)) := hK
    rw [hK'] at e
    injection e with e
    injection e with _ e _
    exact ht e)).trans hK
theorem PtW.drew (h : PtW g base w w') : PtW g base w w'.drew := ⟨h.size, h.other, Below.drew h.bel⟩
theorem PtW.drewN (h : PtW g base w w') (k : Nat) : PtW g base w (w'.drewN k) := ⟨h.size, h.other, below_drewN h.bel k⟩
end
theorem uV_one (vs : List Nat) : ∀ u ∈ vs.map (fun v : Nat => Value.int .u64 (v : Int)), u.oneCell' = true := by
  intro u hu
  obtain ⟨a, _, rfl⟩ := List.mem_map.1 hu
  rfl
theorem flat_take {α β : Type} (f : α → List β) (l : List α) {k : Nat} (h : k < l.length) (z : α) : (l.take (k + 1)).flatMap f = (l.take k).flatMap f ++ f (l.getD k z) := by
  rw [take_snoc_at l z h]; simp
theorem flat_put_len (vs : List Nat) : (vs.flatMap put).length ≤ 10 * vs.length := by
  induction vs with
  | nil => simp
  | cons v vs ih =>
    have := (put_len v).2
    simp only [List.flatMap_cons, List.length_append, List.length_cons]
    omega
/-- what the closure does -/
def PutD (g base : Nat) (l : List Nat) (w : World) (e : Ending) (w' : World) : Prop :=
  e = .returned (.tuple #[]) ∧ ∃ o, Blk w' g 22 #[o] ∧ OwM w' base o l.length (nb l) ∧ PtW g base w w'
set_option maxHeartbeats 2000000 in
theorem putc_any (g base : Nat) (A : Option Addr) (c : Nat) (vs : List Nat) (hv : ∀ v ∈ vs, v < 18446744073709551616) (hn : vs.length ≤ 3) (w : World) (o : Value) (l : List Nat) (hK : Blk w g 22 #[o]) (hown : OwM w base o l.length (nb l))
    (ad : Nat) (hA : A = some ⟨ad, 0, none⟩) (hR : Blk w ad 56 (vs.map (fun v : Nat => Value.int .u64 (v : Int))).toArray) (hl : l.length ≤ 140737488350000) (hbg : base ≤ g) (hbs : base ≤ w.heap.size) :
    Calls Tryd.prog 54 #[.slice A vs.length c, .pointer (some ⟨g, 0, none⟩)] w (PutD g base (l ++ vs.flatMap put) w) := by
  subst hA
  have HV := Lib.hid hv
  have HR := Lib.hid hR
  have hag : ad ≠ g := hR.ne_ hK (by decide)
  have hni : (vs.length : Int) ≤ 9223372036854775807 := by omega
  obtain ⟨i0, hi0, hz0, hz1, hz2⟩ := info_parts info_u8
  obtain ⟨nv, hnv⟩ : ∃ n, n = vs.length := ⟨_, rfl⟩
  rw [← hnv] at hn hni ⊢
  have HNV := Lib.hid hnv
  clear hv hR hnv
  go_enter Tryd.func54, Tryd.ntmps54
  go_upto_region 1 with (fail)
  go_loopw [7] (fun x wr => ∃ (k : Nat) (o : Value) (L : List Nat), k ≤ nv ∧ x = .int .i64 k ∧ Hid (L = l ++ (vs.take k).flatMap put) ∧ Hid (Blk wr g 22 #[o]) ∧ Hid (OwM wr base o L.length (nb L)) ∧ Hid (PtW g base w wr)) (fun x _ => nv - (intOf x).toNat)
  case atStart => exact ⟨0, o, l, by omega, rfl, Lib.hid (by simp), Lib.hid hK, Lib.hid hown, Lib.hid (PtW.refl _ _ _)⟩
  case round =>
    obtain ⟨k, o1, L, hk, rfl, HL, HB, HO, HP⟩ := hrel
    by_cases hlt : k < nv
    · have hk0 : (0 : Int) ≤ (k : Int) := by omega
      have hk1 : (k : Int) < (nv : Int) := by omega
      have hkl : k < vs.length := by rw [← HNV.out]; exact hlt
      have HT := Lib.hid (flat_take put vs hkl 0)
      obtain ⟨v, hvv⟩ : ∃ v, v = vs.getD k 0 := ⟨_, rfl⟩
      have hv64 : v < 18446744073709551616 := by rw [hvv]; exact HV.out _ (getD_mem' hkl)
      have hcell : wr.cell? ⟨ad, k, none⟩ = some (.int .u64 (v : Int)) := by
        rw [(HP.out.blk HR.out hag (by decide)).cell k]
        simp only [List.getElem?_toArray, List.getElem?_map]
        rw [List.getElem?_eq_getElem hkl, hvv, List.getD_eq_getElem?_getD, List.getElem?_eq_getElem hkl]
        rfl
      rw [← hvv] at HT
      have hLl : L.length ≤ 140737488351000 := by
        have h1 := congrArg List.length HL.out
        have h2 := flat_put_len (vs.take k)
        simp only [List.length_append, List.length_take] at h1 h2
        omega
      have hwz := HP.out.size
      clear hvv hkl
      clear hwz
      generalize wr = wo at *
      go_wp2
      go_loopw [4] (fun x wr => ∃ (f u : Nat) (pre : List Nat) (o : Value), u < 2 * 128 ^ f ∧ f ≤ 9 ∧ x = .int .u64 u ∧ Hid (pre ++ putF f u = L ++ put v) ∧ Hid (Blk wr g 22 #[o]) ∧ Hid (OwM wr base o pre.length (nb pre)) ∧ Hid (PtW g base w wr)) (fun x _ => (intOf x).toNat)
      case atStart => exact ⟨9, v, L, o1, by omega, by omega, rfl, Lib.hid rfl, HB, HO, HP⟩
      case round =>
        obtain ⟨f, u, pre, o2, hu, hf, rfl, H, HB2, HO2, HP2⟩ := hrel
        have hpl : pre.length + (putF f u).length = L.length + (put v).length := by have := congrArg List.length H.out; simpa only [List.length_append] using this
        have hp10 := put_len v
        have hpf := (putF_len f u).1
        have hpre : pre.length ≤ 140737488352000 := by omega
        have hws := HP2.out.size
        obtain ⟨b0, b1, bz⟩ := HB2.out.c1
        clear hpl hp10 hpf
        by_cases hlt2 : u < 128
        · have HPF := Lib.hid (putF_small f u hlt2)
          clear hu
          go_wp2_with (at_builtin; refine wpList_append_m _ rfl (.tmp 21) (.tmp 24) _ rfl base i0 Tryd.underlying22 hi0 hz0 hz1 hz2 _ pre.length (nb pre) rfl (HO2.out.alloc _) (wr.heap.size + 1) (some ⟨wr.heap.size, 0, none⟩) 1 1 (nb [u]) (Nat.le_refl _) rfl (reads_one wr _ _) (nb_one _) (by unfold maxLen; omega) (by omega) (by simp; omega) ?_; intro v1 w2 hown1 hg1; obtain ⟨V3, c3, rfl, hm3⟩ := own_form hown1; have HB3 := Lib.hid ((HB2.out.alloc _).grown hg1 (HO2.out.ne HB2.out (by decide))); obtain ⟨bb0, bb1, bb2⟩ := HB3.out.c1)
          go_roundw
          case rel =>
            refine ⟨k + 1, _, pre ++ [u], by omega, by go_num, Lib.hid ?_, Lib.hid (HB3.out.set_ 0 _), Lib.hid ?_, Lib.hid (((HP2.out.alloc (by omega) _).append (HO2.out.alloc _) hg1 (by simp; omega)).set hbg 0 _)⟩
            · have h := H.out
              rw [HPF.out] at h
              rw [h, HT.out, HL.out, List.append_assoc]
            · rw [nb_append]
              exact OwM.far (.inl (by simpa using hown1)) HB3.out (by decide) _
          case measure => simp [intOf]; omega
        · have hf0 : f ≠ 0 := by
            rintro rfl
            simp at hu
            omega
          obtain ⟨g', rfl⟩ := Nat.exists_eq_succ_of_ne_zero hf0
          have HPF := Lib.hid (putF_big g' u hlt2)
          have HU := Lib.hid (show u / 128 < 2 * 128 ^ g' by rw [Nat.succ_eq_add_one, Nat.pow_succ] at hu; omega)
          have hor := or_u8 u
          clear hu
          go_wp2_with (at_builtin; refine wpList_append_m _ rfl (.tmp 15) (.tmp 19) _ rfl base i0 Tryd.underlying22 hi0 hz0 hz1 hz2 _ pre.length (nb pre) rfl (HO2.out.alloc _) (wr.heap.size + 1) (some ⟨wr.heap.size, 0, none⟩) 1 1 (nb [u % 128 + 128]) (Nat.le_refl _) rfl (reads_one wr _ _) (nb_one _) (by unfold maxLen; omega) (by omega) (by simp; omega) ?_; intro v1 w2 hown1 hg1; obtain ⟨V3, c3, rfl, hm3⟩ := own_form hown1; have HB3 := Lib.hid ((HB2.out.alloc _).grown hg1 (HO2.out.ne HB2.out (by decide))); obtain ⟨bb0, bb1, bb2⟩ := HB3.out.c1)
          go_roundw
          case rel =>
            refine ⟨g', u / 128, pre ++ [u % 128 + 128], _, HU.out, by omega, by go_num, Lib.hid (by have h := H.out; rw [HPF.out] at h; simpa using h), Lib.hid (HB3.out.set_ 0 _), Lib.hid ?_, Lib.hid (((HP2.out.alloc (by omega) _).append (HO2.out.alloc _) hg1 (by simp; omega)).set hbg 0 _)⟩
            rw [nb_append]
            exact OwM.far (.inl (by simpa using hown1)) HB3.out (by decide) _
          case measure => simp [intOf]; omega
    · have hkn : k = nv := by omega
      have HN2 := Lib.hid hkn
      subst hkn
      have HF : Hid (l ++ vs.flatMap put = L) := Lib.hid (by rw [HL.out, HN2.out, HNV.out, List.take_length])
      go_wp2
      go_end0
      rw [HF.out]
      exact ⟨rfl, o1, HB.out, HO.out, HP.out⟩
end Go.Proofs.YtinfeglhjmnlaaaDoor.pm
