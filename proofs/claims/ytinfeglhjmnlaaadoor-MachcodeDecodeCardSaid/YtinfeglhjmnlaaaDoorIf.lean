/- Bytes behind bytes, also where nothing is appended. -/
import Derived.Test.YtinfeglhjmnlaaaDoorGHb
namespace Go.Proofs.YtinfeglhjmnlaaaDoor.pm
open Go.RowKit
set_option linter.unusedVariables false
section
variable {P : Program} (w : World)
theorem run_append_m0 (t ty e : TypeId) (i : TypeInfo) (z : Value) (ht : P.underlying t = some (.slice e)) (hi : P.info? e = some i) (hz : i.zero = some z) (g n : Nat) (A : Option Addr) (c : Nat) :
 (Builtin.append_ #[t, t] ty #[.slice (some ⟨g, 0, none⟩) n n, .slice A 0 c]).run P w = .ok (.slice (some ⟨g, 0, none⟩) n n) w := by
 cases A <;> simp [Builtin.append_, run_underlying ht, sizeOf, typeInfo, hi, Builtin.lenOf, Builtin.firstCells, storeCells, loadCells, loadCellsFrom]
theorem run_append_o (base : Nat) (t ty : TypeId) (i : TypeInfo) (ht : P.underlying t = some (.slice 5)) (hi : P.info? 5 = some i) (hz : i.zero = some (.int .u8 0)) (hs : i.size = 1) (hby : i.bytes = 1)
 (v : Value) (n : Nat) (xs : List Value) (hown : OwM w base v n xs) (B : Nat) (A : Option Addr) (m c : Nat) (news : List Value) (hr : Reads w B 1 A m news) (h1 : ∀ u ∈ news, u.oneCell' = true)
 (h63 : n + m ≤ maxLen) (hbytes : n + m ≤ 140737488355328) (hbase : base ≤ w.heap.size) :
 ∃ v' w', (Builtin.append_ #[t, t] ty #[v, .slice A m c]).run P w = .ok v' w' ∧ OwM w' base v' (n + m) (xs ++ news) ∧ w.grownBy w' v.ownBlock := by
 rcases Nat.eq_zero_or_pos m with h0 | h0
 · subst h0
   have hn : news = [] := List.eq_nil_of_length_eq_zero (by simpa using hr.1)
   subst hn
   rcases hown with h | ⟨g, cur, fz, hv, hb, hh, e, r, mm⟩
   · obtain ⟨v', w', h1, h2, h3, _⟩ := run_append_any (P := P) w base t ty 5 i _ 1 1 ht hi hz hs hby rfl (by decide) v n xs h B A 0 c [] hr h1 h63 (by omega) hbase
     exact ⟨v', w', h1, .inl h2, h3⟩
   · subst hv
     exact ⟨_, w, run_append_m0 w t ty 5 i _ ht hi hz g n A c, by rw [List.append_nil]; exact .inr ⟨g, cur, fz, rfl, hb, hh, e, r, mm⟩, World.grownBy.refl w _⟩
 · obtain ⟨v', w', a, b, d⟩ := run_append_m w base t ty i ht hi hz hs hby v n xs hown B A m c news h0 hr h1 h63 hbytes hbase
   exact ⟨v', w', a, .inl b, d⟩
theorem wpList_append_o {ops : Array Oper} {rest : List Oper} {o : Oper} {a : Act} {Q : Exit → Act → World → Prop} (hgd : o.guard = none) (s x : Operand) (t : TypeId)
 (ho : o.op = .call { callee := .builtin .append, args := #[s, x], argTypes := #[t, t] })
 (base : Nat) (i : TypeInfo) (ht : P.underlying t = some (.slice 5)) (hi : P.info? 5 = some i) (hz : i.zero = some (.int .u8 0)) (hs' : i.size = 1) (hby : i.bytes = 1)
 (v : Value) (n : Nat) (xs : List Value) (hs : a.eval s = v) (hown : OwM w base v n xs)
 (B : Nat) (A : Option Addr) (m c : Nat) (news : List Value) (hx : a.eval x = .slice A m c) (hr : Reads w B 1 A m news) (h1 : ∀ u ∈ news, u.oneCell' = true)
 (h63 : n + m ≤ maxLen) (hbytes : n + m ≤ 140737488355328) (hbase : base ≤ w.heap.size)
 (h : ∀ v' w', OwM w' base v' (n + m) (xs ++ news) → w.grownBy w' v.ownBlock → wpList P ops Q rest (a.put o.dst v') w') : wpList P ops Q (o :: rest) a w := by
 refine wpList_plain hgd fun _ hK => ?_
 obtain ⟨v', w', hrun, h2, h3⟩ := run_append_o (P := P) w base t o.type i ht hi hz hs' hby v n xs hown B A m c news hr h1 h63 hbytes hbase
 unfold Oper.wp execOp
 simp only [ho, resolve, invoke, builtin, Sem.run_bind, Sem.run_pure, Result.andThen_ok, List.map_toArray, List.map_cons, List.map_nil, hs, hx, hrun]
 exact hK _ _ (h v' w' h2 h3)
end
end Go.Proofs.YtinfeglhjmnlaaaDoor.pm
