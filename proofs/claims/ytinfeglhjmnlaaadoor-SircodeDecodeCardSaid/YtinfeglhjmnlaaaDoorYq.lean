/- Words for the laws about bytes of programs: the copy with a right checksum, bytes behind bytes, programs equal themselves. -/
import Derived.Test.YtinfeglhjmnlaaaDoorGHg
import Derived.Test.YtinfeglhjmnlaaaDoorGHn
import Derived.Test.YtinfeglhjmnlaaaDoorGSn
import Derived.Test.YtinfeglhjmnlaaaDoorGPg
import Derived.Test.YtinfeglhjmnlaaaDoorGYh
import Derived.Test.YtinfeglhjmnlaaaDoorGYa
import Derived.Deep.RegionLaw
namespace Go.Proofs.YtinfeglhjmnlaaaDoor.pm
open Go.RowKit
set_option linter.unusedVariables false
set_option maxRecDepth 10000

def mend (l : List Nat) : List Nat := if l.length < 4 then l else sealL (l.take (l.length - 4))
theorem mend_len (l : List Nat) : (mend l).length = l.length := by
 unfold mend
 split
 · rfl
 · rw [sealL_len, List.length_take]; omega
theorem mend_bytes {l : List Nat} (h : ∀ x ∈ l, x < 256) : ∀ x ∈ mend l, x < 256 := by
 unfold mend
 split
 · exact h
 · exact sealL_bytes (fun x hx => h x (List.mem_of_mem_take hx))
theorem own_capM {w : World} {base n c : Nat} {e : TypeId} {size : Nat} {A : Option Addr} {xs : List Value} (h : w.ownsRow base e size (.slice A n c) n xs) : n ≤ c ∧ c ≤ maxLen := by
 rcases h.2 with ⟨h1, rfl⟩ | ⟨g, cap, cur, h1, _, _, h2, h3, _⟩
 · simp at h1
   omega
 · simp at h1
   omega
def ByD (l : List Nat) (w : World) (e : Ending) (w' : World) : Prop := ∃ V c, e = .returned (.slice V l.length c) ∧ Bs w' w'.heap.size V l.length l ∧ l.length ≤ c ∧ c ≤ maxLen ∧ Below w.heap.size w w'
set_option maxHeartbeats 2000000 in
theorem mended06_any (A : Option Addr) (n c : Nat) (l : List Nat) (w : World) (hb : Bs w w.heap.size A n l) (hn : n ≤ 2000000) (hc : n ≤ c) (hcm : c ≤ maxLen) :
 Calls Tryd.prog 27 #[.slice A n c] w (ByD (mend l) w) := by
 have hln := hb.len
 have HLN := Lib.hid hln
 have HB := Lib.hid hb
 have HML : Hid ((mend l).length = n) := Lib.hid (by rw [mend_len, hln])
 by_cases h4 : n < 4
 · have HE : Hid (mend l = l) := Lib.hid (by unfold mend; rw [if_pos (by omega)])
   have h4i : (n : Int) < 4 := by omega
   have HC := Lib.hid hc
   have HCM := Lib.hid hcm
   clear hln hb h4 hc hcm
   go_enter Tryd.func27, Tryd.ntmps27
   go_wp2
   go_ret
   refine ⟨A, c, by rw [HML.out]; rfl, ?_, by rw [HML.out]; exact HC.out, HCM.out, Below.refl _ _⟩
   rw [HML.out, HE.out]
   exact HB.out
 · obtain ⟨k, hk⟩ : ∃ k, n = k + 4 := ⟨n - 4, by omega⟩
   have HE : Hid (mend l = sealL (l.take k)) := Lib.hid (by unfold mend; rw [if_neg (by omega), hln, hk, Nat.add_sub_cancel])
   have HBT := Lib.hid (hb.take (m := k) (by omega))
   have HTL : Hid ((l.take k).length = k) := Lib.hid (by rw [List.length_take]; omega)
   obtain ⟨lk, hlk⟩ : ∃ x, x = l.take k := ⟨_, rfl⟩
   rw [← hlk] at HBT HTL HE
   have HNK := Lib.hid hk
   have hkc : k ≤ c := by omega
   have hk2 : k ≤ 2000000 := by omega
   have hki0 : (0 : Int) ≤ (k : Int) := by omega
   have hkci : (k : Int) ≤ (c : Int) := by omega
   have hcc : (c : Int) ≤ 9223372036854775807 := by unfold maxLen at hcm; omega
   obtain ⟨xn, hxn⟩ : ∃ x : Int, (n : Int) = x := ⟨_, rfl⟩
   have hx1 : ¬ xn < 4 := by omega
   have hx3 : IntKind.i64.wrap (xn - 4) = (k : Int) := by rw [IntWalk.i64_in _ (by omega)]; omega
   obtain ⟨i0, hi0, hz0, hz1, hz2⟩ := info_parts info_u8
   clear hln hb hk hlk h4 hn hc hcm
   go_enter Tryd.func27, Tryd.ntmps27
   go_upto_region 3 with (fail)
   go_wp2_with (at_builtin; refine wpList_append_any _ rfl (.const (.slice none 0 0)) (.tmp 11) _ rfl w.heap.size 5 i0 _ 1 1 Tryd.underlying22 hi0 hz0 hz1 hz2 rfl (by omega) (.slice none 0 0) 0 [] rfl (World.ownsRow_nil _ _ _ _) _ A k c (nb lk) rfl HBT.out.1 (nb_one lk) (by unfold maxLen; omega) (by omega) (by simp) ?_; intro o1 w1 own1' hg1' hat1')
   have own1 : w1.ownsRow w.heap.size 5 1 o1 k (nb lk) := by simpa using own1'
   have bel1 : Below w.heap.size w w1 := below_append (Below.refl _ _) (World.ownsRow_nil w w.heap.size 5 1) hg1' (Nat.le_refl _) (by simp)
   obtain ⟨V, c1, rfl, hm1⟩ := own_form own1
   have HS := Lib.hid (refseal_any w.heap.size V k c1 lk w1 HTL.out (.inl own1) HBT.out.2 (by omega) bel1.size)
   have HB1 := Lib.hid bel1
   clear own1 own1' hg1' hat1' bel1 hm1
   refine HS.out.mono ?_
   rintro e w2 ⟨V2, c2, rfl, own2, -, bel2⟩
   go_wp2
   go_ret
   obtain ⟨h1, h2⟩ := own_capM own2
   rw [HE.out]
   exact ⟨V2, c2, rfl, Bs.of_own own2 (sealL_bytes HBT.out.2), h1, h2, HB1.out.trans bel2⟩
section
variable {P : Program} (w : World)
theorem run_append_m0 (t ty e : TypeId) (i : TypeInfo) (z : Value) (ht : P.underlying t = some (.slice e)) (hi : P.info? e = some i) (hz : i.zero = some z) (g n : Nat) (A : Option Addr) (c : Nat) :
 (Builtin.append_ #[t, t] ty #[.slice (some ⟨g, 0, none⟩) n n, .slice A 0 c]).run P w = .ok (.slice (some ⟨g, 0, none⟩) n n) w := by
 cases A <;> simp [Builtin.append_, run_underlying ht, sizeOf, typeInfo, hi, Builtin.lenOf, Builtin.firstCells, storeCells, loadCells, loadCellsFrom]
theorem run_append_o (base : Nat) (t ty : TypeId) (i : TypeInfo) (ht : P.underlying t = some (.slice 5)) (hi : P.info? 5 = some i) (hz : i.zero = some (.int .u8 0)) (hs : i.size = 1) (hby : i.bytes = 1)
 (v : Value) (n : Nat) (xs : List Value) (hown : OwM w base v n xs) (B : Nat) (A : Option Addr) (m c : Nat) (news : List Value) (hr : Reads w B 1 A m news) (h1 : ∀ u ∈ news, u.oneCell' = true)
 (h63 : n + m ≤ maxLen) (hbytes : n + m ≤ 140737488355328) (hbase : base ≤ w.heap.size) :
 ∃ v' w', (Builtin.append_ #[t, t] ty #[v, .slice A m c]).run P w = .ok v' w' ∧ OwM w' base v' (n + m) (xs ++ news) ∧ w.grownBy w' v.ownBlock := by
 rcases Nat.eq_zero_or_pos m with h0 | h0
 · subst h0
   have hn : news = [] := List.eq_nil_of_length_eq_zero (by simpa using hr.1)
   subst hn
   rcases hown with h | ⟨g, cur, fz, hv, hb, hh, e, r, mm⟩
   · obtain ⟨v', w', h1, h2, h3, _⟩ := run_append_any (P := P) w base t ty 5 i _ 1 1 ht hi hz hs hby rfl (by decide) v n xs h B A 0 c [] hr h1 h63 (by omega) hbase
     exact ⟨v', w', h1, .inl h2, h3⟩
   · subst hv
     exact ⟨_, w, run_append_m0 w t ty 5 i _ ht hi hz g n A c, by rw [List.append_nil]; exact .inr ⟨g, cur, fz, rfl, hb, hh, e, r, mm⟩, World.grownBy.refl w _⟩
 · obtain ⟨v', w', a, b, d⟩ := run_append_m w base t ty i ht hi hz hs hby v n xs hown B A m c news h0 hr h1 h63 hbytes hbase
   exact ⟨v', w', a, .inl b, d⟩
theorem wpList_append_o {ops : Array Oper} {rest : List Oper} {o : Oper} {a : Act} {Q : Exit → Act → World → Prop} (hgd : o.guard = none) (s x : Operand) (t : TypeId)
 (ho : o.op = .call { callee := .builtin .append, args := #[s, x], argTypes := #[t, t] })
 (base : Nat) (i : TypeInfo) (ht : P.underlying t = some (.slice 5)) (hi : P.info? 5 = some i) (hz : i.zero = some (.int .u8 0)) (hs' : i.size = 1) (hby : i.bytes = 1)
 (v : Value) (n : Nat) (xs : List Value) (hs : a.eval s = v) (hown : OwM w base v n xs)
 (B : Nat) (A : Option Addr) (m c : Nat) (news : List Value) (hx : a.eval x = .slice A m c) (hr : Reads w B 1 A m news) (h1 : ∀ u ∈ news, u.oneCell' = true)
 (h63 : n + m ≤ maxLen) (hbytes : n + m ≤ 140737488355328) (hbase : base ≤ w.heap.size)
 (h : ∀ v' w', OwM w' base v' (n + m) (xs ++ news) → w.grownBy w' v.ownBlock → wpList P ops Q rest (a.put o.dst v') w') : wpList P ops Q (o :: rest) a w := by
 refine wpList_plain hgd fun _ hK => ?_
 obtain ⟨v', w', hrun, h2, h3⟩ := run_append_o (P := P) w base t o.type i ht hi hz hs' hby v n xs hown B A m c news hr h1 h63 hbytes hbase
 unfold Oper.wp execOp
 simp only [ho, resolve, invoke, builtin, Sem.run_bind, Sem.run_pure, Result.andThen_ok, List.map_toArray, List.map_cons, List.map_nil, hs, hx, hrun]
 exact hK _ _ (h v' w' h2 h3)
end
theorem eqF_refl (x : List Fn) : eqL sameFn x x = true := eqL_all (z := Fn.z) rfl fun j _ => by
  have h1 : ∀ l : List (Int × Int), eqL slEq l l = true := fun l => eqL_all (z := (0, 0)) rfl fun j _ => by simp [slEq]
  have h2 : ∀ l : List Ins, eqL inEq l l = true := fun l => eqL_all (z := Ins.z) rfl fun j _ => by simp [inEq]
  simp [sameFn, h1, h2]
theorem pr_fnr {most : Nat} {p : List Fn} (h : PrOk most p) : ∀ j, j < p.length → FnR (p.getD j Fn.z) := fun j hj s hs => by
  have := (h.2.2.2 _ (getD_mem' (z := Fn.z) hj)).2.2.2.1 s hs
  unfold SlotOk at this
  unfold I64
  omega
end Go.Proofs.YtinfeglhjmnlaaaDoor.pm
