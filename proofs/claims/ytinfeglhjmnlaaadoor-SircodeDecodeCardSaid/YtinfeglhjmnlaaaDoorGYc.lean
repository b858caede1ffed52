/- Bytes of programs: sircode.put, sircode.seal. -/
import Derived.Test.YtinfeglhjmnlaaaDoorGHs
import Derived.Test.YtinfeglhjmnlaaaDoorGYa
import Derived.Deep.CutBlock
import Derived.Test.YtinfeglhjmnlaaaDoorGBa
namespace Go.Proofs.YtinfeglhjmnlaaaDoor.pm
open Go.RowKit
set_option linter.unusedVariables false
set_option maxRecDepth 10000

/-- the number that uint64 makes of an int -/
def uOf (z : Int) : Nat := (IntKind.u64.wrap z).toNat
def pz (z : Int) : List Nat := put (uOf z)
theorem uOf_nat (v : Nat) (h : v < 18446744073709551616) : uOf (v : Int) = v := by unfold uOf; rw [IntWalk.u64_in _ (by omega)]; rfl
theorem uOf_pos {z : Int} (h : 0 ≤ z ∧ z ≤ 9223372036854775807) : uOf z = z.toNat := by unfold uOf; rw [IntWalk.u64_in _ (by omega)]
theorem uOf_back (v : Int) (h : 0 ≤ v ∧ v < 18446744073709551616) : uOf (IntKind.i64.wrap v) = v.toNat := by
  unfold uOf
  rw [IntKind.wrap_i64, IntKind.wrap_u64]
  omega
theorem uOf_wrap (z : Int) : IntKind.u64.wrap z = ((uOf z : Nat) : Int) ∧ uOf z < 18446744073709551616 := by
  unfold uOf
  rw [IntKind.wrap_u64]
  omega
/-- an append, and where the row lies behind it -/
theorem run_append_q {P : Program} (w : World) (base : Nat) (t ty : TypeId) (i : TypeInfo) (ht : P.underlying t = some (.slice 5)) (hi : P.info? 5 = some i) (hz : i.zero = some (.int .u8 0)) (hs : i.size = 1) (hby : i.bytes = 1)
    (v : Value) (n : Nat) (xs : List Value) (hown : OwM w base v n xs) (B : Nat) (A : Option Addr) (m c : Nat) (news : List Value) (hm : 1 ≤ m) (hr : Reads w B 1 A m news) (h1 : ∀ u ∈ news, u.oneCell' = true)
    (h63 : n + m ≤ maxLen) (hbytes : n + m ≤ 140737488355328) (hbase : base ≤ w.heap.size) :
    ∃ v' w', (Builtin.append_ #[t, t] ty #[v, .slice A m c]).run P w = .ok v' w' ∧ w'.ownsRow base 5 1 v' (n + m) (xs ++ news) ∧ w.grownBy w' v.ownBlock ∧ (∀ b, v'.ownBlock = some b → v.ownBlock = some b ∨ w.heap.size ≤ b) := by
  rcases hown with h | ⟨g, cur, fz, hv, hb, hh, e, r, mm⟩
  · obtain ⟨v', w', h1, h2, h3, h4⟩ := run_append_any (P := P) w base t ty 5 i _ 1 1 ht hi hz hs hby rfl (by decide) v n xs h B A m c news hr h1 h63 (by omega) hbase
    refine ⟨v', w', h1, h2, h3, fun b hb => ?_⟩
    rcases h4 with h4 | h4
    · exact .inl (h4 ▸ hb)
    · rw [h4] at hb; injection hb with hb; exact .inr (by omega)
  · obtain ⟨ad, rfl, had, hcell⟩ := hr.2 hm
    subst hv
    have holds : ∀ j u, xs[j]? = some u → w.cell? ((⟨g, 0, none⟩ : Addr).add j) = some u := fun j u hu => by
      have e' : (⟨g, 0, none⟩ : Addr).add j = ⟨g, j, none⟩ := by unfold Addr.add; split <;> simp_all
      rw [e', cell_of_row w g j cur _ fz hh]
      rw [← e] at hu
      simpa using hu
    obtain ⟨v', w', h1, h2, h3⟩ := run_append_arg_grows (P := P) w t ty 5 i _ 1 1 ht hi hz hs hby rfl (by decide) ⟨g, 0, none⟩ n n xs (by omega) holds ad m c news hr.1 hcell (by omega) h63 (by omega)
    exact ⟨v', w', h1, own_less h2 hbase, grown_any h3 _, fun b hb => .inr (h2.lt b hb).1⟩
theorem wpList_append_q {P : Program} (w : World) {ops : Array Oper} {rest : List Oper} {o : Oper} {a : Act} {Q : Exit → Act → World → Prop} (hgd : o.guard = none) (s x : Operand) (t : TypeId)
    (ho : o.op = .call { callee := .builtin .append, args := #[s, x], argTypes := #[t, t] })
    (base : Nat) (i : TypeInfo) (ht : P.underlying t = some (.slice 5)) (hi : P.info? 5 = some i) (hz : i.zero = some (.int .u8 0)) (hs' : i.size = 1) (hby : i.bytes = 1)
    (v : Value) (n : Nat) (xs : List Value) (hs : a.eval s = v) (hown : OwM w base v n xs)
    (B : Nat) (A : Option Addr) (m c : Nat) (news : List Value) (hm : 1 ≤ m) (hx : a.eval x = .slice A m c) (hr : Reads w B 1 A m news) (h1 : ∀ u ∈ news, u.oneCell' = true)
    (h63 : n + m ≤ maxLen) (hbytes : n + m ≤ 140737488355328) (hbase : base ≤ w.heap.size)
    (h : ∀ v' w', w'.ownsRow base 5 1 v' (n + m) (xs ++ news) → w.grownBy w' v.ownBlock → (∀ b, v'.ownBlock = some b → v.ownBlock = some b ∨ w.heap.size ≤ b) → wpList P ops Q rest (a.put o.dst v') w') : wpList P ops Q (o :: rest) a w := by
  refine wpList_plain hgd fun _ hK => ?_
  obtain ⟨v', w', hrun, h2, h3, h4⟩ := run_append_q (P := P) w base t o.type i ht hi hz hs' hby v n xs hown B A m c news hm hr h1 h63 hbytes hbase
  unfold Oper.wp execOp
  simp only [ho, resolve, invoke, builtin, Sem.run_bind, Sem.run_pure, Result.andThen_ok, List.map_toArray, List.map_cons, List.map_nil, hs, hx, hrun]
  exact hK _ _ (h v' w' h2 h3 h4)
/-- beside the row's own block nothing that was there has turned -/
def Apt (o : Value) (w : World) (o' : Value) (w' : World) : Prop := (∀ b, b < w.heap.size → o.ownBlock ≠ some b → w'.heap[b]? = w.heap[b]?) ∧ (∀ b, o'.ownBlock = some b → o.ownBlock = some b ∨ w.heap.size ≤ b)
theorem Apt.refl (o : Value) (w : World) : Apt o w o w := ⟨fun _ _ _ => rfl, fun b h => .inl h⟩
theorem Apt.alloc {o o' : Value} {w w' : World} (h : Apt o w o' w') (hz : w.heap.size ≤ w'.heap.size) (ob : Obj) : Apt o w o' (w'.alloc ob) := ⟨fun b hb hn => (Below.heap_alloc w' ob b (by omega)).trans (h.1 b hb hn), h.2⟩
theorem Apt.app {o o' v : Value} {w w' w2 : World} (h : Apt o w o' w') (hz : w.heap.size ≤ w'.heap.size) (hg : w'.grownBy w2 o'.ownBlock) (hb : ∀ b, v.ownBlock = some b → o'.ownBlock = some b ∨ w'.heap.size ≤ b) : Apt o w v w2 := by
  refine ⟨fun b hb' hn => ?_, fun b hb' => ?_⟩
  · rw [hg.block b (by omega) (fun e => by
      rcases h.2 b e.symm with h' | h'
      · exact hn h'
      · omega)]
    exact h.1 b hb' hn
  · rcases hb b hb' with h' | h'
    · exact h.2 b h'
    · exact .inr (by omega)
/-- bytes behind bytes -/
def SpD (base : Nat) (o : Value) (L : List Nat) (w : World) (e : Ending) (w' : World) : Prop :=
  ∃ V c, e = .returned (.slice V L.length c) ∧ OwM w' base (.slice V L.length c) L.length (nb L) ∧ NoB w w' ∧ Below base w w' ∧ Apt o w (.slice V L.length c) w'
theorem NoB.refl (w : World) : NoB w w := ⟨Nat.le_refl _, fun _ _ _ => rfl⟩
theorem NoB.trans {w w1 w' : World} (h : NoB w w1) (k : NoB w1 w') : NoB w w' := ⟨Nat.le_trans h.1 k.1, fun b hb hc => by
  have e := h.2 b hb hc
  rw [k.2 b (by have := h.1; omega) (by rw [e]; exact hc), e]⟩
theorem NoB.alloc {w w1 : World} (h : NoB w w1) (o : Obj) : NoB w (w1.alloc o) := h.trans ⟨by simp, fun b hb _ => Below.heap_alloc w1 o b hb⟩
theorem NoB.app {w w1 w' : World} {base n : Nat} {o : Value} {xs : List Value} (h : NoB w w1) (hown : OwM w1 base o n xs) (hg : w1.grownBy w' o.ownBlock) : NoB w w' := h.trans ⟨hg.size, fun b hb hc => hown.other hg b hb hc⟩
theorem NoB.of_below {w w' : World} (h : Below w.heap.size w w') : NoB w w' := ⟨h.size, fun b hb _ => h.block b hb⟩
theorem iV_one (zs : List Int) : ∀ u ∈ zs.map (fun z : Int => Value.int .i64 z), u.oneCell' = true := by
  intro u hu
  obtain ⟨a, _, rfl⟩ := List.mem_map.1 hu
  rfl
theorem flat_pz_len (zs : List Int) : (zs.flatMap pz).length ≤ 10 * zs.length := by
  induction zs with
  | nil => simp
  | cons z zs ih =>
    have := (put_len (uOf z)).2
    simp only [List.flatMap_cons, List.length_append, List.length_cons, pz]
    omega
set_option maxHeartbeats 2000000 in
theorem sput_any (base : Nat) (A : Option Addr) (c : Nat) (zs : List Int) (hn : zs.length ≤ 3) (w : World) (o : Value) (l : List Nat) (hown : OwM w base o l.length (nb l))
    (ad : Nat) (hA : A = some ⟨ad, 0, none⟩) (hR : Blk w ad 3 (zs.map (fun z : Int => Value.int .i64 z)).toArray) (hl : l.length ≤ 140737488350000) (hbs : base ≤ w.heap.size) :
    Calls Tryd.prog 62 #[o, .slice A zs.length c] w (SpD base o (l ++ zs.flatMap pz) w) := by
  subst hA
  have HR := Lib.hid hR
  have hni : (zs.length : Int) ≤ 9223372036854775807 := by omega
  obtain ⟨i0, hi0, hz0, hz1, hz2⟩ := info_parts info_u8
  obtain ⟨nv, hnv⟩ : ∃ n, n = zs.length := ⟨_, rfl⟩
  rw [← hnv] at hn hni ⊢
  have HNV := Lib.hid hnv
  clear hR hnv
  go_enter Tryd.func62, Tryd.ntmps62
  go_upto_region 2 with (fail)
  go_loopw [0, 10] (fun s0 x wr => ∃ (k : Nat) (L : List Nat), k ≤ nv ∧ x = .int .i64 k ∧ Hid (L = l ++ (zs.take k).flatMap pz) ∧ Hid (OwM wr base s0 L.length (nb L)) ∧ Hid (NoB w wr) ∧ Hid (Below base w wr) ∧ Hid (Apt o w s0 wr)) (fun s0 x _ => nv - (intOf x).toNat)
  case atStart => exact ⟨0, l, by omega, rfl, Lib.hid (by simp), Lib.hid hown, Lib.hid (NoB.refl _), Lib.hid (Below.refl _ _), Lib.hid (Apt.refl _ _)⟩
  case round =>
    obtain ⟨k, L, hk, rfl, HL, HO, HP, HQ, HA⟩ := hrel
    by_cases hlt : k < nv
    · have hk0 : (0 : Int) ≤ (k : Int) := by omega
      have hk1 : (k : Int) < (nv : Int) := by omega
      have hkl : k < zs.length := by rw [← HNV.out]; exact hlt
      have HT := Lib.hid (flat_take pz zs hkl 0)
      obtain ⟨z, hzz⟩ : ∃ z, z = zs.getD k 0 := ⟨_, rfl⟩
      have hcell : wr.cell? ⟨ad, k, none⟩ = some (.int .i64 z) := by
        rw [(HP.out.blk HR.out (by decide)).cell k]
        simp only [List.getElem?_toArray, List.getElem?_map]
        rw [List.getElem?_eq_getElem hkl, hzz, List.getD_eq_getElem?_getD, List.getElem?_eq_getElem hkl]
        rfl
      rw [← hzz] at HT
      obtain ⟨hu1, hu2⟩ := uOf_wrap z
      obtain ⟨v, hv⟩ : ∃ v, v = uOf z := ⟨_, rfl⟩
      have HPZ : Hid (pz z = put v) := Lib.hid (by unfold pz; rw [hv])
      rw [← hv] at hu1 hu2
      have hLl : L.length ≤ 140737488351000 := by
        have h1 := congrArg List.length HL.out
        have h2 := flat_pz_len (zs.take k)
        simp only [List.length_append, List.length_take] at h1 h2
        omega
      clear hzz hkl hv
      generalize wr = wo at *
      rename_i s0 _
      go_wp2
      go_loopw [0, 7] (fun s0 x wr => ∃ (f u : Nat) (pre : List Nat), u < 2 * 128 ^ f ∧ f ≤ 9 ∧ x = .int .u64 u ∧ Hid (pre ++ putF f u = L ++ put v) ∧ Hid (OwM wr base s0 pre.length (nb pre)) ∧ Hid (NoB w wr) ∧ Hid (Below base w wr) ∧ Hid (Apt o w s0 wr)) (fun s0 x _ => (intOf x).toNat)
      case atStart => exact ⟨9, v, L, by omega, by omega, rfl, Lib.hid rfl, HO, HP, HQ, HA⟩
      case round =>
        obtain ⟨f, u, pre, hu, hf, rfl, H, HO2, HP2, HQ2, HA2⟩ := hrel
        have hpl : pre.length + (putF f u).length = L.length + (put v).length := by have := congrArg List.length H.out; simpa only [List.length_append] using this
        have hp10 := put_len v
        have hpf := (putF_len f u).1
        have hpre : pre.length ≤ 140737488352000 := by omega
        have hws : w.heap.size ≤ wr.heap.size := HQ2.out.size
        clear hpl hp10 hpf
        by_cases hlt2 : u < 128
        · have HPF := Lib.hid (putF_small f u hlt2)
          clear hu
          go_wp2_with (at_builtin; refine wpList_append_q _ rfl (.tmp 20) (.tmp 23) _ rfl base i0 Tryd.underlying22 hi0 hz0 hz1 hz2 _ pre.length (nb pre) rfl (HO2.out.alloc _) (wr.heap.size + 1) (some ⟨wr.heap.size, 0, none⟩) 1 1 (nb [u]) (Nat.le_refl _) rfl (reads_one wr _ _) (nb_one _) (by unfold maxLen; omega) (by omega) (by simp; omega) ?_; intro v1 w2 hown1 hg1 hq1)
          go_roundw
          case rel =>
            refine ⟨k + 1, pre ++ [u], by omega, by go_num, Lib.hid ?_, Lib.hid ?_, Lib.hid ((HP2.out.alloc _).app (HO2.out.alloc _) hg1), Lib.hid ((HQ2.out.alloc (by omega) _).trans ((HO2.out.alloc _).below hg1 (by simp; omega))), Lib.hid ((HA2.out.alloc hws _).app (by simp; omega) hg1 hq1)⟩
            · have h := H.out
              rw [HPF.out] at h
              rw [h, HT.out, HL.out, List.append_assoc, HPZ.out]
            · rw [nb_append]
              exact .inl (by simpa using hown1)
          case measure => simp [intOf]; omega
        · have hf0 : f ≠ 0 := by
            rintro rfl
            simp at hu
            omega
          obtain ⟨g', rfl⟩ := Nat.exists_eq_succ_of_ne_zero hf0
          have HPF := Lib.hid (putF_big g' u hlt2)
          have HU := Lib.hid (show u / 128 < 2 * 128 ^ g' by rw [Nat.succ_eq_add_one, Nat.pow_succ] at hu; omega)
          have hor := or_u8 u
          clear hu
          go_wp2_with (at_builtin; refine wpList_append_q _ rfl (.tmp 25) (.tmp 29) _ rfl base i0 Tryd.underlying22 hi0 hz0 hz1 hz2 _ pre.length (nb pre) rfl (HO2.out.alloc _) (wr.heap.size + 1) (some ⟨wr.heap.size, 0, none⟩) 1 1 (nb [u % 128 + 128]) (Nat.le_refl _) rfl (reads_one wr _ _) (nb_one _) (by unfold maxLen; omega) (by omega) (by simp; omega) ?_; intro v1 w2 hown1 hg1 hq1)
          go_roundw
          case rel =>
            refine ⟨g', u / 128, pre ++ [u % 128 + 128], HU.out, by omega, by go_num, Lib.hid (by have h := H.out; rw [HPF.out] at h; simpa using h), Lib.hid ?_, Lib.hid ((HP2.out.alloc _).app (HO2.out.alloc _) hg1), Lib.hid ((HQ2.out.alloc (by omega) _).trans ((HO2.out.alloc _).below hg1 (by simp; omega))), Lib.hid ((HA2.out.alloc hws _).app (by simp; omega) hg1 hq1)⟩
            rw [nb_append]
            exact .inl (by simpa using hown1)
          case measure => simp [intOf]; omega
    · have hkn : k = nv := by omega
      have HN2 := Lib.hid hkn
      subst hkn
      have HF : Hid (l ++ zs.flatMap pz = L) := Lib.hid (by rw [HL.out, HN2.out, HNV.out, List.take_length])
      obtain ⟨V, cc, rfl, -⟩ := HO.out.form
      go_wp2
      go_ret
      rw [HF.out]
      exact ⟨V, cc, rfl, HO.out, HP.out, HQ.out, HA.out⟩
set_option maxHeartbeats 1000000 in
theorem sseal_any (base : Nat) (V : Option Addr) (n c : Nat) (l : List Nat) (w : World) (hn : l.length = n) (hown : OwM w base (.slice V n c) n (nb l)) (hl : ∀ x ∈ l, x < 256) (hz : n ≤ 140737488352000) (hb : base ≤ w.heap.size) :
    Calls Tryd.prog 64 #[.slice V n c] w (SealD base (sealL l) w) := by
  obtain ⟨i0, hi0, hz0, hz1, hz2⟩ := info_parts info_u8
  have HBS := Lib.hid (hown.bs hl)
  go_enter Tryd.func64, Tryd.ntmps64
  go_wp2_with fail
  refine (crc_any V n c l w _ HBS.out (by unfold maxLen; omega)).mono ?_
  rintro e w' ⟨rfl, rfl⟩
  have hcp := crc_parts l
  generalize hcr : ((crc l : Nat) : Int) = cr at hcp ⊢
  have HCP := Lib.hid hcp
  clear hcp hcr
  go_wp2_with (at_builtin; refine wpList_append_m _ rfl (.tmp 6) (.tmp 18) _ rfl base i0 Tryd.underlying22 hi0 hz0 hz1 hz2 _ n (nb l) rfl (hown.alloc _) (w.heap.size + 1) (some ⟨w.heap.size, 0, none⟩) 4 4 [.int .u8 (cr / 16777216 % 256), .int .u8 (cr / 65536 % 256), .int .u8 (cr / 256 % 256), .int .u8 (cr % 256)] (by decide) rfl (reads_lit w _ [_, _, _, _]) (by simp [Value.oneCell']) (by unfold maxLen; omega) (by omega) (by simp; omega) ?_; intro v1 w2 hown1 hg1)
  go_ret
  obtain ⟨V3, c3, rfl, hm3⟩ := own_form hown1
  have hnb : nb l ++ [.int .u8 (cr / 16777216 % 256), .int .u8 (cr / 65536 % 256), .int .u8 (cr / 256 % 256), .int .u8 (cr % 256)] = nb (sealL l) := by
    obtain ⟨e1, e2, e3, e4⟩ := HCP.out
    rw [e1, e2, e3, e4]
    unfold sealL
    rw [nb_append]
    rfl
  rw [hnb] at hown1
  have hlen : (sealL l).length = n + 4 := by rw [sealL_len, hn]
  refine ⟨V3, c3, by rw [hlen]; rfl, by rw [hlen]; exact hown1, NoB.append (by simp) (fun b hb => Below.heap_alloc w _ b hb) (hown.alloc _) hg1, ((Below.refl _ _).alloc hb _).trans ((hown.alloc _).below hg1 (by simp; omega))⟩
end Go.Proofs.YtinfeglhjmnlaaaDoor.pm
namespace Go.Proofs.YtinfeglhjmnlaaaDoor.pm
open Go.RowKit
set_option linter.unusedVariables false
set_option maxRecDepth 10000

/-- pointers to the first n operands of the instruction in block g -/
def ptrs (g n : Nat) : List Value := (List.range n).map fun k => Value.pointer (some ⟨g, k + 1, none⟩)
def OpsD (g n : Nat) (b : Bool) (w : World) (e : Ending) (w' : World) : Prop :=
  ∃ A c, e = .returned (.tuple #[.slice A n c, .bool b]) ∧ (n = 0 ∨ ∃ ad, A = some ⟨ad, 0, none⟩ ∧ Blk w' ad 94 (ptrs g n).toArray ∧ w.heap.size ≤ ad) ∧ Below w.heap.size w w'
theorem OpsD.two {g n m : Nat} {b b' : Bool} {w w' : World} {e : Ending} (h : OpsD g n b w e w') (h1 : n = m) (h2 : b = b') : OpsD g m b' w e w' := by subst h1 h2; exact h
end Go.Proofs.YtinfeglhjmnlaaaDoor.pm
namespace Go.Proofs.YtinfeglhjmnlaaaDoor.pm
open Go.RowKit
set_option linter.unusedVariables false
set_option maxRecDepth 10000

set_option maxHeartbeats 2000000 in
theorem sops_any (g : Nat) (o : Int) (w : World) (hc : w.cell? ⟨g, 0, none⟩ = some (.int .i64 o)) (hg : g < w.heap.size) :
    Calls Tryd.prog 94 #[.pointer (some ⟨g, 0, none⟩)] w (OpsD g (opS o) (immB o) w) := by
  by_cases h0 : o = 0
  · subst h0
    go_enter Tryd.func94, Tryd.ntmps94
    go_wp2
    go_ret2
    exact ⟨_, _, rfl, .inr ⟨_, rfl, Blk.new _ _ _, Nat.le_refl _⟩, (Below.refl _ _).alloc (Nat.le_refl _) _⟩
  by_cases h24 : o = 24
  · subst h24
    go_enter Tryd.func94, Tryd.ntmps94
    go_wp2
    go_ret2
    exact ⟨_, _, rfl, .inl rfl, Below.refl _ _⟩
  have b0 : (o == 0) = false := by rw [beq_eq_false_iff_ne]; exact h0
  have b24 : (o == 24) = false := by rw [beq_eq_false_iff_ne]; exact h24
  have HI : Hid (immB o = false) := Lib.hid (by unfold immB; rw [b0, b24]; rfl)
  by_cases h1 : o = 13 ∨ o = 14 ∨ o = 20 ∨ o = 22
  · have HN : Hid (opS o = 1) := Lib.hid (by unfold opS; rw [if_pos (by omega)])
    have key : Hid (OpsD g 1 false w (.returned (.tuple #[.slice (some ⟨w.heap.size, 0, none⟩) 1 1, .bool false])) (w.alloc (.cells #[.pointer (some ⟨g, 1, none⟩)] 94))) := Lib.hid ⟨_, _, rfl, .inr ⟨_, rfl, Blk.new _ _ _, Nat.le_refl _⟩, (Below.refl _ _).alloc (Nat.le_refl _) _⟩
    have HE := Lib.hid (fun (e : Ending) (w' : World) (h : OpsD g 1 false w e w') => (h.two HN.out.symm HI.out.symm : OpsD g (opS o) (immB o) w e w'))
    rcases h1 with rfl | rfl | rfl | rfl
    all_goals
      go_enter Tryd.func94, Tryd.ntmps94
      go_wp2
      go_ret2
      exact key.out
  by_cases h2 : o = 23
  · subst h2
    go_enter Tryd.func94, Tryd.ntmps94
    go_wp2
    go_ret2
    exact ⟨_, _, rfl, .inl rfl, Below.refl _ _⟩
  have b13 : (o == 13) = false := by rw [beq_eq_false_iff_ne]; omega
  have b14 : (o == 14) = false := by rw [beq_eq_false_iff_ne]; omega
  have b20 : (o == 20) = false := by rw [beq_eq_false_iff_ne]; omega
  have b22 : (o == 22) = false := by rw [beq_eq_false_iff_ne]; omega
  have b23 : (o == 23) = false := by rw [beq_eq_false_iff_ne]; omega
  by_cases h3 : 2 ≤ o ∧ o ≤ 11
  · have HN : Hid (opS o = 3) := Lib.hid (by unfold opS; rw [if_neg (by omega), if_neg (by omega), if_pos h3])
    have HE := Lib.hid (fun (e : Ending) (w' : World) (h : OpsD g 3 false w e w') => (h.two HN.out.symm HI.out.symm : OpsD g (opS o) (immB o) w e w'))
    obtain ⟨k1, k2⟩ := h3
    clear h0 h24 h1 h2 HN HI
    generalize opS o = nn at HE ⊢
    generalize immB o = ib at HE ⊢
    go_enter Tryd.func94, Tryd.ntmps94
    go_upto_region 6 with (fail)
    go_region_with (fail)
    go_wp2
    go_ret2
    exact HE.out _ _ ⟨_, _, rfl, .inr ⟨_, rfl, Blk.new _ _ _, Nat.le_refl _⟩, below_drewN ((Below.refl _ _).alloc (Nat.le_refl _) _) _⟩
  · have HN : Hid (opS o = 2) := Lib.hid (by unfold opS; rw [if_neg (by omega), if_neg (by omega), if_neg h3])
    have HE := Lib.hid (fun (e : Ending) (w' : World) (h : OpsD g 2 false w e w') => (h.two HN.out.symm HI.out.symm : OpsD g (opS o) (immB o) w e w'))
    by_cases h4 : 2 ≤ o
    · have h5 : ¬ o ≤ 11 := fun h => h3 ⟨h4, h⟩
      clear h0 h24 h1 h2 h3 HN HI
      generalize opS o = nn at HE ⊢
      generalize immB o = ib at HE ⊢
      go_enter Tryd.func94, Tryd.ntmps94
      go_upto_region 14 with (fail)
      go_region_with (fail)
      go_wp2
      go_ret2
      exact HE.out _ _ ⟨_, _, rfl, .inr ⟨_, rfl, Blk.new _ _ _, Nat.le_refl _⟩, below_drewN ((Below.refl _ _).alloc (Nat.le_refl _) _) _⟩
    · clear h0 h24 h1 h2 h3 HN HI
      generalize opS o = nn at HE ⊢
      generalize immB o = ib at HE ⊢
      go_enter Tryd.func94, Tryd.ntmps94
      go_upto_region 14 with (fail)
      go_region_with (fail)
      go_wp2
      go_ret2
      exact HE.out _ _ ⟨_, _, rfl, .inr ⟨_, rfl, Blk.new _ _ _, Nat.le_refl _⟩, below_drewN ((Below.refl _ _).alloc (Nat.le_refl _) _) _⟩
end Go.Proofs.YtinfeglhjmnlaaaDoor.pm
