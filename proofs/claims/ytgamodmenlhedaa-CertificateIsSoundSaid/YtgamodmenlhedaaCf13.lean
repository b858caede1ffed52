/- The program's iterator needs: its contract. -/
import Derived.Test.YtgamodmenlhedaaCf12
import Derived.Test.YtgamodmenlhedaaZq
namespace Go.Proofs.Ytgamodmenlhedaa.cf
open Go.RowKit Go.Shelf
set_option linter.unusedVariables false
set_option maxRecDepth 10000
attribute [local go_sem] Oper.semAt_some

/-- what a round keeps: the cells of all blocks below n₁ but B -/
def KpB (n₁ B : Nat) (W W' : World) : Prop := ∀ p : Addr, p.block < n₁ → p.block ≠ B → W'.cell? p = W.cell? p
theorem kpB_t {n₁ B : Nat} {X Y Z : World} (h : KpB n₁ B X Y) (k : KpB n₁ B Y Z) : KpB n₁ B X Z := fun p h1 h2 => (k p h1 h2).trans (h p h1 h2)
theorem kpB_b {n₁ B : Nat} {w : World} (hn : n₁ ≤ w.heap.size) (W : World) (l : Nat) (o o' : Obj) (hl : w.heap.size ≤ l) (h : W.heap[l]? = some o) (_ : o.isCells = false) (_ : o.isWalk = false) : KpB n₁ B W (W.putObj l o') :=
  fun p h1 _ => World.cell?_of_block ((grownBy_putObj' W l o').block p.block (by have := (Array.getElem?_eq_some_iff.1 h).1; omega) (fun e => by injection e; omega))
/-- what comes: 0 and the numbers of the functions that are called -/
def needVals (g : List (List Int)) (c : List Int) (i : Nat) : List Int := 0 :: (nx g i).map fun j => c.getD j.toNat 0

theorem needs_any (Ag Ac : Option Addr) (ng cg nc cc : Nat) (i : Int) (w : World) :
    Calls Try.prog 51 #[.slice Ag ng cg, .slice Ac nc cc, .int .i64 i] w fun e w' =>
      e = .returned (.func (.func 83) #[] #[.pointer (some ⟨w.heap.size, 0, none⟩), .pointer (some ⟨w.heap.size + 1 + 1, 0, none⟩), .pointer (some ⟨w.heap.size + 1, 0, none⟩)]) ∧
      w' = ((w.alloc (.cells #[.slice Ag ng cg] 23)).alloc (.cells #[.slice Ac nc cc] 24)).alloc (.cells #[.int .i64 i] 3) := by
  go_enter Try.func51, Try.ntmps51
  go_wp2
  go_ret
  exact ⟨rfl, rfl⟩

set_option maxRecDepth 100000 in
set_option maxHeartbeats 4000000 in
theorem needs_stops (F : Fence) (n : Nat) (h83 : F.fn 83) (hro : F.round = none) (hn : 1 ≤ n) (n₁ B bg bi bc : Nat) (Ag Ac : Option Addr) (ng cg nc cc i : Nat) (g : List (List Int)) (c : List Int) (V w : World)
    (hG : Gz V Ag ng g) (hC : Iz V Ac nc c) (hgr : GrOk g) (hnc : nc = ng) (hi : i < ng) (hVB : V.heap.size ≤ B) (hVn : V.heap.size ≤ n₁) (hn₁ : n₁ ≤ w.heap.size) (hwV : ∀ p : Addr, p.block < V.heap.size → w.cell? p = V.cell? p)
    (bg1 : bg < n₁) (bg2 : bg ≠ B) (cg1 : w.cell? ⟨bg, 0, none⟩ = some (.slice Ag ng cg))
    (bi1 : bi < n₁) (bi2 : bi ≠ B) (ci1 : w.cell? ⟨bi, 0, none⟩ = some (.int .i64 i))
    (bc1 : bc < n₁) (bc2 : bc ≠ B) (cc1 : w.cell? ⟨bc, 0, none⟩ = some (.slice Ac nc cc)) :
    SeqStopsK F n Try.prog 83 #[.pointer (some ⟨bg, 0, none⟩), .pointer (some ⟨bi, 0, none⟩), .pointer (some ⟨bc, 0, none⟩)] (fun x : Int => #[Value.int .i64 x]) (KpB n₁ B)
      (fun ys => ys = needVals g c i) (fun pre => pre <+: needVals g c i) (needVals g c i).length w := fun l J Jx W hW _ _ hY0 h0 => by
  obtain ⟨ag, A', n', c', rfl, hbl, hcl, hr, hm, hcap⟩ := hG.at_ hi
  unfold maxLen at hm
  have hng : ng ≤ 80 := by have := hgr.2.1; rw [hG.len] at this; exact this
  have HY := Lib.hid hY0
  have HRL := Lib.hid hr.len
  have HR := Lib.hid (show Iz V A' n' (nx g i) from hr)
  have HC := Lib.hid hC
  have HVAL : Hid (∀ k, k < n' → ∃ j : Nat, (nx g i).getD k 0 = (j : Int) ∧ j < nc) := Lib.hid (fun k hk => by
    have := grOk_lt hgr i (by rw [hG.len]; exact hi) k (by show k < (g.getD i []).length; rw [HRL.out]; exact hk)
    rw [hG.len] at this
    exact ⟨((nx g i).getD k 0).toNat, by omega, by omega⟩)
  have HLEN : Hid ((needVals g c i).length = n' + 1) := Lib.hid (by unfold needVals; simp; exact HRL.out)
  have HTAKE : Hid (∀ k j : Nat, k < n' → (nx g i).getD k 0 = (j : Int) → (needVals g c i).take (k + 1 + 1) = (needVals g c i).take (k + 1) ++ [c.getD j 0]) := Lib.hid (fun k j hk hj => by
    rw [take_snoc_getD (by rw [HLEN.out]; omega)]
    congr 2
    unfold needVals
    rw [List.getD_cons_succ, List.getD_eq_getElem?_getD, List.getElem?_map]
    have hk' : k < (nx g i).length := by have := HRL.out; show k < (g.getD i []).length; omega
    rw [List.getElem?_eq_getElem hk']
    rw [List.getD_eq_getElem?_getD, List.getElem?_eq_getElem hk'] at hj
    simp only [Option.getD_some] at hj
    simp [hj])
  have HV : Hid (∀ p : Addr, p.block < V.heap.size → W.cell? p = V.cell? p) := Lib.hid (fun p hp => (hW.cell (by omega)).trans (hwV p hp))
  have HKV : Hid (∀ W1 W2 : World, (∀ p : Addr, p.block < V.heap.size → W1.cell? p = V.cell? p) → KpB n₁ B W1 W2 → ∀ p : Addr, p.block < V.heap.size → W2.cell? p = V.cell? p) := Lib.hid (fun W1 W2 h k p hp => (k p (by omega) (by omega)).trans (h p hp))
  have cg2 := (hW.cell (p := ⟨bg, 0, none⟩) (show bg < w.heap.size by omega)).trans cg1
  have ci2 := (hW.cell (p := ⟨bi, 0, none⟩) (show bi < w.heap.size by omega)).trans ci1
  have cc2 := (hW.cell (p := ⟨bc, 0, none⟩) (show bc < w.heap.size by omega)).trans cc1
  have hlen : (needVals g c i).length ≤ n' + 1 := by rw [HLEN.out]; exact Nat.le_refl _
  obtain ⟨fn, tmps, assign, body, hy, hR0⟩ := HY.out [] 0 W h0 (by rw [HLEN.out]; simp)
  have hi0 : (0 : Int) ≤ (i : Int) := by omega
  have hi1 : (i : Int) < (ng : Int) := by omega
  have HCL := Lib.hid hcl
  have HP0 : Hid (([] ++ [0] : List Int) = (needVals g c i).take 1) := Lib.hid rfl
  have HF : Hid (∀ k, ¬ k < n' → (needVals g c i).take (k + 1) = needVals g c i) := Lib.hid (fun k hk => List.take_of_length_le (by rw [HLEN.out]; omega))
  clear hr hC hG hgr hY0 hwV hcl cg1 ci1 cc1 hlen
  refine callsIn_of_wp Try.func83 rfl h83 ?_ hro
  simp only [Try.ntmps83, List.size_toArray, List.length_cons, List.length_nil, Nat.reduceAdd, Nat.reduceSub, Array.replicate_succ, Array.replicate_zero, List.push_toArray, List.append_toArray, List.nil_append, List.cons_append]
  gi_wp2
  refine hR0.mono ?_
  rintro e W3 (⟨rfl, hJ3, hk3⟩ | ⟨rfl, hJx3⟩)
  · have HV3 : Hid (∀ p : Addr, p.block < V.heap.size → W3.cell? p = V.cell? p) := Lib.hid (HKV.out _ _ HV.out hk3)
    have cg3 := (hk3 ⟨bg, 0, none⟩ bg1 bg2).trans cg2
    have ci3 := (hk3 ⟨bi, 0, none⟩ bi1 bi2).trans ci2
    have cc3 := (hk3 ⟨bc, 0, none⟩ bc1 bc2).trans cc2
    have cr3 := (HV3.out (ag.add i) (by rw [block_of_add]; exact hbl)).trans HCL.out
    have HK3 := Lib.hid hk3
    have HJ3 := Lib.hid hJ3
    clear hk3 hJ3
    gi_wp2
    gi_loopw [15] (fun x wr => ∃ (k : Nat) (pre : List Int), k ≤ n' ∧ x = .int .i64 k ∧ Hid (pre = (needVals g c i).take (k + 1)) ∧ Hid (J pre wr) ∧ Hid (KpB n₁ B W3 wr)) (fun x _ => n' - (intOf x).toNat)
    case atStart => exact ⟨0, _, by omega, rfl, HP0, HJ3, Lib.hid (fun p _ _ => rfl)⟩
    case round =>
      obtain ⟨k, pre, hk, rfl, HPRE, HJ, HKW⟩ := hrel
      have hk0 : (0 : Int) ≤ (k : Int) := by omega
      by_cases hlt : k < n'
      · have hki : (k : Int) < (n' : Int) := by omega
        have HVW : Hid (∀ p : Addr, p.block < V.heap.size → wr.cell? p = V.cell? p) := Lib.hid (HKV.out _ _ HV3.out HKW.out)
        obtain ⟨ar, rfl, hab, car⟩ := HR.out.at_ hlt
        obtain ⟨j, hj, hj'⟩ := HVAL.out k hlt
        rw [hj] at car
        obtain ⟨ac, rfl, hacb, cac⟩ := HC.out.at_ hj'
        have car' := (HVW.out (ar.add k) (by rw [block_of_add]; exact hab)).trans car
        have cac' := (HVW.out (ac.add j) (by rw [block_of_add]; exact hacb)).trans cac
        have cc4 := (HKW.out ⟨bc, 0, none⟩ bc1 bc2).trans cc3
        have HNX := Lib.hid (HTAKE.out k j hlt hj)
        have hj0 : (0 : Int) ≤ (j : Int) := by omega
        have hj1 : (j : Int) < (nc : Int) := by omega
        clear hj car cac
        obtain ⟨y, hy2⟩ : ∃ y, y = c.getD j 0 := ⟨_, rfl⟩
        rw [← hy2] at cac' HNX
        clear hy2
        obtain ⟨fn2, tmps2, assign2, body2, hy3, hR2⟩ := HY.out pre y wr HJ.out (by rw [HPRE.out, List.length_take, HLEN.out]; omega)
        clear hy
        gi_wp2
        refine hR2.mono ?_
        rintro e W4 (⟨rfl, hJ4, hk4⟩ | ⟨rfl, hJx4⟩)
        · have HPN : Hid (pre ++ [y] = (needVals g c i).take (k + 1 + 1)) := Lib.hid (by rw [HNX.out, HPRE.out])
          gi_wp2
          go_roundw
          case rel => exact ⟨k + 1, pre ++ [y], by omega, by go_num, HPN, Lib.hid hJ4, Lib.hid (kpB_t HKW.out hk4)⟩
          case measure => simp [intOf]; omega
        · have HPN : Hid (pre ++ [y] <+: needVals g c i) := Lib.hid (by rw [HPRE.out, ← HNX.out]; exact List.take_prefix _ _)
          gi_wp2
          refine bodyPost_ret (results_none rfl _ _ _) rfl ?_
          exact ⟨⟨_, rfl⟩, .inr ⟨_, HPN.out, hJx4⟩⟩
      · have HD := Lib.hid (HF.out k hlt)
        gi_wp2
        go_end0
        exact ⟨⟨_, rfl⟩, .inl ⟨_, rfl, by rw [← HD.out, ← HPRE.out]; exact HJ.out⟩⟩
  · gi_wp2
    refine bodyPost_ret (results_none rfl _ _ _) rfl ?_
    exact ⟨⟨_, rfl⟩, .inr ⟨_, by rw [HP0.out]; exact List.take_prefix _ _, hJx3⟩⟩
end Go.Proofs.Ytgamodmenlhedaa.cf
