/- Bytes of targets: the checksum behind bytes; the exponent of a power of two (math/bits, by its table). -/
import Derived.Test.YtinfeglhjmnlaaaDoorGCr
import Derived.Test.YtinfeglhjmnlaaaDoorGHb
import Derived.Test.YtinfeglhjmnlaaaDoorGHp
import Derived.StillTailTactics
namespace Go.Proofs.YtinfeglhjmnlaaaDoor.pm
open Go.RowKit
set_option linter.unusedVariables false
set_option maxRecDepth 10000

theorem reads_lit (w : World) (t : TypeId) (vs : List Value) : Reads (w.alloc (.cells vs.toArray t)) (w.heap.size + 1) 1 (some ⟨w.heap.size, 0, none⟩) vs.length vs := by
  refine ⟨by omega, fun _ => ⟨⟨w.heap.size, 0, none⟩, rfl, Nat.lt_succ_self _, fun j u hu => ?_⟩⟩
  have e : (⟨w.heap.size, 0, none⟩ : Addr).add j = ⟨w.heap.size, j, none⟩ := by rcases j with _ | j <;> simp [Addr.add]
  rw [e, (Blk.new w t vs.toArray).cell j]
  simpa using hu
/-- blocks that hold no bytes are kept -/
def NoB (w w' : World) : Prop := w.heap.size ≤ w'.heap.size ∧ ∀ b, b < w.heap.size → (∀ cs fr, w.heap[b]? ≠ some (.cells cs 5 fr)) → w'.heap[b]? = w.heap[b]?
theorem NoB.blk {w w' : World} {k : Nat} {t : TypeId} {cs : Array Value} (h : NoB w w') (hK : Blk w k t cs) (ht : t ≠ 5) : Blk w' k t cs :=
  (h.2 k hK.lt (fun cs' fr' e => by
    have hK' : w.heap[k]? = some (.cells cs t (0, 0)) := hK
    rw [hK'] at e
    injection e with e
    injection e with _ e _
    exact ht e)).trans hK
theorem NoB.append {w w1 w' : World} {base n : Nat} {o : Value} {xs : List Value} (hz : w.heap.size ≤ w1.heap.size) (h : ∀ b, b < w.heap.size → w1.heap[b]? = w.heap[b]?) (hown : OwM w1 base o n xs) (hg : w1.grownBy w' o.ownBlock) : NoB w w' :=
  ⟨Nat.le_trans hz hg.size, fun b hb hc => (hown.other hg b (by omega) (by rw [h b hb]; exact hc)).trans (h b hb)⟩
def SealD (base : Nat) (l : List Nat) (w : World) (e : Ending) (w' : World) : Prop :=
  ∃ V c, e = .returned (.slice V l.length c) ∧ w'.ownsRow base 5 1 (.slice V l.length c) l.length (nb l) ∧ NoB w w' ∧ Below base w w'
theorem crc_parts (l : List Nat) : (((crc l : Nat) : Int) / 16777216 % 256 = ((crc l / 16777216 % 256 : Nat) : Int)) ∧ (((crc l : Nat) : Int) / 65536 % 256 = ((crc l / 65536 % 256 : Nat) : Int)) ∧ (((crc l : Nat) : Int) / 256 % 256 = ((crc l / 256 % 256 : Nat) : Int)) ∧ (((crc l : Nat) : Int) % 256 = ((crc l % 256 : Nat) : Int)) := by
  refine ⟨?_, ?_, ?_, ?_⟩ <;> omega
set_option maxHeartbeats 1000000 in
theorem seal_any (base : Nat) (V : Option Addr) (n c : Nat) (l : List Nat) (w : World) (hn : l.length = n) (hown : OwM w base (.slice V n c) n (nb l)) (hl : ∀ x ∈ l, x < 256) (hz : n ≤ 140737488352000) (hb : base ≤ w.heap.size) :
    Calls Tryd.prog 56 #[.slice V n c] w (SealD base (sealL l) w) := by
  obtain ⟨i0, hi0, hz0, hz1, hz2⟩ := info_parts info_u8
  have HBS := Lib.hid (hown.bs hl)
  go_enter Tryd.func56, Tryd.ntmps56
  go_wp2_with fail
  refine (crc_any V n c l w _ HBS.out (by unfold maxLen; omega)).mono ?_
  rintro e w' ⟨rfl, rfl⟩
  have hcp := crc_parts l
  generalize hcr : ((crc l : Nat) : Int) = cr at hcp ⊢
  have HCP := Lib.hid hcp
  clear hcp hcr
  go_wp2_with (at_builtin; refine wpList_append_m _ rfl (.tmp 6) (.tmp 18) _ rfl base i0 Tryd.underlying22 hi0 hz0 hz1 hz2 _ n (nb l) rfl (hown.alloc _) (w.heap.size + 1) (some ⟨w.heap.size, 0, none⟩) 4 4 [.int .u8 (cr / 16777216 % 256), .int .u8 (cr / 65536 % 256), .int .u8 (cr / 256 % 256), .int .u8 (cr % 256)] (by decide) rfl (reads_lit w _ [_, _, _, _]) (by simp [Value.oneCell']) (by unfold maxLen; omega) (by omega) (by simp; omega) ?_; intro v1 w2 hown1 hg1)
  go_ret
  obtain ⟨V3, c3, rfl, hm3⟩ := own_form hown1
  have hnb : nb l ++ [.int .u8 (cr / 16777216 % 256), .int .u8 (cr / 65536 % 256), .int .u8 (cr / 256 % 256), .int .u8 (cr % 256)] = nb (sealL l) := by
    obtain ⟨e1, e2, e3, e4⟩ := HCP.out
    rw [e1, e2, e3, e4]
    unfold sealL
    rw [nb_append]
    rfl
  rw [hnb] at hown1
  have hlen : (sealL l).length = n + 4 := by rw [sealL_len, hn]
  refine ⟨V3, c3, by rw [hlen]; rfl, by rw [hlen]; exact hown1, NoB.append (by simp) (fun b hb => Below.heap_alloc w _ b hb) (hown.alloc _) hg1, ((Below.refl _ _).alloc hb _).trans ((hown.alloc _).below hg1 (by simp; omega))⟩

def dt64 : List Nat := [0, 1, 56, 2, 57, 49, 28, 3, 61, 58, 42, 50, 38, 29, 17, 4, 62, 47, 59, 36, 45, 43, 51, 22, 53, 39, 33, 30, 24, 18, 12, 5, 63, 55, 48, 27, 60, 41, 37, 16, 46, 35, 44, 21, 52, 32, 23, 11, 54, 26, 40, 15, 34, 20, 31, 10, 25, 14, 19, 9, 13, 8, 7, 6]
/-- the table of math/bits lies in memory -/
def Dt (w : World) : Prop := 1 < w.heap.size ∧ ∀ k, k < 64 → w.cell? ⟨1, k, none⟩ = some (.int .u8 ((dt64.getD k 0 : Nat) : Int))
theorem Dt.keep {w w' : World} (h : Dt w) (hk : Kp 0 (1 + 1) w w') (hs : w.heap.size ≤ w'.heap.size) : Dt w' := ⟨by have := h.1; omega, fun k hk' => by
  rw [World.cell?_of_block (hk 1 (by omega) (by omega))]; exact h.2 k hk'⟩
theorem Dt.below {w w' : World} {B : Nat} (h : Dt w) (hb : Below B w w') (hB : 1 < B) : Dt w' := h.keep (fun b _ h2 => hb.block b (by omega)) hb.size
theorem Dt.drewN {w : World} (h : Dt w) (k : Nat) : Dt (w.drewN k) := h
def dix (k : Nat) : Nat := 2 ^ k * 285870213051353865 % 18446744073709551616 / 288230376151711744
theorem tz_facts : ∀ k, k < 25 → ((((2 ^ k : Nat) : Int) == 0) = false ∧ bits .and .u64 ((2 ^ k : Nat) : Int) (IntKind.u64.wrap (-((2 ^ k : Nat) : Int))) = ((2 ^ k : Nat) : Int) ∧
    IntKind.u64.wrap (((2 ^ k : Nat) : Int) * 285870213051353865) / 288230376151711744 = ((dix k : Nat) : Int) ∧ dix k < 64 ∧ dt64.getD (dix k) 0 = k) := by decide +kernel
set_option maxHeartbeats 1000000 in
theorem tz_core (k i : Nat) (x : Int) (hk : (k : Int) < 25) (w : World) (h0 : (x == 0) = false) (h1 : bits .and .u64 x (IntKind.u64.wrap (-x)) = x) (h2 : IntKind.u64.wrap (x * 285870213051353865) / 288230376151711744 = (i : Int)) (hi1 : (i : Int) < 64)
    (hT1 : 1 < w.heap.size) (hc : w.cell? ⟨1, i, none⟩ = some (.int .u8 (k : Int))) :
    Calls Tryd.prog 83 #[.int .u64 x] w fun e w' => e = .returned (.int .i64 (k : Int)) ∧ w = w' := by
  have hi0 : (0 : Int) ≤ (i : Int) := by omega
  have hw : wrap64 (k : Int) = (k : Int) := IntWalk.wrap64_in _ ⟨by omega, by omega⟩
  clear hk
  go_enter Tryd.func83, Tryd.ntmps83
  go_wp2
  go_ret
  exact ⟨ret_int (by simp [hw]), rfl⟩
theorem tz_any (k : Nat) (hk : k < 25) (w : World) (hT : Dt w) :
    Calls Tryd.prog 46 #[.int .u64 ((2 ^ k : Nat) : Int)] w fun e w' => e = .returned (.int .i64 (k : Int)) ∧ w = w' := by
  obtain ⟨h0, h1, h2, h3, h4⟩ := tz_facts k hk
  have hc := hT.2 _ h3
  rw [h4] at hc
  have h := tz_core k (dix k) _ (by omega) w h0 h1 h2 (by omega) hT.1 hc
  generalize ((2 ^ k : Nat) : Int) = x at h ⊢
  clear h0 h1 h2 h3 h4 hc
  go_enter Tryd.func46, Tryd.ntmps46
  go_wp2_with fail
  refine h.mono ?_
  rintro e w' ⟨rfl, rfl⟩
  go_wp2
  go_ret
  exact ⟨rfl, rfl⟩
end Go.Proofs.YtinfeglhjmnlaaaDoor.pm
