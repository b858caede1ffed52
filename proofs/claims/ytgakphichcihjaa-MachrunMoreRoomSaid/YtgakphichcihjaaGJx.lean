/- The sanity check of chapter 10's statements. -/
import Derived.Test.YtgakphichcihjaaGBa
import Derived.Test.YtgakphichcihjaaGJn
import Derived.Test.YtgakphichcihjaaJy
import Derived.Test.YtgakphichcihjaaGJv
namespace Go.Proofs.Ytgakphichcihjaa.pm
open Go.RowKit
set_option linter.unusedVariables false
theorem awake10_reads (w : World) :
    Calls Try.prog 19 #[.agg #[.int .i64 0, .int .i64 0, .slice none 0 0], .agg #[.int .i64 15, .int .i64 0, .int .i64 8, .int .i64 4, .int .u64 0]] w fun e w' =>
      e = .returned (.tuple #[.agg #[.int .i64 8, .int .i64 4], .bool true]) ∧ Below w.heap.size w w' := by
  go_enter Try.func19, Try.ntmps19
  go_wp2
  all_goals go_returns
  all_goals exact ⟨rfl, by go_grown⟩
theorem awake10 (w : World) : Calls Try.prog 10 #[] w fun e w' => e = .returned (.bool true) ∧ Below w.heap.size w w' := by
  go_enter Try.func10, Try.ntmps10
  go_wp2
  go_ret
  exact ⟨rfl, by go_grown⟩
end Go.Proofs.Ytgakphichcihjaa.pm
namespace Go.Proofs.Ytgakphichcihjaa.pm
open Go.RowKit
set_option linter.unusedVariables false
set_option maxRecDepth 10000
theorem reads_of_blk {w : World} {g : Nat} {t : TypeId} {cs : Array Value} {n size : Nat} (h : Blk w g t cs) (hl : cs.size = n * size) : Reads w w.heap.size size (some ⟨g, 0, none⟩) n cs.toList :=
  ⟨by rw [Array.length_toList, hl], fun _ => ⟨⟨g, 0, none⟩, rfl, h.lt, fun j u hu => by
    have e : (⟨g, 0, none⟩ : Addr).add j = ⟨g, j, none⟩ := by unfold Addr.add; by_cases hj : j = 0 <;> simp [hj]
    rw [e, Blk.cell h j]
    rw [Array.getElem?_toList] at hu
    exact hu⟩⟩
theorem inx_nil (w : World) (B : Nat) : InX w B (.slice none 0 0) [] := ⟨none, 0, rfl, by simp, by simp, Rx.nil _ _ _ _⟩
theorem nx_blk {w : World} {g : Nat} {code : List Ins} (h1 : Blk w g 45 (inV code).toArray) : Nx w 0 w.heap.size (some ⟨g, 0, none⟩) code := by
  have := reads_of_blk (n := code.length) (size := 5) h1 (by rw [List.size_toArray]; exact flat_len icells_len code)
  exact Rx.of_reads (by simpa using this)
def awT : List Fr := [⟨0, 16, [⟨0, 0, 0, 0, 5⟩, ⟨23, 0, 0, 0, 0⟩]⟩]
theorem awT_E : tgE 16 awT = 0 := by kernel_rfl
theorem awT_rt : RT 16 awT := tgE_gt awT_E ⟨by unfold I64; decide, fun f hf => by
    obtain rfl : f = ⟨0, 16, [⟨0, 0, 0, 0, 5⟩, ⟨23, 0, 0, 0, 0⟩]⟩ := by simpa [awT] using hf
    refine ⟨by unfold I64; decide, by unfold I64; decide, fun x hx => ?_⟩
    have : x = ⟨0, 0, 0, 0, 5⟩ ∨ x = ⟨23, 0, 0, 0, 0⟩ := by simpa using hx
    rcases this with rfl | rfl <;> (unfold InR I64; decide)⟩ fun i hi x hx => by
    obtain rfl : i = 0 := by simpa [awT] using hi
    have : x = ⟨0, 0, 0, 0, 5⟩ ∨ x = ⟨23, 0, 0, 0, 0⟩ := by simpa [awT] using hx
    rcases this with rfl | rfl <;> decide
theorem aw_run : outV (runX awT 9 (9 + 2) (startX awT [] 16 (tpOf 16 16) 9)) = fun At ct => .agg #[.int .i64 0, .int .u64 0, .int .u64 5, .int .u64 0, .slice At 0 ct, .int .i64 2] := by kernel_rfl
theorem aw_tr : (runX awT 9 (9 + 2) (startX awT [] 16 (tpOf 16 16) 9)).trace = [] := by kernel_rfl
set_option maxHeartbeats 1000000 in
theorem awake12 (w : World) : Calls Try.prog 21 #[] w fun e w' => e = .returned (.bool true) ∧ Below w.heap.size w w' := by
  obtain ⟨W1, hW1⟩ : ∃ W1, W1 = (w.alloc (.cells #[.int .i64 0, .int .i64 0, .int .i64 0, .int .i64 0, .int .u64 5, .int .i64 23, .int .i64 0, .int .i64 0, .int .i64 0, .int .u64 0] 45)).alloc (.cells #[.int .i64 0, .int .i64 16, .slice (some ⟨w.heap.size, 0, none⟩) 2 2] 38) := ⟨_, rfl⟩
  have hB1 : Below w.heap.size w W1 := by rw [hW1]; exact ((Below.refl _ _).alloc (Nat.le_refl _) _).alloc (by simp) _
  have h1 : Blk W1 w.heap.size 45 (inV [⟨0, 0, 0, 0, 5⟩, ⟨23, 0, 0, 0, 0⟩]).toArray := by rw [hW1]; exact (Blk.new _ _ _).alloc _
  have h2 : Blk W1 (w.heap.size + 1) 38 #[.int .i64 0, .int .i64 16, .slice (some ⟨w.heap.size, 0, none⟩) 2 2] := by rw [hW1]; exact Blk.newAt (by simp)
  have hg : Gx W1 0 W1.heap.size (some ⟨w.heap.size + 1, 0, none⟩) awT := by
    have hr := reads_of_blk (n := 1) (size := 3) h2 rfl
    refine ⟨_, Rx.of_reads hr, fun i hi => ?_⟩
    obtain rfl : i = 0 := by simpa [awT] using hi
    exact ⟨some ⟨w.heap.size, 0, none⟩, 2, rfl, rfl, rfl, nx_blk h1, (by show 2 ≤ maxLen; decide), (by show 2 ≤ 2; decide)⟩
  have HO := Lib.hid (out_x ⟨w.heap.size + 1, 0, none⟩ awT 1 16 (.slice none 0 0) [] 9 16 (by omega) (by omega) awT_rt awT_E W1 hg (inx_nil _ _) (fun v hv => by cases hv))
  have HB1 := Lib.hid hB1
  have hs1 := hB1.size
  have HW1 := Lib.hid hW1
  clear hW1 hB1 h1 h2 hg
  go_enter Try.func21, Try.ntmps21
  go_wp2_with fail
  rw [← HW1.out]
  refine HO.out.mono ?_
  rintro e w2 ⟨At, ct, rfl, b2, -⟩
  have HB2 : Hid (Below w.heap.size w w2) := Lib.hid (HB1.out.trans (b2.mono hs1))
  rw [aw_run]
  have hs2 := HB2.out.size
  clear b2 HO
  go_wp2
  go_ret
  exact ⟨ret_bool (by decide), HB2.out.alloc hs2 _⟩
end Go.Proofs.Ytgakphichcihjaa.pm
namespace Go.Proofs.Ytgakphichcihjaa.pm
open Go.RowKit
set_option linter.unusedVariables false
set_option maxRecDepth 10000
theorem run_o {p : List Fr} {al : Int} (hp : RT al p) (hE : tgE al p = 0) (ad : Addr) (cp : Nat) (iv : Value) (inp : List Nat) (hi : ∀ v ∈ inp, v < 18446744073709551616) (F size : Nat) (hF : F ≤ 100000) (hs : size ≤ 1048576) (w : World) (hg : Gx w 0 w.heap.size (some ad) p) (hin : InX w w.heap.size iv inp) :
    Calls Try.prog 23 #[.agg #[.int .i64 al, .slice (some ad) p.length cp], iv, .int .i64 (F : Int), .int .i64 (size : Int)] w (OutD (endX p inp size (tpOf al size) F) w) := by
  rw [← run_end]
  exact out_x ad p cp al iv inp F size hF hs hp hE w hg hin hi
theorem deep_o {p : List Fr} {al : Int} (hp : RT al p) (hE : tgE al p = 0) (ad : Addr) (cp : Nat) (iv : Value) (inp : List Nat) (hi : ∀ v ∈ inp, v < 18446744073709551616) (F size : Nat) (hF : F ≤ 100000) (hs : size ≤ 1048576) (w : World) (hg : Gx w 0 w.heap.size (some ad) p) (hin : InX w w.heap.size iv inp) :
    Calls Try.prog 26 #[.agg #[.int .i64 al, .slice (some ad) p.length cp], iv, .int .i64 (F : Int), .int .i64 (size : Int)] w (DepD (endX p inp size (tpOf al size) F) w) := by
  rw [← run_end]
  exact depth_x ad p cp al iv inp F size hF hs hp hE w hg hin hi
theorem ocO_v (m : Mx) (At : Option Addr) (ct : Nat) : outV m At ct = .agg (ocs (ocO m) At ct) := by
  unfold outV ocs ocO
  rw [List.length_map]
theorem Gx.ad {w : World} {lo hi : Nat} {A : Option Addr} {p : List Fr} (h : Gx w lo hi A p) (hp : 1 ≤ p.length) : ∃ ad, A = some ad := by
  obtain ⟨ad, -, -, e, -⟩ := h.whole hp
  exact ⟨ad, e⟩
end Go.Proofs.Ytgakphichcihjaa.pm
