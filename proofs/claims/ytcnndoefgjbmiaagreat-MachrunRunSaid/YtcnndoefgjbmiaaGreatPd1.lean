/- The draws Slot and Slots. -/
import Derived.Test.YtcnndoefgjbmiaaGreatGPm
set_option linter.unusedVariables false
set_option maxRecDepth 10000
set_option maxHeartbeats 8000000
namespace Go.Proofs.YtcnndoefgjbmiaaGreat.pm
open Go.RowKit
attribute [local go_sem ↓] Go.wp_at_zero Go.wp_at_succ
theorem gcell {W W' : World} {g : Nat} (hg : W.grownBy W' (some g)) : (∀ b o, b < W.heap.size → ¬ (b = g) → W'.cell? ⟨b, o, none⟩ = W.cell? ⟨b, o, none⟩) ∧ (∀ b o, b < W.heap.size → ¬ (b = g) → W'.frozen? ⟨b, o, none⟩ = W.frozen? ⟨b, o, none⟩) :=
 ⟨fun b o h hn => World.cell?_of_block (hg.block b h (fun e => hn (by injection e))), fun b o h hn => World.frozen?_of_block (hg.block b h (fun e => hn (by injection e)))⟩
theorem CodesAt.dr {w : World} {B g n c p : Nat} {A : Option Addr} {l : List Nat} (h : CodesAt w B g A n c l p) : CodesAt w.drew B g A n c l p := h
theorem grownBy_dr {a b : World} {g : Nat} (h : a.grownBy b (some g)) : a.grownBy b.drew (some g) := grownBy_trans h (grownBy_drewN' b 1 _)
theorem some_ne {a b : Nat} (h : ¬ a = b) : some a ≠ some b := fun e => h (by injection e)
theorem slot7 (k : Nat) (hk : k < 7) : ∃ s : Int, (#[Value.int .i64 8, Value.int .i64 4, Value.int .i64 8, Value.int .i64 1, Value.int .i64 2, Value.int .i64 16, Value.int .i64 8] : Array Value)[k]? = some (.int .i64 s) ∧ (s = 8 ∨ s = 4 ∨ s = 1 ∨ s = 2 ∨ s = 16) := by
 have h : k = 0 ∨ k = 1 ∨ k = 2 ∨ k = 3 ∨ k = 4 ∨ k = 5 ∨ k = 6 := by omega
 rcases h with rfl | rfl | rfl | rfl | rfl | rfl | rfl <;> exact ⟨_, rfl, by omega⟩
theorem slot8 (k : Nat) (hk : k < 8) : ∃ s : Int, (#[Value.int .i64 8, Value.int .i64 4, Value.int .i64 1, Value.int .i64 8, Value.int .i64 16, Value.int .i64 2, Value.int .i64 32, Value.int .i64 64] : Array Value)[k]? = some (.int .i64 s) ∧ (s = 8 ∨ s = 4 ∨ s = 1 ∨ s = 16 ∨ s = 2 ∨ s = 32 ∨ s = 64) := by
 have h : k = 0 ∨ k = 1 ∨ k = 2 ∨ k = 3 ∨ k = 4 ∨ k = 5 ∨ k = 6 ∨ k = 7 := by omega
 rcases h with rfl | rfl | rfl | rfl | rfl | rfl | rfl | rfl <;> exact ⟨_, rfl, by omega⟩
def SlotD (B cb : Nat) (A : Option Addr) (n c : Nat) (l : List Nat) (w : World) (e : Ending) (w' : World) : Prop :=
 ∃ (s z : Int) (p' : Nat), SlotOk (s, z) ∧ e = .returned (.agg #[.int .i64 s, .int .i64 z]) ∧ CodesAt w' B cb A n c l p' ∧ w.grownBy w' (some cb)
theorem slot_d (B cb : Nat) (A : Option Addr) (n c : Nat) (l : List Nat) (p : Nat) (w : World) (h : CodesAt w B cb A n c l p) :
 Calls Tryz.prog 86 #[.pointer (some ⟨cb, 0, none⟩)] w (SlotD B cb A n c l w) := by
 have HC := hQ h
 have hlt := h.1.lt
 have hB := h.2.2.2.1
 clear h
 have n0 : ¬ (w.heap.size = cb) := by omega
 have n1 : ¬ (w.heap.size + 1 = cb) := by omega
 have n2 : ¬ (w.heap.size + 1 + 1 = cb) := by omega
 go_enter Tryz.func86, Tryz.ntmps86
 go_upto_region 1 with (fail)
 go_cut [] (fun wx => ∃ (s z : Int) (p' : Nat), Hid (SlotOk (s, z)) ∧ Hid (Blk wx w.heap.size 134 #[.int .i64 s, .int .i64 z]) ∧ Hid (CodesAt wx B cb A n c l p') ∧ Hid (w.grownBy wx (some cb)))
 case first =>
  go_region_with (first
   | (go_at_call 7; have Q5 := HC5; refine Calls.mono (next_d B cb A n c l p5 8 _ ?_ (by omega) (by omega)) ?_; (with_reducible first | exact HC5.out | exact CodesAt.alloc HC5.out _ | exact CodesAt.alloc (CodesAt.alloc HC5.out _) _); rintro e w6 ⟨v6, p6, hv6, rfl, c6, g6⟩; have HC6 := hQ c6; have HG6 : Hid (w.grownBy w6 (some cb)) := hQ (by with_reducible first | exact grownBy_trans HG5.out g6 | exact grownBy_trans (grownBy_al HG5.out _) g6 | exact grownBy_trans (grownBy_al (grownBy_al HG5.out _) _) g6); have KR6 : Hid (Blk w6 w.heap.size 134 #[.int .i64 0, .int .i64 0]) := hQ (by with_reducible first | exact Blk.grown KR5.out g6 (some_ne n0) | exact Blk.grown (Blk.alloc KR5.out _) g6 (some_ne n0) | exact Blk.grown (Blk.alloc (Blk.alloc KR5.out _) _) g6 (some_ne n0)); obtain ⟨hc6, hf6⟩ := gcell g6; have zz6 := g6.size; (try simp at zz6); have k60 : (0 : Int) ≤ (v6 : Int) := (by omega); have k61 : (v6 : Int) < 8 := (by omega); obtain ⟨z8, he6, hz8⟩ := slot8 v6 (by omega); have HZ8 := hQ hz8; have m60 : w.heap.size < w6.heap.size := (by omega); (try (have m63 : w.heap.size + 1 < w6.heap.size := (by omega))); (try (have m64 : w.heap.size + 1 + 1 < w6.heap.size := (by omega))); (try (have m61 : w5.heap.size < w6.heap.size := (by omega))); (try (have m62 : w5.heap.size + 1 < w6.heap.size := (by omega))); have n60 : ¬ (w6.heap.size = cb) := (by omega); have n61 : ¬ (w6.heap.size + 1 = cb) := (by omega); clear c6 hv6 hz8)
   | (go_at_call 7; (fail_if_success have Q5 := HC5); refine Calls.mono (next_d B cb A n c l p 7 _ ?_ (by omega) (by omega)) ?_; (with_reducible first | exact CodesAt.dr (CodesAt.alloc HC.out _) | exact CodesAt.dr (CodesAt.alloc (CodesAt.alloc HC.out _) _) | exact CodesAt.dr (CodesAt.alloc (CodesAt.alloc (CodesAt.alloc HC.out _) _) _)); rintro e w5 ⟨v5, p5, hv5, rfl, c5, g5⟩; have HC5 := hQ c5; have HG5 : Hid (w.grownBy w5 (some cb)) := hQ (by with_reducible first | exact grownBy_trans (grownBy_dr (grownBy_al (World.grownBy.refl _ _) _)) g5 | exact grownBy_trans (grownBy_dr (grownBy_al (grownBy_al (World.grownBy.refl _ _) _) _)) g5 | exact grownBy_trans (grownBy_dr (grownBy_al (grownBy_al (grownBy_al (World.grownBy.refl _ _) _) _) _)) g5); have KR5 : Hid (Blk w5 w.heap.size 134 #[.int .i64 0, .int .i64 0]) := hQ (by with_reducible first | exact Blk.grown (Blk.drew (Blk.new w _ _)) g5 (some_ne n0) | exact Blk.grown (Blk.drew (Blk.alloc (Blk.new w _ _) _)) g5 (some_ne n0) | exact Blk.grown (Blk.drew (Blk.alloc (Blk.alloc (Blk.new w _ _) _) _)) g5 (some_ne n0)); obtain ⟨hc5, hf5⟩ := gcell g5; have zz5 := g5.size; (try simp at zz5); have k50 : (0 : Int) ≤ (v5 : Int) := (by omega); have k51 : (v5 : Int) < 7 := (by omega); obtain ⟨s7, he5, hs7⟩ := slot7 v5 (by omega); have HS7 := hQ hs7; have m50 : w.heap.size < w5.heap.size := (by omega); (try (have m51 : w.heap.size + 1 < w5.heap.size := (by omega))); (try (have m52 : w.heap.size + 1 + 1 < w5.heap.size := (by omega))); have n50 : ¬ (w5.heap.size = cb) := (by omega); have n51 : ¬ (w5.heap.size + 1 = cb) := (by omega); clear c5 hv5 hs7))
  all_goals
   go_wp2_with fail
   go_meet
   have hk := Blk.set_ (Blk.set_ KR6.out 0 (.int .i64 s7)) 1 (.int .i64 z8)
   have hcc := CodesAt.set (CodesAt.set HC6.out (q := ⟨w.heap.size, 0, none⟩) (show cb ≠ w.heap.size by omega) (show B ≤ w.heap.size by omega) (.int .i64 s7)) (q := ⟨w.heap.size, 1, none⟩) (show cb ≠ w.heap.size by omega) (show B ≤ w.heap.size by omega) (.int .i64 z8)
   have hgg := grownBy_set (grownBy_set HG6.out (p := ⟨w.heap.size, 0, none⟩) nL (.int .i64 s7)) (p := ⟨w.heap.size, 1, none⟩) nL (.int .i64 z8)
   first
    | exact ⟨s7, z8, p6, hQ ⟨HS7.out, HZ8.out⟩, hQ hk, hQ hcc, hQ hgg⟩
    | exact ⟨s7, z8, p6, hQ ⟨HS7.out, HZ8.out⟩, hQ (hk.alloc _), hQ (hcc.alloc _), hQ (grownBy_al hgg _)⟩
    | exact ⟨s7, z8, p6, hQ ⟨HS7.out, HZ8.out⟩, hQ ((hk.alloc _).alloc _), hQ ((hcc.alloc _).alloc _), hQ (grownBy_al (grownBy_al hgg _) _)⟩
 case rest =>
  obtain ⟨s, z, p', HS, HK, HCX, HGX⟩ := hcut
  obtain ⟨q0, q1, -, -, -⟩ := HK.out.c2
  go_wp2_with fail
  exact bodyPost_ret (v := .agg #[.int .i64 s, .int .i64 z]) (by simp [results, Tryz.results86, go_sem, q0, q1]) rfl ⟨s, z, p', HS.out, rfl, HCX.out, HGX.out⟩
end Go.Proofs.YtcnndoefgjbmiaaGreat.pm
