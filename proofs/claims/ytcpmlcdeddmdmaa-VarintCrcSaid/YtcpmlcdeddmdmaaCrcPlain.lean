/- CRC-32 as plain functions on numbers, and that a change of one byte changes it. -/
import Derived.Test.YtcpmlcdeddmdmaaBase
namespace Go.Proofs.Ytcpmlcdeddmdmaa

def crcStep (c : Nat) : Nat := if c % 2 = 1 then (c / 2) ^^^ 3988292384 else c / 2
def crcSteps : Nat → Nat → Nat
  | 0, c => c
  | j + 1, c => crcStep (crcSteps j c)
def crcByte (c x : Nat) : Nat := crcSteps 8 (c ^^^ x)
def crcAll (c : Nat) (l : List Nat) : Nat := l.foldl crcByte c
def crc (l : List Nat) : Nat := 4294967295 - crcAll 4294967295 l

theorem crcStep_lt {c : Nat} (h : c < 4294967296) : crcStep c < 4294967296 := by
  unfold crcStep
  split
  · exact Nat.xor_lt_two_pow (n := 32) (by omega) (by decide)
  · omega
theorem crcSteps_lt {c : Nat} (h : c < 4294967296) (j : Nat) : crcSteps j c < 4294967296 := by
  induction j with
  | zero => exact h
  | succ j ih => exact crcStep_lt ih
theorem crcByte_lt {c x : Nat} (h : c < 4294967296) (hx : x < 256) : crcByte c x < 4294967296 :=
  crcSteps_lt (Nat.xor_lt_two_pow (n := 32) h (by omega)) 8
theorem crcAll_lt {c : Nat} (h : c < 4294967296) (l : List Nat) (hl : ∀ x ∈ l, x < 256) : crcAll c l < 4294967296 := by
  induction l generalizing c with
  | nil => exact h
  | cons x l ih => exact ih (crcByte_lt h (hl x (by simp))) fun y hy => hl y (by simp [hy])
theorem crcAll_snoc (c : Nat) (l : List Nat) (x : Nat) : crcAll c (l ++ [x]) = crcByte (crcAll c l) x := by simp [crcAll]
theorem crcAll_append (c : Nat) (l m : List Nat) : crcAll c (l ++ m) = crcAll (crcAll c l) m := by simp [crcAll]

/-- a step tells its argument: the highest bit of the result is the lowest bit of the argument -/
theorem crcStep_inj {a b : Nat} (ha : a < 4294967296) (hb : b < 4294967296) (h : crcStep a = crcStep b) : a = b := by
  have top : ∀ c, c < 4294967296 → (crcStep c).testBit 31 = decide (c % 2 = 1) := by
    intro c hc
    unfold crcStep
    have h31 : (c / 2).testBit 31 = false := Nat.testBit_lt_two_pow (by omega)
    split
    · rename_i h1
      rw [Nat.testBit_xor, h31]
      simp [h1]
      decide
    · rename_i h1
      rw [h31]
      simp [h1]
  have e := congrArg (fun n => n.testBit 31) h
  simp only [top a ha, top b hb, decide_eq_decide] at e
  unfold crcStep at h
  by_cases h1 : a % 2 = 1
  · rw [if_pos h1, if_pos (e.1 h1)] at h
    have := congrArg (· ^^^ 3988292384) h
    simp only [Nat.xor_assoc, Nat.xor_self, Nat.xor_zero] at this
    have := e.1 h1
    omega
  · have h2 : ¬ b % 2 = 1 := fun x => h1 (e.2 x)
    rw [if_neg h1, if_neg h2] at h
    omega
theorem crcSteps_inj {a b : Nat} (ha : a < 4294967296) (hb : b < 4294967296) (j : Nat) (h : crcSteps j a = crcSteps j b) : a = b := by
  induction j with
  | zero => exact h
  | succ j ih => exact ih (crcStep_inj (crcSteps_lt ha j) (crcSteps_lt hb j) h)
theorem xor_cancel {a b c : Nat} (h : a ^^^ c = b ^^^ c) : a = b := by
  have := congrArg (· ^^^ c) h
  simpa [Nat.xor_assoc] using this
theorem xor_cancel_left {a b c : Nat} (h : c ^^^ a = c ^^^ b) : a = b := by
  rw [Nat.xor_comm c a, Nat.xor_comm c b] at h
  exact xor_cancel h
theorem crcByte_inj_left {a b x : Nat} (ha : a < 4294967296) (hb : b < 4294967296) (hx : x < 256) (h : crcByte a x = crcByte b x) : a = b :=
  xor_cancel (crcSteps_inj (Nat.xor_lt_two_pow (n := 32) ha (by omega)) (Nat.xor_lt_two_pow (n := 32) hb (by omega)) 8 h)
theorem crcByte_inj_right {a x y : Nat} (ha : a < 4294967296) (hx : x < 256) (hy : y < 256) (h : crcByte a x = crcByte a y) : x = y :=
  xor_cancel_left (crcSteps_inj (Nat.xor_lt_two_pow (n := 32) ha (by omega)) (Nat.xor_lt_two_pow (n := 32) ha (by omega)) 8 h)
theorem crcAll_inj {a b : Nat} (ha : a < 4294967296) (hb : b < 4294967296) (l : List Nat) (hl : ∀ x ∈ l, x < 256) (h : crcAll a l = crcAll b l) : a = b := by
  induction l generalizing a b with
  | nil => exact h
  | cons x l ih =>
    have hx := hl x (by simp)
    exact crcByte_inj_left ha hb hx (ih (crcByte_lt ha hx) (crcByte_lt hb hx) (fun y hy => hl y (by simp [hy])) h)
theorem crc_lt (l : List Nat) : crc l < 4294967296 := by unfold crc; omega
/-- one byte changed: another checksum -/
theorem crc_set {l : List Nat} (hl : ∀ x ∈ l, x < 256) {k y : Nat} (hk : k < l.length) (hy : y < 256) (hne : y ≠ l[k]) : crc (l.set k y) ≠ crc l := by
  intro h
  have hd : ∀ x ∈ l.drop (k + 1), x < 256 := fun x hx => hl x (List.mem_of_mem_drop hx)
  have ht : ∀ x ∈ l.take k, x < 256 := fun x hx => hl x (List.mem_of_mem_take hx)
  have hs : ∀ x ∈ l.set k y, x < 256 := fun x hx => by
    rcases List.mem_or_eq_of_mem_set hx with h | h
    · exact hl x h
    · omega
  have b1 := crcAll_lt (c := 4294967295) (by decide) _ hl
  have b2 := crcAll_lt (c := 4294967295) (by decide) _ hs
  have b3 := crcAll_lt (c := 4294967295) (by decide) _ ht
  unfold crc at h
  have e : crcAll 4294967295 (l.set k y) = crcAll 4294967295 l := by omega
  have hl2 : l = l.take k ++ ([l[k]] ++ l.drop (k + 1)) := by simp
  rw [List.set_eq_take_append_cons_drop, if_pos hk] at e
  have e2 : crcAll 4294967295 l = crcAll 4294967295 (l.take k ++ ([l[k]] ++ l.drop (k + 1))) := congrArg _ hl2
  rw [e2, show y :: l.drop (k + 1) = [y] ++ l.drop (k + 1) from rfl, crcAll_append, crcAll_append, crcAll_append, crcAll_append] at e
  have hlk := hl l[k] (List.getElem_mem hk)
  have := crcAll_inj (crcByte_lt b3 hy) (crcByte_lt b3 hlk) _ hd e
  exact hne (crcByte_inj_right b3 hy hlk this)
theorem xor_ne {x m : Nat} (hm : m ≠ 0) : x ^^^ m ≠ x := by
  intro h
  have : x ^^^ m = x ^^^ 0 := by simpa using h
  exact hm (xor_cancel_left this)
end Go.Proofs.Ytcpmlcdeddmdmaa
