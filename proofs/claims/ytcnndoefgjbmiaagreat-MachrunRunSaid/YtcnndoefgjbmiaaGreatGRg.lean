/- A region that draws its order, each of its operations shown once: what an operation leaves may hang on those that it waits for alone, and nobody beside it breaks it. -/
import Derived.RegionTactic
import Derived.Below
set_option linter.unusedVariables false
namespace Go.Proofs.YtcnndoefgjbmiaaGreat.pm
open Go.RowKit
section
variable {P : Program} {ops : Array Oper} {Q : Exit → Act → World → Prop} {a0 : Act}
def dstOf (ops : Array Oper) (j : Nat) : Option Tmp := (ops[j]?).bind (·.dst)
def putsOf (ops : Array Oper) (u : Nat → Value) (L : Nat → Bool) (a0 : Act) : Nat → Act
 | 0 => a0
 | n + 1 => bif L n then (putsOf ops u L a0 n).put (dstOf ops n) (u n) else putsOf ops u L a0 n
def updV (u : Nat → Value) (i : Nat) (v : Value) : Nat → Value := fun j => if j = i then v else u j
theorem updV_self (u : Nat → Value) (i : Nat) (v : Value) : updV u i v i = v := by simp [updV]
theorem updV_ne (u : Nat → Value) {i j : Nat} (v : Value) (h : j ≠ i) : updV u i v j = u j := by simp [updV, h]
def rgSet (L : Nat → Bool) (i : Nat) : Nat → Bool := fun j => if j = i then true else L j
theorem putsOf_congr {u u' : Nat → Value} {L L' : Nat → Bool} : ∀ (n : Nat), (∀ j, j < n → L j = L' j) → (∀ j, j < n → L j = true → u j = u' j) → putsOf ops u L a0 n = putsOf ops u' L' a0 n
 | 0, _, _ => rfl
 | n + 1, h, hu => by
  have ih := putsOf_congr n (fun j hj => h j (by omega)) (fun j hj => hu j (by omega))
  unfold putsOf
  rw [← h n (by omega), ih]
  cases hl : L n with
  | true => rw [hu n (by omega) hl]
  | false => rfl
def distB (ops : Array Oper) : Bool := (List.range ops.size).all fun i => (List.range ops.size).all fun j => i == j || match dstOf ops i with | none => true | some d => dstOf ops j != some d
theorem distB_spec (h : distB ops = true) {i j : Nat} (hi : i < ops.size) (hj : j < ops.size) (hne : i ≠ j) : ∀ d, dstOf ops i = some d → dstOf ops j ≠ some d := by
 intro d hd
 have h1 := List.all_eq_true.1 (List.all_eq_true.1 h i (List.mem_range.2 hi)) j (List.mem_range.2 hj)
 rw [hd] at h1
 simpa [hne] using h1
theorem putsOf_set (hd : distB ops = true) {u : Nat → Value} {L : Nat → Bool} {i : Nat} (v : Value) (hL : L i = false) (hi : i < ops.size) :
 ∀ (n : Nat), n ≤ ops.size → i < n → putsOf ops (updV u i v) (rgSet L i) a0 n = (putsOf ops u L a0 n).put (dstOf ops i) v
 | 0, _, h => by omega
 | n + 1, hn, h => by
  by_cases hni : n = i
  · subst hni
    unfold putsOf
    rw [show rgSet L n n = true by simp [rgSet], hL, updV_self]
    show (putsOf ops (updV u n v) (rgSet L n) a0 n).put _ v = (putsOf ops u L a0 n).put _ v
    rw [putsOf_congr (u := updV u n v) (u' := u) (L := rgSet L n) (L' := L) n (fun j hj => by simp [rgSet]; omega) (fun j hj _ => updV_ne _ _ (by omega))]
  · have ih := putsOf_set hd (u := u) (L := L) v hL hi n (by omega) (by omega)
    unfold putsOf
    rw [show rgSet L i n = L n by simp [rgSet, hni], ih, updV_ne _ _ hni]
    cases hl : L n with
    | false => rfl
    | true => exact Act.put_comm _ _ _ (fun d h => distB_spec hd hi (by omega) (by omega) d h)
theorem putsOf_size (u : Nat → Value) (L : Nat → Bool) : ∀ n, (putsOf ops u L a0 n).tmps.size = a0.tmps.size
 | 0 => rfl
 | n + 1 => by
  unfold putsOf
  have ih := putsOf_size u L n
  cases L n with
  | false => exact ih
  | true =>
   show ((putsOf ops u L a0 n).put (dstOf ops n) (u n)).tmps.size = _
   cases dstOf ops n with
   | none => exact ih
   | some d => simp [Act.put, ih]
theorem put_get_ne {a : Act} {x : Option Tmp} {v : Value} {t : Tmp} (h : x ≠ some t) : (a.put x v).tmps[t]? = a.tmps[t]? := by
 cases x with
 | none => rfl
 | some d =>
  have : d ≠ t := fun e => h (by rw [e])
  simp [Act.put, Array.getElem?_setIfInBounds_ne this]
theorem putsOf_old {u : Nat → Value} {L : Nat → Bool} {t : Tmp} : ∀ n, (∀ j, j < n → L j = true → dstOf ops j ≠ some t) → (putsOf ops u L a0 n).tmps[t]? = a0.tmps[t]?
 | 0, _ => rfl
 | n + 1, h => by
  have ih := putsOf_old (u := u) (L := L) n (fun j hj => h j (by omega))
  unfold putsOf
  cases hl : L n with
  | false => exact ih
  | true =>
   show ((putsOf ops u L a0 n).put _ _).tmps[t]? = _
   rw [put_get_ne (h n (by omega) hl), ih]
theorem putsOf_at (hd : distB ops = true) {u : Nat → Value} {L : Nat → Bool} {i : Nat} {t : Tmp} (hL : L i = true) (hi : dstOf ops i = some t) (ht : t < a0.tmps.size) :
 ∀ n, n ≤ ops.size → i < n → (putsOf ops u L a0 n).tmps[t]? = some (u i)
 | 0, _, h => by omega
 | n + 1, hn, h => by
  unfold putsOf
  by_cases hni : n = i
  · subst hni
    rw [hL]
    show ((putsOf ops u L a0 n).put _ _).tmps[t]? = _
    rw [hi]
    have := putsOf_size (ops := ops) (a0 := a0) u L n
    simp [Act.put, this, ht]
  · have ih := putsOf_at hd (u := u) hL hi ht n (by omega) (by omega)
    cases hl : L n with
    | false => exact ih
    | true =>
     show ((putsOf ops u L a0 n).put _ _).tmps[t]? = _
     rw [put_get_ne (fun e => distB_spec hd (by omega) (by omega) (Ne.symm hni) _ hi e), ih]
theorem eval_of_get {a b : Act} {t : Tmp} (h : a.tmps[t]? = b.tmps[t]?) : a.eval (.tmp t) = b.eval (.tmp t) := by
 simp only [Act.eval, Array.getD_eq_getD_getElem?]
 rw [h]
def isAnc (M : List Nat) (i k : Nat) : Bool := (M.getD i 0).testBit k
def maskOf (M : List Nat) : List Edge → Nat
 | [] => 0
 | e :: l => (bif Region.binds .any e then (M.getD e.on 0 ||| (1 <<< e.on)) else 0) ||| maskOf M l
def maskB (ops : Array Oper) (M : List Nat) : Bool := (List.range ops.size).all fun i => match ops[i]? with | none => true | some o => M.getD i 0 == maskOf M o.after.toList
theorem maskOf_spec {M : List Nat} {k : Nat} : ∀ {l : List Edge}, (maskOf M l).testBit k = true → ∃ e ∈ l, Region.binds .any e = true ∧ (e.on = k ∨ isAnc M e.on k = true)
 | [], h => by simp [maskOf] at h
 | e :: l, h => by
  unfold maskOf at h
  rw [Nat.testBit_or, Bool.or_eq_true] at h
  rcases h with h | h
  · cases hb : Region.binds .any e with
    | false => rw [hb] at h; simp at h
    | true =>
     rw [hb] at h
     simp only [cond_true, Nat.testBit_or, Bool.or_eq_true] at h
     refine ⟨e, List.mem_cons_self .., hb, ?_⟩
     rcases h with h | h
     · exact .inr h
     · left
       rw [Nat.one_shiftLeft, Nat.testBit_two_pow] at h
       simpa using h
  · obtain ⟨e', h1, h2⟩ := maskOf_spec h
    exact ⟨e', List.mem_cons_of_mem _ h1, h2⟩
theorem anc_listed {M : List Nat} (hM : maskB ops M = true) (hbk : ∀ (i : Nat) o, ops[i]? = some o → ∀ e ∈ o.after, Region.binds .any e = true → e.on < i) {L : Nat → Bool} (hc : ∀ (j : Nat) o, ops[j]? = some o → L j = true → ∀ e ∈ o.after, Region.binds .any e = true → L e.on = true) :
 ∀ (i : Nat) (o : Oper), ops[i]? = some o → (∀ e ∈ o.after, Region.binds .any e = true → L e.on = true) → ∀ k, isAnc M i k = true → L k = true := by
 intro i
 induction i using Nat.strongRecOn with
 | _ i ih =>
  intro o ho h k hk
  have hi : i < ops.size := (Array.getElem?_eq_some_iff.1 ho).1
  have h1 := List.all_eq_true.1 hM i (List.mem_range.2 hi)
  rw [ho] at h1
  have h2 : M.getD i 0 = maskOf M o.after.toList := by simpa using h1
  unfold isAnc at hk
  rw [h2] at hk
  obtain ⟨e, he, hb, hek⟩ := maskOf_spec hk
  have he' : e ∈ o.after := by simpa using he
  have hLe := h e he' hb
  rcases hek with rfl | hek
  · exact hLe
  · have hlt := hbk i o ho e he' hb
    have hes : e.on < ops.size := by omega
    exact ih e.on hlt ops[e.on] (by simp [hes]) (hc _ _ (by simp [hes]) hLe) k hek
def lay (u : Nat → Value) (a0 : Act) : List (Nat × Tmp) → Act
 | [] => a0
 | (j, d) :: A => (lay u a0 A).put (some d) (u j)
theorem lay_size (u : Nat → Value) : ∀ A, (lay u a0 A).tmps.size = a0.tmps.size
 | [] => rfl
 | (j, d) :: A => by simp [lay, Act.put, lay_size u A]
theorem lay_defers (u : Nat → Value) : ∀ A, (lay u a0 A).defers = a0.defers
 | [] => rfl
 | (j, d) :: A => by simp [lay, Act.put, lay_defers u A]
theorem putsOf_defers (u : Nat → Value) (L : Nat → Bool) : ∀ n, (putsOf ops u L a0 n).defers = a0.defers
 | 0 => rfl
 | n + 1 => by
  unfold putsOf
  have ih := putsOf_defers u L n
  cases L n with
  | false => exact ih
  | true =>
   show ((putsOf ops u L a0 n).put (dstOf ops n) (u n)).defers = _
   cases dstOf ops n with
   | none => exact ih
   | some d => simp [Act.put, ih]
theorem lay_old (u : Nat → Value) {t : Tmp} : ∀ A, (∀ p ∈ A, p.2 ≠ t) → (lay u a0 A).tmps[t]? = a0.tmps[t]?
 | [], _ => rfl
 | (j, d) :: A, h => by
  have ih := lay_old u A (fun p hp => h p (List.mem_cons_of_mem _ hp))
  have : d ≠ t := h (j, d) (List.mem_cons_self ..)
  unfold lay
  rw [put_get_ne (fun e => this (by injection e)), ih]
theorem lay_at (u : Nat → Value) {t : Tmp} {i : Nat} (ht : t < a0.tmps.size) : ∀ A, (∀ p ∈ A, p.2 = t → p.1 = i) → (i, t) ∈ A → (lay u a0 A).tmps[t]? = some (u i)
 | [], _, h => by cases h
 | (j, d) :: A, h, hm => by
  unfold lay
  by_cases hd : d = t
  · subst hd
    have : j = i := h (j, d) (List.mem_cons_self ..) rfl
    subst this
    have hs := lay_size (a0 := a0) u A
    simp [Act.put, hs, ht]
  · have hm' : (i, t) ∈ A := by
     rcases List.mem_cons.1 hm with e | e
     · exact absurd (congrArg Prod.snd e).symm hd
     · exact e
    rw [put_get_ne (fun e => hd (by injection e)), lay_at u ht A (fun p hp => h p (List.mem_cons_of_mem _ hp)) hm']
def looksB (ops : Array Oper) (M : List Nat) (i : Nat) (A : List (Nat × Tmp)) : Bool :=
 match ops[i]? with
 | none => false
 | some o => A.all (fun p => isAnc M i p.1 && dstOf ops p.1 == some p.2) && (o.looksAt ops).all fun t => (List.range ops.size).all fun k =>
  match dstOf ops k with
  | none => true
  | some d => d != t || A.contains (k, d) || k == i || isAnc M k i
def allB (ops : Array Oper) (A : List (Nat × Tmp)) : Bool := A.all (fun p => decide (p.1 < ops.size) && dstOf ops p.1 == some p.2) && (List.range ops.size).all fun k => match dstOf ops k with | none => true | some d => A.contains (k, d)
def sizeB' (ops : Array Oper) (n : Nat) : Bool := (List.range ops.size).all fun j => match dstOf ops j with | none => true | some d => decide (d < n)
def PanicFree : Exit → Act → World → Prop := fun _ _ _ => False
def RgStep (P : Program) (ops : Array Oper) (M : List Nat) (T : (Nat → Prop) → Nat → (Nat → Value) → World → Prop) (G : (Nat → Prop) → World → Prop) (a0 : Act) (A : List (Nat × Tmp)) (i : Nat) (o : Oper) : Prop :=
 ∀ (u : Nat → Value) (w : World) (X : Nat → Prop), ¬ X i → (∀ j, isAnc M i j = true → X j) → (∀ k, isAnc M k i = true → ¬ X k) → G X w → (∀ j, X j → T X j u w) →
  ∀ K : Act → World → Prop, (∀ v w', G (fun k => k = i ∨ X k) w' → (∀ j, j = i ∨ X j → T (fun k => k = i ∨ X k) j (updV u i v) w') → K ((lay u a0 A).put o.dst v) w') →
   if Region.wanted o (yielded ops (lay u a0 A).tmps) = true then o.wp P (lay u a0 A) w K PanicFree else K ((lay u a0 A).put o.dst undef) w
def RgStepR (P : Program) (ops : Array Oper) (M : List Nat) (T : (Nat → Prop) → Nat → (Nat → Value) → World → Prop) (G : (Nat → Prop) → World → Prop) (R : World → World → Prop) (a0 : Act) (A : List (Nat × Tmp)) (i : Nat) (o : Oper) : Prop :=
 ∀ (u : Nat → Value) (w : World) (X : Nat → Prop), ¬ X i → (∀ j, isAnc M i j = true → X j) → (∀ k, isAnc M k i = true → ¬ X k) → G X w → (∀ j, X j → T X j u w) →
  ∀ K : Act → World → Prop, (∀ v w', R w w' → T (fun k => k = i ∨ X k) i (updV u i v) w' → K ((lay u a0 A).put o.dst v) w') →
   if Region.wanted o (yielded ops (lay u a0 A).tmps) = true then o.wp P (lay u a0 A) w K PanicFree else K ((lay u a0 A).put o.dst undef) w
theorem put_inj {a b : Act} {x : Option Tmp} {v v' : Value} (hx : ∀ d, x = some d → d < b.tmps.size) (h : b.put x v = b.put x v') : a.put x v = a.put x v' := by
 cases x with
 | none => rfl
 | some d =>
  have hd := hx d rfl
  have h1 : (b.put (some d) v).tmps[d]? = (b.put (some d) v').tmps[d]? := by rw [h]
  simp [Act.put, hd] at h1
  rw [h1]
theorem put_defers_ne {b : Act} {x : Option Tmp} {v v' : Value} {d : Deferred} : ({ b with defers := d :: b.defers } : Act).put x v ≠ b.put x v' := by
 intro h
 have h1 : (({ b with defers := d :: b.defers } : Act).put x v).defers = (b.put x v').defers := by rw [h]
 cases x with
 | none =>
  have := congrArg List.length h1
  simp [Act.put] at this
 | some y =>
  have := congrArg List.length h1
  simp [Act.put] at this
theorem wp_other {o : Oper} {a b : Act} {w : World} {R : Value → World → Prop} {Q : Exit → Act → World → Prop} (he : execOp a.eval o = execOp b.eval o) (hx : ∀ d, o.dst = some d → d < b.tmps.size)
 (h : o.wp P b w (fun a' w' => ∃ v, a' = b.put o.dst v ∧ R v w') PanicFree) : o.wp P a w (fun a' w' => ∃ v, a' = a.put o.dst v ∧ R v w') Q := by
 unfold Oper.wp at *
 rw [he]
 generalize (execOp b.eval o).run P w = r at *
 cases r with
 | ok n w' =>
  cases n <;> simp only [Oper.upon] at h ⊢
  case value v =>
   obtain ⟨v', h1, h2⟩ := h
   exact ⟨v', put_inj hx h1, h2⟩
  case skip =>
   obtain ⟨v', h1, h2⟩ := h
   exact ⟨v', put_inj hx h1, h2⟩
  case defer d =>
   obtain ⟨v', h1, h2⟩ := h
   exact absurd h1 put_defers_ne
  case enter f args =>
   refine Calls.mono h fun e w'' he => ?_
   cases e with
   | returned v =>
    obtain ⟨v', h1, h2⟩ := he
    exact ⟨v', put_inj hx h1, h2⟩
   | panicked c => exact he.elim
   | outgrown =>
    obtain ⟨_, _, he⟩ := he
    exact he.elim
  case row row args =>
   refine Rows.mono h fun v w'' he => ?_
   obtain ⟨v', h1, h2⟩ := he
   exact ⟨v', put_inj hx h1, h2⟩
 | halt x w' =>
  cases x <;> simp only [Oper.upon] at h ⊢
  case panic v => exact (h : False).elim
def backB (ops : Array Oper) : Bool := (List.range ops.size).all fun i => match ops[i]? with | none => true | some o => o.after.all fun e => !Region.binds .any e || decide (e.on < i)
def rgB (ops : Array Oper) (n : Nat) : Bool := distB ops && sizeB' ops n && backB ops && Region.noSelect ops
theorem count_upd {p q : Nat → Bool} {i : Nat} (hp : p i = true) (hq : q i = false) (h : ∀ j, j ≠ i → p j = q j) : ∀ n, ((List.range n).countP q) + (if i < n then 1 else 0) = (List.range n).countP p
 | 0 => by simp
 | n + 1 => by
  have ih := count_upd hp hq h n
  rw [List.range_succ, List.countP_append, List.countP_append]
  by_cases hn : n = i
  · subst hn
    simp [hp, hq] at ih ⊢
    omega
  · have := h n hn
    simp only [List.countP_cons, List.countP_nil, this]
    by_cases hlt : i < n
    · rw [if_pos hlt] at ih
      rw [if_pos (show i < n + 1 by omega)]
      omega
    · rw [if_neg hlt] at ih
      rw [if_neg (show ¬ i < n + 1 by omega)]
      omega
theorem rg_any (hd : distB ops = true) (hsz : sizeB' ops a0.tmps.size = true) (hb : backB ops = true) (hns : Region.noSelect ops = true) {T : (Nat → Prop) → Nat → (Nat → Value) → World → Prop} {G : (Nat → Prop) → World → Prop} {As : Nat → List (Nat × Tmp)} {M : List Nat} (hM : maskB ops M = true)
 (hl : ∀ i, i < ops.size → looksB ops M i (As i) = true) (hs : ∀ i o, ops[i]? = some o → RgStep P ops M T G a0 (As i) i o)
 (he : ∀ (u : Nat → Value) (w : World) (X : Nat → Prop), (∀ j, j < ops.size → X j) → G X w → (∀ j, j < ops.size → T X j u w) → Q .normal (putsOf ops u (fun _ => true) a0 ops.size) w) :
 ∀ (fuel : Nat) (L : Array Bool) (u : Nat → Value) (w : World), L.size = ops.size → (List.range ops.size).countP (fun j => !L.getD j false) = fuel →
  (∀ j o, ops[j]? = some o → L.getD j false = true → ∀ e ∈ o.after, Region.binds .any e = true → L.getD e.on false = true) → G (fun j => L.getD j false = true) w →
  (∀ j, L.getD j false = true → T (fun j => L.getD j false = true) j u w) → wpAny P .any ops Q fuel L (putsOf ops u (fun j => L.getD j false) a0 ops.size) w := by
 have hbk : ∀ (i : Nat) o, ops[i]? = some o → ∀ e ∈ o.after, Region.binds .any e = true → e.on < i := fun i o ho e he hbd => by
  have hi : i < ops.size := (Array.getElem?_eq_some_iff.1 ho).1
  have h1 := List.all_eq_true.1 hb i (List.mem_range.2 hi)
  rw [ho] at h1
  have h3 := Array.all_eq_true_iff_forall_mem.1 h1 e he
  rw [hbd] at h3
  simpa using h3
 have hend : ∀ (L : Array Bool) (u : Nat → Value) (w : World), (∀ j, j < ops.size → L.getD j false = true) → G (fun j => L.getD j false = true) w → (∀ j, L.getD j false = true → T (fun j => L.getD j false = true) j u w) →
  Q .normal (putsOf ops u (fun j => L.getD j false) a0 ops.size) w := fun L u w h hG hT => by
  rw [putsOf_congr (u' := u) (L' := fun _ => true) ops.size (fun j hj => h j hj) (fun _ _ _ => rfl)]
  exact he u w _ h hG (fun j hj => hT j (h j hj))
 have hall : ∀ (L : Array Bool), L.size = ops.size → Region.ready .any ops L = [] → ∀ j, j < ops.size → L.getD j false = true := fun L hLs hr => by
  intro j
  induction j using Nat.strongRecOn with
  | _ j ih =>
   intro hj
   cases hlj : L.getD j false with
   | true => rfl
   | false =>
    exfalso
    have : j ∈ Region.ready .any ops L := by
     refine mem_ready.2 ⟨?_, ops[j], by simp [hj], fun e he hbd => ?_⟩
     · have hj' : j < L.size := by omega
       simp [hj'] at hlj ⊢
       exact hlj
     · have h4 := hbk j ops[j] (by simp [hj]) e he hbd
       exact ih _ h4 (by omega)
    rw [hr] at this
    cases this
 intro fuel
 induction fuel with
 | zero =>
  intro L u w hLs hc hcl hG hT
  have hA : ∀ j, j < ops.size → L.getD j false = true := fun j hj => by
   have := List.countP_eq_zero.1 hc j (List.mem_range.2 hj)
   simpa using this
  refine ⟨?_, hend L u w hA hG hT⟩
  apply List.eq_nil_iff_forall_not_mem.2
  intro j hj
  obtain ⟨h0, o, ho, _⟩ := mem_ready.1 hj
  have hj' : j < ops.size := (Array.getElem?_eq_some_iff.1 ho).1
  have h1 := hA j hj'
  have hjl : j < L.size := by omega
  simp [hjl] at h0 h1
  rw [h0] at h1
  cases h1
 | succ fuel ih =>
  intro L u w hLs hc hcl hG hT
  refine ⟨fun hr => hend L u w (hall L hLs hr) hG hT, fun i hi => ?_⟩
  obtain ⟨h0, o, ho, hw⟩ := mem_ready.1 hi
  have hin : i < ops.size := (Array.getElem?_eq_some_iff.1 ho).1
  have hil : i < L.size := by omega
  have hLi : L.getD i false = false := by simp [hil] at h0 ⊢; exact h0
  have hanc := anc_listed hM hbk (L := fun j => L.getD j false) hcl i o ho hw
  have hlook := hl i hin
  unfold looksB at hlook
  rw [ho] at hlook
  simp only [Bool.and_eq_true] at hlook
  obtain ⟨hA, hlk⟩ := hlook
  have hAL : ∀ p, p ∈ As i → L.getD p.1 false = true ∧ dstOf ops p.1 = some p.2 := fun p hp => by
   have := List.all_eq_true.1 hA p hp
   simp only [Bool.and_eq_true, beq_iff_eq] at this
   exact ⟨hanc p.1 this.1, this.2⟩
  have hlts : ∀ j d, dstOf ops j = some d → j < ops.size := fun j d hjd => by
   unfold dstOf at hjd
   rcases Nat.lt_or_ge j ops.size with h | h
   · exact h
   · rw [Array.getElem?_eq_none h] at hjd; cases hjd
  have hdi : dstOf ops i = o.dst := by simp [dstOf, ho]
  have hlt : ∀ j, j < ops.size → ∀ d, dstOf ops j = some d → d < a0.tmps.size := fun j hj d hjd => by
   have := List.all_eq_true.1 hsz j (List.mem_range.2 hj)
   rw [hjd] at this
   simpa using this
  have hsame : ∀ t, t ∈ o.looksAt ops → (putsOf ops u (fun j => L.getD j false) a0 ops.size).tmps[t]? = (lay u a0 (As i)).tmps[t]? := fun t ht => by
   have h1 := List.all_eq_true.1 hlk t ht
   by_cases hex : ∃ k, (k, t) ∈ As i
   · obtain ⟨k, hkA⟩ := hex
     obtain ⟨hkL, hkt⟩ := hAL _ hkA
     have hk := hlts k t hkt
     rw [putsOf_at hd hkL hkt (hlt k hk t hkt) _ (Nat.le_refl _) hk, lay_at u (hlt k hk t hkt) _ (fun p hp hpt => ?_) hkA]
     obtain ⟨_, hpd⟩ := hAL p hp
     rcases Decidable.em (p.1 = k) with h | h
     · exact h
     · exact absurd hkt (distB_spec hd (hlts _ _ hpd) hk h t (by rw [hpd, hpt]))
   · have hno : ∀ p ∈ As i, p.2 ≠ t := fun p hp hpt => hex ⟨p.1, by rw [← hpt]; exact hp⟩
     rw [lay_old u _ hno, putsOf_old _ (fun k hk hkL hkt => ?_)]
     have h2 := List.all_eq_true.1 h1 k (List.mem_range.2 hk)
     rw [hkt] at h2
     simp only [bne_self_eq_false, Bool.false_or, Bool.or_eq_true, beq_iff_eq] at h2
     rcases h2 with (h2 | h2) | h2
     · exact hex ⟨k, by simpa using h2⟩
     · subst h2; rw [hLi] at hkL; cases hkL
     · obtain ⟨ok, hok⟩ : ∃ ok, ops[k]? = some ok := ⟨ops[k], by simp [hk]⟩
       have := anc_listed hM hbk (L := fun j => L.getD j false) hcl k ok hok (fun e he hbd => hcl k ok hok hkL e he hbd) i h2
       rw [hLi] at this
       cases this
  have hsel := Region.noSelect_spec hns
  have hexec : execOp (putsOf ops u (fun j => L.getD j false) a0 ops.size).eval o = execOp (lay u a0 (As i)).eval o :=
   execOp_congr o (fun cs b => hsel i o cs b ho) fun x hx => by
    cases x with
    | tmp t => exact eval_of_get (hsame t (List.mem_append_left _ (List.mem_filterMap.2 ⟨.tmp t, by simpa using hx, rfl⟩)))
    | _ => rfl
  have hwant : Region.wanted o (yielded ops (putsOf ops u (fun j => L.getD j false) a0 ops.size).tmps) = Region.wanted o (yielded ops (lay u a0 (As i)).tmps) := by
   unfold Region.wanted
   cases hg : o.guard with
   | none => rfl
   | some gw =>
    obtain ⟨g, want⟩ := gw
    have hy : yielded ops (putsOf ops u (fun j => L.getD j false) a0 ops.size).tmps g = yielded ops (lay u a0 (As i)).tmps g := by
     unfold yielded
     cases ht : (ops[g]?).bind (·.dst) with
     | none => rfl
     | some t =>
      have := hsame t (by simp [Oper.looksAt, hg, ht])
      simp only [Option.bind_some, this]
    simp only [hy]
  have hX : (fun k => k = i ∨ L.getD k false = true) = (fun k => (L.setIfInBounds i true).getD k false = true) := by
   funext k
   apply propext
   by_cases hk : k = i
   · subst hk; simp [hil]
   · rw [getD_set_ne false (Ne.symm hk)]; simp [hk]
  have hcl' : ∀ j o', ops[j]? = some o' → (L.setIfInBounds i true).getD j false = true → ∀ e ∈ o'.after, Region.binds .any e = true → (L.setIfInBounds i true).getD e.on false = true := fun j o' hj hlj e he hbd => by
   by_cases hji : j = i
   · subst hji
     rw [ho] at hj
     injection hj with hj
     subst hj
     exact getD_set_true (hw e he hbd)
   · rw [getD_set_ne false (Ne.symm hji)] at hlj
     exact getD_set_true (hcl j o' hj hlj e he hbd)
  have hcount : (List.range ops.size).countP (fun j => !(L.setIfInBounds i true).getD j false) = fuel := by
   have := count_upd (p := fun j => !L.getD j false) (q := fun j => !(L.setIfInBounds i true).getD j false) (i := i) (by simp only [hLi]; rfl) (by simp [hil]) (fun j hj => by rw [getD_set_ne false (Ne.symm hj)]) ops.size
   rw [if_pos hin, hc] at this
   omega
  have hfin : ∀ v w', G (fun k => k = i ∨ L.getD k false = true) w' → (∀ j, j = i ∨ L.getD j false = true → T (fun k => k = i ∨ L.getD k false = true) j (updV u i v) w') →
   wpAny P .any ops Q fuel (L.setIfInBounds i true) ((putsOf ops u (fun j => L.getD j false) a0 ops.size).put o.dst v) w' := fun v w' hG' hT' => by
   have h1 := ih (L.setIfInBounds i true) (updV u i v) w' (by simp [hLs]) hcount hcl' (by rw [← hX]; exact hG') (fun j hj => by
    rw [← hX]
    refine hT' j ?_
    have := congrFun hX j
    rw [← this] at hj
    exact hj)
   have h2 : putsOf ops (updV u i v) (fun j => (L.setIfInBounds i true).getD j false) a0 ops.size = (putsOf ops u (fun j => L.getD j false) a0 ops.size).put o.dst v := by
    rw [← hdi, ← putsOf_set hd v hLi hin _ (Nat.le_refl _) hin]
    refine putsOf_congr _ (fun j _ => ?_) (fun _ _ _ => rfl)
    unfold rgSet
    by_cases hji : j = i
    · subst hji; simp [hil]
    · rw [getD_set_ne false (Ne.symm hji), if_neg hji]
   rw [h2] at h1
   exact h1
  have hstep := hs i o ho u w (fun j => L.getD j false = true) (by rw [hLi]; simp) (fun j hj => hanc j hj) (fun k hk hkL => by
   have hks : k < ops.size := by
    rcases Nat.lt_or_ge k ops.size with h | h
    · exact h
    · exfalso
      have hks : k < L.size := by
       rcases Nat.lt_or_ge k L.size with h | h
       · exact h
       · simp [Array.getElem?_eq_none h] at hkL
      omega
   have hok : ops[k]? = some ops[k] := by simp [hks]
   have := anc_listed hM hbk (L := fun j => L.getD j false) hcl k _ hok (fun e he hbd => hcl k _ hok hkL e he hbd) i hk
   rw [hLi] at this
   cases this) hG hT
   (fun a' w' => ∃ v, a' = (lay u a0 (As i)).put o.dst v ∧ (G (fun k => k = i ∨ L.getD k false = true) w' ∧ (∀ j, j = i ∨ L.getD j false = true → T (fun k => k = i ∨ L.getD k false = true) j (updV u i v) w'))) (fun v w' hG' hT' => ⟨v, rfl, hG', hT'⟩)
  unfold wpOp
  rw [ho]
  show if Region.wanted o _ = true then _ else _
  rw [hwant]
  split
  · rename_i hw1
    rw [if_pos hw1] at hstep
    refine .inl (Oper.wp_mono ?_ (wp_other hexec (fun d hdo => by rw [lay_size]; exact hlt i hin d (by rw [hdi]; exact hdo)) hstep))
    rintro a' w' ⟨v, rfl, hG', hT'⟩
    exact hfin v w' hG' hT'
  · rename_i hw1
    rw [if_neg hw1] at hstep
    obtain ⟨v, h1, hG', hT'⟩ := hstep
    have := hfin v w hG' hT'
    have h2 := put_inj (a := putsOf ops u (fun j => L.getD j false) a0 ops.size) (fun d hdo => by rw [lay_size]; exact hlt i hin d (by rw [hdi]; exact hdo)) h1
    rw [h2]
    exact this
def RgAll (P : Program) (ops : Array Oper) (M : List Nat) (T : (Nat → Prop) → Nat → (Nat → Value) → World → Prop) (G : (Nat → Prop) → World → Prop) (R : World → World → Prop) (Sp : List Nat) (a0 : Act) (As : List (List (Nat × Tmp))) (k : Nat) : List Oper → Prop
 | [] => True
 | o :: l => (RgStep P ops M T G a0 (As.getD k []) k o ∨ (Sp.contains k = false ∧ RgStepR P ops M T G R a0 (As.getD k []) k o)) ∧ RgAll P ops M T G R Sp a0 As (k + 1) l
section
variable {T : (Nat → Prop) → Nat → (Nat → Value) → World → Prop} {G : (Nat → Prop) → World → Prop} {R : World → World → Prop} {Sp : List Nat} {As : List (List (Nat × Tmp))} {k : Nat} {o : Oper} {l : List Oper} {M : List Nat}
theorem RgAll.nil : RgAll P ops M T G R Sp a0 As k [] := trivial
theorem RgAll.cons (A : List (Nat × Tmp)) (hA : As.getD k [] = A) (hk : Sp.contains k = false) (h : RgStepR P ops M T G R a0 A k o) (hl : RgAll P ops M T G R Sp a0 As (k + 1) l) : RgAll P ops M T G R Sp a0 As k (o :: l) := ⟨.inr ⟨hk, by rw [hA]; exact h⟩, hl⟩
theorem RgAll.consS (A : List (Nat × Tmp)) (hA : As.getD k [] = A) (h : RgStep P ops M T G a0 A k o) (hl : RgAll P ops M T G R Sp a0 As (k + 1) l) : RgAll P ops M T G R Sp a0 As k (o :: l) := ⟨.inl (by rw [hA]; exact h), hl⟩
theorem rgAll_spec : ∀ (l : List Oper) (k : Nat), RgAll P ops M T G R Sp a0 As k l → ∀ i o, l[i]? = some o → (RgStep P ops M T G a0 (As.getD (k + i) []) (k + i) o ∨ (Sp.contains (k + i) = false ∧ RgStepR P ops M T G R a0 (As.getD (k + i) []) (k + i) o))
 | [], _, _, i, o, h => by simp at h
 | x :: l, k, h, 0, o, ho => by
  have : x = o := by simpa using ho
  subst this
  exact h.1
 | x :: l, k, h, i + 1, o, ho => by
  have := rgAll_spec l (k + 1) h.2 i o (by simpa using ho)
  rwa [show k + 1 + i = k + (i + 1) by omega] at this
theorem RgStepR.out {A : List (Nat × Tmp)} {i : Nat} (hsp : Sp.contains i = false) (hsG : ∀ i (X : Nat → Prop) w w', Sp.contains i = false → R w w' → G X w → G (fun k => k = i ∨ X k) w')
 (hsT : ∀ i (X : Nat → Prop) j u u' w w', Sp.contains i = false → i ≠ j → isAnc M j i = false → X j → R w w' → (∀ k, k = j ∨ isAnc M j k = true → u' k = u k) → T X j u w → T (fun k => k = i ∨ X k) j u' w')
 (h : RgStepR P ops M T G R a0 A i o) : RgStep P ops M T G a0 A i o := by
 intro u w X hi hA hF hG hT K hK
 refine h u w X hi hA hF hG hT K (fun v w' hR hTi => hK v w' (hsG i X w w' hsp hR hG) (fun j hj => ?_))
 by_cases hji : j = i
 · subst hji; exact hTi
 · have hXj : X j := hj.resolve_left hji
   have hni : isAnc M j i = false := by
    cases hc : isAnc M j i with
    | false => rfl
    | true => exact absurd hXj (hF j hc)
   refine hsT i X j u _ w w' hsp (Ne.symm hji) hni hXj hR (fun k hk => updV_ne _ _ ?_) (hT j hXj)
   rintro rfl
   rcases hk with hk | hk
   · exact hji hk.symm
   · rw [hni] at hk; cases hk
end
theorem lay_all {u : Nat → Value} (hd : distB ops = true) (hsz : sizeB' ops a0.tmps.size = true) {A : List (Nat × Tmp)} (h : allB ops A = true) : putsOf ops u (fun _ => true) a0 ops.size = lay u a0 A := by
 unfold allB at h
 simp only [Bool.and_eq_true] at h
 obtain ⟨hA, hall⟩ := h
 have hA' : ∀ p ∈ A, p.1 < ops.size ∧ dstOf ops p.1 = some p.2 := fun p hp => by
  have := List.all_eq_true.1 hA p hp
  simp only [Bool.and_eq_true, decide_eq_true_eq, beq_iff_eq] at this
  exact this
 have hlt : ∀ j, j < ops.size → ∀ d, dstOf ops j = some d → d < a0.tmps.size := fun j hj d hjd => by
  have := List.all_eq_true.1 hsz j (List.mem_range.2 hj)
  rw [hjd] at this
  simpa using this
 have ht : (putsOf ops u (fun _ => true) a0 ops.size).tmps = (lay u a0 A).tmps := by
  apply Array.ext_getElem?
  intro t
  by_cases hex : ∃ k, (k, t) ∈ A
  · obtain ⟨k, hk⟩ := hex
    obtain ⟨h1, h2⟩ := hA' _ hk
    rw [putsOf_at hd rfl h2 (hlt k h1 t h2) _ (Nat.le_refl _) h1, lay_at u (hlt k h1 t h2) _ (fun p hp hpt => ?_) hk]
    obtain ⟨q1, q2⟩ := hA' p hp
    rcases Decidable.em (p.1 = k) with h | h
    · exact h
    · exact absurd h2 (distB_spec hd q1 h1 h t (by rw [q2, hpt]))
  · rw [lay_old u _ (fun p hp hpt => hex ⟨p.1, by rw [← hpt]; exact hp⟩), putsOf_old _ (fun k hk _ hkt => ?_)]
    have := List.all_eq_true.1 hall k (List.mem_range.2 hk)
    rw [hkt] at this
    exact hex ⟨k, by simpa using this⟩
 have hdf := (putsOf_defers (ops := ops) (a0 := a0) u (fun _ => true) ops.size).trans (lay_defers (a0 := a0) u A).symm
 generalize putsOf ops u (fun _ => true) a0 ops.size = x at ht hdf
 generalize lay u a0 A = y at ht hdf
 obtain ⟨xt, xd⟩ := x
 obtain ⟨yt, yd⟩ := y
 simp only at ht hdf
 subst ht
 subst hdf
 rfl
theorem wp_region_rg {id : Nat} {l : List Oper} {a0 : Act} {w : World} (T : (Nat → Prop) → Nat → (Nat → Value) → World → Prop) (G : (Nat → Prop) → World → Prop) (R : World → World → Prop) (Sp : List Nat) (M : List Nat) (As : List (List (Nat × Tmp))) (Af : List (Nat × Tmp)) (hm : P.follows .mixedOrders = true)
 (hB : (rgB l.toArray a0.tmps.size && maskB l.toArray M && (List.range l.length).all (fun i => looksB l.toArray M i (As.getD i [])) && allB l.toArray Af) = true)
 (hsG : ∀ i (X : Nat → Prop) w w', Sp.contains i = false → R w w' → G X w → G (fun k => k = i ∨ X k) w')
 (hsT : ∀ i (X : Nat → Prop) j u u' w w', Sp.contains i = false → i ≠ j → isAnc M j i = false → X j → R w w' → (∀ k, k = j ∨ isAnc M j k = true → u' k = u k) → T X j u w → T (fun k => k = i ∨ X k) j u' w')
 (h0 : G (fun _ => False) w.drew) (hs : RgAll P l.toArray M T G R Sp a0 As 0 l)
 (he : ∀ (u : Nat → Value) (w : World) (X : Nat → Prop), (∀ j, j < l.length → X j) → G X w → (∀ j, j < l.length → T X j u w) → Q .normal (lay u a0 Af) w) : (Code.region id l.toArray true).wp P Q a0 w := by
 simp only [rgB, Bool.and_eq_true] at hB
 obtain ⟨⟨⟨⟨⟨⟨hd, hsz⟩, hb⟩, hns⟩, hM⟩, hl⟩, hAf⟩ := hB
 refine wp_region_any hm ?_
 have hg : ∀ j, (Array.replicate l.toArray.size false).getD j false = false := fun j => by
  simp only [Array.getD_eq_getD_getElem?, Array.getElem?_replicate]
  split <;> rfl
 have hgX : (fun j => (Array.replicate l.toArray.size false).getD j false = true) = (fun _ => False) := by
  funext j
  rw [hg]
  simp
 have := rg_any (P := P) (Q := Q) (a0 := a0) hd hsz hb hns (T := T) (G := G) (As := fun i => As.getD i []) hM (fun i hi => List.all_eq_true.1 hl i (List.mem_range.2 (by simpa using hi)))
  (fun i o ho => by
   have := rgAll_spec l 0 hs i o (by simpa using ho)
   rw [Nat.zero_add] at this
   rcases this with h | ⟨hsp, h⟩
   · exact h
   · exact h.out hsp hsG hsT)
  (fun u w X hX hG hT => by
   have := he u w X (fun j hj => hX j (by simpa using hj)) hG (fun j hj => hT j (by simpa using hj))
   rw [lay_all hd hsz hAf]
   exact this)
  l.toArray.size (Array.replicate l.toArray.size false) (fun _ => undef) w.drew (by simp) (by
   rw [List.countP_eq_length.2 (fun j _ => by rw [hg]; rfl), List.length_range]) (fun j o _ hj => by rw [hg] at hj; cases hj) (by rw [hgX]; exact h0) (fun j hj => by rw [hg] at hj; cases hj)
 have h2 : putsOf l.toArray (fun _ => undef) (fun j => (Array.replicate l.toArray.size false).getD j false) a0 l.toArray.size = a0 := by
  generalize l.toArray.size = m at hg ⊢
  have : ∀ n, putsOf l.toArray (fun _ => undef) (fun j => (Array.replicate m false).getD j false) a0 n = a0 := by
   intro n
   induction n with
   | zero => rfl
   | succ n ih => unfold putsOf; rw [hg, ih]; rfl
  exact this _
 rw [h2] at this
 exact this
end
def sel (V : Nat → Option Value) (u : Nat → Value) (j : Nat) : Value := match V j with | some v => v | none => u j
def TV (V : Nat → Option Value) (N : List Nat) (S : (Nat → Prop) → Nat → (Nat → Value) → World → Prop) (X : Nat → Prop) (j : Nat) (u : Nat → Value) (w : World) : Prop := match V j with | some v => u j = v | none => N.contains j = true → S X j u w
def AllL (C : Nat → Prop) : List Nat → Prop
 | [] => True
 | j :: r => C j ∧ AllL C r
theorem AllL.at_ {C : Nat → Prop} : ∀ {l : List Nat}, AllL C l → ∀ j, l.contains j = true → C j
 | [], _, j, h => by simp at h
 | k :: r, h, j, hj => by
  rw [List.contains_cons, Bool.or_eq_true] at hj
  rcases hj with e | e
  · rw [eq_of_beq e]; exact h.1
  · exact h.2.at_ j e
theorem AllL.of {C : Nat → Prop} : ∀ {l : List Nat}, (∀ j, j ∈ l → C j) → AllL C l
 | [], _ => trivial
 | k :: r, h => ⟨h k (List.mem_cons_self ..), AllL.of fun j hj => h j (List.mem_cons_of_mem _ hj)⟩
section
variable {P : Program} {Q : Exit → Act → World → Prop} {ops : Array Oper} {M : List Nat} {V : Nat → Option Value} {N : List Nat} {S : (Nat → Prop) → Nat → (Nat → Value) → World → Prop} {G : (Nat → Prop) → World → Prop} {R : World → World → Prop} {Sp : List Nat} {a0 : Act} {X : Nat → Prop} {j k : Nat} {u : Nat → Value} {w : World} {o : Oper} {l : List Oper} {A : List (Nat × Tmp)} {As : List (List (Nat × Tmp))}
theorem TV.sel (h : TV V N S X j u w) : sel V u j = u j := by
 unfold TV at h
 unfold pm.sel
 cases hV : V j with
 | none => rfl
 | some v => rw [hV] at h; exact h.symm
theorem lay_sel : ∀ (A : List (Nat × Tmp)), (∀ p, p ∈ A → sel V u p.1 = u p.1) → lay u a0 A = lay (sel V u) a0 A
 | [], _ => rfl
 | (j, d) :: A, h => by
  unfold lay
  rw [lay_sel A fun p hp => h p (List.mem_cons_of_mem _ hp), h (j, d) (List.mem_cons_self ..)]
def RvS (P : Program) (ops : Array Oper) (M : List Nat) (V : Nat → Option Value) (N : List Nat) (S : (Nat → Prop) → Nat → (Nat → Value) → World → Prop) (G : (Nat → Prop) → World → Prop) (a0 : Act) (A : List (Nat × Tmp)) (i : Nat) (o : Oper) : Prop :=
 ∀ (u : Nat → Value) (w : World) (X : Nat → Prop), ¬ X i → (∀ j, isAnc M i j = true → X j) → (∀ k, isAnc M k i = true → ¬ X k) → G X w → (∀ j, X j → TV V N S X j u w) →
  ∀ K : Act → World → Prop, (∀ v w', G (fun k => k = i ∨ X k) w' → AllL (fun j => j = i ∨ X j → S (fun k => k = i ∨ X k) j (updV u i v) w') N → (∀ v', V i = some v' → v = v') → K ((lay (sel V u) a0 A).put o.dst v) w') →
   if Region.wanted o (yielded ops (lay (sel V u) a0 A).tmps) = true then o.wp P (lay (sel V u) a0 A) w K PanicFree else K ((lay (sel V u) a0 A).put o.dst undef) w
def RvR (P : Program) (ops : Array Oper) (M : List Nat) (V : Nat → Option Value) (N : List Nat) (S : (Nat → Prop) → Nat → (Nat → Value) → World → Prop) (G : (Nat → Prop) → World → Prop) (R : World → World → Prop) (a0 : Act) (A : List (Nat × Tmp)) (i : Nat) (o : Oper) : Prop :=
 ∀ (u : Nat → Value) (w : World) (X : Nat → Prop), ¬ X i → (∀ j, isAnc M i j = true → X j) → (∀ k, isAnc M k i = true → ¬ X k) → G X w → (∀ j, X j → TV V N S X j u w) →
  ∀ K : Act → World → Prop, (∀ v w', R w w' → TV V N S (fun k => k = i ∨ X k) i (updV u i v) w' → K ((lay (sel V u) a0 A).put o.dst v) w') →
   if Region.wanted o (yielded ops (lay (sel V u) a0 A).tmps) = true then o.wp P (lay (sel V u) a0 A) w K PanicFree else K ((lay (sel V u) a0 A).put o.dst undef) w
theorem RvR.out (hA : ∀ p, p ∈ A → isAnc M k p.1 = true) (h : RvR P ops M V N S G R a0 A k o) : RgStepR P ops M (TV V N S) G R a0 A k o := by
 intro u w X hi hX hF hG hT K hK
 have e := lay_sel (V := V) (u := u) (a0 := a0) A fun p hp => (hT _ (hX _ (hA p hp))).sel
 rw [e] at hK ⊢
 exact h u w X hi hX hF hG hT K hK
theorem RvS.out (hA : ∀ p, p ∈ A → isAnc M k p.1 = true) (h : RvS P ops M V N S G a0 A k o) : RgStep P ops M (TV V N S) G a0 A k o := by
 intro u w X hi hX hF hG hT K hK
 have e := lay_sel (V := V) (u := u) (a0 := a0) A fun p hp => (hT _ (hX _ (hA p hp))).sel
 rw [e] at hK ⊢
 refine h u w X hi hX hF hG hT K fun v w' hG' hS hv => hK v w' hG' fun j hj => ?_
 unfold TV
 cases hV : V j with
 | none => exact fun hN => hS.at_ j hN hj
 | some v' =>
  by_cases hji : j = k
  · subst hji
    rw [updV_self]
    exact hv v' hV
  · have h1 := hT j (hj.resolve_left hji)
    unfold TV at h1
    rw [hV] at h1
    exact (updV_ne _ _ hji).trans h1
def RvAll (P : Program) (ops : Array Oper) (M : List Nat) (V : Nat → Option Value) (N : List Nat) (S : (Nat → Prop) → Nat → (Nat → Value) → World → Prop) (G : (Nat → Prop) → World → Prop) (R : World → World → Prop) (Sp : List Nat) (a0 : Act) : Nat → List Oper → List (List (Nat × Tmp)) → Prop
 | _, [], _ => True
 | _, _ :: _, [] => False
 | k, o :: l, A :: As => (RvS P ops M V N S G a0 A k o ∨ (Sp.contains k = false ∧ RvR P ops M V N S G R a0 A k o)) ∧ RvAll P ops M V N S G R Sp a0 (k + 1) l As
theorem rvn : RvAll P ops M V N S G R Sp a0 k [] As := by cases As <;> trivial
theorem rvc (h : RvR P ops M V N S G R a0 A k o) (hl : RvAll P ops M V N S G R Sp a0 (k + 1) l As) (hk : Sp.contains k = false := by rfl) : RvAll P ops M V N S G R Sp a0 k (o :: l) (A :: As) := ⟨.inr ⟨hk, h⟩, hl⟩
theorem noV {v : Value} {o : Option Value} (h : o = none) : ∀ v', o = some v' → v = v' := fun v' e => by rw [h] at e; cases e
theorem rvs (h : RvS P ops M V N S G a0 A k o) (hl : RvAll P ops M V N S G R Sp a0 (k + 1) l As) : RvAll P ops M V N S G R Sp a0 k (o :: l) (A :: As) := ⟨.inl h, hl⟩
theorem RvAll.out {B : List (List (Nat × Tmp))} (hB : ∀ i p, p ∈ B.getD i [] → isAnc M i p.1 = true) : ∀ (l : List Oper) (As : List (List (Nat × Tmp))) (k : Nat), (∀ i, As.getD i [] = B.getD (k + i) []) → RvAll P ops M V N S G R Sp a0 k l As → RgAll P ops M (TV V N S) G R Sp a0 B k l
 | [], _, _, _, _ => trivial
 | o :: l, [], k, _, h => h.elim
 | o :: l, A :: As, k, hA, h => by
  have h0 : B.getD k [] = A := (hA 0).symm
  refine ⟨?_, RvAll.out hB l As (k + 1) (fun i => by have := hA (i + 1); rw [show k + 1 + i = k + (i + 1) by omega, ← this]; rfl) h.2⟩
  rw [h0]
  rcases h.1 with h1 | ⟨h1, h2⟩
  · exact .inl (h1.out fun p hp => hB k p (by rw [h0]; exact hp))
  · exact .inr ⟨h1, h2.out fun p hp => hB k p (by rw [h0]; exact hp)⟩
theorem wp_region_rv {id : Nat} {l : List Oper} {a0 : Act} {w : World} (V : Nat → Option Value) (N : List Nat) (S : (Nat → Prop) → Nat → (Nat → Value) → World → Prop) (G : (Nat → Prop) → World → Prop) (R : World → World → Prop) (Sp : List Nat) (M : List Nat) (As : List (List (Nat × Tmp))) (Af : List (Nat × Tmp)) (hm : P.follows .mixedOrders = true)
 (hB : ((rgB l.toArray a0.tmps.size && maskB l.toArray M && (List.range l.length).all (fun i => looksB l.toArray M i (As.getD i [])) && allB l.toArray Af) && ((List.range As.length).all (fun i => (As.getD i []).all fun p => isAnc M i p.1) && N.all fun j => decide (j < l.length) && (V j).isNone)) = true)
 (hsG : ∀ i (X : Nat → Prop) w w', Sp.contains i = false → R w w' → G X w → G (fun k => k = i ∨ X k) w')
 (hsS : AllL (fun j => ∀ i (X : Nat → Prop) u u' w w', Sp.contains i = false → i ≠ j → isAnc M j i = false → X j → R w w' → (∀ k, k = j ∨ isAnc M j k = true → u' k = u k) → S X j u w → S (fun k => k = i ∨ X k) j u' w') N)
 (h0 : G (fun _ => False) w.drew) (hs : RvAll P l.toArray M V N S G R Sp a0 0 l As)
 (he : ∀ (u : Nat → Value) (w : World) (X : Nat → Prop), (∀ j, j < l.length → X j) → G X w → AllL (fun j => S X j u w) N → Q .normal (lay (sel V u) a0 Af) w) : (Code.region id l.toArray true).wp P Q a0 w := by
 rw [Bool.and_eq_true] at hB
 obtain ⟨hB, hB2⟩ := hB
 rw [Bool.and_eq_true] at hB2
 obtain ⟨hC, hN⟩ := hB2
 have hAf : allB l.toArray Af = true := by rw [Bool.and_eq_true] at hB; exact hB.2
 refine wp_region_rg (TV V N S) G R Sp M As Af hm hB hsG (fun i X j u u' w w' h1 h2 h3 h4 h5 h6 h => ?_) h0 (RvAll.out (fun i p hp => ?_) l As 0 (fun i => by rw [Nat.zero_add]) hs) (fun u w X hX hG hT => ?_)
 · unfold TV at h ⊢
   cases hV : V j with
   | none => rw [hV] at h; exact fun hN => hsS.at_ j hN i X u u' w w' h1 h2 h3 h4 h5 h6 (h hN)
   | some v => rw [hV] at h; exact (h6 j (.inl rfl)).trans h
 · by_cases hi : i < As.length
   · exact List.all_eq_true.1 (List.all_eq_true.1 hC i (List.mem_range.2 hi)) p hp
   · rw [List.getD_eq_getElem?_getD, List.getElem?_eq_none (by omega)] at hp
     cases hp
 · have e := lay_sel (V := V) (u := u) (a0 := a0) Af fun p hp => by
    unfold allB at hAf
    rw [Bool.and_eq_true] at hAf
    have h1 := List.all_eq_true.1 hAf.1 p hp
    rw [Bool.and_eq_true] at h1
    exact (hT p.1 (by simpa using h1.1)).sel
   rw [e]
   refine he u w X hX hG (AllL.of fun j hj => ?_)
   have h1 := List.all_eq_true.1 hN j hj
   rw [Bool.and_eq_true] at h1
   have h2 := hT j (of_decide_eq_true h1.1)
   unfold TV at h2
   cases hV : V j with
   | none => rw [hV] at h2; exact h2 (by rw [List.contains_iff_mem]; exact hj)
   | some v => rw [hV] at h1; exact absurd h1.2 (by simp)
end
end Go.Proofs.YtcnndoefgjbmiaaGreat.pm
