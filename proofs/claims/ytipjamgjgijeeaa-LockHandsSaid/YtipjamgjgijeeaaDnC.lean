/-
  Own framework, part C: regions that draw their order: what is read is read first and read again behind each operation that may come between.
  Conditions: none; general over any program.
-/
import Derived.Test.YtipjamgjgijeeaaDnB
namespace Go.Dn
set_option linter.unusedSimpArgs false
set_option linter.unusedVariables false
variable {P : Program} {ro : Option Nat}

def bmt (bm : List Nat) (r i : Nat) : Bool := Nat.testBit (bm.getD i 0) r
/-- Whatever order is picked from here on; what is pending is read again. -/
def wpX (ro : Option Nat) (P : Program) (ops : Array Oper) (bm : List Nat) (Q : Act → World → Prop) : Nat → Array Bool → List (Nat × W) → Act → World → Prop
  | 0, listed, _, a, w => Region.ready .any ops listed = [] ∧ Q a w
  | f + 1, listed, pend, a, w => (Region.ready .any ops listed = [] → Q a w) ∧ ∀ i ∈ Region.ready .any ops listed,
      wpOpIn (FR ro) 0 P ops (fun _ _ _ => False) i (fun a' w' => (w' = w ∨ ∀ p ∈ pend, bmt bm p.1 i = false → p.2 w') ∧ wpX ro P ops bm Q f (listed.setIfInBounds i true) pend a' w') a w

theorem wpX_any {ops : Array Oper} {bm : List Nat} {Q : Act → World → Prop} {Q' : Exit → Act → World → Prop} (hQ : ∀ a w, Q a w → Q' .normal a w) :
    ∀ (f : Nat) (listed : Array Bool) (pend : List (Nat × W)) (a : Act) (w : World), wpX ro P ops bm Q f listed pend a w → wpAnyIn (FR ro) 0 P .any ops Q' f listed a w
  | 0, _, _, _, _, h => ⟨h.1, hQ _ _ h.2⟩
  | f + 1, listed, pend, a, w, h => by
    refine ⟨fun h0 => hQ _ _ (h.1 h0), fun i hi => ?_⟩
    have h1 := h.2 i hi
    have h2 : wpOpIn (FR ro) 0 P ops (fun _ _ _ => False) i (wpAnyIn (FR ro) 0 P .any ops Q' f (listed.setIfInBounds i true)) a w :=
      wpOpIn_mono (fun a' w' hh => wpX_any hQ f _ _ _ _ hh.2) h1
    unfold wpOpIn at h2 ⊢
    split
    · rename_i ho; simpa [ho] using h2
    · rename_i o ho
      simp only [ho] at h2
      split
      · rename_i hw
        simp only [hw, if_true] at h2
        refine ⟨h2.1, ?_⟩
        have h3 := h2.2
        generalize (o.semAt (FR ro).round a.eval).run P w = r at *
        cases r with
        | ok x w' =>
          cases x <;> simp only [Oper.uponIn] at h3 ⊢ <;> first
            | exact h3
            | exact ⟨h3.1, CallsIn.mono h3.2 fun e w'' he => by cases e <;> first | exact he | exact he.elim | (obtain ⟨_, _, he⟩ := he; exact he.elim)⟩
            | exact ⟨h3.1, RoundIn.mono h3.2 fun e w'' he => by cases e <;> first | exact he | exact he.elim | (obtain ⟨_, _, he⟩ := he; exact he.elim)⟩
        | halt x w' => cases x <;> simp only [Oper.uponIn] at h3 ⊢ <;> exact h3.elim
      · rename_i hw; simp only [hw] at h2; exact h2

/-- Taken from another state of the temporaries. -/
theorem opPut {ops : Array Oper} {j : Nat} {oi oj : Oper} {v : Value} (hj : ops[j]? = some oj) (hap : oi.apart ops oj = true)
    (hsj : ∀ cs b, oj.op ≠ .select cs b) (hdj : ∀ c, oj.op ≠ .defer c) {K : Act → World → Prop} {a : Act} {w : World}
    (h : wpOpIn (FR ro) 0 P ops (fun _ _ _ => False) j K (a.put oi.dst v) w) :
    wpOpIn (FR ro) 0 P ops (fun _ _ _ => False) j (fun a' w' => (∃ u, a'.tmps = (a.put oj.dst u).tmps) ∧ K (a'.put oi.dst v) w') a w := by
  obtain ⟨h1, h2, h3⟩ := Oper.apart_spec hap
  unfold wpOpIn at *
  simp only [hj] at *
  rw [wanted_put oj a oi.dst v h1] at h
  have lo : ∀ x : (∃ a₀ w₀, (fun (_ : Exit) (_ : Act) (_ : World) => False) Exit.outgrown a₀ w₀), False := fun ⟨_, _, x⟩ => x
  split
  · rename_i hw
    simp only [hw, if_true] at h
    unfold Oper.wpIn at *
    refine ⟨fun _ _ => trivial, ?_⟩
    have h := h.2
    rw [Oper.semAt_eq _ _ _ hdj, execOp_put oj hsj a oi.dst v h1] at h
    rw [Oper.semAt_eq _ _ _ hdj]
    generalize (execOp a.eval oj).run P w = r at *
    cases r with
    | ok x w' =>
      cases x <;> simp only [Oper.uponIn] at h ⊢
      case value u => exact ⟨⟨u, rfl⟩, by rw [← Act.put_comm a v u h2]; exact h⟩
      case skip => exact ⟨⟨undef, rfl⟩, by rw [← Act.put_comm a v undef h2]; exact h⟩
      case defer d => exact ⟨⟨undef, by cases oj.dst <;> rfl⟩, by rw [← Act.put_comm _ v undef h2, ← Act.put_defers]; exact h⟩
      case enter f args =>
        refine ⟨h.1, CallsIn.mono h.2 fun e w'' he => ?_⟩
        cases e with
        | returned u => exact ⟨⟨u, rfl⟩, by rw [← Act.put_comm a v u h2]; exact he⟩
        | panicked c => exact he
        | outgrown => exact (lo he).elim
      case row row args => exact ⟨h.1, RowsIn.mono h.2 fun u w'' he => ⟨⟨u, rfl⟩, by rw [← Act.put_comm a v u h2]; exact he⟩⟩
      case round l f tmps assign body =>
        refine ⟨h.1, RoundIn.mono h.2 fun e w'' he => ?_⟩
        cases e with
        | returned u => exact ⟨⟨u, rfl⟩, by rw [← Act.put_comm a v u h2]; exact he⟩
        | panicked c => exact he
        | outgrown => exact (lo he).elim
    | halt x w' => cases x <;> simp only [Oper.uponIn] at h ⊢
  · rename_i hw
    simp only [hw] at h
    exact ⟨fun _ _ => trivial, ⟨undef, rfl⟩, by rw [← Act.put_comm a v undef h2]; exact h.2⟩

/-- A quiet operation's value, in a state and a world. -/
def YldQ (P : Program) (ops : Array Oper) (o : Oper) (v : Value) (a : Act) (w : World) : Prop :=
  (Region.wanted o (yielded ops a.tmps) = true ∧ ((execOp a.eval o).run P w = .ok (.value v) w ∨ ((execOp a.eval o).run P w = .ok .skip w ∧ v = undef))) ∨ (Region.wanted o (yielded ops a.tmps) = false ∧ v = undef)
theorem eval_tmps {a a' : Act} (h : a'.tmps = a.tmps) : a'.eval = a.eval := by
  funext x
  cases x <;> simp [Act.eval, h]
theorem YldQ.put {ops : Array Oper} {oi oj : Oper} {v u : Value} {a a' : Act} {w : World} (hap : oi.apart ops oj = true) (hs : ∀ cs b, oi.op ≠ .select cs b)
    (h : YldQ P ops oi v a w) (ht : a'.tmps = (a.put oj.dst u).tmps) : YldQ P ops oi v a' w := by
  obtain ⟨_, _, h3⟩ := Oper.apart_spec hap
  unfold YldQ at *
  rw [eval_tmps ht, ht, execOp_put oi hs a oj.dst u h3, wanted_put oi a oj.dst u h3]
  exact h
theorem YldQ.wpOpIn {ops : Array Oper} {i : Nat} {o : Oper} {v : Value} {a : Act} {w : World} (hi : ops[i]? = some o) (hd : ∀ c, o.op ≠ .defer c) (hy : YldQ P ops o v a w)
    {Q : Exit → Act → World → Prop} {K : Act → World → Prop} (h : K (a.put o.dst v) w) : wpOpIn (FR ro) 0 P ops Q i K a w := by
  unfold Go.wpOpIn
  simp only [hi]
  rcases hy with ⟨hw, hv⟩ | ⟨hw, rfl⟩
  · simp only [hw, if_true]
    refine ⟨fun _ _ => trivial, ?_⟩
    rw [Oper.semAt_eq _ _ _ hd]
    rcases hv with hv | ⟨hv, rfl⟩ <;> (rw [hv]; exact h)
  · simp only [hw, Bool.false_eq_true, if_false]; exact ⟨fun _ _ => trivial, h⟩

/-- What has been listed is closed downwards. -/
def Closed (bm : List Nat) (listed : Array Bool) : Prop := ∀ i, listed.getD i false = true → ∀ r, bmt bm r i = true → listed.getD r false = true
/-- The transitive order is made of the edges. -/
def BmOk (ops : Array Oper) (bm : List Nat) : Prop := ∀ i r, bmt bm r i = true → ∃ o, ops[i]? = some o ∧ ∃ e ∈ o.after, Region.binds .any e = true ∧ (r = e.on ∨ bmt bm r e.on = true)
theorem ready_below {ops : Array Oper} {bm : List Nat} {listed : Array Bool} (hb : BmOk ops bm) (hc : Closed bm listed) {i r : Nat} (hr : i ∈ Region.ready .any ops listed)
    (h : bmt bm r i = true) : listed.getD r false = true := by
  obtain ⟨_, o, ho, hall⟩ := mem_ready.1 hr
  obtain ⟨o', ho', e, he, hbd, hor⟩ := hb i r h
  have : o' = o := Option.some.inj (ho'.symm.trans ho)
  subst this
  have h1 := hall e he hbd
  rcases hor with rfl | hor
  · exact h1
  · exact hc _ h1 _ hor
theorem Closed.set {ops : Array Oper} {bm : List Nat} {listed : Array Bool} (hb : BmOk ops bm) (hc : Closed bm listed) {i : Nat} (hr : i ∈ Region.ready .any ops listed) :
    Closed bm (listed.setIfInBounds i true) := by
  intro k hk r hkr
  by_cases hik : i = k
  · subst hik; exact getD_set_true (ready_below hb hc hr hkr)
  · rw [getD_set_ne false hik] at hk
    exact getD_set_true (hc k hk r hkr)
theorem getD_tf {listed : Array Bool} {i : Nat} (h : listed.getD i true = false) : listed.getD i false = false := by
  rcases Nat.lt_or_ge i listed.size with h1 | h1
  · simp [h1] at h ⊢; exact h
  · simp [Array.getElem?_eq_none h1] at h

/-- Quiet operations may be taken first, if what they read is read again behind each other operation that may come between. -/
theorem wpX_first {ops : Array Oper} {bm : List Nat} {Q : Act → World → Prop} {i : Nat} {oi : Oper} {v : Value} {φ : W} (hi : ops[i]? = some oi) (hb : BmOk ops bm)
    (hsel : ∀ (j : Nat) (o : Oper), ops[j]? = some o → (∀ cs b, o.op ≠ .select cs b) ∧ (∀ c, o.op ≠ .defer c))
    (hap : ∀ j oj, ops[j]? = some oj → j ≠ i → bmt bm i j = false → bmt bm j i = false → oi.apart ops oj = true) :
    ∀ (f : Nat) (listed : Array Bool) (pend : List (Nat × W)) (a : Act) (w : World), Closed bm listed → i ∈ Region.ready .any ops listed →
      φ w → (∀ w', φ w' → YldQ P ops oi v a w') →
      wpX ro P ops bm Q f (listed.setIfInBounds i true) ((i, φ) :: pend) (a.put oi.dst v) w → wpX ro P ops bm Q (f + 1) listed pend a w := by
  have weak : ∀ (f : Nat) (listed : Array Bool) (pend : List (Nat × W)) (a : Act) (w : World), wpX ro P ops bm Q f listed ((i, φ) :: pend) a w → wpX ro P ops bm Q f listed pend a w := by
    intro f
    induction f with
    | zero => intro listed pend a w h; exact h
    | succ f ih =>
      intro listed pend a w h
      exact ⟨h.1, fun j hj => wpOpIn_mono (fun a' w' hh => ⟨hh.1.imp id (fun h2 p hp => h2 p (.tail _ hp)), ih _ _ _ _ hh.2⟩) (h.2 j hj)⟩
  intro f
  induction f with
  | zero =>
    intro listed pend a w hc hr hφ hy H
    refine ⟨fun h => (by rw [h] at hr; cases hr), fun j hj => ?_⟩
    by_cases hji : j = i
    · subst hji
      exact (hy w hφ).wpOpIn hi (hsel j oi hi).2 ⟨.inl rfl, weak _ _ _ _ _ H⟩
    · have := ready_mono hj hji
      rw [H.1] at this
      cases this
  | succ f ih =>
    intro listed pend a w hc hr hφ hy H
    refine ⟨fun h => (by rw [h] at hr; cases hr), fun j hj => ?_⟩
    by_cases hji : j = i
    · subst hji
      exact (hy w hφ).wpOpIn hi (hsel j oi hi).2 ⟨.inl rfl, weak _ _ _ _ _ H⟩
    · have h1 := H.2 j (ready_mono hj hji)
      obtain ⟨hjun, oj, hoj, hall⟩ := mem_ready.1 hj
      have hiun := (mem_ready.1 hr).1
      have hij : bmt bm i j = false := by
        cases hh : bmt bm i j with
        | false => rfl
        | true => have := ready_below hb hc hj hh; rw [getD_tf hiun] at this; cases this
      have hji' : bmt bm j i = false := by
        cases hh : bmt bm j i with
        | false => rfl
        | true => have := ready_below hb hc hr hh; rw [getD_tf hjun] at this; cases this
      have hapart := hap j oj hoj hji hij hji'
      have h2 := opPut hoj hapart (hsel j oj hoj).1 (hsel j oj hoj).2 h1
      refine wpOpIn_mono (fun a' w' h3 => ?_) h2
      obtain ⟨⟨u, ht⟩, h4, h5⟩ := h3
      refine ⟨h4.imp id (fun h6 p hp => h6 p (.tail _ hp)), ?_⟩
      have hφ' : φ w' := by
        rcases h4 with rfl | h4
        · exact hφ
        · exact h4 (i, φ) (.head _) hij
      refine ih (listed.setIfInBounds j true) pend a' w' (hc.set hb hj) (ready_mono hr (Ne.symm hji)) hφ' (fun w'' hw'' => (hy w'' hw'').put hapart (hsel i oi hi).1 ht) ?_
      rw [Array.setIfInBounds_comm _ _ hji]
      exact h5
end Go.Dn
