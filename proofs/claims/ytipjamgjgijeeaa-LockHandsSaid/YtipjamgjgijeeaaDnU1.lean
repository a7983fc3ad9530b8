/-
  Own framework, part U1: slices that all hold one mark, grown from one another in one room or in many.
  Conditions: none; general over any program.
-/
import Derived.Test.YtipjamgjgijeeaaDnX
set_option linter.unusedSectionVars false
set_option synthInstance.maxSize 10000
set_option synthInstance.maxHeartbeats 400000
set_option maxHeartbeats 2000000
namespace Go.Dn
set_option linter.unusedSimpArgs false
set_option linter.unusedVariables false
variable {P : Program} [sd : Side]
/-- 'append' where there is room: what becomes of the block. -/
theorem run_append_in {t t' ty e : TypeId} [st : SlT P t e] [st' : SlT P t' e] {α : Type} {c : Cd α} {z : α} {bytes : Nat} [tye : Ty P e c z bytes] {b cap n : Nat} {l : List Value} {s2 : Sl} {ys : List α} {w : World}
    (hbk : w.heap[b]? = some (.cells l.toArray e)) (hll : l.length = cap * c.n) (hr : RdOk (hof w) s2 c ys) (hfit : n + ys.length ≤ cap) :
    ∃ w', (Builtin.append_ #[t, t'] ty [sv ⟨some ⟨b, 0, none⟩, n, cap⟩, sv s2].toArray).run P w = .ok (sv ⟨some ⟨b, 0, none⟩, n + ys.length, cap⟩) w' ∧ w'.heap[b]? = some (.cells (wr l (n * c.n) (flat c ys)).toArray e) ∧ (∀ k, k ≠ b → w'.heap[k]? = w.heap[k]?) ∧ Same w w' := by
  obtain ⟨i, hi, hsz, hby, hz⟩ := tye.info
  have hlen2 : s2.len = ys.length := hr.1
  unfold Builtin.append_
  have hsv : ∀ a n cap, sv ⟨a, n, cap⟩ = .slice a n cap := fun _ _ _ => rfl
  have hsv2 : sv s2 = .slice s2.a s2.len s2.cap := rfl
  simp only [List.getElem?_toArray, List.getElem?_cons_zero, List.getElem?_cons_succ, hsv, hsv2, Sem.run_bind, run_und st.und, run_und st'.und, Result.andThen, run_size hi, hsz, Builtin.lenOf, Sem.run_pure, Bool.not_false, if_true, Bool.false_eq_true, if_false, hlen2]
  have f2 : ∀ w1 : World, hof w1 = hof w → (Builtin.firstCells c.n ys.length (.slice s2.a ys.length s2.cap)).run P w1 = .ok (flat c ys).toArray w1 := by
    intro w1 hw1
    have := run_first (P := P) (w := w1) (s := s2) (c := c) (xs := ys) (by rw [hw1]; exact hr)
    rwa [hsv2, hlen2] at this
  rw [if_pos hfit]
  simp only [Sem.run_bind, f2 w rfl, Result.andThen]
  have hn : n * c.n + ys.length * c.n ≤ cap * c.n := by rw [← Nat.add_mul]; exact Nat.mul_le_mul_right _ hfit
  obtain ⟨w', r, q1, q2, q3⟩ := run_storeCells (P := P) (b := b) (off := n * c.n) (T := e) (flat c ys) 0 w _ hbk (by rw [flat_len, hll]; omega) (one_flat c ys)
  rw [Nat.add_zero] at q1
  refine ⟨w', ?_, q1, q2, q3⟩
  simp only [add_addr, Nat.zero_add]
  rw [show (Sem.run P (storeCells { block := b, off := n * c.n } (flat c ys)) w) = .ok () w' from r]
  rfl
/-- 'append' where there is no room: a new block. -/
theorem run_append_new {t t' ty e : TypeId} [st : SlT P t e] [st' : SlT P t' e] {α : Type} {c : Cd α} {z : α} {bytes : Nat} [tye : Ty P e c z bytes] {s s2 : Sl} {xs ys : List α} {w : World}
    (hrx : RdOk (hof w) s c xs) (hr : RdOk (hof w) s2 c ys) (hb : (xs.length + ys.length) * bytes ≤ 140737488355328) (hfit : ¬ xs.length + ys.length ≤ s.cap) :
    ∃ cap w', xs.length + ys.length ≤ cap ∧ (Builtin.append_ #[t, t'] ty [sv s, sv s2].toArray).run P w = .ok (sv ⟨some ⟨w.heap.size, 0, none⟩, xs.length + ys.length, cap⟩) w' ∧
      w'.heap = w.heap.push (.cells (flat c (xs ++ ys) ++ flat c (List.replicate (cap - (xs.length + ys.length)) z)).toArray e) ∧ Same w w' := by
  obtain ⟨i, hi, hsz, hby, hz⟩ := tye.info
  have hpos := tye.pos
  have hlen2 : s2.len = ys.length := hr.1
  have hneed : xs.length + ys.length ≤ 140737488355328 := Nat.le_trans (Nat.le_mul_of_pos_right _ hpos) hb
  unfold Builtin.append_
  have hsv : sv s = .slice s.a s.len s.cap := rfl
  have hsv2 : sv s2 = .slice s2.a s2.len s2.cap := rfl
  simp only [List.getElem?_toArray, List.getElem?_cons_zero, List.getElem?_cons_succ, hsv, hsv2, Sem.run_bind, run_und st.und, run_und st'.und, Result.andThen, run_size hi, hsz, Builtin.lenOf, Sem.run_pure, Bool.not_false, if_true, Bool.false_eq_true, if_false, hlen2]
  have hlen : s.len = xs.length := hrx.1
  rw [hlen]
  have f1 : ∀ w1 : World, hof w1 = hof w → (Builtin.firstCells c.n xs.length (.slice s.a xs.length s.cap)).run P w1 = .ok (flat c xs).toArray w1 := by
    intro w1 hw1
    have := run_first (P := P) (w := w1) (s := s) (c := c) (xs := xs) (by rw [hw1]; exact hrx)
    rwa [hsv, hlen] at this
  have f2 : ∀ w1 : World, hof w1 = hof w → (Builtin.firstCells c.n ys.length (.slice s2.a ys.length s2.cap)).run P w1 = .ok (flat c ys).toArray w1 := by
    intro w1 hw1
    have := run_first (P := P) (w := w1) (s := s2) (c := c) (xs := ys) (by rw [hw1]; exact hr)
    rwa [hsv2, hlen2] at this
  rw [if_neg hfit]
  have hno : ¬ (((xs.length + ys.length : Nat) : Int) > IntKind.i64.max ∧ (False ∨ i.bytes = 0)) := by
    rintro ⟨_, h | h⟩
    · exact h
    · omega
  have hnx : ¬ (Builtin.nextslicecap (xs.length + ys.length) s.cap * i.bytes > 2 ^ 48) := by
    have h1 := next_le (need := xs.length + ys.length) (old := s.cap) (by omega)
    have h2 : Builtin.nextslicecap (xs.length + ys.length) s.cap * i.bytes ≤ 2 * (xs.length + ys.length) * i.bytes := Nat.mul_le_mul_right _ h1
    rw [hby] at h2 ⊢
    rw [Nat.mul_assoc] at h2
    omega
  simp only [Sem.run_bind, run_info hi, Result.andThen]
  rw [if_neg hno]
  simp only [Sem.run_bind, run_info hi, Result.andThen]
  rw [if_neg hnx]
  have hch : ∀ q : Question, q.forced = false → (choose q).run P w = .ok (q.cut (w.tape w.drawn q)) { w with drawn := w.drawn + 1 } := by
    intro q hq
    simp [choose, Sem.run, hq]
  simp only [Sem.run_bind, hch (.appendCap (xs.length + ys.length) s.cap e) rfl, Result.andThen, run_info hi, run_ask]
  generalize hcap : (Question.appendCap (xs.length + ys.length) s.cap e).cut (w.tape w.drawn (.appendCap (xs.length + ys.length) s.cap e)) = newCap
  have hge : xs.length + ys.length ≤ newCap := by
    rw [← hcap]; simp only [Question.cut]; omega
  simp only [f1 _ (show hof { w with drawn := w.drawn + 1 } = hof w from rfl), f2 _ (show hof { w with drawn := w.drawn + 1 } = hof w from rfl), run_zero (z := z), newRow, newObj, Sem.run_bind, Sem.run, Result.andThen, Sem.run_pure]
  rw [zeroCells_eq c z]
  have harr : (flat c xs).toArray ++ (flat c ys).toArray ++ (flat c (List.replicate (newCap - (xs.length + ys.length)) z)).toArray = (flat c (xs ++ ys) ++ flat c (List.replicate (newCap - (xs.length + ys.length)) z)).toArray := by
    rw [flat_append]; simp
  rw [harr]
  exact ⟨newCap, _, hge, rfl, rfl, rfl, rfl, rfl⟩
/-! ## Marked slices -/
/-- One slice of a mark in a heap. -/
def MkS (k : IntKind) (e : TypeId) (m : Int) (h : Hp) (x : Sl × Nat) : Prop := (x.1 = Sl.nil ∧ x.2 = 0) ∨ ∃ (b cap : Nat) (l : List Value), x.1 = ⟨some ⟨b, 0, none⟩, x.2, cap⟩ ∧ h b = some (.cells l.toArray e) ∧ l.length = cap ∧ x.2 ≤ cap ∧ l.take x.2 = List.replicate x.2 (.int k m)
/-- Slices that all hold one mark; their rooms may be shared. -/
def mrk (k : IntKind) (e : TypeId) (m : Int) (vs : List (Sl × Nat)) : HProp := fun h => ∀ x ∈ vs, MkS k e m h x
theorem flat_int {k : IntKind} {m : Int} : ∀ n, flat (cInt k) (List.replicate n m) = List.replicate n (.int k m)
  | 0 => rfl
  | n + 1 => by
    rw [List.replicate_succ, List.replicate_succ, ← flat_int n]
    rfl
theorem MkS.rd {k : IntKind} {e : TypeId} {m : Int} {h : Hp} {x : Sl × Nat} (hx : MkS k e m h x) : RdOk h x.1 (cInt k) (List.replicate x.2 m) := by
  rcases hx with ⟨h1, h2⟩ | ⟨b, cap, l, h1, h2, h3, h4, h5⟩
  · rw [h1, h2]; exact ⟨rfl, fun hc => absurd rfl hc⟩
  · rw [h1]
    refine ⟨by simp, fun _ => ⟨b, 0, l, e, (0, 0), rfl, h2, ?_⟩⟩
    rw [List.drop_zero, List.length_replicate, flat_int, show x.2 * (cInt k).n = x.2 from Nat.mul_one _, h5]
section
variable {k : IntKind} {e : TypeId} {m : Int} {vs : List (Sl × Nat)} {F : List HProp} {φ : W} {K : Value → W}
theorem mrk_of {s : Sl} {n : Nat} {hp : Hp} (hh : sl (cInt k) e s (List.replicate n m) hp) : mrk k e m [(s, n)] hp := by
  intro x hx
  rw [List.mem_singleton.1 hx]
  rcases hh with ⟨rfl, hn, _⟩ | ⟨b, cap, junk, rfl, hle, hj, rfl⟩
  · refine .inl ⟨rfl, ?_⟩
    have := congrArg List.length hn
    simpa using this
  · rw [List.length_replicate] at hle hj
    refine .inr ⟨b, cap, flat (cInt k) (List.replicate n m) ++ junk, by simp, by simp [sng], ?_, hle, ?_⟩
    · rw [List.length_append, flat_len, List.length_replicate, hj, show (cInt k).n = 1 from rfl]; omega
    · rw [flat_int]
      exact List.take_left' (by simp)
theorem mrk_mk {s : Sl} {n : Nat} (h : Ent (mrk k e m [(s, n)] :: F) φ) : Ent (sl (cInt k) e s (List.replicate n m) :: F) φ :=
  ent_pre (fun _ hs => sats_head (fun _ hh => mrk_of hh) hs) h
theorem mrk_rs {x : Sl × Nat} (hx : x ∈ vs) (M : List HProp) : Rs (mrk k e m vs :: M) x.1 (cInt k) (List.replicate x.2 m) := ⟨fun h hs => by
  obtain ⟨g1, g2, d, rfl, ha, _⟩ := hs
  exact (ha x hx).rd.mono uni_l⟩
theorem sats_upd {A A' : HProp} {M : List HProp} {w w' : World} {b : Nat} {o' : Obj} (hs : sats (A :: M) (hof w)) (hA : ∀ h, A h → (∀ i, h i = none ∨ h i = w.heap[i]?) → A' (fun i => if i = b then some o' else h i)) (ho : ∀ h, A h → h b ≠ none)
    (h1 : w'.heap[b]? = some o') (h2 : ∀ i, i ≠ b → w'.heap[i]? = w.heap[i]?) : sats (A' :: M) (hof w') := by
  obtain ⟨g1, g2, d, e1, ha, hM⟩ := hs
  have hb := ho _ ha
  refine ⟨fun i => if i = b then some o' else g1 i, g2, fun i => ?_, ?_, hA _ ha (fun i => ?_), hM⟩
  · by_cases hi : i = b
    · subst hi
      exact .inr ((d i).resolve_left hb)
    · simp only [if_neg hi]; exact d i
  · funext i
    by_cases hi : i = b
    · subst hi
      show w'.heap[i]? = _
      rw [h1]; simp [uni]
    · show w'.heap[i]? = _
      rw [h2 i hi]
      have := congrFun e1 i
      simp only [uni, if_neg hi]
      exact this
  · have := congrFun e1 i
    cases hg : g1 i with
    | none => exact .inl rfl
    | some y =>
      right
      have h3 : w.heap[i]? = uni g1 g2 i := this
      rw [h3]; simp [uni, hg]
theorem mrk_append {t t' ty : TypeId} [SlT P t e] [SlT P t' e] {z : Int} {bytes : Nat} [Ty P e (cInt k) z bytes] {s s2 : Sl} {n : Nat} (hx : (s, n) ∈ vs) [rs : Rs (mrk k e m vs :: F) s2 (cInt k) [m]] (hC : (n + 1) * bytes ≤ 140737488355328)
    (h : ∀ s', Ent (mrk k e m (vs ++ [(s', n + 1)]) :: F) (K (sv s'))) : Ent (mrk k e m vs :: F) (ef P (Builtin.append_ #[t, t'] ty [sv s, sv s2].toArray) K) := fun w hw => by
  have hr := rs.out _ hw.1
  have hrx : RdOk (hof w) s (cInt k) (List.replicate n m) := (mrk_rs (k := k) (e := e) (m := m) hx F).out _ hw.1
  by_cases hfit : n + 1 ≤ s.cap
  · obtain ⟨b, l, hs, hbk, hll, htk⟩ : ∃ (b : Nat) (l : List Value), s = ⟨some ⟨b, 0, none⟩, n, s.cap⟩ ∧ w.heap[b]? = some (.cells l.toArray e) ∧ l.length = s.cap ∧ l.take n = List.replicate n (.int k m) := by
      obtain ⟨g1, g2, d, e1, ha, _⟩ := hw.1
      rcases ha _ hx with ⟨h1, h2⟩ | ⟨b, cap, l, h1, h2, h3, h4, h5⟩
      · simp only at h1; rw [h1] at hfit; simp at hfit
      · simp only at h1 h3 h5
        subst h1
        refine ⟨b, l, rfl, ?_, h3, h5⟩
        have := congrFun e1 b
        show hof w b = _
        rw [this]; simp [uni, h2]
    have hc1 : (cInt k).n = 1 := rfl
    obtain ⟨w', r, q1, q2, q3⟩ := run_append_in (P := P) (t := t) (t' := t') (ty := ty) (c := cInt k) (n := n) (cap := s.cap) hbk (by rw [hll, hc1, Nat.mul_one]) hr (by simpa using hfit)
    rw [← hs] at r
    refine ⟨_, w', r, h _ w' ⟨?_, sd.keep q3 hw.2⟩⟩
    have hwl : wr l (n * (cInt k).n) (flat (cInt k) [m]) = l.set n (.int k m) := by
      rw [hc1, Nat.mul_one]
      unfold wr
      show l.take n ++ [Value.int k m] ++ l.drop (n + 1) = _
      rw [List.set_eq_take_append_cons_drop, if_pos (by omega), List.append_assoc]; rfl
    rw [hwl] at q1
    refine sats_upd (b := b) hw.1 (fun hp ha hag x hx' => ?_) (fun hp ha => ?_) q1 q2
    · rcases List.mem_append.1 hx' with hx' | hx'
      · rcases ha x hx' with h1 | ⟨b2, cap2, l2, h1, h2, h3, h4, h5⟩
        · exact .inl h1
        · by_cases hbb : b2 = b
          · subst hbb
            have hl2 : l2 = l := by
              rcases hag b2 with hg | hg
              · rw [hg] at h2; cases h2
              · rw [hg, hbk] at h2
                have := Option.some.inj h2
                simp only [Obj.cells.injEq, List.toArray_inj] at this
                simpa using this.1.symm
            subst hl2
            refine .inr ⟨b2, cap2, l2.set n (.int k m), h1, by simp, by rw [List.length_set]; exact h3, h4, ?_⟩
            rw [List.take_set, h5]
            apply List.ext_getElem (by simp)
            intro i i1 i2
            rw [List.getElem_set]
            split <;> simp
          · exact .inr ⟨b2, cap2, l2, h1, by simp only [if_neg hbb]; exact h2, h3, h4, h5⟩
      · rw [List.mem_singleton.1 hx']
        exact .inr ⟨b, s.cap, l.set n (.int k m), rfl, by simp, by rw [List.length_set]; exact hll, hfit, take_set_rep htk (by omega)⟩
    · have hh := ha _ hx
      rcases hh with ⟨h1, h2⟩ | ⟨b2, cap2, l2, h1, h2, h3, h4, h5⟩
      · simp only at h1; rw [h1] at hfit; simp at hfit
      · simp only at h1
        rw [hs] at h1
        have : b = b2 := by
          have := congrArg Sl.a h1
          simp only [Option.some.injEq, Addr.mk.injEq] at this
          exact this.1
        subst this
        rw [h2]; simp
  · obtain ⟨cap, w', hge, r, hheap, hsame⟩ := run_append_new (P := P) (t := t) (t' := t') (ty := ty) (z := z) (c := cInt k) hrx hr (by simpa using hC) (by simpa using hfit)
    simp only [List.length_replicate, List.length_singleton] at r hheap hge
    refine ⟨_, w', r, h _ w' ⟨?_, sd.keep hsame hw.2⟩⟩
    obtain ⟨g1, g2, d, e1, ha, hM⟩ := hw.1
    have hnone : ∀ i, w.heap.size ≤ i → g1 i = none ∧ g2 i = none := fun i hi => by
      have h1 : hof w i = none := by simp [hof, hi]
      rw [e1] at h1
      simp only [uni, Option.or_eq_none_iff] at h1
      exact h1
    let o : Obj := .cells (flat (cInt k) (List.replicate n m ++ [m]) ++ flat (cInt k) (List.replicate (cap - (n + 1)) z)).toArray e
    refine ⟨fun i => if i = w.heap.size then some o else g1 i, g2, fun i => ?_, ?_, fun x hx' => ?_, hM⟩
    · by_cases hi : i = w.heap.size
      · exact .inr (hnone i (by omega)).2
      · simp only [if_neg hi]; exact d i
    · funext i
      show w'.heap[i]? = _
      rw [hheap, Array.getElem?_push]
      by_cases hi : i = w.heap.size
      · subst hi; simp [uni, o]
      · rw [if_neg hi]
        have := congrFun e1 i
        simp only [uni, if_neg hi]
        exact this
    · rcases List.mem_append.1 hx' with hx' | hx'
      · rcases ha x hx' with h1 | ⟨b2, cap2, l2, h1, h2, h3, h4, h5⟩
        · exact .inl h1
        · refine .inr ⟨b2, cap2, l2, h1, ?_, h3, h4, h5⟩
          have : b2 ≠ w.heap.size := fun hc => by
            rw [(hnone b2 (by omega)).1] at h2; cases h2
          simp only [if_neg this]; exact h2
      · rw [List.mem_singleton.1 hx']
        refine .inr ⟨w.heap.size, cap, flat (cInt k) (List.replicate n m ++ [m]) ++ flat (cInt k) (List.replicate (cap - (n + 1)) z), rfl, by simp [o], ?_, hge, ?_⟩
        · rw [List.length_append, flat_len, flat_len, List.length_append, List.length_replicate, List.length_replicate, List.length_singleton, show (cInt k).n = 1 from rfl]; omega
        · rw [← List.replicate_succ', flat_int]
          exact List.take_left' (by simp)
end
end Go.Dn
