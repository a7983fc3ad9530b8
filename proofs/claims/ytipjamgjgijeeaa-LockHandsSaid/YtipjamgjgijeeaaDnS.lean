/-
  Own framework, part S: slices of slices.
  Conditions: none; general over any program.
-/
import Derived.Test.YtipjamgjgijeeaaDnR
set_option linter.unusedSectionVars false
set_option synthInstance.maxSize 10000
set_option synthInstance.maxHeartbeats 400000
set_option maxHeartbeats 2000000
namespace Go.Dn
set_option linter.unusedSimpArgs false
set_option linter.unusedVariables false
variable {P : Program} [sd : Side]
theorem add_zero (a : Addr) : a.add 0 = a := rfl
theorem Cut.a0 {n : Nat} {s s' : Sl} {hi : Nat} (h : Cut n s s' 0 hi) : s'.a = s.a := by
  rw [h.a (.inr rfl)]
  cases s.a with
  | none => rfl
  | some a => simp [Addr.add]
theorem RdOk.cut {α : Type} {c : Cd α} {h : Hp} {s s' : Sl} {xs : List α} {lo hi : Nat} (hr : RdOk h s c xs) (hc : Cut c.n s s' lo hi) (hle : hi ≤ xs.length) : RdOk h s' c ((xs.drop lo).take (hi - lo)) := by
  refine ⟨by rw [hc.len, List.length_take, List.length_drop]; omega, fun hne => ?_⟩
  have hlt : lo < hi := by
    apply Nat.lt_of_not_le
    intro hge
    exact hne (by rw [show hi - lo = 0 from by omega]; simp)
  have hx : xs ≠ [] := by intro hx; subst hx; simp at hle; omega
  obtain ⟨b, off, l, T, fz, h1, h2, h3⟩ := hr.2 hx
  refine ⟨b, off + lo * c.n, l, T, fz, ?_, h2, ?_⟩
  · rw [hc.a (.inl hlt), h1]
    simp [add_addr]
  · have e1 : ((xs.drop lo).take (hi - lo)).length = hi - lo := by rw [List.length_take, List.length_drop]; omega
    rw [e1]
    have e2 : flat c xs = flat c (xs.take lo) ++ (flat c ((xs.drop lo).take (hi - lo)) ++ flat c ((xs.drop lo).drop (hi - lo))) := by
      rw [← flat_append, List.take_append_drop, ← flat_append, List.take_append_drop]
    have l1 : (flat c (xs.take lo)).length = lo * c.n := by rw [flat_len, List.length_take, Nat.min_eq_left (by omega)]
    have l2 : (flat c ((xs.drop lo).take (hi - lo))).length = (hi - lo) * c.n := by rw [flat_len, e1]
    have e3 : ((l.drop off).take (xs.length * c.n)).drop (lo * c.n) = flat c ((xs.drop lo).take (hi - lo)) ++ flat c ((xs.drop lo).drop (hi - lo)) := by
      rw [h3, e2, ← l1, List.drop_left]
    have e4 : (((l.drop off).take (xs.length * c.n)).drop (lo * c.n)).take ((hi - lo) * c.n) = flat c ((xs.drop lo).take (hi - lo)) := by
      rw [e3, ← l2, List.take_left]
    rw [← e4, List.drop_take, List.take_take, List.drop_drop]
    have hm : (hi - lo) * c.n ≤ xs.length * c.n - lo * c.n := by
      rw [← Nat.sub_mul]
      exact Nat.mul_le_mul_right _ (by omega)
    rw [Nat.min_eq_left hm]
/-- A slice that is a part of another. -/
class VwOf (s' : Sl) {α : outParam Type} (c : outParam (Cd α)) (s : outParam Sl) (lo hi : outParam Nat) : Prop where
  out : Cut c.n s s' lo hi
  le : hi ≤ s.len
instance (priority := high) Rs.view {α : Type} {L : List HProp} {s s' : Sl} {c : Cd α} {xs : List α} {lo hi : Nat} [vw : VwOf s' c s lo hi] [rs : Rs L s c xs] : Rs L s' c ((xs.drop lo).take (hi - lo)) :=
  ⟨fun h hs => (rs.out h hs).cut vw.out (by rw [← (rs.out h hs).1]; exact vw.le)⟩
theorem prun_bound {k : IntKind} {x : Int} {y : Nat} {code : BoundsCode} (h : 0 ≤ x ∧ x ≤ y) {α : Type} (f : Nat → Sem α) : prun P (Instr.sliceBound (.int k x) y code >>= f) = prun P (f x.toNat) := by
  unfold Instr.sliceBound
  simp only [asIntOf, pure_bind, if_pos h]
theorem prun_slice {t e : TypeId} [st : SlT P t e] {i : TypeInfo} (hi : P.info? e = some i) {s : Sl} {low high : Option Value} {l h : Nat}
    (hb : ∀ {α : Type} (f : Nat × Nat × Nat → Sem α), prun P (Instr.sliceBounds true s.len s.cap low high none >>= f) = prun P (f (l, h, s.cap))) :
    prun P (Instr.sliceAt t (sv s) low high none) = some (sv ⟨if s.cap = l then s.a else s.a.map (·.add (l * i.size)), h - l, s.cap - l⟩) := by
  unfold Instr.sliceAt
  rw [prun_und st.und]
  simp only [Instr.slice, sv]
  rw [prun_und st.und]
  simp only
  rw [hb]
  simp only
  rw [prun_size hi]
  rfl
theorem cut_mk {s : Sl} {l h n : Nat} (hlh : l ≤ h) (hc : h ≤ s.cap) : Cut n s ⟨if s.cap = l then s.a else s.a.map (·.add (l * n)), h - l, s.cap - l⟩ l h := by
  refine ⟨rfl, rfl, fun hx => ?_⟩
  simp only
  by_cases hcl : s.cap = l
  · rw [if_pos hcl]
    have : l = 0 := by omega
    subst this
    cases s.a with
    | none => rfl
    | some a => simp [Addr.add]
  · rw [if_neg hcl]
section
variable {L : List HProp} {K : Value → W}
instance St.sliceH {t e : TypeId} [SlT P t e] {α : Type} {c : Cd α} {z : α} {bytes : Nat} [ty : Ty P e c z bytes] {s : Sl} {k : IntKind} {x : Int} {xn : Nat} [tn : ToN x xn] :
    St L (pu P (Instr.sliceAt t (sv s) none (some (.int k x)) none) K) (0 ≤ x ∧ x ≤ s.cap) (∀ s', Cut c.n s s' 0 xn → Ent L (K (sv s'))) :=
  ⟨fun hC h => by
    obtain ⟨i, hi, hs, _⟩ := ty.info
    refine ent_pu (prun_slice (l := 0) (h := x.toNat) hi (fun f => ?_)) (h _ ?_)
    · unfold Instr.sliceBounds
      simp only [pure_bind, bind_assoc]
      rw [prun_bound hC]
    · rw [hs, tn.out]
      exact cut_mk (by omega) (by rw [← tn.out]; omega)⟩
instance St.sliceL {t e : TypeId} [SlT P t e] {α : Type} {c : Cd α} {z : α} {bytes : Nat} [ty : Ty P e c z bytes] {s : Sl} {k : IntKind} {x : Int} {xn : Nat} [tn : ToN x xn] :
    St L (pu P (Instr.sliceAt t (sv s) (some (.int k x)) none none) K) (0 ≤ x ∧ x ≤ s.len ∧ s.len ≤ s.cap) (∀ s', Cut c.n s s' xn s.len → Ent L (K (sv s'))) :=
  ⟨fun hC h => by
    obtain ⟨i, hi, hs, _⟩ := ty.info
    refine ent_pu (prun_slice (l := x.toNat) (h := s.len) hi (fun f => ?_)) (h _ ?_)
    · unfold Instr.sliceBounds
      simp only [pure_bind, bind_assoc]
      rw [prun_bound ⟨hC.1, hC.2.1⟩]
    · rw [hs, tn.out]
      exact cut_mk (by rw [← tn.out]; omega) hC.2.2⟩
instance St.sliceLH {t e : TypeId} [SlT P t e] {α : Type} {c : Cd α} {z : α} {bytes : Nat} [ty : Ty P e c z bytes] {s : Sl} {k k' : IntKind} {x y : Int} {xn yn : Nat} [tn : ToN x xn] [tn' : ToN y yn] :
    St L (pu P (Instr.sliceAt t (sv s) (some (.int k x)) (some (.int k' y)) none) K) (0 ≤ x ∧ x ≤ y ∧ y ≤ s.cap) (∀ s', Cut c.n s s' xn yn → Ent L (K (sv s'))) :=
  ⟨fun hC h => by
    obtain ⟨i, hi, hs, _⟩ := ty.info
    refine ent_pu (prun_slice (l := x.toNat) (h := y.toNat) hi (fun f => ?_)) (h _ ?_)
    · unfold Instr.sliceBounds
      simp only [pure_bind, bind_assoc]
      rw [prun_bound ⟨by omega, hC.2.2⟩]
      rw [prun_bound ⟨hC.1, by omega⟩]
    · rw [hs, tn.out, tn'.out]
      exact cut_mk (by rw [← tn.out, ← tn'.out]; omega) (by rw [← tn'.out]; omega)⟩
end
/-- What a slice's words are. -/
theorem ent_slen {α : Type} {c : Cd α} {e : TypeId} {s : Sl} {xs : List α} {F : List HProp} {φ : W} (h : s.len = xs.length → xs.length ≤ s.cap → Ent (sl c e s xs :: F) φ) : Ent (sl c e s xs :: F) φ := fun w hw => by
  have hw' := hw
  obtain ⟨⟨h1, h2, _, _, ha, _⟩, _⟩ := hw
  rcases ha with ⟨rfl, rfl, _⟩ | ⟨b, cap, junk, rfl, hle, _, _⟩
  · exact h rfl (Nat.le_refl _) w hw'
  · exact h rfl hle w hw'
/-- A variable that was there before the call: it can be read. -/
class VrB (h0 : Hp) (b : Nat) {α : outParam Type} (c : outParam (Cd α)) (x : outParam α) : Prop where
  out : ∃ (T : TypeId) (fz : Nat × Nat), h0 b = some (.cells (c.cells x).toArray T fz)
instance (priority := low) Ld.base {L : List HProp} {h0 : Hp} {t : TypeId} {b off : Nat} {α β : Type} {c : Cd α} {c' : Cd β} {x : α} {z : β} {bytes : Nat} {get : α → β} {set : α → β → α} {C : Prop} {f : β → Value}
    [ho : HasOwn L h0] [vb : VrB h0 b c x] [ty : Ty P t c' z bytes] [sb : SubC c off c' get set C] [vi : VIs c' f] : Ld P L t (.pointer (some ⟨b, off, none⟩)) (f (get x)) C :=
  ⟨fun hC w hw => by
    obtain ⟨T, fz, hb⟩ := vb.out
    have hb' : w.heap[b]? = some (.cells (c.cells x).toArray T fz) := ho.out _ hw.1 _ _ hb
    rw [← vi.out]
    exact run_loadAt hb' (sb.get_eq hC x)⟩
end Go.Dn
