/-
  Own framework, part L: slices: reading, writing, growing, making.
  Conditions: none; general over any program.
-/
import Derived.Test.YtipjamgjgijeeaaDnK
set_option linter.unusedSectionVars false
set_option synthInstance.maxSize 10000
set_option synthInstance.maxHeartbeats 400000
set_option maxHeartbeats 2000000
namespace Go.Dn
set_option linter.unusedSimpArgs false
set_option linter.unusedVariables false
variable {P : Program} [sd : Side]

/-- A slice that can be read. -/
def RdOk {α : Type} (h : Hp) (s : Sl) (c : Cd α) (xs : List α) : Prop := s.len = xs.length ∧ (xs ≠ [] → ∃ (b off : Nat) (l : List Value) (T : TypeId) (fz : Nat × Nat), s.a = some ⟨b, off, none⟩ ∧ h b = some (.cells l.toArray T fz) ∧ (l.drop off).take (xs.length * c.n) = flat c xs)
class Rs (L : List HProp) (s : Sl) {α : outParam Type} (c : outParam (Cd α)) (xs : outParam (List α)) : Prop where
  out : ∀ h, sats L h → RdOk h s c xs
theorem RdOk.mono {α : Type} {h h' : Hp} {s : Sl} {c : Cd α} {xs : List α} (hr : RdOk h s c xs) (hs : ∀ i o, h i = some o → h' i = some o) : RdOk h' s c xs := by
  refine ⟨hr.1, fun hne => ?_⟩
  obtain ⟨b, off, l, T, fz, h1, h2, h3⟩ := hr.2 hne
  exact ⟨b, off, l, T, fz, h1, hs _ _ h2, h3⟩
theorem rdOk_sl {α : Type} {c : Cd α} {e : TypeId} {s : Sl} {xs : List α} {h : Hp} (hs : sl c e s xs h) : RdOk h s c xs := by
  rcases hs with ⟨rfl, rfl, _⟩ | ⟨b, cap, junk, rfl, _, _, rfl⟩
  · exact ⟨rfl, fun h => absurd rfl h⟩
  · refine ⟨rfl, fun _ => ⟨b, 0, flat c xs ++ junk, e, (0, 0), rfl, by simp [sng], ?_⟩⟩
    rw [List.drop_zero, ← flat_len]; simp
theorem uni_l {h1 h2 : Hp} (i : Nat) (o : Obj) (h : h1 i = some o) : uni h1 h2 i = some o := by simp [uni, h]
theorem uni_r {h1 h2 : Hp} (d : dsj h1 h2) (i : Nat) (o : Obj) (h : h2 i = some o) : uni h1 h2 i = some o := by
  rcases d i with x | x
  · simp [uni, x, h]
  · rw [x] at h; cases h
instance Rs.own {α : Type} {L M : List HProp} {s : Sl} {e : TypeId} {c : Cd α} {xs : List α} {L' : List α → List HProp} [pk : PickS s L e c xs L' M] : Rs L s c xs :=
  ⟨fun h hs => by
    obtain ⟨h1, h2, d, rfl, ha, _⟩ := pk.out.1 _ hs
    exact (rdOk_sl ha).mono uni_l⟩
instance (priority := low) Rs.tail {α : Type} {A : HProp} {L : List HProp} {s : Sl} {c : Cd α} {xs : List α} [rs : Rs L s c xs] : Rs (A :: L) s c xs := ⟨fun h hs => rs.out h (sats_drop hs)⟩
/-- What was there before the call. -/
class HasOwn (L : List HProp) (h0 : outParam Hp) : Prop where
  out : ∀ h, sats L h → ∀ i o, h0 i = some o → h i = some o
instance HasOwn.here {h0 : Hp} {L : List HProp} : HasOwn (own h0 :: L) h0 := ⟨fun h hs i o hi => by
  obtain ⟨h1, h2, d, rfl, rfl, _⟩ := hs
  exact uni_l i o hi⟩
instance (priority := low) HasOwn.there {h0 : Hp} {A : HProp} {L : List HProp} [hh : HasOwn L h0] : HasOwn (A :: L) h0 := ⟨fun h hs => hh.out h (sats_drop hs)⟩
class RdB (h0 : Hp) (s : Sl) {α : outParam Type} (c : outParam (Cd α)) (xs : outParam (List α)) : Prop where
  out : RdOk h0 s c xs
instance (priority := low) Rs.base {α : Type} {L : List HProp} {h0 : Hp} {s : Sl} {c : Cd α} {xs : List α} [ho : HasOwn L h0] [rb : RdB h0 s c xs] : Rs L s c xs :=
  ⟨fun h hs => rb.out.mono (ho.out h hs)⟩

theorem ent_sat {L : List HProp} {φ : W} (h : ∀ w, Sat L w → Ent L φ) : Ent L φ := fun w hw => h w hw w hw
/-! ## Length and places -/
section
variable {L : List HProp} {K : Value → W}
theorem prun_len {t e : TypeId} [st : SlT P t e] {ty : TypeId} {s : Sl} : prun P (Builtin.len_ #[t] ty [sv s].toArray) = some (.int .i64 s.len) := by
  unfold Builtin.len_
  simp only [List.getElem?_toArray, List.getElem?_cons_zero, List.size_toArray]
  show prun P (underlying t >>= _) = _
  rw [prun_und st.und]
  rfl
instance St.len {t e : TypeId} [SlT P t e] {ty : TypeId} {s : Sl} {α : Type} {c : Cd α} {xs : List α} [rs : Rs L s c xs] :
    St L (rd P (Builtin.len_ #[t] ty [sv s].toArray) K) True (Ent L (K (.int .i64 xs.length))) :=
  ⟨fun _ h => ent_sat fun w hw => by
    have h1 := (rs.out _ hw.1).1
    exact ent_rdp prun_len (by rw [h1]; exact h)⟩
instance St.len0 {t e : TypeId} [SlT P t e] {ty : TypeId} : St L (rd P (Builtin.len_ #[t] ty [.slice none 0 0].toArray) K) True (Ent L (K (.int .i64 0))) :=
  ⟨fun _ h => ent_rdp (prun_len (s := Sl.nil)) h⟩
instance St.lenck {t e : TypeId} [SlT P t e] {ty : TypeId} {s : Sl} {α : Type} {c : Cd α} {xs : List α} [rs : Rs L s c xs] {u : Value} {A : W} :
    St L (andW (ck P none (Builtin.len_ #[t] ty [sv s].toArray) u) A) True (u = .int .i64 xs.length ∧ Ent L A) :=
  ⟨fun _ h w hw => ⟨fun _ => by
    have h1 := (rs.out _ hw.1).1
    rw [h.1, ← h1]
    exact prun_run prun_len w, h.2 w hw⟩⟩
theorem prun_index {t e : TypeId} [st : SlT P t e] {i : TypeInfo} (hi : P.info? e = some i) {b off len cap : Nat} {k : IntKind} {x : Int} (h0 : 0 ≤ x) (h1 : x < len) :
    prun P (Instr.indexAt t (.slice (some ⟨b, off, none⟩) len cap) (.int k x)) = some (.pointer (some ⟨b, off + x.toNat * i.size, none⟩)) := by
  unfold Instr.indexAt
  simp only [asIntOf, pure_bind]
  rw [prun_und st.und]
  simp only [pure_bind]
  rw [prun_und st.und]
  simp only [h0, h1, and_self, if_true]
  rw [prun_size hi]
  simp only [add_addr]
  rfl
instance St.index {t e : TypeId} [SlT P t e] {α : Type} {c : Cd α} {z : α} {bytes : Nat} [ty : Ty P e c z bytes] {s : Sl} {xs : List α} [rs : Rs L s c xs] {k : IntKind} {x : Int} {xn m : Nat} [tn : ToN x xn] [nm : NMul xn c.n m] :
    St L (pu P (Instr.indexAt t (sv s) (.int k x)) K) (0 ≤ x ∧ x < xs.length) (Ent L (K (ep s m))) :=
  ⟨fun hC h => ent_sat fun w hw => by
    obtain ⟨i, hi, hs, _⟩ := ty.info
    obtain ⟨h1, h2⟩ := rs.out _ hw.1
    have hne : xs ≠ [] := by intro hx; subst hx; simp at hC; omega
    obtain ⟨b, off, l, T, fz, ha, _, _⟩ := h2 hne
    obtain ⟨sa, slen, scap⟩ := s
    simp only at ha h1
    subst ha h1
    refine ent_pu (prun_index hi hC.1 hC.2) ?_
    rw [tn.out, hs, nm.out]
    have : ep ⟨some ⟨b, off, none⟩, xs.length, scap⟩ m = .pointer (some ⟨b, off + m, none⟩) := by simp [ep, add_addr]
    rw [this] at h
    exact h⟩
/-- Which element a place lies in, and where in it. -/
class Pos (k n : Nat) (j fo : outParam Nat) : Prop where
  out : k = j * n + fo
instance (priority := high) Pos.mulAdd {j n fo : Nat} : Pos (j * n + fo) n j fo := ⟨rfl⟩
instance (priority := high) Pos.mul {j n : Nat} : Pos (j * n) n j 0 := ⟨rfl⟩
instance (priority := high) Pos.zero {n : Nat} : Pos 0 n 0 0 := ⟨by simp⟩
instance (priority := low) Pos.one {j : Nat} : Pos j 1 j 0 := ⟨by simp⟩
instance St.fieldE {t : TypeId} {k fo : Nat} [FldT P t k fo] {s : Sl} {m r : Nat} [na : NAdd m fo r] {α : Type} {c : Cd α} {xs : List α} [rs : Rs L s c xs] :
    St L (pu P (Instr.fieldAt t (ep s m) k) K) (0 < xs.length) (Ent L (K (ep s r))) :=
  ⟨fun hC h => ent_sat fun w hw => by
    obtain ⟨h1, h2⟩ := rs.out _ hw.1
    have hne : xs ≠ [] := by intro hx; subst hx; simp at hC
    obtain ⟨b, off, l, T, fz, ha, _, _⟩ := h2 hne
    have e1 : ∀ q, ep s q = .pointer (some ⟨b, off + q, none⟩) := fun q => by simp [ep, ha, add_addr]
    rw [e1]
    refine ent_pu prun_field ?_
    rw [Nat.add_assoc, na.out, ← e1]
    exact h⟩
theorem flat_part {α β : Type} {c : Cd α} {c' : Cd β} {fo : Nat} {get : α → β} {set : α → β → α} {C : Prop} (sb : SubC c fo c' get set C) (hC : C) [Inhabited α] : ∀ {xs : List α} {j : Nat}, j < xs.length →
    ((flat c xs).drop (j * c.n + fo)).take c'.n = c'.cells (get (xs.getD j default)) := by
  intro xs
  induction xs with
  | nil => intro j hj; simp at hj
  | cons x xs ih =>
    intro j hj
    have hle := sb.le hC
    cases j with
    | zero =>
      rw [Nat.zero_mul, Nat.zero_add]
      show ((c.cells x ++ flat c xs).drop fo).take c'.n = _
      rw [List.drop_append_of_le_length (by rw [c.len]; omega), List.take_append_of_le_length (by rw [List.length_drop, c.len]; omega)]
      exact sb.get_eq hC x
    | succ j =>
      have hj' : j < xs.length := by simpa using hj
      show ((c.cells x ++ flat c xs).drop ((j + 1) * c.n + fo)).take c'.n = _
      have e : (j + 1) * c.n + fo = (c.cells x).length + (j * c.n + fo) := by rw [c.len, Nat.add_mul, Nat.one_mul]; omega
      rw [e, List.drop_append, List.drop_of_length_le (by omega), List.nil_append, Nat.add_sub_cancel_left]
      have := ih hj'
      simpa using this
theorem ld_ep {w : World} {s : Sl} {α β : Type} {c : Cd α} {c' : Cd β} {xs : List α} {t : TypeId} {z : β} {bytes j fo : Nat} {get : α → β} {set : α → β → α} {C : Prop} [Inhabited α]
    (hr : RdOk (hof w) s c xs) [ty : Ty P t c' z bytes] (sb : SubC c fo c' get set C) (hC : C) (hj : j < xs.length) : (Instr.loadAt t (ep s (j * c.n + fo))).run P w = .ok (c'.val (get (xs.getD j default))) w := by
  have hne : xs ≠ [] := by intro hx; subst hx; simp at hj
  obtain ⟨b, off, l, T, fz, ha, hb, hf⟩ := hr.2 hne
  have e1 : ep s (j * c.n + fo) = .pointer (some ⟨b, off + (j * c.n + fo), none⟩) := by simp [ep, ha, add_addr]
  rw [e1]
  refine run_loadAt hb ?_
  rw [← flat_part sb hC hj, ← hf, ← List.drop_drop, List.drop_take, List.take_take]
  have hle := sb.le hC
  have : j * c.n + c.n ≤ xs.length * c.n := by
    rw [show j * c.n + c.n = (j + 1) * c.n from by rw [Nat.add_mul, Nat.one_mul]]
    exact Nat.mul_le_mul_right _ hj
  rw [Nat.min_eq_left (by omega)]
instance Ld.elem {s : Sl} {α β : Type} {c : Cd α} {c' : Cd β} {xs : List α} {t : TypeId} {z : β} {bytes m j fo : Nat} {get : α → β} {set : α → β → α} {C : Prop} {f : β → Value} [Inhabited α]
    [rs : Rs L s c xs] [ty : Ty P t c' z bytes] [ps : Pos m c.n j fo] [sb : SubC c fo c' get set C] [vi : VIs c' f] : Ld P L t (ep s m) (f (get (xs.getD j default))) (j < xs.length ∧ C) :=
  ⟨fun hC w hw => by rw [ps.out, ← vi.out]; exact ld_ep (rs.out _ hw.1) sb hC.2 hC.1⟩
end
theorem flat_set {α : Type} (c : Cd α) (y : α) : ∀ (xs : List α) (j : Nat), j < xs.length → (flat c xs).take (j * c.n) ++ c.cells y ++ (flat c xs).drop ((j + 1) * c.n) = flat c (xs.set j y)
  | [], _, h => by simp at h
  | x :: xs, 0, _ => by
    show (c.cells x ++ flat c xs).take _ ++ _ ++ (c.cells x ++ flat c xs).drop _ = c.cells y ++ flat c xs
    rw [Nat.zero_mul, List.take_zero, List.nil_append, Nat.zero_add, Nat.one_mul, List.drop_append_of_le_length (by rw [c.len]; exact Nat.le_refl _), List.drop_of_length_le (by rw [c.len]; exact Nat.le_refl _), List.nil_append]
  | x :: xs, j + 1, h => by
    show (c.cells x ++ flat c xs).take _ ++ _ ++ (c.cells x ++ flat c xs).drop _ = c.cells x ++ flat c (xs.set j y)
    have e1 : (j + 1) * c.n = (c.cells x).length + j * c.n := by rw [c.len, Nat.add_mul, Nat.one_mul, Nat.add_comm]
    have e2 : (j + 1 + 1) * c.n = (c.cells x).length + (j + 1) * c.n := by rw [c.len, Nat.add_mul (j + 1), Nat.one_mul, Nat.add_comm]
    rw [e1, List.take_append, e2, List.drop_append, ← flat_set c y xs j (by simpa using h), List.take_of_length_le (by omega), List.drop_of_length_le (by omega), Nat.add_sub_cancel_left, Nat.add_sub_cancel_left]
    simp
end Go.Dn
