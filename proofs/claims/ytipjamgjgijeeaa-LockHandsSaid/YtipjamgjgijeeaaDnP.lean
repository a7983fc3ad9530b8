/-
  Own framework, part P: storing into a slice; growing it.
  Conditions: none; general over any program.
-/
import Derived.Test.YtipjamgjgijeeaaDnO
set_option linter.unusedSectionVars false
set_option synthInstance.maxSize 10000
set_option synthInstance.maxHeartbeats 400000
set_option maxHeartbeats 2000000
namespace Go.Dn
set_option linter.unusedSimpArgs false
set_option linter.unusedVariables false
variable {P : Program} [sd : Side]
theorem wr_left {a b ys : List Value} {o : Nat} (h : o + ys.length ≤ a.length) : wr (a ++ b) o ys = wr a o ys ++ b := by
  unfold wr
  rw [List.take_append_of_le_length (by omega), List.drop_append_of_le_length (by omega)]
  simp
theorem wr_right {a b ys : List Value} {o : Nat} : wr (a ++ b) (a.length + o) ys = a ++ wr b o ys := by
  unfold wr
  rw [List.take_append, List.take_of_length_le (by omega), Nat.add_sub_cancel_left, Nat.add_assoc, List.drop_append, List.drop_of_length_le (by omega), Nat.add_sub_cancel_left]
  simp
theorem wr_flat {α β : Type} [Inhabited α] {c : Cd α} {fo : Nat} {c' : Cd β} {get : α → β} {set : α → β → α} {C : Prop} (sb : SubC c fo c' get set C) (hC : C) (y : β) (junk : List Value) :
    ∀ (xs : List α) (j : Nat), j < xs.length → wr (flat c xs ++ junk) (j * c.n + fo) (c'.cells y) = flat c (xs.set j (set (xs.getD j default) y)) ++ junk
  | [], _, h => by simp at h
  | x :: xs, 0, _ => by
    have hle := sb.le hC
    rw [Nat.zero_mul, Nat.zero_add]
    show wr ((c.cells x ++ flat c xs) ++ junk) fo _ = (c.cells (set x y) ++ flat c xs) ++ junk
    rw [List.append_assoc, wr_left (by rw [c.len, c'.len]; exact hle), wr_sub sb hC, List.append_assoc]
  | x :: xs, j + 1, h => by
    show wr ((c.cells x ++ flat c xs) ++ junk) _ _ = (c.cells x ++ flat c (xs.set j _)) ++ junk
    have e : (j + 1) * c.n + fo = (c.cells x).length + (j * c.n + fo) := by rw [c.len, Nat.add_mul, Nat.one_mul]; omega
    rw [e, List.append_assoc, wr_right, wr_flat sb hC y junk xs j (by simpa using h), List.append_assoc]
    simp
instance Sto.elem {L : List HProp} {s : Sl} {e t : TypeId} {α β : Type} [Inhabited α] {c : Cd α} {c' : Cd β} {xs : List α} {L' : List α → List HProp} {M : List HProp} {z y : β} {v : Value} {bytes m j fo : Nat} {get : α → β} {set : α → β → α} {C : Prop}
    [pk : PickS s L e c xs L' M] [ty : Ty P t c' z bytes] [ps : Pos m c.n j fo] [sb : SubC c fo c' get set C] [vo : VOf c' v y] : Sto P L t (ep s m) v (L' (xs.set j (set (xs.getD j default) y))) (j < xs.length ∧ C) :=
  ⟨fun hC w hw => by
    obtain ⟨hj, hC⟩ := hC
    obtain ⟨hp1, hp2⟩ := pk.out
    have h1 := hp1 _ hw.1
    obtain ⟨g1, g2, d, e1, ha, hM⟩ := h1
    rcases ha with ⟨rfl, rfl, _⟩ | ⟨b, cap, junk, rfl, hle, hjk, rfl⟩
    · simp at hj
    · have hb : w.heap[b]? = some (.cells (flat c xs ++ junk).toArray e) := by
        show hof w b = _
        rw [e1]; simp [uni, sng]
      have hsz : j * c.n + c.n ≤ xs.length * c.n := by
        rw [show j * c.n + c.n = (j + 1) * c.n from by rw [Nat.add_mul, Nat.one_mul]]
        exact Nat.mul_le_mul_right _ hj
      have hl2 := sb.le hC
      obtain ⟨w', r, q1, q2, q3⟩ := run_storeAt (P := P) (t := t) (c := c') (x := y) (off := m) hb (by rw [ps.out, List.length_append, flat_len]; omega)
      refine ⟨w', ?_, hp2 _ _ ?_, sd.keep q3 hw.2⟩
      · rw [vo.out]
        have : ep ⟨some ⟨b, 0, none⟩, xs.length, cap⟩ m = .pointer (some ⟨b, m, none⟩) := by simp [ep, add_addr]
        rw [this]; exact r
      · rw [ps.out, wr_flat sb hC] at q1
        · have hset := sats_set (b := b) (o' := .cells (flat c (xs.set j (set (xs.getD j default) y)) ++ junk).toArray e) (h' := hof w') (⟨sng b _, g2, d, e1, rfl, hM⟩ : sats ((fun x => x = sng b _) :: M) (hof w)) q1 q2
          refine sats_head (fun h hh => .inr ⟨b, cap, junk, ?_, ?_, ?_, hh⟩) hset
          · simp
          · simpa using hle
          · simpa using hjk
        · exact hj⟩

/-! ## append -/
theorem growBy_le (need : Nat) (h : 255 ≤ need) : ∀ (r c : Nat), c ≤ 2 * need → Builtin.growBy need r c ≤ 2 * need
  | 0, c, hc => hc
  | r + 1, c, hc => by
    simp only [Builtin.growBy]
    split
    · exact hc
    · exact growBy_le need h r _ (by omega)
theorem next_le {need old : Nat} (h : old < need) : Builtin.nextslicecap need old ≤ 2 * need := by
  unfold Builtin.nextslicecap
  split
  · omega
  · split
    · omega
    · exact growBy_le need (by omega) 4 old (by omega)
theorem run_first {α : Type} {w : World} {s : Sl} {c : Cd α} {xs : List α} (hr : RdOk (hof w) s c xs) : (Builtin.firstCells c.n xs.length (sv s)).run P w = .ok (flat c xs).toArray w := by
  obtain ⟨h1, h2⟩ := hr
  obtain ⟨a, len, cap⟩ := s
  simp only at h1 h2
  by_cases hx : xs = []
  · subst hx
    cases a with
    | none => simp [sv, Builtin.firstCells, flat]
    | some a => simp [sv, Builtin.firstCells, flat, loadCells, loadCellsFrom]
  · obtain ⟨b, off, l, T, fz, rfl, hb, hf⟩ := h2 hx
    have hlen := congrArg List.length hf
    rw [flat_len, List.length_take, List.length_drop] at hlen
    have hle : xs.length * c.n = 0 ∨ off + xs.length * c.n ≤ l.length := by omega
    simp only [sv, Builtin.firstCells]
    rcases hle with h0 | hle
    · rw [← hf, h0]; simp [loadCells, loadCellsFrom]
    · rw [run_loadCells hb hle, hf]
theorem one_flat {α : Type} (c : Cd α) (xs : List α) : ∀ v ∈ flat c xs, oneC v = true := by
  intro v hv
  simp only [flat, List.mem_flatMap] at hv
  obtain ⟨x, _, hx⟩ := hv
  exact c.one x v hx
/-- s' is s from element lo to element hi. -/
structure Cut (n : Nat) (s s' : Sl) (lo hi : Nat) : Prop where
  len : s'.len = hi - lo
  cap : s'.cap = s.cap - lo
  a : lo < hi ∨ lo = 0 → s'.a = s.a.map (·.add (lo * n))
theorem map_add0 (a : Option Addr) (n : Nat) : a = a.map (·.add (0 * n)) := by
  rw [Nat.zero_mul]
  cases a with
  | none => rfl
  | some a => simp [Addr.add]
/-- What 'append' comes to. -/
theorem run_append {t t' ty e : TypeId} [st : SlT P t e] [st' : SlT P t' e] {α : Type} {c : Cd α} {z : α} {bytes : Nat} [tye : Ty P e c z bytes] {s s2 : Sl} {xs ys : List α} {M : List HProp} {w : World}
    (hs : sats (sl c e s xs :: M) (hof w)) (hr : RdOk (hof w) s2 c ys) (hb : (xs.length + ys.length) * bytes ≤ 140737488355328) :
    ∃ s' w', (Builtin.append_ #[t, t'] ty [sv s, sv s2].toArray).run P w = .ok (sv s') w' ∧ ((Cut c.n s' s 0 xs.length ∧ sats (sl c e s' (xs ++ ys) :: M) (hof w')) ∨ sats (sl c e s' (xs ++ ys) :: sl c e s xs :: M) (hof w')) ∧ Same w w' := by
  obtain ⟨i, hi, hsz, hby, hz⟩ := tye.info
  have hpos := tye.pos
  have hlen2 : s2.len = ys.length := hr.1
  have hneed : xs.length + ys.length ≤ 140737488355328 := Nat.le_trans (Nat.le_mul_of_pos_right _ hpos) hb
  have hs' := hs
  obtain ⟨g1, g2, d, e1, ha, hM⟩ := hs
  have hrx : RdOk (hof w) s c xs := (rdOk_sl ha).mono (by rw [e1]; exact uni_l)
  unfold Builtin.append_
  have hsv : sv s = .slice s.a s.len s.cap := rfl
  have hsv2 : sv s2 = .slice s2.a s2.len s2.cap := rfl
  simp only [List.getElem?_toArray, List.getElem?_cons_zero, List.getElem?_cons_succ, hsv, hsv2, Sem.run_bind, run_und st.und, run_und st'.und, Result.andThen, run_size hi, hsz, Builtin.lenOf, Sem.run_pure, Bool.not_false, if_true, Bool.false_eq_true, if_false, hlen2]
  have hlen : s.len = xs.length := hrx.1
  rw [hlen]
  have f1 : ∀ w1 : World, hof w1 = hof w → (Builtin.firstCells c.n xs.length (.slice s.a xs.length s.cap)).run P w1 = .ok (flat c xs).toArray w1 := by
    intro w1 hw1
    have := run_first (P := P) (w := w1) (s := s) (c := c) (xs := xs) (by rw [hw1]; exact hrx)
    rwa [hsv, hlen] at this
  have f2 : ∀ w1 : World, hof w1 = hof w → (Builtin.firstCells c.n ys.length (.slice s2.a ys.length s2.cap)).run P w1 = .ok (flat c ys).toArray w1 := by
    intro w1 hw1
    have := run_first (P := P) (w := w1) (s := s2) (c := c) (xs := ys) (by rw [hw1]; exact hr)
    rwa [hsv2, hlen2] at this
  by_cases hfit : xs.length + ys.length ≤ s.cap
  · rw [if_pos hfit]
    simp only [Sem.run_bind, f2 w rfl, Result.andThen]
    rcases ha with ⟨rfl, rfl, hemp⟩ | ⟨b, cap, junk, rfl, hle, hjk, rfl⟩
    · have hy : ys = [] := List.eq_nil_of_length_eq_zero (by simpa using hfit)
      subst hy
      exact ⟨Sl.nil, w, rfl, .inl ⟨⟨rfl, rfl, fun _ => map_add0 _ _⟩, hs'⟩, rfl, rfl, rfl⟩
    · have hbk : w.heap[b]? = some (.cells (flat c xs ++ junk).toArray e) := by
        show hof w b = _
        rw [e1]; simp [uni, sng]
      have hn : ys.length * c.n ≤ junk.length := by
        rw [hjk]; exact Nat.mul_le_mul_right _ (by simp only at hfit; omega)
      obtain ⟨w', r, q1, q2, q3⟩ := run_storeCells (P := P) (b := b) (off := xs.length * c.n) (T := e) (flat c ys) 0 w _ hbk (by rw [List.length_append, flat_len, flat_len]; omega) (one_flat c ys)
      have eq1 : wr (flat c xs ++ junk) (xs.length * c.n + 0) (flat c ys) = flat c (xs ++ ys) ++ junk.drop (ys.length * c.n) := by
        rw [Nat.add_zero, ← flat_len c xs, show (flat c xs).length = (flat c xs).length + 0 from rfl, wr_right, flat_append]
        unfold wr
        rw [flat_len]
        simp
      rw [eq1] at q1
      refine ⟨⟨some ⟨b, 0, none⟩, xs.length + ys.length, cap⟩, w', ?_, .inl ⟨⟨rfl, rfl, fun _ => map_add0 _ _⟩, ?_⟩, q3⟩
      · simp only [add_addr, Nat.zero_add]
        rw [Sem.run_bind, r]
        rfl
      · have hset := sats_set (b := b) (o' := .cells (flat c (xs ++ ys) ++ junk.drop (ys.length * c.n)).toArray e) (h' := hof w') (⟨sng b _, g2, d, e1, rfl, hM⟩ : sats ((fun x => x = sng b _) :: M) (hof w)) q1 q2
        refine sats_head (fun h hh => .inr ⟨b, cap, junk.drop (ys.length * c.n), ?_, ?_, ?_, hh⟩) hset
        · simp
        · simpa using hfit
        · rw [List.length_drop, hjk, List.length_append, ← Nat.sub_mul]
          congr 1
          omega
  · rw [if_neg hfit]
    have hno : ¬ (((xs.length + ys.length : Nat) : Int) > IntKind.i64.max ∧ (False ∨ i.bytes = 0)) := by
      rintro ⟨_, h | h⟩
      · exact h
      · omega
    have hnx : ¬ (Builtin.nextslicecap (xs.length + ys.length) s.cap * i.bytes > 2 ^ 48) := by
      have h1 := next_le (need := xs.length + ys.length) (old := s.cap) (by omega)
      have h2 : Builtin.nextslicecap (xs.length + ys.length) s.cap * i.bytes ≤ 2 * (xs.length + ys.length) * i.bytes := Nat.mul_le_mul_right _ h1
      rw [hby] at h2 ⊢
      rw [Nat.mul_assoc] at h2
      omega
    simp only [Sem.run_bind, run_info hi, Result.andThen]
    rw [if_neg hno]
    simp only [Sem.run_bind, run_info hi, Result.andThen]
    rw [if_neg hnx]
    have hch : ∀ q : Question, q.forced = false → (choose q).run P w = .ok (q.cut (w.tape w.drawn q)) { w with drawn := w.drawn + 1 } := by
      intro q hq
      simp [choose, Sem.run, hq]
    simp only [Sem.run_bind, hch (.appendCap (xs.length + ys.length) s.cap e) rfl, Result.andThen, run_info hi, run_ask]
    generalize hcap : (Question.appendCap (xs.length + ys.length) s.cap e).cut (w.tape w.drawn (.appendCap (xs.length + ys.length) s.cap e)) = newCap
    have hge : xs.length + ys.length ≤ newCap := by
      rw [← hcap]; simp only [Question.cut]; omega
    simp only [f1 _ (show hof { w with drawn := w.drawn + 1 } = hof w from rfl), f2 _ (show hof { w with drawn := w.drawn + 1 } = hof w from rfl), run_zero (z := z), newRow, newObj, Sem.run_bind, Sem.run, Result.andThen, Sem.run_pure]
    have hz2 : (Builtin.zeroCells (c.val z).cells (newCap - (xs.length + ys.length))) = (flat c (List.replicate (newCap - (xs.length + ys.length)) z)).toArray := by
      unfold Builtin.zeroCells
      rw [c.vcells]
      apply Array.ext'
      have := zero_cells c z (c.cells z).toArray rfl (newCap - (xs.length + ys.length))
      rw [Array.toList_map, Array.toList_range]
      have hs3 : (c.cells z).toArray.size = c.n := by simp [c.len]
      rw [hs3] at this ⊢
      exact this
    rw [hz2]
    refine ⟨⟨some ⟨w.heap.size, 0, none⟩, xs.length + ys.length, newCap⟩, _, rfl, .inr ?_, rfl, rfl, rfl⟩
    have := sats_sl (c := c) (e := e) (L := sl c e s xs :: M) (w := w) hs' (xs ++ ys) (flat c (List.replicate (newCap - (xs.length + ys.length)) z)) newCap (by simpa using hge) (by rw [flat_len]; simp)
    rw [List.length_append] at this
    have harr : (flat c xs).toArray ++ (flat c ys).toArray ++ (flat c (List.replicate (newCap - (xs.length + ys.length)) z)).toArray = (flat c (xs ++ ys) ++ flat c (List.replicate (newCap - (xs.length + ys.length)) z)).toArray := by
      rw [flat_append]; simp
    rw [harr]
    exact this
section
variable {L : List HProp} {K : Value → W}
instance St.append {t t' ty e : TypeId} [SlT P t e] [SlT P t' e] {α : Type} {c : Cd α} {z : α} {bytes : Nat} [Ty P e c z bytes] {s s2 : Sl} {xs ys : List α} {L' : List α → List HProp} {M : List HProp} [pk : PickS s L e c xs L' M] [rs : Rs L s2 c ys] :
    St L (ef P (Builtin.append_ #[t, t'] ty [sv s, sv s2].toArray) K) ((xs.length + ys.length) * bytes ≤ 140737488355328) (∀ s', Ent (sl c e s' (xs ++ ys) :: M) (K (sv s'))) :=
  ⟨fun hC h w hw => by
    obtain ⟨s', w', r, hs, hsame⟩ := run_append (P := P) (t := t) (t' := t') (ty := ty) (z := z) (pk.out.1 _ hw.1) (rs.out _ hw.1) hC
    have h1 : sats (sl c e s' (xs ++ ys) :: M) (hof w') := hs.elim (fun h => h.2) (fun h => sats_tail (fun _ => sats_drop) h)
    exact ⟨_, w', r, h s' w' ⟨h1, sd.keep hsame hw.2⟩⟩⟩
/-- 'append', where what was appended to is still wanted. -/
theorem ent_appendK {t t' ty e : TypeId} [SlT P t e] [SlT P t' e] {α : Type} {c : Cd α} {z : α} {bytes : Nat} [Ty P e c z bytes] {s s2 : Sl} {xs ys : List α} {L' : List α → List HProp} {M : List HProp} [pk : PickS s L e c xs L' M] [rs : Rs L s2 c ys]
    (hC : (xs.length + ys.length) * bytes ≤ 140737488355328) (h1 : ∀ s', Cut c.n s' s 0 xs.length → Ent (sl c e s' (xs ++ ys) :: M) (K (sv s'))) (h2 : ∀ s', Ent (sl c e s' (xs ++ ys) :: sl c e s xs :: M) (K (sv s'))) :
    Ent L (ef P (Builtin.append_ #[t, t'] ty [sv s, sv s2].toArray) K) := fun w hw => by
  obtain ⟨s', w', r, hs, hsame⟩ := run_append (P := P) (t := t) (t' := t') (ty := ty) (z := z) (pk.out.1 _ hw.1) (rs.out _ hw.1) hC
  rcases hs with ⟨hc, hs⟩ | hs
  · exact ⟨_, w', r, h1 s' hc w' ⟨hs, sd.keep hsame hw.2⟩⟩
  · exact ⟨_, w', r, h2 s' w' ⟨hs, sd.keep hsame hw.2⟩⟩
theorem sat_nil {α : Type} {c : Cd α} {e : TypeId} {h : Hp} (hs : sats L h) : sats (sl c e Sl.nil ([] : List α) :: L) h :=
  ⟨fun _ => none, h, fun _ => .inl rfl, by funext i; simp [uni], .inl ⟨rfl, rfl, fun _ => rfl⟩, hs⟩
instance St.append0 {t t' ty e : TypeId} [SlT P t e] [SlT P t' e] {α : Type} {c : Cd α} {z : α} {bytes : Nat} [Ty P e c z bytes] {s2 : Sl} {ys : List α} [rs : Rs L s2 c ys] :
    St L (ef P (Builtin.append_ #[t, t'] ty [.slice none 0 0, sv s2].toArray) K) (ys.length * bytes ≤ 140737488355328) (∀ s', Ent (sl c e s' ys :: L) (K (sv s'))) :=
  ⟨fun hC h w hw => by
    obtain ⟨s', w', r, hs, hsame⟩ := run_append (P := P) (t := t) (t' := t') (ty := ty) (z := z) (s := Sl.nil) (xs := []) (sat_nil hw.1) (rs.out _ hw.1) (by simpa using hC)
    have h1 : sats (sl c e s' ys :: L) (hof w') := hs.elim (fun h => h.2) (fun h => sats_tail (fun _ => sats_drop) h)
    exact ⟨_, w', r, h s' w' ⟨h1, sd.keep hsame hw.2⟩⟩⟩
/-- A slice that is none, as one that is owned. -/
theorem ent_nil {α : Type} (c : Cd α) (e : TypeId) {φ : W} (h : Ent (sl c e Sl.nil ([] : List α) :: L) φ) : Ent L φ := ent_pre (fun _ hs => sat_nil hs) h
end
end Go.Dn
