/-
  Own framework, part N: making and growing slices; conversions.
  Conditions: none; general over any program.
-/
import Derived.Test.YtipjamgjgijeeaaDnM
set_option linter.unusedSectionVars false
set_option synthInstance.maxSize 10000
set_option synthInstance.maxHeartbeats 400000
set_option maxHeartbeats 2000000
namespace Go.Dn
set_option linter.unusedSimpArgs false
set_option linter.unusedVariables false
variable {P : Program} [sd : Side]
class InT (P : Program) (t : TypeId) (k : outParam IntKind) : Prop where
  und : P.underlying t = some (.int k)
class MpT (P : Program) (t : TypeId) (k e : outParam TypeId) : Prop where
  und : P.underlying t = some (.map k e)
section
variable {L : List HProp} {K : Value → W}
theorem prun_conv {s d : TypeId} {k k' j : IntKind} {x : Int} [sk : InT P s k] [dk : InT P d k'] : prun P (convert s d (.int j x)) = some (.int k' (k'.wrap x)) := by
  unfold convert
  rw [prun_und sk.und, prun_und dk.und]
  simp only [Conv.intToInt]
  rfl
theorem wrap_u8 (x : Int) : IntKind.u8.wrap x = ((UInt8.ofNat (x % 256).toNat).toNat : Int) := by
  simp only [IntKind.wrap, IntKind.bits, IntKind.signed, UInt8.toNat_ofNat']
  simp
  omega
/-- The byte of a number. -/
def bt (x : Int) : UInt8 := UInt8.ofNat (x % 256).toNat
theorem bt_toNat {x : Int} (h0 : 0 ≤ x) (h1 : x ≤ 255) : ((bt x).toNat : Int) = x := by
  have := wrap_u8 x
  unfold bt
  rw [← this, wrap_in (by exact h0) (by exact h1)]
instance St.conv {s d : TypeId} {k k' j : IntKind} {x : Int} [sk : InT P s k] [dk : InT P d k'] : St L (rd P (convert s d (.int j x)) K) (k'.min ≤ x ∧ x ≤ k'.max) (Ent L (K (.int k' x))) :=
  ⟨fun c h => ent_rdp prun_conv (by rw [wrap_in c.1 c.2]; exact h)⟩
instance (priority := high) St.convB {s d : TypeId} {k j : IntKind} {x : Int} [sk : InT P s k] [dk : InT P d .u8] : St L (rd P (convert s d (.int j x)) K) True (Ent L (K (.int .u8 ((bt x).toNat : Int)))) :=
  ⟨fun _ h => ent_rdp prun_conv (by rw [wrap_u8]; exact h)⟩
instance St.convck {s d : TypeId} {k k' j : IntKind} {x : Int} {g : Option (Value × Bool)} {u : Value} {A : W} [sk : InT P s k] [dk : InT P d k'] : St L (andW (ck P g (convert s d (.int j x)) u) A) (k'.min ≤ x ∧ x ≤ k'.max) (u = .int k' x ∧ Ent L A) :=
  ⟨fun c h w hw => ⟨fun _ => by rw [h.1]; exact (prun_run prun_conv w).trans (by rw [wrap_in c.1 c.2]), h.2 w hw⟩⟩
instance (priority := high) St.convckB {s d : TypeId} {k j : IntKind} {x : Int} {g : Option (Value × Bool)} {u : Value} {A : W} [sk : InT P s k] [dk : InT P d .u8] : St L (andW (ck P g (convert s d (.int j x)) u) A) True (u = .int .u8 ((bt x).toNat : Int) ∧ Ent L A) :=
  ⟨fun _ h w hw => ⟨fun _ => by rw [h.1]; exact (prun_run prun_conv w).trans (by rw [wrap_u8]; rfl), h.2 w hw⟩⟩
end
/-! ## New rows -/
theorem zero_cells {α : Type} (c : Cd α) (z : α) (arr : Array Value) (ha : arr = (c.cells z).toArray) : ∀ m : Nat, (List.range (m * c.n)).map (fun i => arr[i % arr.size]!) = flat c (List.replicate m z) := by
  have hsz : arr.size = c.n := by rw [ha]; simp [c.len]
  intro m
  induction m with
  | zero => simp [flat]
  | succ m ih =>
    rw [Nat.add_mul, Nat.one_mul, List.range_add, List.map_append, ih, List.replicate_succ', flat_append]
    congr 1
    rw [List.map_map]
    simp only [flat, List.flatMap_cons, List.flatMap_nil, List.append_nil]
    apply List.ext_getElem?
    intro i
    by_cases hi : i < c.n
    · have h1 : i < (c.cells z).length := by rw [c.len]; exact hi
      rw [List.getElem?_map, List.getElem?_range hi]
      have h2 : (m * c.n + i) % arr.size = i := by rw [hsz, Nat.mul_comm, Nat.mul_add_mod]; exact Nat.mod_eq_of_lt hi
      simp only [Option.map_some, Function.comp, h2]
      rw [ha, List.getElem?_eq_getElem h1]
      simp [h1]
    · rw [List.getElem?_eq_none (by simp; omega), List.getElem?_eq_none (by rw [c.len]; omega)]
theorem run_ask {b : Nat} (w : World) : (askRoom b).run P w = .ok () w := by
  unfold askRoom
  split <;> rfl
theorem sats_new {L : List HProp} {w : World} (h : sats L (hof w)) (o : Obj) : sats (ob w.heap.size o :: L) (hof { w with heap := w.heap.push o }) :=
  (sat_new (sd := ⟨fun _ => True, fun _ _ => trivial⟩) (⟨h, trivial⟩ : @Sat ⟨fun _ => True, fun _ _ => trivial⟩ L w) o).1
theorem sats_sl {α : Type} {c : Cd α} {e : TypeId} {L : List HProp} {w : World} (hw : sats L (hof w)) (xs : List α) (junk : List Value) (cap : Nat) (h1 : xs.length ≤ cap) (h2 : junk.length = (cap - xs.length) * c.n) :
    sats (sl c e ⟨some ⟨w.heap.size, 0, none⟩, xs.length, cap⟩ xs :: L) (hof { w with heap := w.heap.push (.cells (flat c xs ++ junk).toArray e) }) := by
  have := sats_new hw (.cells (flat c xs ++ junk).toArray e)
  exact sats_head (fun h hh => .inr ⟨_, cap, junk, rfl, h1, h2, hh⟩) this
theorem sat_sl {α : Type} {c : Cd α} {e : TypeId} {L : List HProp} {w : World} (hw : Sat L w) (xs : List α) (junk : List Value) (cap : Nat) (h1 : xs.length ≤ cap) (h2 : junk.length = (cap - xs.length) * c.n) :
    Sat (sl c e ⟨some ⟨w.heap.size, 0, none⟩, xs.length, cap⟩ xs :: L) { w with heap := w.heap.push (.cells (flat c xs ++ junk).toArray e) } :=
  ⟨sats_sl hw.1 xs junk cap h1 h2, sd.keep (w := w) ⟨rfl, rfl, rfl⟩ hw.2⟩
theorem run_makeSlice {t e : TypeId} [st : SlT P t e] {α : Type} {c : Cd α} {z : α} {bytes : Nat} [ty : Ty P e c z bytes] {k k' : IntKind} {len cap : Int} (h0 : 0 ≤ len) (h1 : len ≤ cap) (h2 : cap * bytes ≤ 281474976710656) (w : World) :
    (Instr.makeSlice t (.int k len) (.int k' cap)).run P w =
      .ok (.slice (some ⟨w.heap.size, 0, none⟩) len.toNat cap.toNat) { w with heap := w.heap.push (.cells (flat c (List.replicate cap.toNat z)).toArray e) } := by
  obtain ⟨i, hi, hs, hb, hz⟩ := ty.info
  have hp := ty.pos
  have hcap : cap ≤ 281474976710656 := by
    have : cap * 1 ≤ cap * bytes := Int.mul_le_mul_of_nonneg_left (by omega) (by omega)
    omega
  have w1 : IntKind.i64.wrap len = len := wrap_in (k := .i64) (by show (-9223372036854775808 : Int) ≤ len; omega) (by show len ≤ (9223372036854775807 : Int); omega)
  have w2 : IntKind.i64.wrap cap = cap := wrap_in (k := .i64) (by show (-9223372036854775808 : Int) ≤ cap; omega) (by show cap ≤ (9223372036854775807 : Int); omega)
  have hbc : (bytes : Int) * cap ≤ 281474976710656 := by rw [Int.mul_comm]; exact h2
  unfold Instr.makeSlice
  simp only [Sem.run_bind, run_und st.und, Result.andThen, asInt, asIntOf, Sem.run_pure, run_info hi, w1, w2, hb]
  have g1 : (decide (cap < 0) || decide ((bytes : Int) * cap > 2 ^ 48)) = false := by simp; omega
  have g2 : (decide (len < 0)) = false := by simp; omega
  have g3 : (decide (len > cap)) = false := by simp; omega
  simp only [g1, g2, g3, Bool.or_self, Bool.false_eq_true, if_false, Sem.run_bind, Sem.run_pure, run_ask, run_size hi, hs, Result.andThen]
  have hz2 : zeroValue e = zeroValue e := rfl
  have key : ∀ (arr : Array Value), (cap.toNat * c.n = 0 ∨ arr = (c.cells z).toArray) → ((Array.range (cap.toNat * c.n)).map (fun i => arr[i % arr.size]!)) = (flat c (List.replicate cap.toNat z)).toArray := by
    intro arr harr
    apply Array.ext'
    rw [Array.toList_map, Array.toList_range]
    rcases harr with h | h
    · rw [h]
      have : flat c (List.replicate cap.toNat z) = [] := List.eq_nil_of_length_eq_zero (by rw [flat_len, List.length_replicate]; exact h)
      rw [this]; rfl
    · exact zero_cells c z arr h _
  by_cases hn : cap.toNat * c.n = 0
  · simp only [hn, if_true, Sem.run_pure]
    have := key #[] (.inl hn)
    rw [hn] at this
    simp only [newRow, newObj, Sem.run_bind, Sem.run, Result.andThen, Sem.run_pure]
    rw [this]
  · simp only [hn, if_false, Sem.run_bind, run_zero (z := z), Result.andThen, Sem.run_pure]
    have := key _ (.inr (c.vcells z))
    simp only [newRow, newObj, Sem.run_bind, Sem.run, Result.andThen, Sem.run_pure]
    rw [this]
section
variable {L : List HProp} {K : Value → W}
instance St.makeSlice {t e : TypeId} [SlT P t e] {α : Type} {c : Cd α} {z : α} {bytes : Nat} [ty : Ty P e c z bytes] {k k' : IntKind} {len cap : Int} :
    St L (ef P (Instr.makeSlice t (.int k len) (.int k' cap)) K) (0 ≤ len ∧ len ≤ cap ∧ cap * bytes ≤ 281474976710656) (∀ s, Ent (sl c e s (List.replicate len.toNat z) :: L) (K (sv s))) :=
  ⟨fun hC h w hw => by
    refine ⟨_, _, run_makeSlice (z := z) hC.1 hC.2.1 hC.2.2 w, h ⟨some ⟨w.heap.size, 0, none⟩, len.toNat, cap.toNat⟩ _ ?_⟩
    have e1 : flat c (List.replicate cap.toNat z) = flat c (List.replicate len.toNat z) ++ flat c (List.replicate (cap.toNat - len.toNat) z) := by
      rw [← flat_append, List.replicate_append_replicate]
      congr 2
      omega
    rw [e1]
    have := sat_sl (c := c) (e := e) hw (List.replicate len.toNat z) (flat c (List.replicate (cap.toNat - len.toNat) z)) cap.toNat (by simp; omega) (by rw [flat_len]; simp)
    simpa using this⟩
/-! elements written out -/
class Elts {α : Type} (c : Cd α) (k : Nat) (ps : List (Nat × Value)) (xs : outParam (List α)) : Prop where
  out : ps = (((xs.map c.val).zipIdx k).map fun p => (p.2, p.1))
instance Elts.nil {α : Type} {c : Cd α} {k : Nat} : Elts c k [] [] := ⟨rfl⟩
instance Elts.cons {α : Type} {c : Cd α} {k : Nat} {v : Value} {ps : List (Nat × Value)} {x : α} {xs : List α} [vo : VOf c v x] [el : Elts c (k + 1) ps xs] : Elts c k ((k, v) :: ps) (x :: xs) :=
  ⟨by rw [el.out, vo.out]; rfl⟩
theorem fill_elts {α : Type} (c : Cd α) : ∀ (xs done : List α) (rest : List Value), rest.length = xs.length * c.n →
    Instr.fill (fun i => some (i * c.n, c.n)) (flat c done ++ rest).toArray (((xs.map c.val).zipIdx done.length).map fun p => (p.2, p.1)) = some (flat c (done ++ xs)).toArray
  | [], done, rest, h => by
    have : rest = [] := List.eq_nil_of_length_eq_zero (by simpa using h)
    subst this
    simp [Instr.fill]
  | x :: xs, done, rest, h => by
    simp only [List.map_cons, List.zipIdx_cons]
    have hl : rest.length = c.n + xs.length * c.n := by rw [h, List.length_cons, Nat.add_mul, Nat.one_mul, Nat.add_comm]
    rw [fill_cons (off := done.length * c.n) (n := c.n) rfl rfl (by rw [List.length_append, flat_len]; omega)]
    have e1 : wr (flat c done ++ rest) (done.length * c.n) (c.cells x) = flat c (done ++ [x]) ++ rest.drop c.n := by
      unfold wr
      rw [← flat_len, List.take_left, c.len, ← List.drop_drop, List.drop_left, flat_append]
      simp [flat]
    rw [e1]
    have := fill_elts c xs (done ++ [x]) (rest.drop c.n) (by rw [List.length_drop]; omega)
    simpa using this
theorem run_buildSlice {t e : TypeId} [st : SlT P t e] {α : Type} {c : Cd α} {z : α} {bytes : Nat} [ty : Ty P e c z bytes] {xs : List α} (hle : xs.length * c.n ≤ 16777216) (w : World) :
    (Instr.buildSlice t xs.length (((xs.map c.val).zipIdx).map fun p => (p.2, p.1)).toArray).run P w =
      .ok (.slice (some ⟨w.heap.size, 0, none⟩) xs.length xs.length) { w with heap := w.heap.push (.cells (flat c xs).toArray e) } := by
  obtain ⟨i, hi, hs, hb, hz⟩ := ty.info
  unfold Instr.buildSlice
  simp only [Sem.run_bind, run_und st.und, Result.andThen, run_size hi, hs]
  rw [if_neg (by omega)]
  have key : ∀ (arr : Array Value), (xs.length * c.n = 0 ∨ arr = (c.cells z).toArray) → ((Array.range (xs.length * c.n)).map (fun i => arr[i % arr.size]!)) = (flat c ([] : List α) ++ flat c (List.replicate xs.length z)).toArray := by
    intro arr harr
    apply Array.ext'
    rw [Array.toList_map, Array.toList_range]
    rcases harr with h | h
    · rw [h]
      have : flat c (List.replicate xs.length z) = [] := List.eq_nil_of_length_eq_zero (by rw [flat_len, List.length_replicate]; exact h)
      rw [this]; rfl
    · rw [zero_cells c z arr h _]; rfl
  have hf := fill_elts c xs [] (flat c (List.replicate xs.length z)) (by rw [flat_len, List.length_replicate])
  by_cases hn : xs.length * c.n = 0
  · simp only [hn, if_true, pure_bind]
    have := key #[] (.inl hn)
    rw [hn] at this
    rw [this]
    simp only [List.length_nil, List.nil_append] at hf
    rw [hf]
    simp only [newRow, newObj, Sem.run_bind, Sem.run, Result.andThen, Sem.run_pure]
  · simp only [hn, if_false, Sem.run_bind, run_zero (z := z), Result.andThen, Sem.run_pure]
    rw [key _ (.inr (c.vcells z))]
    simp only [List.length_nil, List.nil_append] at hf
    rw [hf]
    simp only [newRow, newObj, Sem.run_bind, Sem.run, Result.andThen, Sem.run_pure]
instance St.buildSlice {t e n : TypeId} [SlT P t e] {α : Type} {c : Cd α} {z : α} {bytes : Nat} [ty : Ty P e c z bytes] {ps : List (Nat × Value)} {xs : List α} [el : Elts c 0 ps xs] :
    St L (ef P (Instr.buildSlice t n ps.toArray) K) (n = xs.length ∧ xs.length * c.n ≤ 16777216) (∀ s, Ent (sl c e s xs :: L) (K (sv s))) :=
  ⟨fun hC h w hw => by
    rw [el.out, hC.1]
    refine ⟨_, _, run_buildSlice (z := z) hC.2 w, h ⟨some ⟨w.heap.size, 0, none⟩, xs.length, xs.length⟩ _ ?_⟩
    have := sat_sl (c := c) (e := e) hw xs [] xs.length (Nat.le_refl _) (by simp)
    simpa using this⟩
end
end Go.Dn
