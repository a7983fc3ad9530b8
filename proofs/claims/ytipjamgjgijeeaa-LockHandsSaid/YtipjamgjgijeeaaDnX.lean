/-
  Own framework, part X: appending into a slice's own room; clearing behind its end; slices with three bounds; bits.
  Conditions: none; general over any program.
-/
import Derived.Test.YtipjamgjgijeeaaDnW
set_option linter.unusedSectionVars false
set_option synthInstance.maxSize 10000
set_option synthInstance.maxHeartbeats 400000
set_option maxHeartbeats 2000000
namespace Go.Dn
set_option linter.unusedSimpArgs false
set_option linter.unusedVariables false
variable {P : Program} [sd : Side]
theorem run_append_fit {t t' ty e : TypeId} [st : SlT P t e] [st' : SlT P t' e] {α : Type} {c : Cd α} {z : α} {bytes : Nat} [tye : Ty P e c z bytes] {s s2 : Sl} {xs ys : List α} {M : List HProp} {w : World}
    (hs : sats (sl c e s xs :: M) (hof w)) (hr : RdOk (hof w) s2 c ys) (hfit : xs.length + ys.length ≤ s.cap) :
    ∃ w', (Builtin.append_ #[t, t'] ty [sv s, sv s2].toArray).run P w = .ok (sv ⟨s.a, xs.length + ys.length, s.cap⟩) w' ∧ sats (sl c e ⟨s.a, xs.length + ys.length, s.cap⟩ (xs ++ ys) :: M) (hof w') ∧ Same w w' := by
  obtain ⟨i, hi, hsz, hby, hz⟩ := tye.info
  have hlen2 : s2.len = ys.length := hr.1
  have hs' := hs
  obtain ⟨g1, g2, d, e1, ha, hM⟩ := hs
  have hrx : RdOk (hof w) s c xs := (rdOk_sl ha).mono (by rw [e1]; exact uni_l)
  unfold Builtin.append_
  have hsv : sv s = .slice s.a s.len s.cap := rfl
  have hsv2 : sv s2 = .slice s2.a s2.len s2.cap := rfl
  simp only [List.getElem?_toArray, List.getElem?_cons_zero, List.getElem?_cons_succ, hsv, hsv2, Sem.run_bind, run_und st.und, run_und st'.und, Result.andThen, run_size hi, hsz, Builtin.lenOf, Sem.run_pure, Bool.not_false, if_true, Bool.false_eq_true, if_false, hlen2]
  have hlen : s.len = xs.length := hrx.1
  rw [hlen]
  have f2 : ∀ w1 : World, hof w1 = hof w → (Builtin.firstCells c.n ys.length (.slice s2.a ys.length s2.cap)).run P w1 = .ok (flat c ys).toArray w1 := by
    intro w1 hw1
    have := run_first (P := P) (w := w1) (s := s2) (c := c) (xs := ys) (by rw [hw1]; exact hr)
    rwa [hsv2, hlen2] at this
  rw [if_pos hfit]
  simp only [Sem.run_bind, f2 w rfl, Result.andThen]
  rcases ha with ⟨rfl, rfl, hemp⟩ | ⟨b, cap, junk, rfl, hle, hjk, rfl⟩
  · have hy : ys = [] := List.eq_nil_of_length_eq_zero (by simpa using hfit)
    subst hy
    exact ⟨w, rfl, hs', rfl, rfl, rfl⟩
  · have hbk : w.heap[b]? = some (.cells (flat c xs ++ junk).toArray e) := by
      show hof w b = _
      rw [e1]; simp [uni, sng]
    have hn : ys.length * c.n ≤ junk.length := by
      rw [hjk]; exact Nat.mul_le_mul_right _ (by simp only at hfit; omega)
    obtain ⟨w', r, q1, q2, q3⟩ := run_storeCells (P := P) (b := b) (off := xs.length * c.n) (T := e) (flat c ys) 0 w _ hbk (by rw [List.length_append, flat_len, flat_len]; omega) (one_flat c ys)
    have eq1 : wr (flat c xs ++ junk) (xs.length * c.n + 0) (flat c ys) = flat c (xs ++ ys) ++ junk.drop (ys.length * c.n) := by
      rw [Nat.add_zero, ← flat_len c xs, show (flat c xs).length = (flat c xs).length + 0 from rfl, wr_right, flat_append]
      unfold wr
      rw [flat_len]
      simp
    rw [eq1] at q1
    refine ⟨w', ?_, ?_, q3⟩
    · simp only [add_addr, Nat.zero_add]
      rw [Sem.run_bind, r]
      rfl
    · have hset := sats_set (b := b) (o' := .cells (flat c (xs ++ ys) ++ junk.drop (ys.length * c.n)).toArray e) (h' := hof w') (⟨sng b _, g2, d, e1, rfl, hM⟩ : sats ((fun x => x = sng b _) :: M) (hof w)) q1 q2
      refine sats_head (fun h hh => .inr ⟨b, cap, junk.drop (ys.length * c.n), ?_, ?_, ?_, hh⟩) hset
      · simp
      · simpa using hfit
      · rw [List.length_drop, hjk, List.length_append, ← Nat.sub_mul]
        congr 1
        omega
section
variable {L : List HProp} {K : Value → W}
/-- Appended behind a first part of a slice that is owned, in its own room. -/
theorem ent_appendV {t t' ty e : TypeId} [SlT P t e] [SlT P t' e] {α : Type} {c : Cd α} {z : α} {bytes : Nat} [Ty P e c z bytes] {s0 s5 s6 : Sl} {xs ys : List α} {i : Nat} {M : List HProp} [rs : Rs (sl c e s0 xs :: M) s6 c ys]
    (hc : Cut c.n s0 s5 0 i) (hi : i ≤ xs.length) (hfit : i + ys.length ≤ s0.cap) (h : Ent (sl c e ⟨s0.a, i + ys.length, s0.cap⟩ (xs.take i ++ ys) :: M) (K (sv ⟨s0.a, i + ys.length, s0.cap⟩))) :
    Ent (sl c e s0 xs :: M) (ef P (Builtin.append_ #[t, t'] ty [sv s5, sv s6].toArray) K) := fun w hw => by
  have hr := rs.out _ hw.1
  have hl : (xs.take i).length = i := by rw [List.length_take]; omega
  have h5 : sats (sl c e s5 (xs.take i) :: M) (hof w) := sats_head (fun hp hh => by
    have hh' : sl c e s0 (xs.take i ++ xs.drop i) hp := by rw [List.take_append_drop]; exact hh
    exact sl_cut hh' (by rw [hl]; exact hc)) hw.1
  have ha : s5.a = s0.a := hc.a0
  have hcap : s5.cap = s0.cap := by rw [hc.cap]; rfl
  obtain ⟨w', r, hs, hsame⟩ := run_append_fit (P := P) (t := t) (t' := t') (ty := ty) h5 hr (by rw [hl, hcap]; exact hfit)
  rw [hl, ha, hcap] at r hs
  exact ⟨_, w', r, h w' ⟨hs, sd.keep hsame hw.2⟩⟩
theorem zeroCells_eq {α : Type} (c : Cd α) (z : α) (n : Nat) : (Builtin.zeroCells (c.val z).cells n) = (flat c (List.replicate n z)).toArray := by
  unfold Builtin.zeroCells
  rw [c.vcells]
  apply Array.ext'
  have := zero_cells c z (c.cells z).toArray rfl n
  rw [Array.toList_map, Array.toList_range]
  have hs3 : (c.cells z).toArray.size = c.n := by simp [c.len]
  rw [hs3] at this ⊢
  exact this
/-- What lies behind a slice's end is cleared. -/
theorem ent_clear {t ty e : TypeId} [st : SlT P t e] {α : Type} {c : Cd α} {z : α} {bytes : Nat} [tye : Ty P e c z bytes] {s7 s9 : Sl} {xs : List α} {hi : Nat} {M : List HProp} (hc : Cut c.n s7 s9 xs.length hi) (h1 : xs.length ≤ hi) (h2 : hi ≤ s7.cap)
    (h : Ent (sl c e s7 xs :: M) (K (.tuple #[]))) : Ent (sl c e s7 xs :: M) (ef P (Builtin.clear_ #[t] ty [sv s9].toArray) K) := fun w hw => by
  by_cases heq : hi = xs.length
  · subst heq
    have hl : s9.len = 0 := by rw [hc.len, Nat.sub_self]
    refine ⟨_, w, ?_, h w hw⟩
    obtain ⟨a, len, cap⟩ := s9
    simp only at hl
    subst hl
    unfold Builtin.clear_
    simp only [sv, List.getElem?_toArray, List.getElem?_cons_zero, Sem.run_bind, run_und st.und, Result.andThen]
    cases a <;> rfl
  · have hlt : xs.length < hi := by omega
    have hw' := hw
    obtain ⟨⟨g1, g2, d, e1, ha, hM⟩, hside⟩ := hw
    rcases ha with ⟨rfl, rfl, hemp⟩ | ⟨b, cap, junk, rfl, hle, hjk, rfl⟩
    · simp only at h2; omega
    · simp only at h2
      have hbk : w.heap[b]? = some (.cells (flat c xs ++ junk).toArray e) := by
        show hof w b = _
        rw [e1]; simp [uni, sng]
      have hn : (flat c (List.replicate (hi - xs.length) z)).length ≤ junk.length := by
        rw [flat_len, List.length_replicate, hjk]; exact Nat.mul_le_mul_right _ (by omega)
      obtain ⟨w', r, q1, q2, q3⟩ := run_storeCells (P := P) (b := b) (off := xs.length * c.n) (T := e) (flat c (List.replicate (hi - xs.length) z)) 0 w _ hbk (by rw [List.length_append, flat_len c xs]; omega) (one_flat c _)
      have eq1 : wr (flat c xs ++ junk) (xs.length * c.n + 0) (flat c (List.replicate (hi - xs.length) z)) = flat c xs ++ wr junk 0 (flat c (List.replicate (hi - xs.length) z)) := by
        rw [Nat.add_zero, ← flat_len c xs, show (flat c xs).length = (flat c xs).length + 0 from rfl, wr_right]
      rw [eq1] at q1
      have hset := sats_set (b := b) (o' := .cells (flat c xs ++ wr junk 0 (flat c (List.replicate (hi - xs.length) z))).toArray e) (h' := hof w') (⟨sng b _, g2, d, e1, rfl, hM⟩ : sats ((fun x => x = sng b _) :: M) (hof w)) q1 q2
      refine ⟨_, w', ?_, h w' ⟨sats_head (fun h hh => .inr ⟨b, cap, wr junk 0 (flat c (List.replicate (hi - xs.length) z)), rfl, hle, ?_, hh⟩) hset, sd.keep q3 hside⟩⟩
      · have h9 : sv s9 = .slice (some ⟨b, xs.length * c.n, none⟩) (hi - xs.length) (cap - xs.length) := by
          unfold sv
          rw [hc.a (.inl hlt), hc.len, hc.cap]
          simp [add_addr]
        unfold Builtin.clear_
        rw [h9]
        obtain ⟨k, hk⟩ : ∃ k, hi - xs.length = k + 1 := ⟨hi - xs.length - 1, by omega⟩
        rw [hk] at r ⊢
        simp only [List.getElem?_toArray, List.getElem?_cons_zero, Sem.run_bind, run_und st.und, Result.andThen, run_zero (z := z)]
        rw [zeroCells_eq c z]
        rw [r]
        rfl
      · unfold wr
        simp only [List.take_zero, List.nil_append, List.length_append, List.length_drop]
        rw [hjk] at hn ⊢
        omega
/-- A check of bounds: a slice with three. -/
theorem prun_slice3 {t e : TypeId} [st : SlT P t e] {i : TypeInfo} (hi : P.info? e = some i) {s : Sl} {k1 k2 k3 : IntKind} {x y m : Int} (h1 : 0 ≤ x) (h2 : x ≤ y) (h3 : y ≤ m) (h4 : m ≤ s.cap) :
    ∃ s', prun P (Instr.sliceAt t (sv s) (some (.int k1 x)) (some (.int k2 y)) (some (.int k3 m))) = some (sv s') := by
  unfold Instr.sliceAt
  rw [prun_und st.und]
  simp only [Instr.slice, sv]
  rw [prun_und st.und]
  simp only [Instr.sliceBounds, bind_assoc, pure_bind, if_true]
  rw [prun_bound ⟨by omega, h4⟩]
  rw [prun_bound ⟨by omega, by omega⟩]
  rw [prun_bound ⟨h1, by omega⟩]
  rw [prun_size hi]
  exact ⟨⟨_, _, _⟩, rfl⟩
instance St.slice3 {t e : TypeId} [SlT P t e] {α : Type} {c : Cd α} {z : α} {bytes : Nat} [ty : Ty P e c z bytes] {s : Sl} {k1 k2 k3 : IntKind} {x y m : Int} :
    St L (pu P (Instr.sliceAt t (sv s) (some (.int k1 x)) (some (.int k2 y)) (some (.int k3 m))) K) (0 ≤ x ∧ x ≤ y ∧ y ≤ m ∧ m ≤ s.cap) (∀ s', Ent L (K (sv s'))) :=
  ⟨fun hC h => by
    obtain ⟨i, hi, _, _⟩ := ty.info
    obtain ⟨s', hs⟩ := prun_slice3 (P := P) (t := t) (s := s) (k1 := k1) (k2 := k2) (k3 := k3) hi hC.1 hC.2.1 hC.2.2.1 hC.2.2.2
    exact ent_pu hs (h s')⟩
/-! ## Conversions, with plain bounds -/
instance (priority := high) St.convU {s d : TypeId} {k j : IntKind} {x : Int} [sk : InT P s k] [dk : InT P d .u64] : St L (rd P (convert s d (.int j x)) K) (0 ≤ x ∧ x ≤ 18446744073709551615) (Ent L (K (.int .u64 x))) :=
  ⟨fun c h => (St.conv (P := P) (L := L) (s := s) (d := d) (k := k) (k' := .u64) (j := j) (x := x) (K := K)).out c h⟩
instance (priority := high) St.convI {s d : TypeId} {k j : IntKind} {x : Int} [sk : InT P s k] [dk : InT P d .i64] : St L (rd P (convert s d (.int j x)) K) (-9223372036854775808 ≤ x ∧ x ≤ 9223372036854775807) (Ent L (K (.int .i64 x))) :=
  ⟨fun c h => (St.conv (P := P) (L := L) (s := s) (d := d) (k := k) (k' := .i64) (j := j) (x := x) (K := K)).out c h⟩
instance (priority := high) St.convckU {s d : TypeId} {k j : IntKind} {x : Int} {g : Option (Value × Bool)} {u : Value} {A : W} [sk : InT P s k] [dk : InT P d .u64] : St L (andW (ck P g (convert s d (.int j x)) u) A) (0 ≤ x ∧ x ≤ 18446744073709551615) (u = .int .u64 x ∧ Ent L A) :=
  ⟨fun c h => (St.convck (P := P) (L := L) (s := s) (d := d) (k := k) (k' := .u64) (j := j) (x := x) (g := g) (u := u) (A := A)).out c h⟩
instance (priority := high) St.convckI {s d : TypeId} {k j : IntKind} {x : Int} {g : Option (Value × Bool)} {u : Value} {A : W} [sk : InT P s k] [dk : InT P d .i64] : St L (andW (ck P g (convert s d (.int j x)) u) A) (-9223372036854775808 ≤ x ∧ x ≤ 9223372036854775807) (u = .int .i64 x ∧ Ent L A) :=
  ⟨fun c h => (St.convck (P := P) (L := L) (s := s) (d := d) (k := k) (k' := .i64) (j := j) (x := x) (g := g) (u := u) (A := A)).out c h⟩
/-! ## Bits -/
instance St.shrU {t : TypeId} {k : IntKind} {a b : Int} : St L (pu P (binOp .shr t (.int .u64 a) (.int k b)) K) (0 ≤ b) (Ent L (K (.int .u64 (a.fdiv (2 ^ min b.toNat 64))))) :=
  ⟨fun c h => ent_pu (by simp only [binOp, Op.shift]; rw [if_neg (by omega)]; rfl) h⟩
def andI (a b : Int) : Int := ((BitVec.ofInt 64 a &&& BitVec.ofInt 64 b).toNat : Int)
theorem wrap_u64 {x : Nat} (h : x < 18446744073709551616) : IntKind.u64.wrap x = x := wrap_in (by show (0 : Int) ≤ x; omega) (by show (x : Int) ≤ 18446744073709551615; omega)
instance St.andU {t : TypeId} {a b : Int} : St L (pu P (binOp .and t (.int .u64 a) (.int .u64 b)) K) True (Ent L (K (.int .u64 (andI a b)))) :=
  ⟨fun _ h => ent_pu (by
    simp only [binOp, ne_eq, not_true_eq_false, if_false, Op.intBits]
    show some (Value.int .u64 (IntKind.u64.wrap ((BitVec.ofInt 64 a &&& BitVec.ofInt 64 b).toNat : Int))) = _
    rw [wrap_u64 (BitVec.isLt _)]
    rfl) h⟩
end
end Go.Dn
