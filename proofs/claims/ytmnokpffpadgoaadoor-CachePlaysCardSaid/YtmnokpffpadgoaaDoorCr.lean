/- What the document's cache and its comparison do. -/
import Derived.Test.YtmnokpffpadgoaaDoorCs
import Derived.Test.YtmnokpffpadgoaaDoorDnS
namespace Go.Proofs.YtmnokpffpadgoaaDoor
set_option linter.unusedSimpArgs false
set_option linter.unusedVariables false
open Go.Dn
set_option linter.unusedSectionVars false
set_option synthInstance.maxSize 10000
set_option synthInstance.maxHeartbeats 400000
set_option maxHeartbeats 2000000
variable [sd : Side]
theorem list_eq_of {α : Type} [Inhabited α] {l1 l2 : List α} (hl : l1.length = l2.length) (h : ∀ j, j < l1.length → l1.getD j default = l2.getD j default) : l1 = l2 := by
  apply List.ext_getElem hl
  intro i h1 h2
  have := h i h1
  simpa [h1, h2] using this
theorem same_ok {s1 s2 : Sl} {l1 l2 : List S_wicketref17_Entry} {K : Value → W} {F : List HProp} [rs1 : Rs F s1 S_wicketref17_Entry.c l1] [rs2 : Rs F s2 S_wicketref17_Entry.c l2] (hlen : l1.length ≤ 9223372036854775807)
    (h1 : l1 = l2 → Ent F (K (.bool true))) (h2 : l1 ≠ l2 → Ent F (K (.bool false))) : Ent F (callC Tryd.prog 25 [sv s1, sv s2] K) := by
  refine ent_mono ?_ fun w => nf25_ok
  unfold nf25
  repeat refine st ?_
  refine cs (fun hl => ?_) (fun hl => ?_)
  · repeat refine st ?_
    have hl' : l1.length = l2.length := by omega
    refine ent_loop (γ := Nat) (fun i => [.int .i64 i]) (fun _ => F) (fun i => i ≤ l1.length ∧ ∀ j, j < i → l1.getD j default = l2.getD j default) (fun i => l1.length - i) 0 rfl ⟨by omega, fun j hj => by omega⟩ inferInstance ?_
    intro i ⟨hi, hin⟩ K1 j hK
    simp only [List.headD_cons] at *
    repeat refine st ?_
    refine cs (fun h3 => ?_) (fun h3 => ?_)
    · have hi1 : i < l1.length := by omega
      repeat refine st ?_
      refine sc (by omega) ?_
      refine sc ⟨hi1, trivial⟩ ?_
      refine sc (by omega) ?_
      refine sc ⟨by omega, trivial⟩ ?_
      refine cs (fun h4 => ?_) (fun h4 => ?_)
      · repeat refine st ?_
        refine sc (by omega) ?_
        refine hK (i + 1) ⟨hi1, fun j hj => ?_⟩ (by omega)
        by_cases hji : j < i
        · exact hin j hji
        · have : j = i := by omega
          subst this; exact h4
      · repeat refine st ?_
        exact h2 fun hc => h4 (by rw [hc])
    · repeat refine st ?_
      have : i = l1.length := by omega
      subst this
      exact h1 (list_eq_of hl' hin)
  · repeat refine st ?_
    exact h2 fun hc => hl (by rw [hc])
structure RM where
  blocks : Int
  list : List S_wicketref17_Entry
  some : Bool
  last : Int
def refAt (p : Nat) (m : RM) : HProp := fun h => ∃ s : Sl, stars [vr p 72 S_wicketref17_Cache.c ⟨m.blocks, s, m.some, m.last⟩, sl S_wicketref17_Entry.c 76 s m.list] h
theorem ref_open {p : Nat} {m : RM} {F : List HProp} {φ : W} (h : ∀ s, Ent (vr p 72 S_wicketref17_Cache.c ⟨m.blocks, s, m.some, m.last⟩ :: sl S_wicketref17_Entry.c 76 s m.list :: F) φ) : Ent (refAt p m :: F) φ :=
  ent_ex fun s => ent_open (M := [_, _]) (fun _ h => h) (h s)
theorem ref_shut {p : Nat} {m : RM} {F : List HProp} {φ : W} {s : Sl} (h : Ent (refAt p m :: F) φ) : Ent (vr p 72 S_wicketref17_Cache.c ⟨m.blocks, s, m.some, m.last⟩ :: sl S_wicketref17_Entry.c 76 s m.list :: F) φ :=
  ent_shut (M := [_, _]) (fun _ h => ⟨s, h⟩) h
theorem refNew_ok {n : Int} {K : Value → W} {F : List HProp} (h0 : 1 ≤ n ∧ n ≤ 64 → ∀ p, Ent (refAt p ⟨n, [], false, 0⟩ :: F) (K (.tuple #[.pointer (some ⟨p, 0, none⟩), .int .i64 0])))
    (h1 : ¬ (1 ≤ n ∧ n ≤ 64) → Ent F (K (.tuple #[.pointer none, .int .i64 2]))) : Ent F (callC Tryd.prog 6 [.int .i64 n] K) := by
  refine ent_mono ?_ fun w => nf6_ok
  unfold nf6
  refine cs (fun h => ?_) (fun h => ?_)
  · repeat refine st ?_
    exact h1 (by omega)
  · repeat refine st ?_
    refine cs (fun h' => ?_) (fun h' => ?_)
    · repeat refine st ?_
      exact h1 (by omega)
    · repeat refine st ?_
      intro p
      exact ent_nil S_wicketref17_Entry.c 76 (inc (M := vr p 72 S_wicketref17_Cache.c ⟨n, Sl.nil, false, 0⟩ :: sl S_wicketref17_Entry.c 76 Sl.nil [] :: F) (ref_shut (m := ⟨_, _, _, _⟩) (h0 (by omega) p)))
theorem refCopy_ok {p : Nat} {m : RM} {K : Value → W} {F : List HProp} (hlen : m.list.length ≤ 1000000000) (h : ∀ q, Ent (refAt q m :: refAt p m :: F) (K (.pointer (some ⟨q, 0, none⟩)))) :
    Ent (refAt p m :: F) (callC Tryd.prog 8 [.pointer (some ⟨p, 0, none⟩)] K) := by
  refine ent_mono ?_ fun w => nf8_ok
  unfold nf8
  refine ref_open fun s => ?_
  repeat refine st ?_
  refine sc ⟨rfl, by decide⟩ ?_
  intro s2
  refine st ⟨rfl, ?_⟩
  refine st ⟨rfl, ?_⟩
  refine st ⟨rfl, ?_⟩
  refine st ⟨rfl, ?_⟩
  refine sc (by simp only [List.length_nil]; omega) ?_
  intro s3
  refine st ⟨rfl, ?_⟩
  refine st ⟨rfl, ?_⟩
  refine st ⟨rfl, ?_⟩
  repeat refine st ?_
  intro q
  simp only [List.nil_append]
  refine inc (M := vr p 72 S_wicketref17_Cache.c ⟨m.blocks, s, m.some, m.last⟩ :: sl S_wicketref17_Entry.c 76 s m.list :: vr q 72 S_wicketref17_Cache.c ⟨m.blocks, s3, m.some, m.last⟩ :: sl S_wicketref17_Entry.c 76 s3 m.list :: F) (ref_shut (m := m) ?_)
  exact inc (M := vr q 72 S_wicketref17_Cache.c ⟨m.blocks, s3, m.some, m.last⟩ :: sl S_wicketref17_Entry.c 76 s3 m.list :: refAt p m :: F) (ref_shut (m := m) (h q))
def findE (l : List S_wicketref17_Entry) (b : Int) : Option S_wicketref17_Entry := l.find? fun e => e.Block == b
theorem findE_take {l : List S_wicketref17_Entry} {b : Int} {i : Nat} (hi : i < l.length) (hno : ∀ j, j < i → (l.getD j default).Block ≠ b) (hb : (l.getD i default).Block = b) : findE l b = some (l.getD i default) := by
  unfold findE
  rw [List.find?_eq_some_iff_getElem]
  refine ⟨by simpa using hb, i, hi, by simp [hi], fun j hj => ?_⟩
  have := hno j hj
  have hj' : j < l.length := by omega
  simpa [hj'] using this
theorem refGet_ok {p : Nat} {m : RM} {b : Int} {K : Value → W} {F : List HProp} (hlen : m.list.length ≤ 9223372036854775807)
    (h : Ent (refAt p m :: F) (K (.tuple #[S_wicketref17_Entry.c.val ((findE m.list b).getD S_wicketref17_Entry.z), .bool (findE m.list b).isSome]))) : Ent (refAt p m :: F) (callC Tryd.prog 22 [.pointer (some ⟨p, 0, none⟩), .int .i64 b] K) := by
  refine ent_mono ?_ fun w => nf22_ok
  unfold nf22
  refine ref_open fun s => ?_
  refine st ?_
  intro q
  refine ent_loop (γ := Nat) (fun i => [.int .i64 i]) (fun _ => vr q 76 S_wicketref17_Entry.c S_wicketref17_Entry.z :: vr p 72 S_wicketref17_Cache.c ⟨m.blocks, s, m.some, m.last⟩ :: sl S_wicketref17_Entry.c 76 s m.list :: F)
    (fun i => i ≤ m.list.length ∧ ∀ j, j < i → (m.list.getD j default).Block ≠ b) (fun i => m.list.length - i) 0 rfl ⟨by omega, fun j hj => by omega⟩ inferInstance ?_
  intro i ⟨hi, hno⟩ K1 j hK
  simp only [List.headD_cons] at *
  repeat refine st ?_
  refine cs (fun h1 => ?_) (fun h1 => ?_)
  · have hi1 : i < m.list.length := by omega
    repeat refine st ?_
    refine sc (by omega) ?_
    refine sc (by omega) ?_
    refine sc ⟨hi1, trivial⟩ ?_
    refine cs (fun h2 => ?_) (fun h2 => ?_)
    · repeat refine st ?_
      refine sc (by omega) ?_
      refine sc ⟨hi1, trivial⟩ ?_
      repeat refine st ?_
      rw [findE_take hi1 hno h2] at h
      exact ent_drop (ref_shut (m := m) h)
    · repeat refine st ?_
      refine sc (by omega) ?_
      refine hK (i + 1) ⟨hi1, fun j hj => ?_⟩ (by omega)
      by_cases hji : j < i
      · exact hno j hji
      · have : j = i := by omega
        subst this; exact h2
  · have : i = m.list.length := by omega
    subst this
    have hf : findE m.list b = none := by
      unfold findE
      rw [List.find?_eq_none]
      intro x hx
      obtain ⟨i, hi, rfl⟩ := List.getElem_of_mem hx
      have := hno i hi
      simpa [hi] using this
    rw [hf] at h
    repeat refine st ?_
    exact ent_drop (ref_shut (m := m) h)
open Classical in
noncomputable def refRes (m : RM) (l : List S_api_Image) (pos : Int) : Int :=
  if ∀ i, i < l.length → 0 ≤ (l.getD i default).Block ∧ (l.getD i default).Block < m.blocks then if rises l then if m.some = true ∧ pos ≤ m.last ∨ 4611686018427387904 < pos then 30 else 0 else 53 else 51
theorem may_ok {p : Nat} {m : RM} {si : Sl} {l : List S_api_Image} {pos : Int} {K : Value → W} {F : List HProp} [rs : Rs F si S_api_Image.c l] (hlen : l.length ≤ 9223372036854775807)
    (h : Ent (refAt p m :: F) (K (.int .i64 (refRes m l pos)))) : Ent (refAt p m :: F) (callC Tryd.prog 29 [.pointer (some ⟨p, 0, none⟩), sv si, .int .u64 pos] K) := by
  refine ent_mono ?_ fun w => nf29_ok
  unfold nf29
  refine ref_open fun s => ?_
  refine ent_loop (γ := Nat) (fun i => [.int .i64 i]) (fun _ => vr p 72 S_wicketref17_Cache.c ⟨m.blocks, s, m.some, m.last⟩ :: sl S_wicketref17_Entry.c 76 s m.list :: F)
    (fun i => i ≤ l.length ∧ ∀ j, j < i → 0 ≤ (l.getD j default).Block ∧ (l.getD j default).Block < m.blocks) (fun i => l.length - i) 0 rfl ⟨by omega, fun j hj => by omega⟩ inferInstance ?_
  intro i ⟨hi, hin⟩ K1 j hK
  simp only [List.headD_cons] at *
  repeat refine st ?_
  refine cs (fun h1 => ?_) (fun h1 => ?_)
  · have hi1 : i < l.length := by omega
    repeat refine st ?_
    refine sc (by omega) ?_
    refine sc (by omega) ?_
    refine sc ⟨hi1, trivial⟩ ?_
    refine cs (fun h2 => ?_) (fun h2 => ?_)
    · repeat refine st ?_
      have : refRes m l pos = 51 := if_neg fun hx => by have := (hx i hi1).1; omega
      rw [this] at h
      exact ref_shut (m := m) h
    · repeat refine st ?_
      refine sc (by omega) ?_
      repeat refine st ?_
      refine sc (by omega) ?_
      repeat refine st ?_
      refine sc ⟨hi1, trivial⟩ ?_
      repeat refine st ?_
      refine cs (fun h3 => ?_) (fun h3 => ?_) <;> simp only at h3
      · repeat refine st ?_
        have : refRes m l pos = 51 := if_neg fun hx => by have := (hx i hi1).2; omega
        rw [this] at h
        exact ref_shut (m := m) h
      · repeat refine st ?_
        refine sc (by omega) ?_
        refine inc (hK (i + 1) ⟨hi1, fun j hj => ?_⟩ (by omega))
        by_cases hji : j < i
        · exact hin j hji
        · have : j = i := by omega
          subst this
          exact ⟨by omega, by omega⟩
  · have hil : i = l.length := by omega
    subst hil
    clear hK
    refine st ?_
    unfold nf29_1
    refine ent_loop (γ := Nat) (fun i => [.int .i64 i]) (fun _ => vr p 72 S_wicketref17_Cache.c ⟨m.blocks, s, m.some, m.last⟩ :: sl S_wicketref17_Entry.c 76 s m.list :: F)
      (fun i => 1 ≤ i ∧ (i ≤ l.length ∨ i = 1) ∧ ∀ j, j + 1 < i → (l.getD j default).Block < (l.getD (j + 1) default).Block) (fun i => l.length - i) 1 rfl ⟨by omega, by omega, fun j hj => by omega⟩ inferInstance ?_
    intro i ⟨hi0, hi, hri⟩ K2 j2 hK
    simp only [List.headD_cons]
    repeat refine st ?_
    refine cs (fun h2 => ?_) (fun h2 => ?_)
    · have hi1 : i < l.length := by omega
      repeat refine st ?_
      refine sc (by omega) ?_
      refine sc (by omega) ?_
      refine sc ⟨by omega, trivial⟩ ?_
      refine sc (by omega) ?_
      refine sc (by omega) ?_
      refine sc (by omega) ?_
      refine sc ⟨by omega, trivial⟩ ?_
      have e : ((i : Int) - 1).toNat = i - 1 := by omega
      simp only [e]
      refine cs (fun h3 => ?_) (fun h3 => ?_)
      · repeat refine st ?_
        have : refRes m l pos = 53 := by
          unfold refRes
          rw [if_pos hin, if_neg]
          intro hx
          have := hx (i - 1) (by omega)
          rw [show i - 1 + 1 = i from by omega] at this
          omega
        rw [this] at h
        exact ref_shut (m := m) h
      · repeat refine st ?_
        refine sc (by omega) ?_
        refine inc (hK (i + 1) ⟨by omega, by omega, fun j hj => ?_⟩ (by omega))
        by_cases hji : j + 1 < i
        · exact hri j hji
        · have : i = j + 1 := by omega
          subst this
          rw [show j + 1 - 1 = j from by omega] at h3
          omega
    · repeat refine st ?_
      have hris : rises l := fun j hj => hri j (by omega)
      clear hK hi0 hi hri h2
      have h30 : m.some = true ∧ pos ≤ m.last ∨ 4611686018427387904 < pos → Ent (refAt p m :: F) (K (.int .i64 30)) := fun hc => by
        have e : refRes m l pos = 30 := by unfold refRes; rw [if_pos hin, if_pos hris, if_pos hc]
        rw [e] at h; exact h
      have h0 : ¬ (m.some = true ∧ pos ≤ m.last ∨ 4611686018427387904 < pos) → Ent (refAt p m :: F) (K (.int .i64 0)) := fun hc => by
        have e : refRes m l pos = 0 := by unfold refRes; rw [if_pos hin, if_pos hris, if_neg hc]
        rw [e] at h; exact h
      clear h
      obtain ⟨mb, ml, ms, mla⟩ := m
      refine cs (fun h3 => ?_) (fun h3 => ?_)
      · repeat refine st ?_
        exact ref_shut (m := ⟨mb, ml, ms, mla⟩) (h30 (.inr h3))
      · cases ms with
        | true =>
          repeat refine st ?_
          refine cs (fun h4 => ?_) (fun h4 => ?_)
          · repeat refine st ?_
            exact ref_shut (m := ⟨mb, ml, true, mla⟩) (h30 (.inl ⟨rfl, h4⟩))
          · repeat refine st ?_
            exact ref_shut (m := ⟨mb, ml, true, mla⟩) (h0 fun hc => by rcases hc with hc | hc; exact h4 hc.2; exact h3 hc)
        | false =>
          repeat refine st ?_
          exact ref_shut (m := ⟨mb, ml, false, mla⟩) (h0 fun hc => by rcases hc with hc | hc; exact absurd hc.1 (by simp); exact h3 hc)
end Go.Proofs.YtmnokpffpadgoaaDoor
