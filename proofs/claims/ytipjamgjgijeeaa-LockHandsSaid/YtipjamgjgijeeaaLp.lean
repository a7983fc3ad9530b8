/- The locks' plain model: who stands where. -/
import Derived.Test.YtipjamgjgijeeaaLs
namespace Go.Proofs.Ytipjamgjgijeeaa
set_option linter.unusedSimpArgs false
set_option linter.unusedVariables false
open Go.Dn
set_option linter.unusedSectionVars false
set_option synthInstance.maxSize 10000
set_option synthInstance.maxHeartbeats 400000
set_option maxHeartbeats 2000000
structure LE where
  s : Sl
  set_ : List Int
  held : Nat
  gone : Bool
instance : Inhabited LE := ⟨⟨Sl.nil, [], 0, true⟩⟩
structure LS where
  qs : List (Nat × QM)
  es : List LE
instance : Inhabited QM := ⟨⟨[], 0⟩⟩
/-- Does the ticket of a number stand in a block's queue? -/
def inQ (es : List LE) (b : Int) (k : Nat) : Bool := !(es.getD k default).gone && decide (b ∈ (es.getD k default).set_)
def stand (es : List LE) (b : Int) : List Int := ((List.range es.length).filter (inQ es b)).map fun (k : Nat) => (k : Int) + 1
def ent (es : List LE) (t : Int) : Option LE := if 1 ≤ t ∧ t ≤ es.length ∧ (es.getD (t.toNat - 1) default).gone = false then some (es.getD (t.toNat - 1) default) else none
structure WF (S : LS) : Prop where
  q : ∀ b, b < S.qs.length → (S.qs.getD b default).2.list = stand S.es b ∧ (S.qs.getD b default).2.last ≤ S.es.length ∧ 0 ≤ (S.qs.getD b default).2.last
  set_ : ∀ e ∈ S.es, Rises e.set_ ∧ (∀ x ∈ e.set_, 0 ≤ x ∧ x < S.qs.length) ∧ e.held ≤ e.set_.length
  len : S.es.length ≤ 100
  n1 : 1 ≤ S.qs.length
  n2 : S.qs.length ≤ 64
theorem mem_stand {es : List LE} {b t : Int} : t ∈ stand es b ↔ ∃ k : Nat, k < es.length ∧ t = (k : Int) + 1 ∧ inQ es b k = true := by
  unfold stand
  simp only [List.mem_map, List.mem_filter, List.mem_range]
  constructor
  · rintro ⟨k, ⟨h1, h2⟩, rfl⟩; exact ⟨k, h1, rfl, h2⟩
  · rintro ⟨k, h1, rfl, h2⟩; exact ⟨k, ⟨h1, h2⟩, rfl⟩
theorem inQ_iff {es : List LE} {b : Int} {k : Nat} : inQ es b k = true ↔ (es.getD k default).gone = false ∧ b ∈ (es.getD k default).set_ := by
  unfold inQ
  simp only [Bool.and_eq_true, Bool.not_eq_true', decide_eq_true_eq]
theorem stand_pw {es : List LE} {b : Int} : (stand es b).Pairwise (· < ·) := by
  unfold stand
  rw [List.pairwise_map]
  refine List.Pairwise.imp (R := fun (a b : Nat) => a < b) (fun h => by omega) ?_
  exact List.Pairwise.filter _ List.pairwise_lt_range
theorem stand_len {es : List LE} {b : Int} : (stand es b).length ≤ es.length := by
  unfold stand
  rw [List.length_map]
  exact Nat.le_trans (List.length_filter_le _ _) (by simp)
theorem pw_getD {l : List Int} (h : l.Pairwise (· < ·)) {i j : Nat} (hij : i < j) (hj : j < l.length) : l.getD i default < l.getD j default := by
  have := List.pairwise_iff_getElem.1 h i j (by omega) hj hij
  simpa [List.getD_eq_getElem?_getD, List.getElem?_eq_getElem (show i < l.length by omega), List.getElem?_eq_getElem hj] using this
theorem pw_inj {l : List Int} (h : l.Pairwise (· < ·)) {i j : Nat} (hi : i < l.length) (hj : j < l.length) (he : l.getD i default = l.getD j default) : i = j := by
  rcases Nat.lt_trichotomy i j with h1 | h1 | h1
  · have := pw_getD h h1 hj; omega
  · exact h1
  · have := pw_getD h h1 hi; omega
theorem pw_nodup {l : List Int} (h : l.Pairwise (· < ·)) : l.Nodup := h.imp fun h => by omega
theorem rises_pw {l : List Int} (h : Rises l) : l.Pairwise (· < ·) := by
  rw [List.pairwise_iff_getElem]
  have key : ∀ d i, i + d + 1 < l.length → l.getD i default < l.getD (i + d + 1) default := by
    intro d
    induction d with
    | zero => intro i hi; exact h.2 i hi
    | succ d ih =>
      intro i hi
      have h1 := ih i (by omega)
      have h2 := h.2 (i + d + 1) (by omega)
      have : i + (d + 1) + 1 = i + d + 1 + 1 := by omega
      rw [this]; omega
  intro i j hi hj hij
  have := key (j - i - 1) i (by omega)
  rw [show i + (j - i - 1) + 1 = j from by omega] at this
  simpa [List.getD_eq_getElem?_getD, List.getElem?_eq_getElem hi, List.getElem?_eq_getElem hj] using this
/-- Taken out where it stands. -/
theorem filter_none {l : List Int} {t : Int} (h : t ∉ l) : l.filter (fun x => decide (x ≠ t)) = l := by
  rw [List.filter_eq_self]
  intro x hx
  rw [decide_eq_true_eq]
  exact fun hc => h (hc ▸ hx)
theorem out_at : ∀ {l : List Int} (_ : l.Nodup) {i : Nat} (_ : i < l.length), l.take i ++ l.drop (i + 1) = l.filter (fun x => decide (x ≠ l.getD i default))
  | x :: l, h, 0, _ => by
    have h1 := (List.nodup_cons.1 h).1
    show l = (x :: l).filter (fun y => decide (y ≠ x))
    rw [List.filter_cons, if_neg (by simp), filter_none h1]
  | x :: l, h, i + 1, hi => by
    have h1 := List.nodup_cons.1 h
    have hi' : i < l.length := by simpa using hi
    have hx : x ≠ l.getD i default := fun hc => h1.1 (hc ▸ getD_mem hi')
    show x :: (l.take i ++ l.drop (i + 1)) = (x :: l).filter (fun y => decide (y ≠ l.getD i default))
    rw [List.filter_cons, if_pos (by rw [decide_eq_true_eq]; exact hx), out_at h1.2 hi']
theorem stand_nil {b : Int} : stand [] b = [] := rfl
theorem stand_snoc {es : List LE} {e : LE} {b : Int} (he : e.gone = false) : stand (es ++ [e]) b = stand es b ++ (if b ∈ e.set_ then [(es.length : Int) + 1] else []) := by
  unfold stand
  rw [List.length_append, List.length_singleton, List.range_succ, List.filter_append, List.map_append]
  congr 1
  · congr 1
    apply List.filter_congr
    intro k hk
    rw [List.mem_range] at hk
    unfold inQ
    rw [getD_app_l hk]
  · have h1 : inQ (es ++ [e]) b es.length = decide (b ∈ e.set_) := by
      unfold inQ
      rw [getD_app_r (Nat.le_refl _), Nat.sub_self]
      simp [he]
    rw [List.filter_cons, h1]
    split <;> rename_i h2
    · rw [if_pos (by simpa using h2)]; rfl
    · rw [if_neg (by simpa using h2)]; rfl
theorem inQ_set {es : List LE} {b : Int} {k j : Nat} {e : LE} (hk : k < es.length) : inQ (es.set k e) b j = if j = k then (!e.gone && decide (b ∈ e.set_)) else inQ es b j := by
  unfold inQ
  by_cases hj : j = k
  · subst hj
    rw [if_pos rfl, Go.Dn.getD_set_eq hk]
  · rw [if_neg hj, Go.Dn.getD_set_ne (fun h => hj h.symm)]
theorem stand_held {es : List LE} {b : Int} {k : Nat} {e : LE} (hk : k < es.length) (h1 : e.set_ = (es.getD k default).set_) (h2 : e.gone = (es.getD k default).gone) : stand (es.set k e) b = stand es b := by
  unfold stand
  rw [List.length_set]
  congr 1
  apply List.filter_congr
  intro j _
  rw [inQ_set hk]
  split
  · rename_i hj; subst hj; unfold inQ; rw [h1, h2]
  · rfl
theorem stand_gone {es : List LE} {b : Int} {k : Nat} {e : LE} (hk : k < es.length) (h2 : e.gone = true) : stand (es.set k e) b = (stand es b).filter (fun x => decide (x ≠ (k : Int) + 1)) := by
  unfold stand
  rw [List.length_set, List.filter_map, List.filter_filter]
  congr 1
  apply List.filter_congr
  intro j _
  rw [inQ_set hk]
  simp only [Function.comp]
  split
  · rename_i hj; subst hj; simp [h2]
  · rename_i hj
    have : decide ((j : Int) + 1 ≠ (k : Int) + 1) = true := by rw [decide_eq_true_eq]; omega
    rw [this, Bool.true_and]
theorem ent_some {es : List LE} {t : Int} {e : LE} (h : ent es t = some e) : 1 ≤ t ∧ t ≤ es.length ∧ e = es.getD (t.toNat - 1) default ∧ e.gone = false := by
  unfold ent at h
  split at h
  · rename_i hc
    cases h
    exact ⟨hc.1, hc.2.1, rfl, hc.2.2⟩
  · cases h
theorem ent_at {es : List LE} {k : Nat} (hk : k < es.length) : ent es ((k : Int) + 1) = if (es.getD k default).gone = false then some (es.getD k default) else none := by
  unfold ent
  rw [show ((k : Int) + 1).toNat - 1 = k from by omega]
  by_cases h : (es.getD k default).gone = false
  · rw [if_pos ⟨by omega, by omega, h⟩, if_pos h]
  · rw [if_neg (fun hc => h hc.2.2), if_neg h]
theorem ent_out {es : List LE} {t : Int} (h : t < 1 ∨ (es.length : Int) < t) : ent es t = none := by
  unfold ent
  rw [if_neg (by omega)]
theorem ent_set {es : List LE} {k : Nat} {e : LE} {t : Int} (hk : k < es.length) : ent (es.set k e) t = if t = (k : Int) + 1 then (if e.gone = false then some e else none) else ent es t := by
  unfold ent
  rw [List.length_set]
  by_cases ht : t = (k : Int) + 1
  · subst ht
    rw [if_pos rfl, show ((k : Int) + 1).toNat - 1 = k from by omega, Go.Dn.getD_set_eq hk]
    by_cases h : e.gone = false
    · rw [if_pos ⟨by omega, by omega, h⟩, if_pos h]
    · rw [if_neg (fun hc => h hc.2.2), if_neg h]
  · rw [if_neg ht]
    by_cases h1 : 1 ≤ t ∧ t ≤ es.length
    · rw [Go.Dn.getD_set_ne (by omega)]
    · rw [if_neg (fun hc => h1 ⟨hc.1, hc.2.1⟩), if_neg (fun hc => h1 ⟨hc.1, hc.2.1⟩)]
theorem ent_snoc {es : List LE} {e : LE} {t : Int} (he : e.gone = false) : ent (es ++ [e]) t = if t = (es.length : Int) + 1 then some e else ent es t := by
  unfold ent
  rw [List.length_append, List.length_singleton]
  by_cases ht : t = (es.length : Int) + 1
  · subst ht
    rw [if_pos rfl, show ((es.length : Int) + 1).toNat - 1 = es.length from by omega, getD_app_r (Nat.le_refl _), Nat.sub_self]
    exact if_pos ⟨by omega, by omega, he⟩
  · rw [if_neg ht]
    by_cases h1 : 1 ≤ t ∧ t ≤ es.length
    · rw [getD_app_l (by omega)]
      by_cases h2 : (es.getD (t.toNat - 1) default).gone = false
      · rw [if_pos ⟨h1.1, by omega, h2⟩, if_pos ⟨h1.1, h1.2, h2⟩]
      · rw [if_neg (fun hc => h2 hc.2.2), if_neg (fun hc => h2 hc.2.2)]
    · rw [if_neg (fun hc => h1 ⟨hc.1, by omega⟩), if_neg (fun hc => h1 ⟨hc.1, hc.2.1⟩)]
/-- The next block of an entry; whether it may be taken. -/
def nextOf (e : LE) : Option Int := if e.held < e.set_.length then some (e.set_.getD e.held default) else none
def readyS (es : List LE) (t : Int) : Bool := match (ent es t).bind nextOf with
  | some b => decide ((stand es b).head? = some t)
  | none => false
end Go.Proofs.Ytipjamgjgijeeaa
