/- Locks: laying; a crowd; awake. -/
import Derived.Test.YtipjamgjgijeeaaLn
namespace Go.Proofs.Ytipjamgjgijeeaa
set_option linter.unusedSimpArgs false
set_option linter.unusedVariables false
open Go.Dn
set_option linter.unusedSectionVars false
set_option synthInstance.maxSize 10000
set_option synthInstance.maxHeartbeats 400000
set_option maxHeartbeats 2000000
variable [sd : Side]
section
variable {p : Nat} {S : LS} {K : Value → W} {F : List HProp} {φ : W}
theorem rises_in {l : List Int} {n : Nat} (h : Rises l) (h0 : ¬ (l.getD 0 default < 0)) (h1 : ¬ ((n : Int) ≤ l.getD (l.length - 1) default)) : ∀ x ∈ l, 0 ≤ x ∧ x < n := by
  intro x hx
  obtain ⟨i, hi, rfl⟩ := mem_getD hx
  have hp := rises_pw h
  constructor
  · by_cases hz : i = 0
    · subst hz; omega
    · have := pw_getD hp (show 0 < i by omega) hi; omega
  · by_cases hz : i = l.length - 1
    · subst hz; omega
    · have := pw_getD hp (show i < l.length - 1 by omega) (by omega); omega
theorem lay_ok (hw : WF S) {t : Int} {s : Sl} {l : List Int} [rs : Rs F s (cInt .i64) l] (hl : l.length ≤ 4611686018427387904) (hmax : S.es.length ≤ 99) (ht : t ≤ S.es.length + 1) (ht0 : 0 ≤ t)
    (h53 : ¬ Rises l → Ent (lockAt p S :: F) (K (.int .i64 53)))
    (h51 : Rises l → (l.getD 0 default < 0 ∨ (S.qs.length : Int) ≤ l.getD (l.length - 1) default) → Ent (lockAt p S :: F) (K (.int .i64 51)))
    (h110 : t ≤ S.es.length → Rises l → (∀ x ∈ l, 0 ≤ x ∧ x < S.qs.length) → Ent (lockAt p S :: F) (K (.int .i64 110)))
    (h0 : (S.es.length : Int) < t → Rises l → (∀ x ∈ l, 0 ≤ x ∧ x < S.qs.length) → ∀ S' s', S'.es = S.es ++ [⟨s', l, 0, false⟩] → S'.qs.length = S.qs.length → WF S' → Ent (lockAt p S' :: F) (K (.int .i64 0))) :
    Ent (lockAt p S :: F) (callC Try.prog 20 [.pointer (pt p), .int .u64 t, sv s] K) := by
  refine ent_mono ?_ fun w => nf20_ok
  unfold nf20
  (repeat (first | refine st ?_ | refine And.intro rfl ?_ | refine sc (by omega) ?_ | refine sc (by simp only [List.length_map, List.length_append, List.length_cons, List.length_nil, List.length_set, List.length_replicate, List.length_singleton] at *; omega) ?_ | refine sc (And.intro (by omega) trivial) ?_ | refine sc (And.intro rfl (Nat.le_of_ble_eq_true rfl)) ?_ | refine sc (And.intro (by simp only [List.length_map, List.length_append, List.length_cons, List.length_nil, List.length_set, List.length_replicate, List.length_singleton] at *; omega) trivial) ?_ | refine sc (by decide) ?_ | refine sc (fun _ => trivial) ?_ | refine And.intro (fun _ => rfl) ?_ | refine sc (fun _ => And.intro (by omega) trivial) ?_))
  refine rises_ok (l := l) (by omega) (fun hri => ?_) (fun hri => ?_)
  · have hne : 0 < l.length := List.length_pos_iff.2 hri.1
    refine lock_open fun sq r vals hr => ?_
    have back : ∀ {φ : W}, Ent (lockAt p S :: F) φ → Ent (vr p 60 S_lock_Locks.c ⟨sq, S.es.length, some r⟩ :: sl cPtr 56 sq (S.qs.map fun x => pt x.1) :: bg qp S.qs :: mp r .u64 cH vals :: bg ep S.es :: F) φ := fun h => lock_shut hr h
    have e1 : ((l.length : Int) - 1).toNat = l.length - 1 := by omega
    (repeat (first | refine st ?_ | refine And.intro rfl ?_ | refine sc (by omega) ?_ | refine sc (by simp only [List.length_map, List.length_append, List.length_cons, List.length_nil, List.length_set, List.length_replicate, List.length_singleton] at *; omega) ?_ | refine sc (And.intro (by omega) trivial) ?_ | refine sc (And.intro rfl (Nat.le_of_ble_eq_true rfl)) ?_ | refine sc (And.intro (by simp only [List.length_map, List.length_append, List.length_cons, List.length_nil, List.length_set, List.length_replicate, List.length_singleton] at *; omega) trivial) ?_ | refine sc (by decide) ?_ | refine sc (fun _ => trivial) ?_ | refine And.intro (fun _ => rfl) ?_ | refine sc (fun _ => And.intro (by omega) trivial) ?_))
    refine cs (fun g1 => ?_) (fun g1 => ?_)
    · (repeat (first | refine st ?_ | refine And.intro rfl ?_ | refine sc (by omega) ?_ | refine sc (by simp only [List.length_map, List.length_append, List.length_cons, List.length_nil, List.length_set, List.length_replicate, List.length_singleton] at *; omega) ?_ | refine sc (And.intro (by omega) trivial) ?_ | refine sc (And.intro rfl (Nat.le_of_ble_eq_true rfl)) ?_ | refine sc (And.intro (by simp only [List.length_map, List.length_append, List.length_cons, List.length_nil, List.length_set, List.length_replicate, List.length_singleton] at *; omega) trivial) ?_ | refine sc (by decide) ?_ | refine sc (fun _ => trivial) ?_ | refine And.intro (fun _ => rfl) ?_ | refine sc (fun _ => And.intro (by omega) trivial) ?_))
      exact back (h51 hri (.inl g1))
    · (repeat (first | refine st ?_ | refine And.intro rfl ?_ | refine sc (by omega) ?_ | refine sc (by simp only [List.length_map, List.length_append, List.length_cons, List.length_nil, List.length_set, List.length_replicate, List.length_singleton] at *; omega) ?_ | refine sc (And.intro (by omega) trivial) ?_ | refine sc (And.intro rfl (Nat.le_of_ble_eq_true rfl)) ?_ | refine sc (And.intro (by simp only [List.length_map, List.length_append, List.length_cons, List.length_nil, List.length_set, List.length_replicate, List.length_singleton] at *; omega) trivial) ?_ | refine sc (by decide) ?_ | refine sc (fun _ => trivial) ?_ | refine And.intro (fun _ => rfl) ?_ | refine sc (fun _ => And.intro (by omega) trivial) ?_))
      rw [e1]
      refine cs (fun g2 => ?_) (fun g2 => ?_)
      · (repeat (first | refine st ?_ | refine And.intro rfl ?_ | refine sc (by omega) ?_ | refine sc (by simp only [List.length_map, List.length_append, List.length_cons, List.length_nil, List.length_set, List.length_replicate, List.length_singleton] at *; omega) ?_ | refine sc (And.intro (by omega) trivial) ?_ | refine sc (And.intro rfl (Nat.le_of_ble_eq_true rfl)) ?_ | refine sc (And.intro (by simp only [List.length_map, List.length_append, List.length_cons, List.length_nil, List.length_set, List.length_replicate, List.length_singleton] at *; omega) trivial) ?_ | refine sc (by decide) ?_ | refine sc (fun _ => trivial) ?_ | refine And.intro (fun _ => rfl) ?_ | refine sc (fun _ => And.intro (by omega) trivial) ?_))
        rw [List.length_map] at g2
        exact back (h51 hri (.inr g2))
      · rw [List.length_map] at g2
        have hin := rises_in hri g1 g2
        have hle := rises_len hri hin
        have hn2 := hw.n2
        have hpw := rises_pw hri
        (repeat (first | refine st ?_ | refine And.intro rfl ?_ | refine sc (by omega) ?_ | refine sc (by simp only [List.length_map, List.length_append, List.length_cons, List.length_nil, List.length_set, List.length_replicate, List.length_singleton] at *; omega) ?_ | refine sc (And.intro (by omega) trivial) ?_ | refine sc (And.intro rfl (Nat.le_of_ble_eq_true rfl)) ?_ | refine sc (And.intro (by simp only [List.length_map, List.length_append, List.length_cons, List.length_nil, List.length_set, List.length_replicate, List.length_singleton] at *; omega) trivial) ?_ | refine sc (by decide) ?_ | refine sc (fun _ => trivial) ?_ | refine And.intro (fun _ => rfl) ?_ | refine sc (fun _ => And.intro (by omega) trivial) ?_))
        refine cs (fun g3 => ?_) (fun g3 => ?_)
        · (repeat (first | refine st ?_ | refine And.intro rfl ?_ | refine sc (by omega) ?_ | refine sc (by simp only [List.length_map, List.length_append, List.length_cons, List.length_nil, List.length_set, List.length_replicate, List.length_singleton] at *; omega) ?_ | refine sc (And.intro (by omega) trivial) ?_ | refine sc (And.intro rfl (Nat.le_of_ble_eq_true rfl)) ?_ | refine sc (And.intro (by simp only [List.length_map, List.length_append, List.length_cons, List.length_nil, List.length_set, List.length_replicate, List.length_singleton] at *; omega) trivial) ?_ | refine sc (by decide) ?_ | refine sc (fun _ => trivial) ?_ | refine And.intro (fun _ => rfl) ?_ | refine sc (fun _ => And.intro (by omega) trivial) ?_))
          exact back (h110 g3 hri hin)
        · have g4 : (S.es.length : Int) < t := by
            have : ¬ (t ≤ (S.es.length : Int)) := g3
            omega
          have htt : t = (S.es.length : Int) + 1 := by omega
          (repeat (first | refine st ?_ | refine And.intro rfl ?_ | refine sc (by omega) ?_ | refine sc (by simp only [List.length_map, List.length_append, List.length_cons, List.length_nil, List.length_set, List.length_replicate, List.length_singleton] at *; omega) ?_ | refine sc (And.intro (by omega) trivial) ?_ | refine sc (And.intro rfl (Nat.le_of_ble_eq_true rfl)) ?_ | refine sc (And.intro (by simp only [List.length_map, List.length_append, List.length_cons, List.length_nil, List.length_set, List.length_replicate, List.length_singleton] at *; omega) trivial) ?_ | refine sc (by decide) ?_ | refine sc (fun _ => trivial) ?_ | refine And.intro (fun _ => rfl) ?_ | refine sc (fun _ => And.intro (by omega) trivial) ?_))
          refine ent_loop (γ := Nat × List (Nat × QM)) (fun x => [.int .i64 x.1]) (fun x => bg qp x.2 :: vr p 60 S_lock_Locks.c ⟨sq, S.es.length, some r⟩ :: sl cPtr 56 sq (S.qs.map fun x => pt x.1) :: mp r .u64 cH vals :: bg ep S.es :: F)
            (fun x => x.1 ≤ l.length ∧ x.2.map (·.1) = S.qs.map (·.1) ∧ ∀ c, c < S.qs.length → (x.2.getD c default).2 = if (c : Int) ∈ l.take x.1 then ⟨(S.qs.getD c default).2.list ++ [t], t⟩ else (S.qs.getD c default).2)
            (fun x => l.length - x.1) (0, S.qs) rfl ⟨by simp, rfl, fun c hc => by rw [List.take_zero, if_neg (by simp)]⟩ inferInstance ?_
          intro ⟨i, qs⟩ ⟨hi, hm, hq⟩ K1 j hK
          simp only [List.headD_cons] at *
          have hql : qs.length = S.qs.length := by have := congrArg List.length hm; simpa using this
          refine cs (fun h3 => ?_) (fun h3 => ?_)
          · have hil : i < l.length := by omega
            obtain ⟨k, hkk⟩ : ∃ k : Nat, l.getD i default = k := ⟨(l.getD i default).toNat, by have := hin _ (getD_mem hil); omega⟩
            have hkin := hin _ (getD_mem hil)
            have hkl : k < S.qs.length := by omega
            (repeat (first | refine st ?_ | refine And.intro rfl ?_ | refine sc (by omega) ?_ | refine sc (by simp only [List.length_map, List.length_append, List.length_cons, List.length_nil, List.length_set, List.length_replicate, List.length_singleton] at *; omega) ?_ | refine sc (And.intro (by omega) trivial) ?_ | refine sc (And.intro rfl (Nat.le_of_ble_eq_true rfl)) ?_ | refine sc (And.intro (by simp only [List.length_map, List.length_append, List.length_cons, List.length_nil, List.length_set, List.length_replicate, List.length_singleton] at *; omega) trivial) ?_ | refine sc (by decide) ?_ | refine sc (fun _ => trivial) ?_ | refine And.intro (fun _ => rfl) ?_ | refine sc (fun _ => And.intro (by omega) trivial) ?_))
            rw [hkk]
            (repeat (first | refine st ?_ | refine And.intro rfl ?_ | refine sc (by omega) ?_ | refine sc (by simp only [List.length_map, List.length_append, List.length_cons, List.length_nil, List.length_set, List.length_replicate, List.length_singleton] at *; omega) ?_ | refine sc (And.intro (by omega) trivial) ?_ | refine sc (And.intro rfl (Nat.le_of_ble_eq_true rfl)) ?_ | refine sc (And.intro (by simp only [List.length_map, List.length_append, List.length_cons, List.length_nil, List.length_set, List.length_replicate, List.length_singleton] at *; omega) trivial) ?_ | refine sc (by decide) ?_ | refine sc (fun _ => trivial) ?_ | refine And.intro (fun _ => rfl) ?_ | refine sc (fun _ => And.intro (by omega) trivial) ?_))
            rw [Int.toNat_natCast, ptrs_get hm hkl]
            have hnot : (k : Int) ∉ l.take i := fun hc => by
              obtain ⟨q, hq1, hq2⟩ := mem_getD hc
              rw [List.length_take] at hq1
              rw [getD_take (by omega)] at hq2
              have := pw_inj hpw (by omega) hil (hq2.trans hkk.symm)
              omega
            have hqk := hq k hkl
            rw [if_neg hnot] at hqk
            obtain ⟨s1, s2, s3⟩ := hw.q k hkl
            have hsl := stand_len (es := S.es) (b := k)
            refine ent_take (A := bg qp qs) (bg_at (i := k) (by omega) ?_)
            show Ent (qAt (qs.getD k default).1 (qs.getD k default).2 :: _) _
            rw [hqk]
            refine put_ok (by rw [s1]; omega) (by omega) ?_
            (repeat (first | refine st ?_ | refine And.intro rfl ?_ | refine sc (by omega) ?_ | refine sc (by simp only [List.length_map, List.length_append, List.length_cons, List.length_nil, List.length_set, List.length_replicate, List.length_singleton] at *; omega) ?_ | refine sc (And.intro (by omega) trivial) ?_ | refine sc (And.intro rfl (Nat.le_of_ble_eq_true rfl)) ?_ | refine sc (And.intro (by simp only [List.length_map, List.length_append, List.length_cons, List.length_nil, List.length_set, List.length_replicate, List.length_singleton] at *; omega) trivial) ?_ | refine sc (by decide) ?_ | refine sc (fun _ => trivial) ?_ | refine And.intro (fun _ => rfl) ?_ | refine sc (fun _ => And.intro (by omega) trivial) ?_))
            refine bg_put (f := qp) (i := k) (x := ((qs.getD k default).1, ⟨(S.qs.getD k default).2.list ++ [t], t⟩)) (by omega) ?_
            have h9 := hK (i + 1, qs.set k ((qs.getD k default).1, ⟨(S.qs.getD k default).2.list ++ [t], t⟩)) ⟨by show i + 1 ≤ _; omega, ?_, fun c hc => ?_⟩ (by show _ - (i + 1) < _; omega)
            · exact inc h9
            · show (qs.set k _).map (·.1) = _
              rw [List.map_set, ← hm]
              have : (qs.map (·.1)).getD k default = (qs.getD k default).1 := getD_map' (by omega)
              rw [← this]
              exact set_self
            · simp only
              have hmm : (c : Int) ∈ l.take (i + 1) ↔ ((c : Int) ∈ l.take i ∨ (c : Int) = (k : Int)) := by rw [take_one hil, List.mem_append, List.mem_singleton, hkk]
              by_cases hck : k = c
              · subst hck
                rw [Go.Dn.getD_set_eq (by omega), if_pos (hmm.2 (.inr rfl))]
              · rw [Go.Dn.getD_set_ne hck, hq c hc]
                by_cases hin : (c : Int) ∈ l.take i
                · rw [if_pos hin, if_pos (hmm.2 (.inl hin))]
                · rw [if_neg hin, if_neg (fun h => (hmm.1 h).elim hin (fun h => hck (by omega)))]
          · have : i = l.length := by omega
            subst this
            rw [List.take_length] at hq
            (repeat (first | refine st ?_ | refine And.intro rfl ?_ | refine sc (by omega) ?_ | refine sc (by simp only [List.length_map, List.length_append, List.length_cons, List.length_nil, List.length_set, List.length_replicate, List.length_singleton] at *; omega) ?_ | refine sc (And.intro (by omega) trivial) ?_ | refine sc (And.intro rfl (Nat.le_of_ble_eq_true rfl)) ?_ | refine sc (And.intro (by simp only [List.length_map, List.length_append, List.length_cons, List.length_nil, List.length_set, List.length_replicate, List.length_singleton] at *; omega) trivial) ?_ | refine sc (by decide) ?_ | refine sc (fun _ => trivial) ?_ | refine And.intro (fun _ => rfl) ?_ | refine sc (fun _ => And.intro (by omega) trivial) ?_))
            refine clone_ok (l := l) (by omega) fun s' => ?_
            (repeat (first | refine st ?_ | refine And.intro rfl ?_ | refine sc (by omega) ?_ | refine sc (by simp only [List.length_map, List.length_append, List.length_cons, List.length_nil, List.length_set, List.length_replicate, List.length_singleton] at *; omega) ?_ | refine sc (And.intro (by omega) trivial) ?_ | refine sc (And.intro rfl (Nat.le_of_ble_eq_true rfl)) ?_ | refine sc (And.intro (by simp only [List.length_map, List.length_append, List.length_cons, List.length_nil, List.length_set, List.length_replicate, List.length_singleton] at *; omega) trivial) ?_ | refine sc (by decide) ?_ | refine sc (fun _ => trivial) ?_ | refine And.intro (fun _ => rfl) ?_ | refine sc (fun _ => And.intro (by omega) trivial) ?_))
            have hrel : Rel (upd vals t ⟨s', 0⟩) (S.es ++ [⟨s', l, 0, false⟩]) := by
              refine ⟨upd_uniq hr.1 _ _, fun y => ?_⟩
              rw [lkp_upd, ent_snoc rfl, hr.2 y]
              by_cases hy : y = t
              · rw [if_pos hy, if_pos (by omega)]; rfl
              · rw [if_neg hy, if_neg (by omega)]
            have hwf : WF ⟨qs, S.es ++ [⟨s', l, 0, false⟩]⟩ := by
              refine ⟨fun c hc => ?_, fun x hx => ?_, by simp only [List.length_append, List.length_singleton]; omega, by show 1 ≤ qs.length; rw [hql]; exact hw.n1, by show qs.length ≤ 64; rw [hql]; exact hw.n2⟩
              · have hc' : c < S.qs.length := by rw [← hql]; exact hc
                obtain ⟨s1, s2, s3⟩ := hw.q c hc'
                show (qs.getD c default).2.list = stand (S.es ++ _) _ ∧ (qs.getD c default).2.last ≤ ((S.es ++ _).length : Int) ∧ _
                rw [hq c hc', stand_snoc rfl, List.length_append, List.length_singleton]
                by_cases hce : (c : Int) ∈ l
                · rw [if_pos hce, if_pos hce]
                  exact ⟨by rw [s1, htt], by show t ≤ _; omega, by show 0 ≤ t; omega⟩
                · rw [if_neg hce, if_neg hce, List.append_nil]
                  exact ⟨s1, by omega, s3⟩
              · show _ ∧ (∀ y ∈ x.set_, 0 ≤ y ∧ y < (qs.length : Int)) ∧ _
                rw [hql]
                rcases List.mem_append.1 hx with hx | hx
                · exact hw.set_ x hx
                · rw [List.mem_singleton.1 hx]; exact ⟨hri, hin, Nat.zero_le _⟩
            have h9 := h0 g4 hri hin ⟨qs, S.es ++ [⟨s', l, 0, false⟩]⟩ s' rfl hql hwf
            refine ent_take (A := bg ep S.es) (ent_take (A := sl (cInt .i64) 3 s' l) (ent_take (A := bg ep S.es) (bg_snoc (f := ep) (x := ⟨s', l, 0, false⟩) ?_)))
            have htl : t = ((S.es ++ [(⟨s', l, 0, false⟩ : LE)]).length : Int) := by simp only [List.length_append, List.length_singleton]; omega
            have e2 : vr p 60 S_lock_Locks.c ⟨sq, t, some r⟩ = vr p 60 S_lock_Locks.c ⟨sq, ((S.es ++ [(⟨s', l, 0, false⟩ : LE)]).length : Int), some r⟩ := by rw [← htl]
            rw [ptrs_eq hm]
            refine inc (M := vr p 60 S_lock_Locks.c ⟨sq, t, some r⟩ :: sl cPtr 56 sq (qs.map fun x => pt x.1) :: bg qp qs :: mp r .u64 cH (upd vals t ⟨s', 0⟩) :: bg ep (S.es ++ [⟨s', l, 0, false⟩]) :: F) ?_
            rw [e2]
            exact lock_shut (S := ⟨qs, S.es ++ [⟨s', l, 0, false⟩]⟩) hrel h9
  · (repeat (first | refine st ?_ | refine And.intro rfl ?_ | refine sc (by omega) ?_ | refine sc (by simp only [List.length_map, List.length_append, List.length_cons, List.length_nil, List.length_set, List.length_replicate, List.length_singleton] at *; omega) ?_ | refine sc (And.intro (by omega) trivial) ?_ | refine sc (And.intro rfl (Nat.le_of_ble_eq_true rfl)) ?_ | refine sc (And.intro (by simp only [List.length_map, List.length_append, List.length_cons, List.length_nil, List.length_set, List.length_replicate, List.length_singleton] at *; omega) trivial) ?_ | refine sc (by decide) ?_ | refine sc (fun _ => trivial) ?_ | refine And.intro (fun _ => rfl) ?_ | refine sc (fun _ => And.intro (by omega) trivial) ?_))
    exact h53 hri
/-! ## A set -/
theorem set_ok {bits : Int} {n : Nat} (hb : 0 ≤ bits ∧ bits ≤ 18446744073709551615) (hn : 1 ≤ n) (hn2 : n ≤ 64) (h : ∀ s l, Rises l → (∀ x ∈ l, 0 ≤ x ∧ x < n) → Ent (sl (cInt .i64) 3 s l :: F) (K (sv s))) : Ent F (callC Try.prog 22 [.int .u64 bits, .int .i64 n] K) := by
  refine ent_mono ?_ fun w => nf22_ok
  unfold nf22
  refine ent_nil (cInt .i64) 3 ?_
  refine ent_loop (γ := Sl × List Int × Nat) (fun t => [sv t.1, .int .i64 t.2.2]) (fun t => sl (cInt .i64) 3 t.1 t.2.1 :: F) (fun t => t.2.2 ≤ n ∧ t.2.1.length ≤ t.2.2 ∧ t.2.1.Pairwise (· < ·) ∧ ∀ x ∈ t.2.1, 0 ≤ x ∧ x < t.2.2) (fun t => n - t.2.2) (Sl.nil, [], 0) rfl
    ⟨by simp, by simp, List.Pairwise.nil, fun x hx => absurd hx List.not_mem_nil⟩ ⟨fun _ hs => hs⟩ ?_
  intro ⟨s, l, i⟩ ⟨hi, hl, hp, hx⟩ K1 j hK
  simp only [List.headD_cons, List.tail_cons] at *
  refine cs (fun h3 => ?_) (fun h3 => ?_)
  · (repeat (first | refine st ?_ | refine And.intro rfl ?_ | refine sc (by omega) ?_ | refine sc (by simp only [List.length_map, List.length_append, List.length_cons, List.length_nil, List.length_set, List.length_replicate, List.length_singleton] at *; omega) ?_ | refine sc (And.intro (by omega) trivial) ?_ | refine sc (And.intro rfl (Nat.le_of_ble_eq_true rfl)) ?_ | refine sc (And.intro (by simp only [List.length_map, List.length_append, List.length_cons, List.length_nil, List.length_set, List.length_replicate, List.length_singleton] at *; omega) trivial) ?_ | refine sc (by decide) ?_ | refine sc (fun _ => trivial) ?_ | refine And.intro (fun _ => rfl) ?_ | refine sc (fun _ => And.intro (by omega) trivial) ?_))
    unfold nf22_1
    refine cs (fun h4 => ?_) (fun h4 => ?_)
    · (repeat (first | refine st ?_ | refine And.intro rfl ?_ | refine sc (by omega) ?_ | refine sc (by simp only [List.length_map, List.length_append, List.length_cons, List.length_nil, List.length_set, List.length_replicate, List.length_singleton] at *; omega) ?_ | refine sc (And.intro (by omega) trivial) ?_ | refine sc (And.intro rfl (Nat.le_of_ble_eq_true rfl)) ?_ | refine sc (And.intro (by simp only [List.length_map, List.length_append, List.length_cons, List.length_nil, List.length_set, List.length_replicate, List.length_singleton] at *; omega) trivial) ?_ | refine sc (by decide) ?_ | refine sc (fun _ => trivial) ?_ | refine And.intro (fun _ => rfl) ?_ | refine sc (fun _ => And.intro (by omega) trivial) ?_))
      intro s2
      (repeat (first | refine st ?_ | refine And.intro rfl ?_ | refine sc (by omega) ?_ | refine sc (by simp only [List.length_map, List.length_append, List.length_cons, List.length_nil, List.length_set, List.length_replicate, List.length_singleton] at *; omega) ?_ | refine sc (And.intro (by omega) trivial) ?_ | refine sc (And.intro rfl (Nat.le_of_ble_eq_true rfl)) ?_ | refine sc (And.intro (by simp only [List.length_map, List.length_append, List.length_cons, List.length_nil, List.length_set, List.length_replicate, List.length_singleton] at *; omega) trivial) ?_ | refine sc (by decide) ?_ | refine sc (fun _ => trivial) ?_ | refine And.intro (fun _ => rfl) ?_ | refine sc (fun _ => And.intro (by omega) trivial) ?_))
      intro s3
      (repeat (first | refine st ?_ | refine And.intro rfl ?_ | refine sc (by omega) ?_ | refine sc (by simp only [List.length_map, List.length_append, List.length_cons, List.length_nil, List.length_set, List.length_replicate, List.length_singleton] at *; omega) ?_ | refine sc (And.intro (by omega) trivial) ?_ | refine sc (And.intro rfl (Nat.le_of_ble_eq_true rfl)) ?_ | refine sc (And.intro (by simp only [List.length_map, List.length_append, List.length_cons, List.length_nil, List.length_set, List.length_replicate, List.length_singleton] at *; omega) trivial) ?_ | refine sc (by decide) ?_ | refine sc (fun _ => trivial) ?_ | refine And.intro (fun _ => rfl) ?_ | refine sc (fun _ => And.intro (by omega) trivial) ?_))
      refine inc (hK (s3, l ++ [(i : Int)], i + 1) ⟨by show i + 1 ≤ n; omega, by simp only [List.length_append, List.length_singleton]; omega, ?_, fun x hx' => ?_⟩ (by show n - (i + 1) < n - i; omega))
      · rw [List.pairwise_append]
        exact ⟨hp, List.pairwise_singleton _ _, fun a ha b hb => by rw [List.mem_singleton.1 hb]; exact (hx a ha).2⟩
      · rcases List.mem_append.1 hx' with hx' | hx'
        · have := hx x hx'
          show 0 ≤ x ∧ x < ((i + 1 : Nat) : Int)
          omega
        · rw [List.mem_singleton.1 hx']
          show (0 : Int) ≤ i ∧ (i : Int) < ((i + 1 : Nat) : Int)
          omega
    · (repeat (first | refine st ?_ | refine And.intro rfl ?_ | refine sc (by omega) ?_ | refine sc (by simp only [List.length_map, List.length_append, List.length_cons, List.length_nil, List.length_set, List.length_replicate, List.length_singleton] at *; omega) ?_ | refine sc (And.intro (by omega) trivial) ?_ | refine sc (And.intro rfl (Nat.le_of_ble_eq_true rfl)) ?_ | refine sc (And.intro (by simp only [List.length_map, List.length_append, List.length_cons, List.length_nil, List.length_set, List.length_replicate, List.length_singleton] at *; omega) trivial) ?_ | refine sc (by decide) ?_ | refine sc (fun _ => trivial) ?_ | refine And.intro (fun _ => rfl) ?_ | refine sc (fun _ => And.intro (by omega) trivial) ?_))
      refine inc (hK (s, l, i + 1) ⟨by show i + 1 ≤ n; omega, by show l.length ≤ i + 1; omega, hp, fun x hx' => by have := hx x hx'; show 0 ≤ x ∧ x < ((i + 1 : Nat) : Int); omega⟩ (by show n - (i + 1) < n - i; omega))
  · have : i = n := by omega
    subst this
    (repeat (first | refine st ?_ | refine And.intro rfl ?_ | refine sc (by omega) ?_ | refine sc (by simp only [List.length_map, List.length_append, List.length_cons, List.length_nil, List.length_set, List.length_replicate, List.length_singleton] at *; omega) ?_ | refine sc (And.intro (by omega) trivial) ?_ | refine sc (And.intro rfl (Nat.le_of_ble_eq_true rfl)) ?_ | refine sc (And.intro (by simp only [List.length_map, List.length_append, List.length_cons, List.length_nil, List.length_set, List.length_replicate, List.length_singleton] at *; omega) trivial) ?_ | refine sc (by decide) ?_ | refine sc (fun _ => trivial) ?_ | refine And.intro (fun _ => rfl) ?_ | refine sc (fun _ => And.intro (by omega) trivial) ?_))
    unfold nf22_2
    refine cs (fun h4 => ?_) (fun h4 => ?_)
    · (repeat (first | refine st ?_ | refine And.intro rfl ?_ | refine sc (by omega) ?_ | refine sc (by simp only [List.length_map, List.length_append, List.length_cons, List.length_nil, List.length_set, List.length_replicate, List.length_singleton] at *; omega) ?_ | refine sc (And.intro (by omega) trivial) ?_ | refine sc (And.intro rfl (Nat.le_of_ble_eq_true rfl)) ?_ | refine sc (And.intro (by simp only [List.length_map, List.length_append, List.length_cons, List.length_nil, List.length_set, List.length_replicate, List.length_singleton] at *; omega) trivial) ?_ | refine sc (by decide) ?_ | refine sc (fun _ => trivial) ?_ | refine And.intro (fun _ => rfl) ?_ | refine sc (fun _ => And.intro (by omega) trivial) ?_))
      have hm : bits.tmod (i : Int) = bits % (i : Int) := Int.tmod_eq_emod_of_nonneg hb.1
      have m1 := Int.emod_nonneg bits (show (i : Int) ≠ 0 by omega)
      have m2 := Int.emod_lt_of_pos bits (show (0 : Int) < i by omega)
      rw [hm]
      (repeat (first | refine st ?_ | refine And.intro rfl ?_ | refine sc (by omega) ?_ | refine sc (by simp only [List.length_map, List.length_append, List.length_cons, List.length_nil, List.length_set, List.length_replicate, List.length_singleton] at *; omega) ?_ | refine sc (And.intro (by omega) trivial) ?_ | refine sc (And.intro rfl (Nat.le_of_ble_eq_true rfl)) ?_ | refine sc (And.intro (by simp only [List.length_map, List.length_append, List.length_cons, List.length_nil, List.length_set, List.length_replicate, List.length_singleton] at *; omega) trivial) ?_ | refine sc (by decide) ?_ | refine sc (fun _ => trivial) ?_ | refine And.intro (fun _ => rfl) ?_ | refine sc (fun _ => And.intro (by omega) trivial) ?_))
      intro s2
      (repeat (first | refine st ?_ | refine And.intro rfl ?_ | refine sc (by omega) ?_ | refine sc (by simp only [List.length_map, List.length_append, List.length_cons, List.length_nil, List.length_set, List.length_replicate, List.length_singleton] at *; omega) ?_ | refine sc (And.intro (by omega) trivial) ?_ | refine sc (And.intro rfl (Nat.le_of_ble_eq_true rfl)) ?_ | refine sc (And.intro (by simp only [List.length_map, List.length_append, List.length_cons, List.length_nil, List.length_set, List.length_replicate, List.length_singleton] at *; omega) trivial) ?_ | refine sc (by decide) ?_ | refine sc (fun _ => trivial) ?_ | refine And.intro (fun _ => rfl) ?_ | refine sc (fun _ => And.intro (by omega) trivial) ?_))
      refine inc (h s2 [bits % (i : Int)] ⟨by simp, fun k hk => by simp at hk⟩ fun x hx => ?_)
      rw [List.mem_singleton.1 hx]
      exact ⟨m1, m2⟩
    · (repeat (first | refine st ?_ | refine And.intro rfl ?_ | refine sc (by omega) ?_ | refine sc (by simp only [List.length_map, List.length_append, List.length_cons, List.length_nil, List.length_set, List.length_replicate, List.length_singleton] at *; omega) ?_ | refine sc (And.intro (by omega) trivial) ?_ | refine sc (And.intro rfl (Nat.le_of_ble_eq_true rfl)) ?_ | refine sc (And.intro (by simp only [List.length_map, List.length_append, List.length_cons, List.length_nil, List.length_set, List.length_replicate, List.length_singleton] at *; omega) trivial) ?_ | refine sc (by decide) ?_ | refine sc (fun _ => trivial) ?_ | refine And.intro (fun _ => rfl) ?_ | refine sc (fun _ => And.intro (by omega) trivial) ?_))
      refine h s l ⟨fun hc => h4 (by rw [hc]; rfl), fun k hk => pw_getD hp (Nat.lt_add_one k) hk⟩ hx
/-! ## A crowd -/
def wp (x : Sl × List Int) : HProp := sl (cInt .i64) 3 x.1 x.2
instance : Inhabited (Sl × List Int) := ⟨(Sl.nil, [])⟩
/-- As the law's caller sees the entries. -/
structure Fresh (S : LS) (ws : List (Sl × List Int)) : Prop where
  sets : ws.map (·.2) = S.es.map (·.set_)
  new : ∀ e ∈ S.es, e.held = 0 ∧ e.gone = false
theorem crowd_ok {n : Nat} {s : Sl} {sets : List Int} [rs : Rs F s (cInt .u64) sets] (hs : sets.length ≤ 4611686018427387904) (hx : ∀ x ∈ sets, 0 ≤ x ∧ x ≤ 18446744073709551615) (hn : 1 ≤ n) (hn2 : n ≤ 9)
    (h : ∀ p S w ws, WF S → S.qs.length = n → S.es.length ≤ 10 → Fresh S ws → Ent (lockAt p S :: sl cSl 37 w (ws.map (·.1)) :: bg wp ws :: F) (K (.tuple #[.pointer (pt p), sv w]))) :
    Ent F (callC Try.prog 7 [.int .i64 n, sv s] K) := by
  refine ent_mono ?_ fun w => nf7_ok
  unfold nf7
  refine new_ok (by omega) fun p S0 e0 q0 w0 => ?_
  (repeat (first | refine st ?_ | refine And.intro rfl ?_ | refine sc (by omega) ?_ | refine sc (by simp only [List.length_map, List.length_append, List.length_cons, List.length_nil, List.length_set, List.length_replicate, List.length_singleton] at *; omega) ?_ | refine sc (And.intro (by omega) trivial) ?_ | refine sc (And.intro rfl (Nat.le_of_ble_eq_true rfl)) ?_ | refine sc (And.intro (by simp only [List.length_map, List.length_append, List.length_cons, List.length_nil, List.length_set, List.length_replicate, List.length_singleton] at *; omega) trivial) ?_ | refine sc (by decide) ?_ | refine sc (fun _ => trivial) ?_ | refine And.intro (fun _ => rfl) ?_ | refine sc (fun _ => And.intro (by omega) trivial) ?_))
  refine num_ok ?_
  (repeat (first | refine st ?_ | refine And.intro rfl ?_ | refine sc (by omega) ?_ | refine sc (by simp only [List.length_map, List.length_append, List.length_cons, List.length_nil, List.length_set, List.length_replicate, List.length_singleton] at *; omega) ?_ | refine sc (And.intro (by omega) trivial) ?_ | refine sc (And.intro rfl (Nat.le_of_ble_eq_true rfl)) ?_ | refine sc (And.intro (by simp only [List.length_map, List.length_append, List.length_cons, List.length_nil, List.length_set, List.length_replicate, List.length_singleton] at *; omega) trivial) ?_ | refine sc (by decide) ?_ | refine sc (fun _ => trivial) ?_ | refine And.intro (fun _ => rfl) ?_ | refine sc (fun _ => And.intro (by omega) trivial) ?_ | refine ct rfl ?_))
  refine ent_nil cSl 37 (bg_nil wp ?_)
  refine inc (M := lockAt p S0 :: bg wp [] :: sl cSl 37 Sl.nil [] :: F) ?_
  refine ent_loop (γ := Nat × LS × Sl × List (Sl × List Int)) (fun t => [sv t.2.2.1, .int .i64 t.1]) (fun t => lockAt p t.2.1 :: bg wp t.2.2.2 :: sl cSl 37 t.2.2.1 (t.2.2.2.map (·.1)) :: F)
    (fun t => t.1 ≤ 10 ∧ WF t.2.1 ∧ t.2.1.qs.length = n ∧ t.2.1.es.length = t.1 ∧ Fresh t.2.1 t.2.2.2) (fun t => 10 - t.1) (0, S0, Sl.nil, []) rfl
    ⟨by simp, w0, by show S0.qs.length = n; omega, by show S0.es.length = 0; rw [e0]; rfl, by show Fresh S0 []; exact ⟨by rw [e0]; rfl, fun e he => by rw [e0] at he; exact absurd he List.not_mem_nil⟩⟩ ⟨fun _ hs => hs⟩ ?_
  intro ⟨i, S, w, ws⟩ ⟨hi, hw, hq, hel, hf⟩ K1 j hK
  simp only [List.headD_cons, List.tail_cons] at *
  have hwl : ws.length = i := by have := congrArg List.length hf.sets; simpa [hel] using this
  have fin : ∀ φ : Value → W, (φ = fun v => K v) → Ent (lockAt p S :: bg wp ws :: sl cSl 37 w (ws.map (·.1)) :: F) (φ (.tuple #[.pointer (pt p), sv w])) := fun φ hφ => by
    rw [hφ]
    exact inc (h p S w ws hw hq (by omega) hf)
  (repeat (first | refine st ?_ | refine And.intro rfl ?_ | refine sc (by omega) ?_ | refine sc (by simp only [List.length_map, List.length_append, List.length_cons, List.length_nil, List.length_set, List.length_replicate, List.length_singleton] at *; omega) ?_ | refine sc (And.intro (by omega) trivial) ?_ | refine sc (And.intro rfl (Nat.le_of_ble_eq_true rfl)) ?_ | refine sc (And.intro (by simp only [List.length_map, List.length_append, List.length_cons, List.length_nil, List.length_set, List.length_replicate, List.length_singleton] at *; omega) trivial) ?_ | refine sc (by decide) ?_ | refine sc (fun _ => trivial) ?_ | refine And.intro (fun _ => rfl) ?_ | refine sc (fun _ => And.intro (by omega) trivial) ?_))
  refine cs (fun h3 => ?_) (fun h3 => ?_)
  · (repeat (first | refine st ?_ | refine And.intro rfl ?_ | refine sc (by omega) ?_ | refine sc (by simp only [List.length_map, List.length_append, List.length_cons, List.length_nil, List.length_set, List.length_replicate, List.length_singleton] at *; omega) ?_ | refine sc (And.intro (by omega) trivial) ?_ | refine sc (And.intro rfl (Nat.le_of_ble_eq_true rfl)) ?_ | refine sc (And.intro (by simp only [List.length_map, List.length_append, List.length_cons, List.length_nil, List.length_set, List.length_replicate, List.length_singleton] at *; omega) trivial) ?_ | refine sc (by decide) ?_ | refine sc (fun _ => trivial) ?_ | refine And.intro (fun _ => rfl) ?_ | refine sc (fun _ => And.intro (by omega) trivial) ?_))
    refine cs (fun h4 => ?_) (fun h4 => ?_)
    · have hil : i < sets.length := by omega
      have hsx := hx _ (getD_mem hil)
      (repeat (first | refine st ?_ | refine And.intro rfl ?_ | refine sc (by omega) ?_ | refine sc (by simp only [List.length_map, List.length_append, List.length_cons, List.length_nil, List.length_set, List.length_replicate, List.length_singleton] at *; omega) ?_ | refine sc (And.intro (by omega) trivial) ?_ | refine sc (And.intro rfl (Nat.le_of_ble_eq_true rfl)) ?_ | refine sc (And.intro (by simp only [List.length_map, List.length_append, List.length_cons, List.length_nil, List.length_set, List.length_replicate, List.length_singleton] at *; omega) trivial) ?_ | refine sc (by decide) ?_ | refine sc (fun _ => trivial) ?_ | refine And.intro (fun _ => rfl) ?_ | refine sc (fun _ => And.intro (by omega) trivial) ?_))
      refine set_ok hsx hn (by omega) fun s1 l hri hin => ?_
      have hle := rises_len hri hin
      (repeat (first | refine st ?_ | refine And.intro rfl ?_ | refine sc (by omega) ?_ | refine sc (by simp only [List.length_map, List.length_append, List.length_cons, List.length_nil, List.length_set, List.length_replicate, List.length_singleton] at *; omega) ?_ | refine sc (And.intro (by omega) trivial) ?_ | refine sc (And.intro rfl (Nat.le_of_ble_eq_true rfl)) ?_ | refine sc (And.intro (by simp only [List.length_map, List.length_append, List.length_cons, List.length_nil, List.length_set, List.length_replicate, List.length_singleton] at *; omega) trivial) ?_ | refine sc (by decide) ?_ | refine sc (fun _ => trivial) ?_ | refine And.intro (fun _ => rfl) ?_ | refine sc (fun _ => And.intro (by omega) trivial) ?_))
      intro s2
      (repeat (first | refine st ?_ | refine And.intro rfl ?_ | refine sc (by omega) ?_ | refine sc (by simp only [List.length_map, List.length_append, List.length_cons, List.length_nil, List.length_set, List.length_replicate, List.length_singleton] at *; omega) ?_ | refine sc (And.intro (by omega) trivial) ?_ | refine sc (And.intro rfl (Nat.le_of_ble_eq_true rfl)) ?_ | refine sc (And.intro (by simp only [List.length_map, List.length_append, List.length_cons, List.length_nil, List.length_set, List.length_replicate, List.length_singleton] at *; omega) trivial) ?_ | refine sc (by decide) ?_ | refine sc (fun _ => trivial) ?_ | refine And.intro (fun _ => rfl) ?_ | refine sc (fun _ => And.intro (by omega) trivial) ?_))
      intro s3
      rw [List.nil_append]
      refine ent_take (A := lockAt p S) (lay_ok (l := l) hw (by omega) (by omega) (by omega) (by omega) (fun hc => absurd hri hc) (fun _ hc => ?_) (fun hc => absurd hc (by omega)) (fun _ _ _ S' s' hes hql hwf => ?_))
      · exfalso
        have hne : 0 < l.length := List.length_pos_iff.2 hri.1
        rcases hc with hc | hc
        · have := hin _ (getD_mem hne); omega
        · have := hin _ (getD_mem (show l.length - 1 < l.length by omega)); omega
      · refine num_ok ?_
        (repeat (first | refine st ?_ | refine And.intro rfl ?_ | refine sc (by omega) ?_ | refine sc (by simp only [List.length_map, List.length_append, List.length_cons, List.length_nil, List.length_set, List.length_replicate, List.length_singleton] at *; omega) ?_ | refine sc (And.intro (by omega) trivial) ?_ | refine sc (And.intro rfl (Nat.le_of_ble_eq_true rfl)) ?_ | refine sc (And.intro (by simp only [List.length_map, List.length_append, List.length_cons, List.length_nil, List.length_set, List.length_replicate, List.length_singleton] at *; omega) trivial) ?_ | refine sc (by decide) ?_ | refine sc (fun _ => trivial) ?_ | refine And.intro (fun _ => rfl) ?_ | refine sc (fun _ => And.intro (by omega) trivial) ?_ | refine ct rfl ?_))
        intro s4
        refine sc (by simp only [List.length_map, List.length_singleton]; omega) ?_
        intro s5
        (repeat (first | refine st ?_ | refine And.intro rfl ?_ | refine sc (by omega) ?_ | refine sc (by simp only [List.length_map, List.length_append, List.length_cons, List.length_nil, List.length_set, List.length_replicate, List.length_singleton] at *; omega) ?_ | refine sc (And.intro (by omega) trivial) ?_ | refine sc (And.intro rfl (Nat.le_of_ble_eq_true rfl)) ?_ | refine sc (And.intro (by simp only [List.length_map, List.length_append, List.length_cons, List.length_nil, List.length_set, List.length_replicate, List.length_singleton] at *; omega) trivial) ?_ | refine sc (by decide) ?_ | refine sc (fun _ => trivial) ?_ | refine And.intro (fun _ => rfl) ?_ | refine sc (fun _ => And.intro (by omega) trivial) ?_))
        have h9 := hK (i + 1, S', s5, ws ++ [(s1, l)]) ⟨by show i + 1 ≤ 10; omega, hwf, by show S'.qs.length = n; omega, by show S'.es.length = i + 1; rw [hes, List.length_append, List.length_singleton]; omega, ⟨by rw [hes, List.map_append, List.map_append, hf.sets]; rfl, fun e he => by
          rw [hes] at he
          rcases List.mem_append.1 he with he | he
          · exact hf.new e he
          · rw [List.mem_singleton.1 he]; exact ⟨rfl, rfl⟩⟩⟩ (by show 10 - (i + 1) < 10 - i; omega)
        simp only [List.map_append, List.map_cons, List.map_nil] at h9
        refine ent_take (A := sl (cInt .i64) 3 s1 l) ?_
        show Ent (wp (s1, l) :: _) _
        exact ent_take (A := bg wp ws) (bg_snoc (inc h9))
    · (repeat (first | refine st ?_ | refine And.intro rfl ?_ | refine sc (by omega) ?_ | refine sc (by simp only [List.length_map, List.length_append, List.length_cons, List.length_nil, List.length_set, List.length_replicate, List.length_singleton] at *; omega) ?_ | refine sc (And.intro (by omega) trivial) ?_ | refine sc (And.intro rfl (Nat.le_of_ble_eq_true rfl)) ?_ | refine sc (And.intro (by simp only [List.length_map, List.length_append, List.length_cons, List.length_nil, List.length_set, List.length_replicate, List.length_singleton] at *; omega) trivial) ?_ | refine sc (by decide) ?_ | refine sc (fun _ => trivial) ?_ | refine And.intro (fun _ => rfl) ?_ | refine sc (fun _ => And.intro (by omega) trivial) ?_))
      exact fin _ rfl
  · (repeat (first | refine st ?_ | refine And.intro rfl ?_ | refine sc (by omega) ?_ | refine sc (by simp only [List.length_map, List.length_append, List.length_cons, List.length_nil, List.length_set, List.length_replicate, List.length_singleton] at *; omega) ?_ | refine sc (And.intro (by omega) trivial) ?_ | refine sc (And.intro rfl (Nat.le_of_ble_eq_true rfl)) ?_ | refine sc (And.intro (by simp only [List.length_map, List.length_append, List.length_cons, List.length_nil, List.length_set, List.length_replicate, List.length_singleton] at *; omega) trivial) ?_ | refine sc (by decide) ?_ | refine sc (fun _ => trivial) ?_ | refine And.intro (fun _ => rfl) ?_ | refine sc (fun _ => And.intro (by omega) trivial) ?_))
    exact fin _ rfl
end
end Go.Proofs.Ytipjamgjgijeeaa
