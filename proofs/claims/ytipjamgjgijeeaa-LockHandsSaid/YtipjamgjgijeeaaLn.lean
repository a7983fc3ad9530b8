/- Locks: dropping, queues, what is held, laying. -/
import Derived.Test.YtipjamgjgijeeaaLm
namespace Go.Proofs.Ytipjamgjgijeeaa
set_option linter.unusedSimpArgs false
set_option linter.unusedVariables false
open Go.Dn
set_option linter.unusedSectionVars false
set_option synthInstance.maxSize 10000
set_option synthInstance.maxHeartbeats 400000
set_option maxHeartbeats 2000000
variable [sd : Side]
section
variable {p : Nat} {S : LS} {K : Value → W} {F : List HProp} {φ : W}
def ruin (e : LE) : LE := ⟨e.s, e.set_, e.held, true⟩
theorem ptrs_get {qs qs' : List (Nat × QM)} {k : Nat} (hm : qs'.map (·.1) = qs.map (·.1)) (hk : k < qs.length) : (qs.map fun x => pt x.1).getD k default = pt (qs'.getD k default).1 := by
  have hl : qs'.length = qs.length := by have := congrArg List.length hm; simpa using this
  have : (qs'.map (·.1)).getD k default = (qs.map (·.1)).getD k default := by rw [hm]
  rw [getD_map' (by omega), getD_map' hk] at this
  rw [getD_map' hk, this]
theorem ptrs_eq {qs qs' : List (Nat × QM)} (hm : qs'.map (·.1) = qs.map (·.1)) : (qs.map fun x => pt x.1) = (qs'.map fun x => pt x.1) := by
  have h1 : ∀ l : List (Nat × QM), (l.map fun x => pt x.1) = (l.map (·.1)).map pt := fun l => by rw [List.map_map]; rfl
  rw [h1, h1, hm]
theorem hep_set {es : List LE} {k : Nat} {e : LE} (hk : k < es.length) (h1 : e.s = (es.getD k default).s) (h2 : e.set_ = (es.getD k default).set_) : bg ep (es.set k e) = bg ep es := by
  unfold bg
  congr 1
  apply List.ext_getElem (by simp)
  intro i h3 h4
  rw [List.getElem_map, List.getElem_map, List.getElem_set]
  split
  · rename_i hi
    subst hi
    have : es.getD k default = es[k]'hk := by simp [hk]
    unfold ep
    rw [h1, h2, this]
  · rfl
theorem drop_ok (hw : WF S) {t : Int} (h1 : ent S.es t = none → Ent (lockAt p S :: F) (K (.tuple #[.int .i64 0, .int .i64 110])))
    (h2 : ∀ e, ent S.es t = some e → ∀ S', S'.es = S.es.set (t.toNat - 1) (ruin e) → S'.qs.length = S.qs.length → WF S' → Ent (lockAt p S' :: F) (K (.tuple #[.int .i64 e.held, .int .i64 0]))) :
    Ent (lockAt p S :: F) (callC Try.prog 18 [.pointer (pt p), .int .u64 t] K) := by
  refine ent_mono ?_ fun w => nf18_ok
  unfold nf18
  refine lock_open fun sq r vals hr => ?_
  (repeat (first | refine st ?_ | refine And.intro rfl ?_ | refine sc (by omega) ?_ | refine sc (by simp only [List.length_map, List.length_append, List.length_cons, List.length_nil, List.length_set, List.length_replicate, List.length_singleton] at *; omega) ?_ | refine sc (And.intro (by omega) trivial) ?_ | refine sc (And.intro rfl (Nat.le_of_ble_eq_true rfl)) ?_ | refine sc (And.intro (by simp only [List.length_map, List.length_append, List.length_cons, List.length_nil, List.length_set, List.length_replicate, List.length_singleton] at *; omega) trivial) ?_ | refine sc (by decide) ?_ | refine sc (fun _ => trivial) ?_ | refine And.intro (fun _ => rfl) ?_ | refine sc (fun _ => And.intro (by omega) trivial) ?_))
  rw [hr.2 t]
  cases he : ent S.es t with
  | none =>
    intro b
    rw [show ((Option.map hv (none : Option LE)).getD S_lock_holder.z) = (⟨Sl.nil, 0⟩ : S_lock_holder) from rfl]
    simp only [Option.map_none, Option.isSome_none]
    (repeat (first | refine st ?_ | refine And.intro rfl ?_ | refine sc (by omega) ?_ | refine sc (by simp only [List.length_map, List.length_append, List.length_cons, List.length_nil, List.length_set, List.length_replicate, List.length_singleton] at *; omega) ?_ | refine sc (And.intro (by omega) trivial) ?_ | refine sc (And.intro rfl (Nat.le_of_ble_eq_true rfl)) ?_ | refine sc (And.intro (by simp only [List.length_map, List.length_append, List.length_cons, List.length_nil, List.length_set, List.length_replicate, List.length_singleton] at *; omega) trivial) ?_ | refine sc (by decide) ?_ | refine sc (fun _ => trivial) ?_ | refine And.intro (fun _ => rfl) ?_ | refine sc (fun _ => And.intro (by omega) trivial) ?_))
    exact inc (M := vr p 60 S_lock_Locks.c ⟨sq, S.es.length, some r⟩ :: sl cPtr 56 sq (S.qs.map fun x => pt x.1) :: bg qp S.qs :: mp r .u64 cH vals :: bg ep S.es :: F) (lock_shut hr (h1 he))
  | some e =>
    intro b
    obtain ⟨a1, a2, a3, a4⟩ := ent_some he
    have hwe := hw.at_ he
    have hk : t.toNat - 1 < S.es.length := by omega
    have hle := rises_len hwe.1 hwe.2.1
    have hn2 := hw.n2
    have hlen := hw.len
    have hpw := rises_pw hwe.1
    haveI r1 : ∀ M, Rs (bg ep S.es :: M) e.s (cInt .i64) e.set_ := fun M => a3 ▸ rs_ep hk M
    rw [show ((Option.map hv (some e)).getD S_lock_holder.z) = (⟨e.s, e.held⟩ : S_lock_holder) from rfl]
    simp only [Option.map_some, Option.isSome_some]
    (repeat (first | refine st ?_ | refine And.intro rfl ?_ | refine sc (by omega) ?_ | refine sc (by simp only [List.length_map, List.length_append, List.length_cons, List.length_nil, List.length_set, List.length_replicate, List.length_singleton] at *; omega) ?_ | refine sc (And.intro (by omega) trivial) ?_ | refine sc (And.intro rfl (Nat.le_of_ble_eq_true rfl)) ?_ | refine sc (And.intro (by simp only [List.length_map, List.length_append, List.length_cons, List.length_nil, List.length_set, List.length_replicate, List.length_singleton] at *; omega) trivial) ?_ | refine sc (by decide) ?_ | refine sc (fun _ => trivial) ?_ | refine And.intro (fun _ => rfl) ?_ | refine sc (fun _ => And.intro (by omega) trivial) ?_))
    refine ent_loop (γ := Nat × List (Nat × QM)) (fun x => [.int .i64 x.1]) (fun x => bg qp x.2 :: vr b 63 cH ⟨e.s, e.held⟩ :: vr p 60 S_lock_Locks.c ⟨sq, S.es.length, some r⟩ :: sl cPtr 56 sq (S.qs.map fun x => pt x.1) :: mp r .u64 cH vals :: bg ep S.es :: F)
      (fun x => x.1 ≤ e.set_.length ∧ x.2.map (·.1) = S.qs.map (·.1) ∧ ∀ c, c < S.qs.length → (x.2.getD c default).2 = if (c : Int) ∈ e.set_.take x.1 then ⟨(S.qs.getD c default).2.list.filter (fun y => decide (y ≠ t)), (S.qs.getD c default).2.last⟩ else (S.qs.getD c default).2)
      (fun x => e.set_.length - x.1) (0, S.qs) rfl ⟨by simp, rfl, fun c hc => by rw [List.take_zero, if_neg (by simp)]⟩ inferInstance ?_
    intro ⟨i, qs⟩ ⟨hi, hm, hq⟩ K1 j hK
    simp only [List.headD_cons] at *
    have hql : qs.length = S.qs.length := by have := congrArg List.length hm; simpa using this
    refine cs (fun h3 => ?_) (fun h3 => ?_)
    · have hil : i < e.set_.length := by omega
      obtain ⟨k, hkk⟩ : ∃ k : Nat, e.set_.getD i default = k := ⟨(e.set_.getD i default).toNat, by have := hwe.2.1 _ (getD_mem hil); omega⟩
      have hkin := hwe.2.1 _ (getD_mem hil)
      have hkl : k < S.qs.length := by omega
      (repeat (first | refine st ?_ | refine And.intro rfl ?_ | refine sc (by omega) ?_ | refine sc (by simp only [List.length_map, List.length_append, List.length_cons, List.length_nil, List.length_set, List.length_replicate, List.length_singleton] at *; omega) ?_ | refine sc (And.intro (by omega) trivial) ?_ | refine sc (And.intro rfl (Nat.le_of_ble_eq_true rfl)) ?_ | refine sc (And.intro (by simp only [List.length_map, List.length_append, List.length_cons, List.length_nil, List.length_set, List.length_replicate, List.length_singleton] at *; omega) trivial) ?_ | refine sc (by decide) ?_ | refine sc (fun _ => trivial) ?_ | refine And.intro (fun _ => rfl) ?_ | refine sc (fun _ => And.intro (by omega) trivial) ?_))
      rw [hkk]
      (repeat (first | refine st ?_ | refine And.intro rfl ?_ | refine sc (by omega) ?_ | refine sc (by simp only [List.length_map, List.length_append, List.length_cons, List.length_nil, List.length_set, List.length_replicate, List.length_singleton] at *; omega) ?_ | refine sc (And.intro (by omega) trivial) ?_ | refine sc (And.intro rfl (Nat.le_of_ble_eq_true rfl)) ?_ | refine sc (And.intro (by simp only [List.length_map, List.length_append, List.length_cons, List.length_nil, List.length_set, List.length_replicate, List.length_singleton] at *; omega) trivial) ?_ | refine sc (by decide) ?_ | refine sc (fun _ => trivial) ?_ | refine And.intro (fun _ => rfl) ?_ | refine sc (fun _ => And.intro (by omega) trivial) ?_))
      rw [Int.toNat_natCast, ptrs_get hm hkl]
      have hnot : (k : Int) ∉ e.set_.take i := fun hc => by
        obtain ⟨q, hq1, hq2⟩ := mem_getD hc
        rw [List.length_take] at hq1
        rw [getD_take (by omega)] at hq2
        have := pw_inj hpw (by omega) hil (hq2.trans hkk.symm)
        omega
      have hqk := hq k hkl
      rw [if_neg hnot] at hqk
      obtain ⟨s1, s2⟩ := hw.q k hkl
      have hmem : t ∈ stand S.es k := mem_stand.2 ⟨t.toNat - 1, hk, by omega, inQ_iff.2 ⟨by rw [← a3]; exact a4, by rw [← a3, ← hkk]; exact getD_mem hil⟩⟩
      obtain ⟨q, hq1, hq2⟩ := mem_getD hmem
      have hsl := stand_len (es := S.es) (b := k)
      refine ent_take (A := bg qp qs) (bg_at (i := k) (by omega) ?_)
      show Ent (qAt (qs.getD k default).1 (qs.getD k default).2 :: _) _
      rw [hqk]
      refine qdrop_ok (i := q) (t := t) (by rw [s1]; omega) (by rw [s1]; exact hq1) (by rw [s1]; exact hq2) (fun c hc1 hc2 => by rw [s1] at hc1 hc2; exact pw_inj stand_pw hc1 hq1 (hc2.trans hq2.symm)) ?_
      (repeat (first | refine st ?_ | refine And.intro rfl ?_ | refine sc (by omega) ?_ | refine sc (by simp only [List.length_map, List.length_append, List.length_cons, List.length_nil, List.length_set, List.length_replicate, List.length_singleton] at *; omega) ?_ | refine sc (And.intro (by omega) trivial) ?_ | refine sc (And.intro rfl (Nat.le_of_ble_eq_true rfl)) ?_ | refine sc (And.intro (by simp only [List.length_map, List.length_append, List.length_cons, List.length_nil, List.length_set, List.length_replicate, List.length_singleton] at *; omega) trivial) ?_ | refine sc (by decide) ?_ | refine sc (fun _ => trivial) ?_ | refine And.intro (fun _ => rfl) ?_ | refine sc (fun _ => And.intro (by omega) trivial) ?_))
      have hout := out_at (pw_nodup (stand_pw (es := S.es) (b := (k : Int)))) hq1
      rw [hq2, ← s1] at hout
      rw [hout]
      refine bg_put (f := qp) (i := k) (x := ((qs.getD k default).1, ⟨(S.qs.getD k default).2.list.filter (fun y => decide (y ≠ t)), (S.qs.getD k default).2.last⟩)) (by omega) ?_
      have h9 := hK (i + 1, qs.set k ((qs.getD k default).1, ⟨(S.qs.getD k default).2.list.filter (fun y => decide (y ≠ t)), (S.qs.getD k default).2.last⟩)) ⟨by show i + 1 ≤ _; omega, ?_, fun c hc => ?_⟩ (by show _ - (i + 1) < _; omega)
      · exact inc h9
      · show (qs.set k _).map (·.1) = _
        rw [List.map_set, ← hm]
        have : (qs.map (·.1)).getD k default = (qs.getD k default).1 := getD_map' (by omega)
        rw [← this]
        exact set_self
      · simp only
        have hmm : (c : Int) ∈ e.set_.take (i + 1) ↔ ((c : Int) ∈ e.set_.take i ∨ (c : Int) = (k : Int)) := by rw [take_one hil, List.mem_append, List.mem_singleton, hkk]
        by_cases hck : k = c
        · subst hck
          rw [Go.Dn.getD_set_eq (by omega), if_pos (hmm.2 (.inr rfl))]
        · rw [Go.Dn.getD_set_ne hck, hq c hc]
          by_cases hin : (c : Int) ∈ e.set_.take i
          · rw [if_pos hin, if_pos (hmm.2 (.inl hin))]
          · rw [if_neg hin, if_neg (fun h => (hmm.1 h).elim hin (fun h => hck (by omega)))]
    · have : i = e.set_.length := by omega
      subst this
      rw [List.take_length] at hq
      (repeat (first | refine st ?_ | refine And.intro rfl ?_ | refine sc (by omega) ?_ | refine sc (by simp only [List.length_map, List.length_append, List.length_cons, List.length_nil, List.length_set, List.length_replicate, List.length_singleton] at *; omega) ?_ | refine sc (And.intro (by omega) trivial) ?_ | refine sc (And.intro rfl (Nat.le_of_ble_eq_true rfl)) ?_ | refine sc (And.intro (by simp only [List.length_map, List.length_append, List.length_cons, List.length_nil, List.length_set, List.length_replicate, List.length_singleton] at *; omega) trivial) ?_ | refine sc (by decide) ?_ | refine sc (fun _ => trivial) ?_ | refine And.intro (fun _ => rfl) ?_ | refine sc (fun _ => And.intro (by omega) trivial) ?_))
      have hrel : Rel (del vals t) (S.es.set (t.toNat - 1) (ruin e)) := by
        refine ⟨del_uniq hr.1 _, fun y => ?_⟩
        rw [lkp_del hr.1, ent_set hk, hr.2 y]
        by_cases hy : y = t
        · rw [if_pos hy, if_pos (by omega), if_neg (by simp [ruin])]; rfl
        · rw [if_neg hy, if_neg (by omega)]
      have hep : bg ep (S.es.set (t.toNat - 1) (ruin e)) = bg ep S.es := hep_set hk (by rw [a3]; rfl) (by rw [a3]; rfl)
      have hsl : S.es.length = (S.es.set (t.toNat - 1) (ruin e)).length := by rw [List.length_set]
      have hwf : WF ⟨qs, S.es.set (t.toNat - 1) (ruin e)⟩ := by
        refine ⟨fun c hc => ?_, fun x hx => ?_, by rw [← hsl]; exact hw.len, by show 1 ≤ qs.length; rw [hql]; exact hw.n1, by show qs.length ≤ 64; rw [hql]; exact hw.n2⟩
        · have hc' : c < S.qs.length := by rw [← hql]; exact hc
          obtain ⟨s1, s2⟩ := hw.q c hc'
          show (qs.getD c default).2.list = stand (S.es.set _ _) _ ∧ (qs.getD c default).2.last ≤ ((S.es.set _ _).length : Int) ∧ _
          rw [hq c hc', stand_gone (e := ruin e) hk rfl, List.length_set, show ((t.toNat - 1 : Nat) : Int) + 1 = t from by omega]
          by_cases hce : (c : Int) ∈ e.set_
          · rw [if_pos hce]
            exact ⟨by rw [s1], s2⟩
          · rw [if_neg hce]
            refine ⟨?_, s2⟩
            rw [s1, filter_none]
            intro hc2
            obtain ⟨k, hk1, hk2, hk3⟩ := mem_stand.1 hc2
            have : k = t.toNat - 1 := by omega
            rw [this] at hk3
            have := (inQ_iff.1 hk3).2
            rw [← a3] at this
            exact hce this
        · show _ ∧ (∀ y ∈ x.set_, 0 ≤ y ∧ y < (qs.length : Int)) ∧ _
          rw [hql]
          rcases List.mem_or_eq_of_mem_set hx with hx | hx
          · exact hw.set_ x hx
          · rw [hx]; exact hwe
      have h9 := h2 e he ⟨qs, S.es.set (t.toNat - 1) (ruin e)⟩ rfl hql hwf
      rw [← hep, hsl, ptrs_eq hm]
      exact inc (M := vr p 60 S_lock_Locks.c ⟨sq, (S.es.set (t.toNat - 1) (ruin e)).length, some r⟩ :: sl cPtr 56 sq (qs.map fun x => pt x.1) :: bg qp qs :: mp r .u64 cH (del vals t) :: bg ep (S.es.set (t.toNat - 1) (ruin e)) :: F) (lock_shut (S := ⟨qs, S.es.set (t.toNat - 1) (ruin e)⟩) hrel h9)
/-! ## Queues, holders -/
theorem queue_ok (hw : WF S) {k : Nat} (hk : k < S.qs.length) (h : ∀ s, Ent (sl (cInt .u64) 30 s (stand S.es k) :: lockAt p S :: F) (K (sv s))) : Ent (lockAt p S :: F) (callC Try.prog 12 [.pointer (pt p), .int .i64 k] K) := by
  refine ent_mono ?_ fun w => nf12_ok
  unfold nf12
  refine lock_open fun sq r vals hr => ?_
  have hsl := stand_len (es := S.es) (b := k)
  have hlen := hw.len
  obtain ⟨s1, s2⟩ := hw.q k hk
  (repeat (first | refine st ?_ | refine And.intro rfl ?_ | refine sc (by omega) ?_ | refine sc (by simp only [List.length_map, List.length_append, List.length_cons, List.length_nil, List.length_set, List.length_replicate, List.length_singleton] at *; omega) ?_ | refine sc (And.intro (by omega) trivial) ?_ | refine sc (And.intro rfl (Nat.le_of_ble_eq_true rfl)) ?_ | refine sc (And.intro (by simp only [List.length_map, List.length_append, List.length_cons, List.length_nil, List.length_set, List.length_replicate, List.length_singleton] at *; omega) trivial) ?_ | refine sc (by decide) ?_ | refine sc (fun _ => trivial) ?_ | refine And.intro (fun _ => rfl) ?_ | refine sc (fun _ => And.intro (by omega) trivial) ?_))
  refine cf (by omega) ?_
  (repeat (first | refine st ?_ | refine And.intro rfl ?_ | refine sc (by omega) ?_ | refine sc (by simp only [List.length_map, List.length_append, List.length_cons, List.length_nil, List.length_set, List.length_replicate, List.length_singleton] at *; omega) ?_ | refine sc (And.intro (by omega) trivial) ?_ | refine sc (And.intro rfl (Nat.le_of_ble_eq_true rfl)) ?_ | refine sc (And.intro (by simp only [List.length_map, List.length_append, List.length_cons, List.length_nil, List.length_set, List.length_replicate, List.length_singleton] at *; omega) trivial) ?_ | refine sc (by decide) ?_ | refine sc (fun _ => trivial) ?_ | refine And.intro (fun _ => rfl) ?_ | refine sc (fun _ => And.intro (by omega) trivial) ?_))
  refine cf (by rw [List.length_map]; omega) ?_
  (repeat (first | refine st ?_ | refine And.intro rfl ?_ | refine sc (by omega) ?_ | refine sc (by simp only [List.length_map, List.length_append, List.length_cons, List.length_nil, List.length_set, List.length_replicate, List.length_singleton] at *; omega) ?_ | refine sc (And.intro (by omega) trivial) ?_ | refine sc (And.intro rfl (Nat.le_of_ble_eq_true rfl)) ?_ | refine sc (And.intro (by simp only [List.length_map, List.length_append, List.length_cons, List.length_nil, List.length_set, List.length_replicate, List.length_singleton] at *; omega) trivial) ?_ | refine sc (by decide) ?_ | refine sc (fun _ => trivial) ?_ | refine And.intro (fun _ => rfl) ?_ | refine sc (fun _ => And.intro (by omega) trivial) ?_))
  intro b
  (repeat (first | refine st ?_ | refine And.intro rfl ?_ | refine sc (by omega) ?_ | refine sc (by simp only [List.length_map, List.length_append, List.length_cons, List.length_nil, List.length_set, List.length_replicate, List.length_singleton] at *; omega) ?_ | refine sc (And.intro (by omega) trivial) ?_ | refine sc (And.intro rfl (Nat.le_of_ble_eq_true rfl)) ?_ | refine sc (And.intro (by simp only [List.length_map, List.length_append, List.length_cons, List.length_nil, List.length_set, List.length_replicate, List.length_singleton] at *; omega) trivial) ?_ | refine sc (by decide) ?_ | refine sc (fun _ => trivial) ?_ | refine And.intro (fun _ => rfl) ?_ | refine sc (fun _ => And.intro (by omega) trivial) ?_))
  rw [ptrs_get rfl hk]
  refine mkall_ok fun cap => ?_
  refine ent_range ?_
  intro fn tmps l r' hs hf K2 hK2
  refine ent_take (A := bg qp S.qs) (bg_at hk ?_)
  show Ent (qAt (S.qs.getD k default).1 (S.qs.getD k default).2 :: _) _
  refine q_open fun s => ?_
  refine inc (M := vr b 22 cSl Sl.nil :: vr cap 56 cPtr (pt (S.qs.getD k default).1) :: vr (S.qs.getD k default).1 74 S_ticket_Queue.c ⟨s, (S.qs.getD k default).2.last⟩ :: sl (cInt .u64) 30 s (S.qs.getD k default).2.list :: lrec l .ready none fn tmps (rfP Try.f12 0) (rfA Try.f12 0) (rfB Try.f12 0) r' :: dfr r' :: bg qp (S.qs.eraseIdx k) :: vr p 60 S_lock_Locks.c ⟨sq, S.es.length, some r⟩ :: sl cPtr 56 sq (S.qs.map fun x => pt x.1) :: mp r .u64 cH vals :: bg ep S.es :: F)
    (ent_nil (cInt .u64) 30 (ent_swap (slv_shut ?_)))
  have e0 : slv b 22 (cInt .u64) 30 ([] : List Int) = slv b 22 (cInt .u64) 30 ((S.qs.getD k default).2.list.take 0) := by rw [List.take_zero]
  rw [e0]
  refine inc (M := vr cap 56 cPtr (pt (S.qs.getD k default).1) :: vr (S.qs.getD k default).1 74 S_ticket_Queue.c ⟨s, (S.qs.getD k default).2.last⟩ :: sl (cInt .u64) 30 s (S.qs.getD k default).2.list :: slv b 22 (cInt .u64) 30 ((S.qs.getD k default).2.list.take 0) :: lrec l .ready none fn tmps (rfP Try.f12 0) (rfA Try.f12 0) (rfB Try.f12 0) r' :: dfr r' :: bg qp (S.qs.eraseIdx k) :: vr p 60 S_lock_Locks.c ⟨sq, S.es.length, some r⟩ :: sl cPtr 56 sq (S.qs.map fun x => pt x.1) :: mp r .u64 cH vals :: bg ep S.es :: F) ?_
  refine qall_ok (list := (S.qs.getD k default).2.list) (X := fun i => slv b 22 (cInt .u64) 30 ((S.qs.getD k default).2.list.take i) :: lrec l .ready none fn tmps (rfP Try.f12 0) (rfA Try.f12 0) (rfB Try.f12 0) r' :: dfr r' :: bg qp (S.qs.eraseIdx k) :: vr p 60 S_lock_Locks.c ⟨sq, S.es.length, some r⟩ :: sl cPtr 56 sq (S.qs.map fun x => pt x.1) :: mp r .u64 cH vals :: bg ep S.es :: F) (Y := [ff])
    (by rw [s1]; omega) (fun _ => True) trivial ?_ (inc (M := [ff]) ent_ff) ?_
  · intro i hi _ K' g1 _
    refine nf12_r0_ok hs hf ?_
    unfold nf12_r0
    refine ent_take (A := slv b 22 (cInt .u64) 30 ((S.qs.getD k default).2.list.take i)) (slv_open fun s' => ?_)
    (repeat (first | refine st ?_ | refine And.intro rfl ?_ | refine sc (by omega) ?_ | refine sc (by simp only [List.length_map, List.length_append, List.length_cons, List.length_nil, List.length_set, List.length_replicate, List.length_singleton] at *; omega) ?_ | refine sc (And.intro (by omega) trivial) ?_ | refine sc (And.intro rfl (Nat.le_of_ble_eq_true rfl)) ?_ | refine sc (And.intro (by simp only [List.length_map, List.length_append, List.length_cons, List.length_nil, List.length_set, List.length_replicate, List.length_singleton] at *; omega) trivial) ?_ | refine sc (by decide) ?_ | refine sc (fun _ => trivial) ?_ | refine And.intro (fun _ => rfl) ?_ | refine sc (fun _ => And.intro (by omega) trivial) ?_))
    intro s3
    have hb : ((S.qs.getD k default).2.list.take i).length ≤ 100 := by rw [List.length_take, s1]; omega
    (repeat (first | refine st ?_ | refine And.intro rfl ?_ | refine sc (by omega) ?_ | refine sc (by simp only [List.length_map, List.length_append, List.length_cons, List.length_nil, List.length_set, List.length_replicate, List.length_singleton] at *; omega) ?_ | refine sc (And.intro (by omega) trivial) ?_ | refine sc (And.intro rfl (Nat.le_of_ble_eq_true rfl)) ?_ | refine sc (And.intro (by simp only [List.length_map, List.length_append, List.length_cons, List.length_nil, List.length_set, List.length_replicate, List.length_singleton] at *; omega) trivial) ?_ | refine sc (by decide) ?_ | refine sc (fun _ => trivial) ?_ | refine And.intro (fun _ => rfl) ?_ | refine sc (fun _ => And.intro (by omega) trivial) ?_))
    intro s4
    (repeat (first | refine st ?_ | refine And.intro rfl ?_ | refine sc (by omega) ?_ | refine sc (by simp only [List.length_map, List.length_append, List.length_cons, List.length_nil, List.length_set, List.length_replicate, List.length_singleton] at *; omega) ?_ | refine sc (And.intro (by omega) trivial) ?_ | refine sc (And.intro rfl (Nat.le_of_ble_eq_true rfl)) ?_ | refine sc (And.intro (by simp only [List.length_map, List.length_append, List.length_cons, List.length_nil, List.length_set, List.length_replicate, List.length_singleton] at *; omega) trivial) ?_ | refine sc (by decide) ?_ | refine sc (fun _ => trivial) ?_ | refine And.intro (fun _ => rfl) ?_ | refine sc (fun _ => And.intro (by omega) trivial) ?_))
    have g2 := g1 trivial
    rw [take_one hi] at g2
    exact ent_take (A := sl (cInt .u64) 30 s4 ((S.qs.getD k default).2.list.take i ++ [(S.qs.getD k default).2.list.getD i default])) (ent_take (A := vr b 22 cSl s4) (slv_shut (inc g2)))
  · intro _
    refine ent_take (A := lrec l .ready none fn tmps (rfP Try.f12 0) (rfA Try.f12 0) (rfB Try.f12 0) r') (hK2 _ _ _ _ (by simp) ?_)
    refine ent_jn ?_
    rw [List.take_length]
    refine ent_take (A := slv b 22 (cInt .u64) 30 (S.qs.getD k default).2.list) (slv_open fun s' => ?_)
    (repeat (first | refine st ?_ | refine And.intro rfl ?_ | refine sc (by omega) ?_ | refine sc (by simp only [List.length_map, List.length_append, List.length_cons, List.length_nil, List.length_set, List.length_replicate, List.length_singleton] at *; omega) ?_ | refine sc (And.intro (by omega) trivial) ?_ | refine sc (And.intro rfl (Nat.le_of_ble_eq_true rfl)) ?_ | refine sc (And.intro (by simp only [List.length_map, List.length_append, List.length_cons, List.length_nil, List.length_set, List.length_replicate, List.length_singleton] at *; omega) trivial) ?_ | refine sc (by decide) ?_ | refine sc (fun _ => trivial) ?_ | refine And.intro (fun _ => rfl) ?_ | refine sc (fun _ => And.intro (by omega) trivial) ?_))
    refine ent_endM (ent_endM0 ?_)
    have h9 := h s'
    rw [← s1] at h9
    refine inc (M := vr (S.qs.getD k default).1 74 S_ticket_Queue.c ⟨s, (S.qs.getD k default).2.last⟩ :: sl (cInt .u64) 30 s (S.qs.getD k default).2.list :: bg qp (S.qs.eraseIdx k) :: sl (cInt .u64) 30 s' (S.qs.getD k default).2.list :: vr p 60 S_lock_Locks.c ⟨sq, S.es.length, some r⟩ :: sl cPtr 56 sq (S.qs.map fun x => pt x.1) :: mp r .u64 cH vals :: bg ep S.es :: F) (q_shut (m := (S.qs.getD k default).2) ?_)
    refine bg_back (f := qp) hk ?_
    exact inc (M := vr p 60 S_lock_Locks.c ⟨sq, S.es.length, some r⟩ :: sl cPtr 56 sq (S.qs.map fun x => pt x.1) :: bg qp S.qs :: mp r .u64 cH vals :: bg ep S.es :: sl (cInt .u64) 30 s' (S.qs.getD k default).2.list :: F) (lock_shut hr (inc h9))
def heldOf (es : List LE) (t : Int) : List Int := match ent es t with
  | some e => e.set_.take e.held
  | none => []
theorem held_ok (hw : WF S) {t : Int} (h : ∀ s, Ent (sl (cInt .i64) 3 s (heldOf S.es t) :: lockAt p S :: F) (K (sv s))) : Ent (lockAt p S :: F) (callC Try.prog 13 [.pointer (pt p), .int .u64 t] K) := by
  refine ent_mono ?_ fun w => nf13_ok
  unfold nf13
  refine lock_open fun sq r vals hr => ?_
  (repeat (first | refine st ?_ | refine And.intro rfl ?_ | refine sc (by omega) ?_ | refine sc (by simp only [List.length_map, List.length_append, List.length_cons, List.length_nil, List.length_set, List.length_replicate, List.length_singleton] at *; omega) ?_ | refine sc (And.intro (by omega) trivial) ?_ | refine sc (And.intro rfl (Nat.le_of_ble_eq_true rfl)) ?_ | refine sc (And.intro (by simp only [List.length_map, List.length_append, List.length_cons, List.length_nil, List.length_set, List.length_replicate, List.length_singleton] at *; omega) trivial) ?_ | refine sc (by decide) ?_ | refine sc (fun _ => trivial) ?_ | refine And.intro (fun _ => rfl) ?_ | refine sc (fun _ => And.intro (by omega) trivial) ?_))
  rw [hr.2 t]
  unfold heldOf at h
  cases he : ent S.es t with
  | none =>
    rw [he] at h
    intro b
    rw [show ((Option.map hv (none : Option LE)).getD S_lock_holder.z) = (⟨Sl.nil, 0⟩ : S_lock_holder) from rfl]
    refine ent_nil (cInt .i64) 3 ?_
    (repeat (first | refine st ?_ | refine And.intro rfl ?_ | refine sc (by omega) ?_ | refine sc (by simp only [List.length_map, List.length_append, List.length_cons, List.length_nil, List.length_set, List.length_replicate, List.length_singleton] at *; omega) ?_ | refine sc (And.intro (by omega) trivial) ?_ | refine sc (And.intro rfl (Nat.le_of_ble_eq_true rfl)) ?_ | refine sc (And.intro (by simp only [List.length_map, List.length_append, List.length_cons, List.length_nil, List.length_set, List.length_replicate, List.length_singleton] at *; omega) trivial) ?_ | refine sc (by decide) ?_ | refine sc (fun _ => trivial) ?_ | refine And.intro (fun _ => rfl) ?_ | refine sc (fun _ => And.intro (by omega) trivial) ?_))
    intro s1 hc
    haveI vw : VwOf s1 (cInt .i64) Sl.nil 0 0 := ⟨hc, Nat.le_refl _⟩
    refine clone_ok (l := (([] : List Int).drop 0).take (0 - 0)) (by simp) fun s2 => ?_
    rw [show (([] : List Int).drop 0).take (0 - 0) = [] from rfl]
    exact inc (M := vr p 60 S_lock_Locks.c ⟨sq, S.es.length, some r⟩ :: sl cPtr 56 sq (S.qs.map fun x => pt x.1) :: bg qp S.qs :: mp r .u64 cH vals :: bg ep S.es :: sl (cInt .i64) 3 s2 [] :: F) (lock_shut hr (inc (h s2)))
  | some e =>
    rw [he] at h
    obtain ⟨a1, a2, a3, a4⟩ := ent_some he
    have hwe := hw.at_ he
    have hk : t.toNat - 1 < S.es.length := by omega
    have hle := rises_len hwe.1 hwe.2.1
    have hn2 := hw.n2
    have hhe := hwe.2.2
    intro b
    rw [show ((Option.map hv (some e)).getD S_lock_holder.z) = (⟨e.s, e.held⟩ : S_lock_holder) from rfl]
    refine ent_take (A := bg ep S.es) (bg_at hk ?_)
    rw [← a3]
    show Ent (sl (cInt .i64) 3 e.s e.set_ :: _) _
    refine ent_slen fun c1 c2 => ?_
    (repeat (first | refine st ?_ | refine And.intro rfl ?_ | refine sc (by omega) ?_ | refine sc (by simp only [List.length_map, List.length_append, List.length_cons, List.length_nil, List.length_set, List.length_replicate, List.length_singleton] at *; omega) ?_ | refine sc (And.intro (by omega) trivial) ?_ | refine sc (And.intro rfl (Nat.le_of_ble_eq_true rfl)) ?_ | refine sc (And.intro (by simp only [List.length_map, List.length_append, List.length_cons, List.length_nil, List.length_set, List.length_replicate, List.length_singleton] at *; omega) trivial) ?_ | refine sc (by decide) ?_ | refine sc (fun _ => trivial) ?_ | refine And.intro (fun _ => rfl) ?_ | refine sc (fun _ => And.intro (by omega) trivial) ?_))
    intro s1 hc
    haveI vw : VwOf s1 (cInt .i64) e.s 0 e.held := ⟨hc, by omega⟩
    have e1 : (e.set_.drop 0).take (e.held - 0) = e.set_.take e.held := rfl
    refine clone_ok (l := (e.set_.drop 0).take (e.held - 0)) (by rw [e1, List.length_take]; omega) fun s2 => ?_
    rw [e1]
    refine ent_take (A := bg ep (S.es.eraseIdx (t.toNat - 1))) (ent_take (A := sl (cInt .i64) 3 e.s e.set_) ?_)
    have bb := bg_back (f := ep) (l := S.es) (F := sl (cInt .i64) 3 s2 (e.set_.take e.held) :: vr b 63 cH ⟨e.s, e.held⟩ :: vr p 60 S_lock_Locks.c ⟨sq, S.es.length, some r⟩ :: sl cPtr 56 sq (S.qs.map fun x => pt x.1) :: bg qp S.qs :: mp r .u64 cH vals :: F) (φ := K (sv s2)) hk
    rw [← a3] at bb
    refine bb ?_
    exact inc (M := vr p 60 S_lock_Locks.c ⟨sq, S.es.length, some r⟩ :: sl cPtr 56 sq (S.qs.map fun x => pt x.1) :: bg qp S.qs :: mp r .u64 cH vals :: bg ep S.es :: sl (cInt .i64) 3 s2 (e.set_.take e.held) :: F) (lock_shut hr (inc (h s2)))
def holderOf (es : List LE) (b : Int) : Option Int := match (stand es b).head? with
  | some t => if b ∈ heldOf es t then some t else none
  | none => none
theorem heldOf_len (hw : WF S) {t : Int} : (heldOf S.es t).length ≤ 64 := by
  unfold heldOf
  cases he : ent S.es t with
  | none => simp
  | some e =>
    have hwe := hw.at_ he
    have hle := rises_len hwe.1 hwe.2.1
    have hn2 := hw.n2
    simp only [List.length_take]
    omega
theorem holder_ok (hw : WF S) {k : Nat} (hk : k < S.qs.length) (h : Ent (lockAt p S :: F) (K (.tuple #[.int .u64 ((holderOf S.es k).getD 0), .bool (holderOf S.es k).isSome]))) : Ent (lockAt p S :: F) (callC Try.prog 30 [.pointer (pt p), .int .i64 k] K) := by
  refine ent_mono ?_ fun w => nf30_ok
  unfold nf30
  refine lock_open fun sq r vals hr => ?_
  obtain ⟨s1, s2⟩ := hw.q k hk
  (repeat (first | refine st ?_ | refine And.intro rfl ?_ | refine sc (by omega) ?_ | refine sc (by simp only [List.length_map, List.length_append, List.length_cons, List.length_nil, List.length_set, List.length_replicate, List.length_singleton] at *; omega) ?_ | refine sc (And.intro (by omega) trivial) ?_ | refine sc (And.intro rfl (Nat.le_of_ble_eq_true rfl)) ?_ | refine sc (And.intro (by simp only [List.length_map, List.length_append, List.length_cons, List.length_nil, List.length_set, List.length_replicate, List.length_singleton] at *; omega) trivial) ?_ | refine sc (by decide) ?_ | refine sc (fun _ => trivial) ?_ | refine And.intro (fun _ => rfl) ?_ | refine sc (fun _ => And.intro (by omega) trivial) ?_))
  refine cf (by omega) ?_
  (repeat (first | refine st ?_ | refine And.intro rfl ?_ | refine sc (by omega) ?_ | refine sc (by simp only [List.length_map, List.length_append, List.length_cons, List.length_nil, List.length_set, List.length_replicate, List.length_singleton] at *; omega) ?_ | refine sc (And.intro (by omega) trivial) ?_ | refine sc (And.intro rfl (Nat.le_of_ble_eq_true rfl)) ?_ | refine sc (And.intro (by simp only [List.length_map, List.length_append, List.length_cons, List.length_nil, List.length_set, List.length_replicate, List.length_singleton] at *; omega) trivial) ?_ | refine sc (by decide) ?_ | refine sc (fun _ => trivial) ?_ | refine And.intro (fun _ => rfl) ?_ | refine sc (fun _ => And.intro (by omega) trivial) ?_))
  refine cf (by rw [List.length_map]; omega) ?_
  (repeat (first | refine st ?_ | refine And.intro rfl ?_ | refine sc (by omega) ?_ | refine sc (by simp only [List.length_map, List.length_append, List.length_cons, List.length_nil, List.length_set, List.length_replicate, List.length_singleton] at *; omega) ?_ | refine sc (And.intro (by omega) trivial) ?_ | refine sc (And.intro rfl (Nat.le_of_ble_eq_true rfl)) ?_ | refine sc (And.intro (by simp only [List.length_map, List.length_append, List.length_cons, List.length_nil, List.length_set, List.length_replicate, List.length_singleton] at *; omega) trivial) ?_ | refine sc (by decide) ?_ | refine sc (fun _ => trivial) ?_ | refine And.intro (fun _ => rfl) ?_ | refine sc (fun _ => And.intro (by omega) trivial) ?_))
  rw [ptrs_get rfl hk]
  refine ent_take (A := bg qp S.qs) (bg_at hk ?_)
  show Ent (qAt (S.qs.getD k default).1 (S.qs.getD k default).2 :: _) _
  have back : ∀ {φ : W}, Ent (lockAt p S :: F) φ → Ent (qAt (S.qs.getD k default).1 (S.qs.getD k default).2 :: bg qp (S.qs.eraseIdx k) :: vr p 60 S_lock_Locks.c ⟨sq, S.es.length, some r⟩ :: sl cPtr 56 sq (S.qs.map fun x => pt x.1) :: mp r .u64 cH vals :: bg ep S.es :: F) φ := fun h =>
    bg_back (f := qp) hk (inc (M := vr p 60 S_lock_Locks.c ⟨sq, S.es.length, some r⟩ :: sl cPtr 56 sq (S.qs.map fun x => pt x.1) :: bg qp S.qs :: mp r .u64 cH vals :: bg ep S.es :: F) (lock_shut hr h))
  refine first_ok (fun hz => ?_) (fun hz => ?_)
  · have hn : holderOf S.es k = none := by unfold holderOf; rw [← s1, hz]; rfl
    rw [hn] at h
    (repeat (first | refine st ?_ | refine And.intro rfl ?_ | refine sc (by omega) ?_ | refine sc (by simp only [List.length_map, List.length_append, List.length_cons, List.length_nil, List.length_set, List.length_replicate, List.length_singleton] at *; omega) ?_ | refine sc (And.intro (by omega) trivial) ?_ | refine sc (And.intro rfl (Nat.le_of_ble_eq_true rfl)) ?_ | refine sc (And.intro (by simp only [List.length_map, List.length_append, List.length_cons, List.length_nil, List.length_set, List.length_replicate, List.length_singleton] at *; omega) trivial) ?_ | refine sc (by decide) ?_ | refine sc (fun _ => trivial) ?_ | refine And.intro (fun _ => rfl) ?_ | refine sc (fun _ => And.intro (by omega) trivial) ?_))
    exact back h
  · have hhd : (stand S.es (k : Int)).head? = some ((S.qs.getD k default).2.list.getD 0 default) := by
      rw [← s1]
      cases hq : (S.qs.getD k default).2.list with
      | nil => exact absurd hq hz
      | cons x l => rfl
    have hho : holderOf S.es k = if (k : Int) ∈ heldOf S.es ((S.qs.getD k default).2.list.getD 0 default) then some ((S.qs.getD k default).2.list.getD 0 default) else none := by unfold holderOf; rw [hhd]
    have hhl := heldOf_len hw (t := (S.qs.getD k default).2.list.getD 0 default)
    (repeat (first | refine st ?_ | refine And.intro rfl ?_ | refine sc (by omega) ?_ | refine sc (by simp only [List.length_map, List.length_append, List.length_cons, List.length_nil, List.length_set, List.length_replicate, List.length_singleton] at *; omega) ?_ | refine sc (And.intro (by omega) trivial) ?_ | refine sc (And.intro rfl (Nat.le_of_ble_eq_true rfl)) ?_ | refine sc (And.intro (by simp only [List.length_map, List.length_append, List.length_cons, List.length_nil, List.length_set, List.length_replicate, List.length_singleton] at *; omega) trivial) ?_ | refine sc (by decide) ?_ | refine sc (fun _ => trivial) ?_ | refine And.intro (fun _ => rfl) ?_ | refine sc (fun _ => And.intro (by omega) trivial) ?_))
    refine back ?_
    refine held_ok hw fun s3 => ?_
    (repeat (first | refine st ?_ | refine And.intro rfl ?_ | refine sc (by omega) ?_ | refine sc (by simp only [List.length_map, List.length_append, List.length_cons, List.length_nil, List.length_set, List.length_replicate, List.length_singleton] at *; omega) ?_ | refine sc (And.intro (by omega) trivial) ?_ | refine sc (And.intro rfl (Nat.le_of_ble_eq_true rfl)) ?_ | refine sc (And.intro (by simp only [List.length_map, List.length_append, List.length_cons, List.length_nil, List.length_set, List.length_replicate, List.length_singleton] at *; omega) trivial) ?_ | refine sc (by decide) ?_ | refine sc (fun _ => trivial) ?_ | refine And.intro (fun _ => rfl) ?_ | refine sc (fun _ => And.intro (by omega) trivial) ?_))
    refine has_ok (l := heldOf S.es ((S.qs.getD k default).2.list.getD 0 default)) (by omega) ?_
    rw [hho] at h
    by_cases hin : (k : Int) ∈ heldOf S.es ((S.qs.getD k default).2.list.getD 0 default)
    · rw [decide_eq_true hin]
      rw [if_pos hin] at h
      (repeat (first | refine st ?_ | refine And.intro rfl ?_ | refine sc (by omega) ?_ | refine sc (by simp only [List.length_map, List.length_append, List.length_cons, List.length_nil, List.length_set, List.length_replicate, List.length_singleton] at *; omega) ?_ | refine sc (And.intro (by omega) trivial) ?_ | refine sc (And.intro rfl (Nat.le_of_ble_eq_true rfl)) ?_ | refine sc (And.intro (by simp only [List.length_map, List.length_append, List.length_cons, List.length_nil, List.length_set, List.length_replicate, List.length_singleton] at *; omega) trivial) ?_ | refine sc (by decide) ?_ | refine sc (fun _ => trivial) ?_ | refine And.intro (fun _ => rfl) ?_ | refine sc (fun _ => And.intro (by omega) trivial) ?_))
      exact ent_drop h
    · rw [decide_eq_false hin]
      rw [if_neg hin] at h
      (repeat (first | refine st ?_ | refine And.intro rfl ?_ | refine sc (by omega) ?_ | refine sc (by simp only [List.length_map, List.length_append, List.length_cons, List.length_nil, List.length_set, List.length_replicate, List.length_singleton] at *; omega) ?_ | refine sc (And.intro (by omega) trivial) ?_ | refine sc (And.intro rfl (Nat.le_of_ble_eq_true rfl)) ?_ | refine sc (And.intro (by simp only [List.length_map, List.length_append, List.length_cons, List.length_nil, List.length_set, List.length_replicate, List.length_singleton] at *; omega) trivial) ?_ | refine sc (by decide) ?_ | refine sc (fun _ => trivial) ?_ | refine And.intro (fun _ => rfl) ?_ | refine sc (fun _ => And.intro (by omega) trivial) ?_))
      exact ent_drop h
end
end Go.Proofs.Ytipjamgjgijeeaa
