/- Locks: what the calls do. -/
import Derived.Test.YtipjamgjgijeeaaLp
namespace Go.Proofs.Ytipjamgjgijeeaa
set_option linter.unusedSimpArgs false
set_option linter.unusedVariables false
open Go.Dn
set_option linter.unusedSectionVars false
set_option synthInstance.maxSize 10000
set_option synthInstance.maxHeartbeats 400000
set_option maxHeartbeats 2000000
variable [sd : Side]
abbrev cH := S_lock_holder.c
def hv (e : LE) : S_lock_holder := ⟨e.s, e.held⟩
def qp (x : Nat × QM) : HProp := qAt x.1 x.2
def ep (e : LE) : HProp := sl (cInt .i64) 3 e.s e.set_
def Rel (vals : List (Int × S_lock_holder)) (es : List LE) : Prop := uniq vals ∧ ∀ t, lkp vals t = (ent es t).map hv
def lockAt (p : Nat) (S : LS) : HProp := fun h => ∃ (sq : Sl) (r : Nat) (vals : List (Int × S_lock_holder)), Rel vals S.es ∧ stars [vr p 60 S_lock_Locks.c ⟨sq, S.es.length, some r⟩, sl cPtr 56 sq (S.qs.map fun x => pt x.1), bg qp S.qs, mp r .u64 cH vals, bg ep S.es] h
section
variable {p : Nat} {S : LS} {K : Value → W} {F : List HProp} {φ : W}
theorem lock_open (h : ∀ sq r vals, Rel vals S.es → Ent (vr p 60 S_lock_Locks.c ⟨sq, S.es.length, some r⟩ :: sl cPtr 56 sq (S.qs.map fun x => pt x.1) :: bg qp S.qs :: mp r .u64 cH vals :: bg ep S.es :: F) φ) : Ent (lockAt p S :: F) φ := fun w0 hw => by
  obtain ⟨⟨h1, h2, d, e1, ⟨sq, r, vals, hr, ha⟩, hL⟩, hside⟩ := hw
  exact h sq r vals hr w0 ⟨sats_stars.1 ⟨h1, h2, d, e1, ha, hL⟩, hside⟩
theorem lock_shut {sq : Sl} {r : Nat} {vals : List (Int × S_lock_holder)} (hr : Rel vals S.es) (h : Ent (lockAt p S :: F) φ) : Ent (vr p 60 S_lock_Locks.c ⟨sq, S.es.length, some r⟩ :: sl cPtr 56 sq (S.qs.map fun x => pt x.1) :: bg qp S.qs :: mp r .u64 cH vals :: bg ep S.es :: F) φ :=
  ent_shut (M := [_, _, _, _, _]) (fun _ h => ⟨sq, r, vals, hr, h⟩) h
theorem new_ok {n : Int} (hn : 1 ≤ n ∧ n ≤ 64) (h : ∀ p S, S.es = [] → (S.qs.length : Int) = n → WF S → Ent (lockAt p S :: F) (K (.tuple #[.pointer (pt p), .int .i64 0]))) : Ent F (callC Try.prog 21 [.int .i64 n] K) := by
  refine ent_mono ?_ fun w => nf21_ok
  unfold nf21
  refine cf (by omega) ?_
  (repeat (first | refine st ?_ | refine And.intro rfl ?_ | refine sc (by omega) ?_ | refine sc (by simp only [List.length_map, List.length_append, List.length_cons, List.length_nil, List.length_set, List.length_replicate, List.length_singleton] at *; omega) ?_ | refine sc (And.intro (by omega) trivial) ?_ | refine sc (And.intro rfl (Nat.le_of_ble_eq_true rfl)) ?_ | refine sc (And.intro (by simp only [List.length_map, List.length_append, List.length_cons, List.length_nil, List.length_set, List.length_replicate, List.length_singleton] at *; omega) trivial) ?_ | refine sc (by decide) ?_ | refine sc (fun _ => trivial) ?_ | refine And.intro (fun _ => rfl) ?_ | refine sc (fun _ => And.intro (by omega) trivial) ?_))
  refine cf (by omega) ?_
  (repeat (first | refine st ?_ | refine And.intro rfl ?_ | refine sc (by omega) ?_ | refine sc (by simp only [List.length_map, List.length_append, List.length_cons, List.length_nil, List.length_set, List.length_replicate, List.length_singleton] at *; omega) ?_ | refine sc (And.intro (by omega) trivial) ?_ | refine sc (And.intro rfl (Nat.le_of_ble_eq_true rfl)) ?_ | refine sc (And.intro (by simp only [List.length_map, List.length_append, List.length_cons, List.length_nil, List.length_set, List.length_replicate, List.length_singleton] at *; omega) trivial) ?_ | refine sc (by decide) ?_ | refine sc (fun _ => trivial) ?_ | refine And.intro (fun _ => rfl) ?_ | refine sc (fun _ => And.intro (by omega) trivial) ?_))
  intro r
  (repeat (first | refine st ?_ | refine And.intro rfl ?_ | refine sc (by omega) ?_ | refine sc (by simp only [List.length_map, List.length_append, List.length_cons, List.length_nil, List.length_set, List.length_replicate, List.length_singleton] at *; omega) ?_ | refine sc (And.intro (by omega) trivial) ?_ | refine sc (And.intro rfl (Nat.le_of_ble_eq_true rfl)) ?_ | refine sc (And.intro (by simp only [List.length_map, List.length_append, List.length_cons, List.length_nil, List.length_set, List.length_replicate, List.length_singleton] at *; omega) trivial) ?_ | refine sc (by decide) ?_ | refine sc (fun _ => trivial) ?_ | refine And.intro (fun _ => rfl) ?_ | refine sc (fun _ => And.intro (by omega) trivial) ?_))
  intro p
  (repeat (first | refine st ?_ | refine And.intro rfl ?_ | refine sc (by omega) ?_ | refine sc (by simp only [List.length_map, List.length_append, List.length_cons, List.length_nil, List.length_set, List.length_replicate, List.length_singleton] at *; omega) ?_ | refine sc (And.intro (by omega) trivial) ?_ | refine sc (And.intro rfl (Nat.le_of_ble_eq_true rfl)) ?_ | refine sc (And.intro (by simp only [List.length_map, List.length_append, List.length_cons, List.length_nil, List.length_set, List.length_replicate, List.length_singleton] at *; omega) trivial) ?_ | refine sc (by decide) ?_ | refine sc (fun _ => trivial) ?_ | refine And.intro (fun _ => rfl) ?_ | refine sc (fun _ => And.intro (by omega) trivial) ?_))
  refine ent_nil cPtr 56 (bg_nil qp ?_)
  refine ent_loop (γ := Nat × Sl × List (Nat × QM)) (fun t => [.int .i64 t.1]) (fun t => bg qp t.2.2 :: sl cPtr 56 t.2.1 (t.2.2.map fun x => pt x.1) :: vr p 60 S_lock_Locks.c ⟨t.2.1, 0, some r⟩ :: mp r .u64 cH [] :: F)
    (fun t => (t.1 : Int) ≤ n ∧ t.2.2.length = t.1 ∧ ∀ b, b < t.2.2.length → (t.2.2.getD b default).2 = ⟨[], 0⟩) (fun t => n.toNat - t.1) (0, Sl.nil, []) rfl ⟨by show (0 : Int) ≤ n; omega, rfl, fun b hb => by simp at hb⟩ ⟨fun _ hs => hs⟩ ?_
  intro ⟨i, sq, qs⟩ ⟨hi, hl, hz⟩ K1 j hK
  simp only [List.headD_cons] at *
  refine cs (fun h3 => ?_) (fun h3 => ?_)
  · (repeat (first | refine st ?_ | refine And.intro rfl ?_ | refine sc (by omega) ?_ | refine sc (by simp only [List.length_map, List.length_append, List.length_cons, List.length_nil, List.length_set, List.length_replicate, List.length_singleton] at *; omega) ?_ | refine sc (And.intro (by omega) trivial) ?_ | refine sc (And.intro rfl (Nat.le_of_ble_eq_true rfl)) ?_ | refine sc (And.intro (by simp only [List.length_map, List.length_append, List.length_cons, List.length_nil, List.length_set, List.length_replicate, List.length_singleton] at *; omega) trivial) ?_ | refine sc (by decide) ?_ | refine sc (fun _ => trivial) ?_ | refine And.intro (fun _ => rfl) ?_ | refine sc (fun _ => And.intro (by omega) trivial) ?_))
    intro q
    (repeat (first | refine st ?_ | refine And.intro rfl ?_ | refine sc (by omega) ?_ | refine sc (by simp only [List.length_map, List.length_append, List.length_cons, List.length_nil, List.length_set, List.length_replicate, List.length_singleton] at *; omega) ?_ | refine sc (And.intro (by omega) trivial) ?_ | refine sc (And.intro rfl (Nat.le_of_ble_eq_true rfl)) ?_ | refine sc (And.intro (by simp only [List.length_map, List.length_append, List.length_cons, List.length_nil, List.length_set, List.length_replicate, List.length_singleton] at *; omega) trivial) ?_ | refine sc (by decide) ?_ | refine sc (fun _ => trivial) ?_ | refine And.intro (fun _ => rfl) ?_ | refine sc (fun _ => And.intro (by omega) trivial) ?_))
    intro s2
    (repeat (first | refine st ?_ | refine And.intro rfl ?_ | refine sc (by omega) ?_ | refine sc (by simp only [List.length_map, List.length_append, List.length_cons, List.length_nil, List.length_set, List.length_replicate, List.length_singleton] at *; omega) ?_ | refine sc (And.intro (by omega) trivial) ?_ | refine sc (And.intro rfl (Nat.le_of_ble_eq_true rfl)) ?_ | refine sc (And.intro (by simp only [List.length_map, List.length_append, List.length_cons, List.length_nil, List.length_set, List.length_replicate, List.length_singleton] at *; omega) trivial) ?_ | refine sc (by decide) ?_ | refine sc (fun _ => trivial) ?_ | refine And.intro (fun _ => rfl) ?_ | refine sc (fun _ => And.intro (by omega) trivial) ?_))
    intro s3
    (repeat (first | refine st ?_ | refine And.intro rfl ?_ | refine sc (by omega) ?_ | refine sc (by simp only [List.length_map, List.length_append, List.length_cons, List.length_nil, List.length_set, List.length_replicate, List.length_singleton] at *; omega) ?_ | refine sc (And.intro (by omega) trivial) ?_ | refine sc (And.intro rfl (Nat.le_of_ble_eq_true rfl)) ?_ | refine sc (And.intro (by simp only [List.length_map, List.length_append, List.length_cons, List.length_nil, List.length_set, List.length_replicate, List.length_singleton] at *; omega) trivial) ?_ | refine sc (by decide) ?_ | refine sc (fun _ => trivial) ?_ | refine And.intro (fun _ => rfl) ?_ | refine sc (fun _ => And.intro (by omega) trivial) ?_))
    refine ent_nil (cInt .u64) 30 ?_
    refine inc (M := vr q 74 S_ticket_Queue.c ⟨Sl.nil, 0⟩ :: sl (cInt .u64) 30 Sl.nil [] :: bg qp qs :: sl cPtr 56 s3 ((qs.map fun x => pt x.1) ++ [pt q]) :: vr p 60 S_lock_Locks.c ⟨s3, 0, some r⟩ :: mp r .u64 cH [] :: F) (q_shut (m := ⟨[], 0⟩) ?_)
    refine ent_take (A := bg qp qs) (bg_snoc (f := qp) (x := (q, ⟨[], 0⟩)) ?_)
    have h9 := hK (i + 1, s3, qs ++ [(q, ⟨[], 0⟩)]) ⟨by show ((i + 1 : Nat) : Int) ≤ n; omega, by simp [hl], fun b hb => by
      rw [List.length_append, List.length_singleton] at hb
      by_cases hbl : b < qs.length
      · rw [getD_app_l hbl]; exact hz b hbl
      · have : b = qs.length := by omega
        subst this
        rw [getD_app_r (Nat.le_refl _), Nat.sub_self]; rfl⟩ (by show n.toNat - (i + 1) < n.toNat - i; omega)
    simp only [List.map_append, List.map_cons, List.map_nil] at h9
    exact inc h9
  · have hin : (i : Int) = n := by omega
    (repeat (first | refine st ?_ | refine And.intro rfl ?_ | refine sc (by omega) ?_ | refine sc (by simp only [List.length_map, List.length_append, List.length_cons, List.length_nil, List.length_set, List.length_replicate, List.length_singleton] at *; omega) ?_ | refine sc (And.intro (by omega) trivial) ?_ | refine sc (And.intro rfl (Nat.le_of_ble_eq_true rfl)) ?_ | refine sc (And.intro (by simp only [List.length_map, List.length_append, List.length_cons, List.length_nil, List.length_set, List.length_replicate, List.length_singleton] at *; omega) trivial) ?_ | refine sc (by decide) ?_ | refine sc (fun _ => trivial) ?_ | refine And.intro (fun _ => rfl) ?_ | refine sc (fun _ => And.intro (by omega) trivial) ?_))
    refine bg_nil ep ?_
    refine inc (M := vr p 60 S_lock_Locks.c ⟨sq, 0, some r⟩ :: sl cPtr 56 sq (qs.map fun x => pt x.1) :: bg qp qs :: mp r .u64 cH [] :: bg ep [] :: F) (lock_shut (S := ⟨qs, []⟩) ⟨by simp [uniq], fun t => by rw [lkp_nil, ent_out (by show t < 1 ∨ ((0 : Nat) : Int) < t; omega)]; rfl⟩ (h p ⟨qs, []⟩ rfl (by show (qs.length : Int) = n; rw [hl]; exact hin) ⟨fun b hb => ?_, fun e he => absurd he List.not_mem_nil, by simp, by show 1 ≤ qs.length; omega, by show qs.length ≤ 64; omega⟩))
    have := hz b hb
    show (qs.getD b default).2.list = _ ∧ _
    rw [this]
    exact ⟨rfl, by simp, Int.le_refl _⟩
/-! ## Asking -/
theorem rs_ep {es : List LE} {k : Nat} (hk : k < es.length) (M : List HProp) : Rs (bg ep es :: M) (es.getD k default).s (cInt .i64) (es.getD k default).set_ :=
  rs_bg (f := ep) (l := es) (i := k) hk (fun M => (inferInstance : Rs (sl (cInt .i64) 3 (es.getD k default).s (es.getD k default).set_ :: M) _ _ _)) M
theorem next_ok {t : Int} (h1 : ∀ b, (ent S.es t).bind nextOf = some b → Ent (lockAt p S :: F) (K (.tuple #[.int .i64 b, .bool true]))) (h2 : (ent S.es t).bind nextOf = none → Ent (lockAt p S :: F) (K (.tuple #[.int .i64 0, .bool false]))) (hm : ∀ e ∈ S.es, e.set_.length ≤ 1000000) :
    Ent (lockAt p S :: F) (callC Try.prog 24 [.pointer (pt p), .int .u64 t] K) := by
  refine ent_mono ?_ fun w => nf24_ok
  unfold nf24
  refine lock_open fun sq r vals hr => ?_
  (repeat (first | refine st ?_ | refine And.intro rfl ?_ | refine sc (by omega) ?_ | refine sc (by simp only [List.length_map, List.length_append, List.length_cons, List.length_nil, List.length_set, List.length_replicate, List.length_singleton] at *; omega) ?_ | refine sc (And.intro (by omega) trivial) ?_ | refine sc (And.intro rfl (Nat.le_of_ble_eq_true rfl)) ?_ | refine sc (And.intro (by simp only [List.length_map, List.length_append, List.length_cons, List.length_nil, List.length_set, List.length_replicate, List.length_singleton] at *; omega) trivial) ?_ | refine sc (by decide) ?_ | refine sc (fun _ => trivial) ?_ | refine And.intro (fun _ => rfl) ?_ | refine sc (fun _ => And.intro (by omega) trivial) ?_))
  rw [hr.2 t]
  intro b
  cases he : ent S.es t with
  | none =>
    rw [show ((Option.map hv (none : Option LE)).getD S_lock_holder.z) = (⟨Sl.nil, 0⟩ : S_lock_holder) from rfl]
    refine ent_nil (cInt .i64) 3 ?_
    (repeat (first | refine st ?_ | refine And.intro rfl ?_ | refine sc (by omega) ?_ | refine sc (by simp only [List.length_map, List.length_append, List.length_cons, List.length_nil, List.length_set, List.length_replicate, List.length_singleton] at *; omega) ?_ | refine sc (And.intro (by omega) trivial) ?_ | refine sc (And.intro rfl (Nat.le_of_ble_eq_true rfl)) ?_ | refine sc (And.intro (by simp only [List.length_map, List.length_append, List.length_cons, List.length_nil, List.length_set, List.length_replicate, List.length_singleton] at *; omega) trivial) ?_ | refine sc (by decide) ?_ | refine sc (fun _ => trivial) ?_ | refine And.intro (fun _ => rfl) ?_ | refine sc (fun _ => And.intro (by omega) trivial) ?_))
    refine bnext_ok (l := []) (by simp) (fun _ hc => absurd hc (by simp)) (fun _ => ?_)
    (repeat (first | refine st ?_ | refine And.intro rfl ?_ | refine sc (by omega) ?_ | refine sc (by simp only [List.length_map, List.length_append, List.length_cons, List.length_nil, List.length_set, List.length_replicate, List.length_singleton] at *; omega) ?_ | refine sc (And.intro (by omega) trivial) ?_ | refine sc (And.intro rfl (Nat.le_of_ble_eq_true rfl)) ?_ | refine sc (And.intro (by simp only [List.length_map, List.length_append, List.length_cons, List.length_nil, List.length_set, List.length_replicate, List.length_singleton] at *; omega) trivial) ?_ | refine sc (by decide) ?_ | refine sc (fun _ => trivial) ?_ | refine And.intro (fun _ => rfl) ?_ | refine sc (fun _ => And.intro (by omega) trivial) ?_))
    exact inc (M := vr p 60 S_lock_Locks.c ⟨sq, S.es.length, some r⟩ :: sl cPtr 56 sq (S.qs.map fun x => pt x.1) :: bg qp S.qs :: mp r .u64 cH vals :: bg ep S.es :: F) (lock_shut hr (h2 (by rw [he]; rfl)))
  | some e =>
    obtain ⟨a1, a2, a3, a4⟩ := ent_some he
    subst a3
    have hk : t.toNat - 1 < S.es.length := by omega
    have hle := hm _ (getD_mem hk)
    haveI r1 : ∀ M, Rs (bg ep S.es :: M) (S.es.getD (t.toNat - 1) default).s (cInt .i64) (S.es.getD (t.toNat - 1) default).set_ := fun M => rs_ep hk M
    generalize hge : S.es.getD (t.toNat - 1) default = e at *
    rw [show ((Option.map hv (some e)).getD S_lock_holder.z) = (⟨e.s, e.held⟩ : S_lock_holder) from rfl]
    (repeat (first | refine st ?_ | refine And.intro rfl ?_ | refine sc (by omega) ?_ | refine sc (by simp only [List.length_map, List.length_append, List.length_cons, List.length_nil, List.length_set, List.length_replicate, List.length_singleton] at *; omega) ?_ | refine sc (And.intro (by omega) trivial) ?_ | refine sc (And.intro rfl (Nat.le_of_ble_eq_true rfl)) ?_ | refine sc (And.intro (by simp only [List.length_map, List.length_append, List.length_cons, List.length_nil, List.length_set, List.length_replicate, List.length_singleton] at *; omega) trivial) ?_ | refine sc (by decide) ?_ | refine sc (fun _ => trivial) ?_ | refine And.intro (fun _ => rfl) ?_ | refine sc (fun _ => And.intro (by omega) trivial) ?_))
    have hb : (ent S.es t).bind nextOf = nextOf e := by rw [he]; rfl
    refine bnext_ok (l := e.set_) (by omega) (fun g1 g2 => ?_) (fun g => ?_)
    · (repeat (first | refine st ?_ | refine And.intro rfl ?_ | refine sc (by omega) ?_ | refine sc (by simp only [List.length_map, List.length_append, List.length_cons, List.length_nil, List.length_set, List.length_replicate, List.length_singleton] at *; omega) ?_ | refine sc (And.intro (by omega) trivial) ?_ | refine sc (And.intro rfl (Nat.le_of_ble_eq_true rfl)) ?_ | refine sc (And.intro (by simp only [List.length_map, List.length_append, List.length_cons, List.length_nil, List.length_set, List.length_replicate, List.length_singleton] at *; omega) trivial) ?_ | refine sc (by decide) ?_ | refine sc (fun _ => trivial) ?_ | refine And.intro (fun _ => rfl) ?_ | refine sc (fun _ => And.intro (by omega) trivial) ?_))
      have g3 : e.held < e.set_.length := Int.ofNat_lt.1 g2
      have : nextOf e = some (e.set_.getD e.held default) := if_pos g3
      exact inc (M := vr p 60 S_lock_Locks.c ⟨sq, S.es.length, some r⟩ :: sl cPtr 56 sq (S.qs.map fun x => pt x.1) :: bg qp S.qs :: mp r .u64 cH vals :: bg ep S.es :: F) (lock_shut hr (h1 _ (by rw [hb, this]; rfl)))
    · (repeat (first | refine st ?_ | refine And.intro rfl ?_ | refine sc (by omega) ?_ | refine sc (by simp only [List.length_map, List.length_append, List.length_cons, List.length_nil, List.length_set, List.length_replicate, List.length_singleton] at *; omega) ?_ | refine sc (And.intro (by omega) trivial) ?_ | refine sc (And.intro rfl (Nat.le_of_ble_eq_true rfl)) ?_ | refine sc (And.intro (by simp only [List.length_map, List.length_append, List.length_cons, List.length_nil, List.length_set, List.length_replicate, List.length_singleton] at *; omega) trivial) ?_ | refine sc (by decide) ?_ | refine sc (fun _ => trivial) ?_ | refine And.intro (fun _ => rfl) ?_ | refine sc (fun _ => And.intro (by omega) trivial) ?_))
      have g3 : ¬ e.held < e.set_.length := fun hc => g ⟨Int.natCast_nonneg _, Int.ofNat_lt.2 hc⟩
      have : nextOf e = none := if_neg g3
      exact inc (M := vr p 60 S_lock_Locks.c ⟨sq, S.es.length, some r⟩ :: sl cPtr 56 sq (S.qs.map fun x => pt x.1) :: bg qp S.qs :: mp r .u64 cH vals :: bg ep S.es :: F) (lock_shut hr (h2 (by rw [hb, this])))
theorem WF.at_ (hw : WF S) {t : Int} {e : LE} (he : ent S.es t = some e) : Rises e.set_ ∧ (∀ x ∈ e.set_, 0 ≤ x ∧ x < S.qs.length) ∧ e.held ≤ e.set_.length := by
  obtain ⟨a1, a2, a3, a4⟩ := ent_some he
  rw [a3]
  exact hw.set_ _ (getD_mem (by omega))
theorem rises_len {l : List Int} {n : Nat} (h : Rises l) (hr : ∀ x ∈ l, 0 ≤ x ∧ x < n) : l.length ≤ n := by
  have hp := rises_pw h
  have key : ∀ i, i < l.length → (i : Int) ≤ l.getD i default := by
    intro i
    induction i with
    | zero => intro hi; exact (hr _ (getD_mem hi)).1
    | succ i ih =>
      intro hi
      have h1 := ih (by omega)
      have h2 := pw_getD hp (Nat.lt_add_one i) hi
      omega
  by_cases hz : l.length = 0
  · omega
  · have h1 := key (l.length - 1) (by omega)
    have h2 := (hr _ (getD_mem (show l.length - 1 < l.length by omega))).2
    omega
theorem WF.sets (hw : WF S) : ∀ e ∈ S.es, e.set_.length ≤ 64 := fun e he => by
  obtain ⟨h1, h2, _⟩ := hw.set_ e he
  have := rises_len h1 h2
  have := hw.n2
  omega
theorem WF.next_in (hw : WF S) {t b : Int} (h : (ent S.es t).bind nextOf = some b) : ∃ e k, ent S.es t = some e ∧ e.held < e.set_.length ∧ b = e.set_.getD e.held default ∧ b = ((k : Nat) : Int) ∧ k < S.qs.length := by
  cases he : ent S.es t with
  | none => rw [he] at h; cases h
  | some e =>
    rw [he] at h
    have h' : nextOf e = some b := h
    unfold nextOf at h'
    split at h'
    · rename_i hl
      cases h'
      have := (hw.at_ he).2.1 _ (getD_mem hl)
      exact ⟨e, (e.set_.getD e.held default).toNat, rfl, hl, rfl, by omega, by omega⟩
    · cases h'
theorem ready_ok (hw : WF S) {t : Int} (h : Ent (lockAt p S :: F) (K (.bool (readyS S.es t)))) : Ent (lockAt p S :: F) (callC Try.prog 9 [.pointer (pt p), .int .u64 t] K) := by
  refine ent_mono ?_ fun w => nf9_ok
  unfold nf9
  refine next_ok (fun b hb => ?_) (fun hb => ?_) (fun e he => by have := hw.sets e he; omega)
  · obtain ⟨e, k, he, hl, e1, rfl, hk⟩ := hw.next_in hb
    (repeat (first | refine st ?_ | refine And.intro rfl ?_ | refine sc (by omega) ?_ | refine sc (by simp only [List.length_map, List.length_append, List.length_cons, List.length_nil, List.length_set, List.length_replicate, List.length_singleton] at *; omega) ?_ | refine sc (And.intro (by omega) trivial) ?_ | refine sc (And.intro rfl (Nat.le_of_ble_eq_true rfl)) ?_ | refine sc (And.intro (by simp only [List.length_map, List.length_append, List.length_cons, List.length_nil, List.length_set, List.length_replicate, List.length_singleton] at *; omega) trivial) ?_ | refine sc (by decide) ?_ | refine sc (fun _ => trivial) ?_ | refine And.intro (fun _ => rfl) ?_ | refine sc (fun _ => And.intro (by omega) trivial) ?_))
    refine lock_open fun sq r vals hr => ?_
    have hg : (S.qs.map fun x => pt x.1).getD k default = pt (S.qs.getD k default).1 := getD_map' hk
    (repeat (first | refine st ?_ | refine And.intro rfl ?_ | refine sc (by omega) ?_ | refine sc (by simp only [List.length_map, List.length_append, List.length_cons, List.length_nil, List.length_set, List.length_replicate, List.length_singleton] at *; omega) ?_ | refine sc (And.intro (by omega) trivial) ?_ | refine sc (And.intro rfl (Nat.le_of_ble_eq_true rfl)) ?_ | refine sc (And.intro (by simp only [List.length_map, List.length_append, List.length_cons, List.length_nil, List.length_set, List.length_replicate, List.length_singleton] at *; omega) trivial) ?_ | refine sc (by decide) ?_ | refine sc (fun _ => trivial) ?_ | refine And.intro (fun _ => rfl) ?_ | refine sc (fun _ => And.intro (by omega) trivial) ?_))
    rw [hg]
    obtain ⟨q1, q2⟩ := hw.q k hk
    have hh : readyS S.es t = decide ((stand S.es (k : Int)).head? = some t) := by unfold readyS; rw [hb]
    refine ent_take (A := bg qp S.qs) (bg_at hk ?_)
    show Ent (qAt (S.qs.getD k default).1 (S.qs.getD k default).2 :: _) _
    have back : Ent (qAt (S.qs.getD k default).1 (S.qs.getD k default).2 :: bg qp (S.qs.eraseIdx k) :: vr p 60 S_lock_Locks.c ⟨sq, S.es.length, some r⟩ :: sl cPtr 56 sq (S.qs.map fun x => pt x.1) :: mp r .u64 cH vals :: bg ep S.es :: F) (K (.bool (readyS S.es t))) :=
      bg_back (f := qp) hk (inc (M := vr p 60 S_lock_Locks.c ⟨sq, S.es.length, some r⟩ :: sl cPtr 56 sq (S.qs.map fun x => pt x.1) :: bg qp S.qs :: mp r .u64 cH vals :: bg ep S.es :: F) (lock_shut hr h))
    refine first_ok (fun hz => ?_) (fun hz => ?_)
    · (repeat (first | refine st ?_ | refine And.intro rfl ?_ | refine sc (by omega) ?_ | refine sc (by simp only [List.length_map, List.length_append, List.length_cons, List.length_nil, List.length_set, List.length_replicate, List.length_singleton] at *; omega) ?_ | refine sc (And.intro (by omega) trivial) ?_ | refine sc (And.intro rfl (Nat.le_of_ble_eq_true rfl)) ?_ | refine sc (And.intro (by simp only [List.length_map, List.length_append, List.length_cons, List.length_nil, List.length_set, List.length_replicate, List.length_singleton] at *; omega) trivial) ?_ | refine sc (by decide) ?_ | refine sc (fun _ => trivial) ?_ | refine And.intro (fun _ => rfl) ?_ | refine sc (fun _ => And.intro (by omega) trivial) ?_))
      rw [hh, ← q1, hz] at back
      exact inc back
    · (repeat (first | refine st ?_ | refine And.intro rfl ?_ | refine sc (by omega) ?_ | refine sc (by simp only [List.length_map, List.length_append, List.length_cons, List.length_nil, List.length_set, List.length_replicate, List.length_singleton] at *; omega) ?_ | refine sc (And.intro (by omega) trivial) ?_ | refine sc (And.intro rfl (Nat.le_of_ble_eq_true rfl)) ?_ | refine sc (And.intro (by simp only [List.length_map, List.length_append, List.length_cons, List.length_nil, List.length_set, List.length_replicate, List.length_singleton] at *; omega) trivial) ?_ | refine sc (by decide) ?_ | refine sc (fun _ => trivial) ?_ | refine And.intro (fun _ => rfl) ?_ | refine sc (fun _ => And.intro (by omega) trivial) ?_))
      have hhd : (stand S.es (k : Int)).head? = some ((S.qs.getD k default).2.list.getD 0 default) := by
        rw [← q1]
        cases hq : (S.qs.getD k default).2.list with
        | nil => exact absurd hq hz
        | cons x l => rfl
      rw [hh, hhd] at back
      refine cs (fun h3 => ?_) (fun h3 => ?_)
      · (repeat (first | refine st ?_ | refine And.intro rfl ?_ | refine sc (by omega) ?_ | refine sc (by simp only [List.length_map, List.length_append, List.length_cons, List.length_nil, List.length_set, List.length_replicate, List.length_singleton] at *; omega) ?_ | refine sc (And.intro (by omega) trivial) ?_ | refine sc (And.intro rfl (Nat.le_of_ble_eq_true rfl)) ?_ | refine sc (And.intro (by simp only [List.length_map, List.length_append, List.length_cons, List.length_nil, List.length_set, List.length_replicate, List.length_singleton] at *; omega) trivial) ?_ | refine sc (by decide) ?_ | refine sc (fun _ => trivial) ?_ | refine And.intro (fun _ => rfl) ?_ | refine sc (fun _ => And.intro (by omega) trivial) ?_))
        rw [h3, decide_eq_true rfl] at back
        exact inc back
      · (repeat (first | refine st ?_ | refine And.intro rfl ?_ | refine sc (by omega) ?_ | refine sc (by simp only [List.length_map, List.length_append, List.length_cons, List.length_nil, List.length_set, List.length_replicate, List.length_singleton] at *; omega) ?_ | refine sc (And.intro (by omega) trivial) ?_ | refine sc (And.intro rfl (Nat.le_of_ble_eq_true rfl)) ?_ | refine sc (And.intro (by simp only [List.length_map, List.length_append, List.length_cons, List.length_nil, List.length_set, List.length_replicate, List.length_singleton] at *; omega) trivial) ?_ | refine sc (by decide) ?_ | refine sc (fun _ => trivial) ?_ | refine And.intro (fun _ => rfl) ?_ | refine sc (fun _ => And.intro (by omega) trivial) ?_))
        rw [decide_eq_false (fun hc => h3 (Option.some.inj hc))] at back
        exact inc back
  · have hh : readyS S.es t = false := by unfold readyS; rw [hb]
    rw [hh] at h
    (repeat (first | refine st ?_ | refine And.intro rfl ?_ | refine sc (by omega) ?_ | refine sc (by simp only [List.length_map, List.length_append, List.length_cons, List.length_nil, List.length_set, List.length_replicate, List.length_singleton] at *; omega) ?_ | refine sc (And.intro (by omega) trivial) ?_ | refine sc (And.intro rfl (Nat.le_of_ble_eq_true rfl)) ?_ | refine sc (And.intro (by simp only [List.length_map, List.length_append, List.length_cons, List.length_nil, List.length_set, List.length_replicate, List.length_singleton] at *; omega) trivial) ?_ | refine sc (by decide) ?_ | refine sc (fun _ => trivial) ?_ | refine And.intro (fun _ => rfl) ?_ | refine sc (fun _ => And.intro (by omega) trivial) ?_))
    exact h
/-! ## Taking -/
def bump (e : LE) : LE := ⟨e.s, e.set_, e.held + 1, e.gone⟩
def takeE (S : LS) (t : Int) : Int := match ent S.es t with
  | none => 110
  | some e => match nextOf e with
    | none => 180
    | some _ => if readyS S.es t = true then 0 else 130
def takeB (S : LS) (t : Int) : Int := if takeE S t = 0 then (match (ent S.es t).bind nextOf with | some b => b | none => 0) else 0
def takeS (S : LS) (t : Int) : LS := if takeE S t = 0 then ⟨S.qs, S.es.set (t.toNat - 1) (bump (S.es.getD (t.toNat - 1) default))⟩ else S
theorem ready_inv {t : Int} (h : readyS S.es t = true) : ∃ e, ent S.es t = some e ∧ e.held < e.set_.length ∧ (stand S.es (e.set_.getD e.held default)).head? = some t := by
  unfold readyS at h
  cases he : ent S.es t with
  | none => rw [he] at h; cases h
  | some e =>
    rw [he] at h
    simp only [Option.bind_some] at h
    unfold nextOf at h
    split at h
    · rename_i hl
      split at hl
      · rename_i hl2
        cases hl
        exact ⟨e, rfl, hl2, of_decide_eq_true h⟩
      · cases hl
    · cases h
theorem take_wf (hw : WF S) {t : Int} : WF (takeS S t) := by
  unfold takeS
  split
  · rename_i hz
    unfold takeE at hz
    cases he : ent S.es t with
    | none => rw [he] at hz; cases hz
    | some e =>
      obtain ⟨a1, a2, a3, a4⟩ := ent_some he
      have hk : t.toNat - 1 < S.es.length := by omega
      rw [he] at hz
      simp only at hz
      have hl : e.held < e.set_.length := by
        unfold nextOf at hz
        split at hz
        · cases hz
        · rename_i hx
          split at hx
          · assumption
          · cases hx
      refine ⟨fun b hb => ?_, fun x hx => ?_, by rw [List.length_set]; exact hw.len, hw.n1, hw.n2⟩
      · show _ = stand (S.es.set _ _) _ ∧ _ ≤ ((S.es.set _ _).length : Int) ∧ _
        rw [stand_held (e := bump (S.es.getD (t.toNat - 1) default)) hk rfl rfl, List.length_set]
        exact hw.q b hb
      · rcases List.mem_or_eq_of_mem_set hx with hx | hx
        · exact hw.set_ x hx
        · rw [hx]
          have := hw.at_ he
          rw [a3] at this hl
          exact ⟨this.1, this.2.1, hl⟩
  · exact hw
theorem take_ok (hw : WF S) {t : Int} (h : Ent (lockAt p (takeS S t) :: F) (K (.tuple #[.int .i64 (takeB S t), .int .i64 (takeE S t)]))) : Ent (lockAt p S :: F) (callC Try.prog 10 [.pointer (pt p), .int .u64 t] K) := by
  refine ent_mono ?_ fun w => nf10_ok
  unfold nf10
  refine lock_open fun sq r vals hr => ?_
  (repeat (first | refine st ?_ | refine And.intro rfl ?_ | refine sc (by omega) ?_ | refine sc (by simp only [List.length_map, List.length_append, List.length_cons, List.length_nil, List.length_set, List.length_replicate, List.length_singleton] at *; omega) ?_ | refine sc (And.intro (by omega) trivial) ?_ | refine sc (And.intro rfl (Nat.le_of_ble_eq_true rfl)) ?_ | refine sc (And.intro (by simp only [List.length_map, List.length_append, List.length_cons, List.length_nil, List.length_set, List.length_replicate, List.length_singleton] at *; omega) trivial) ?_ | refine sc (by decide) ?_ | refine sc (fun _ => trivial) ?_ | refine And.intro (fun _ => rfl) ?_ | refine sc (fun _ => And.intro (by omega) trivial) ?_))
  rw [hr.2 t]
  unfold takeS takeB at h
  have back : ∀ {φ : W}, Ent (lockAt p S :: F) φ → Ent (vr p 60 S_lock_Locks.c ⟨sq, S.es.length, some r⟩ :: sl cPtr 56 sq (S.qs.map fun x => pt x.1) :: bg qp S.qs :: mp r .u64 cH vals :: bg ep S.es :: F) φ := fun h => lock_shut hr h
  cases he : ent S.es t with
  | none =>
    have e1 : takeE S t = 110 := by unfold takeE; rw [he]
    rw [e1, if_neg (by decide), if_neg (by decide)] at h
    intro b
    rw [show ((Option.map hv (none : Option LE)).getD S_lock_holder.z) = (⟨Sl.nil, 0⟩ : S_lock_holder) from rfl]
    simp only [Option.map_none, Option.isSome_none]
    refine ent_nil (cInt .i64) 3 ?_
    (repeat (first | refine st ?_ | refine And.intro rfl ?_ | refine sc (by omega) ?_ | refine sc (by simp only [List.length_map, List.length_append, List.length_cons, List.length_nil, List.length_set, List.length_replicate, List.length_singleton] at *; omega) ?_ | refine sc (And.intro (by omega) trivial) ?_ | refine sc (And.intro rfl (Nat.le_of_ble_eq_true rfl)) ?_ | refine sc (And.intro (by simp only [List.length_map, List.length_append, List.length_cons, List.length_nil, List.length_set, List.length_replicate, List.length_singleton] at *; omega) trivial) ?_ | refine sc (by decide) ?_ | refine sc (fun _ => trivial) ?_ | refine And.intro (fun _ => rfl) ?_ | refine sc (fun _ => And.intro (by omega) trivial) ?_))
    refine bnext_ok (l := []) (by simp) (fun _ hc => absurd hc (by simp)) (fun _ => ?_)
    (repeat (first | refine st ?_ | refine And.intro rfl ?_ | refine sc (by omega) ?_ | refine sc (by simp only [List.length_map, List.length_append, List.length_cons, List.length_nil, List.length_set, List.length_replicate, List.length_singleton] at *; omega) ?_ | refine sc (And.intro (by omega) trivial) ?_ | refine sc (And.intro rfl (Nat.le_of_ble_eq_true rfl)) ?_ | refine sc (And.intro (by simp only [List.length_map, List.length_append, List.length_cons, List.length_nil, List.length_set, List.length_replicate, List.length_singleton] at *; omega) trivial) ?_ | refine sc (by decide) ?_ | refine sc (fun _ => trivial) ?_ | refine And.intro (fun _ => rfl) ?_ | refine sc (fun _ => And.intro (by omega) trivial) ?_))
    exact inc (back h)
  | some e =>
    obtain ⟨a1, a2, a3, a4⟩ := ent_some he
    have hwe := hw.at_ he
    have hk : t.toNat - 1 < S.es.length := by omega
    have hle := rises_len hwe.1 hwe.2.1
    have hn2 := hw.n2
    haveI r1 : ∀ M, Rs (bg ep S.es :: M) e.s (cInt .i64) e.set_ := fun M => a3 ▸ rs_ep hk M
    have hb : (ent S.es t).bind nextOf = nextOf e := by rw [he]; rfl
    intro b
    rw [show ((Option.map hv (some e)).getD S_lock_holder.z) = (⟨e.s, e.held⟩ : S_lock_holder) from rfl]
    simp only [Option.map_some, Option.isSome_some]
    (repeat (first | refine st ?_ | refine And.intro rfl ?_ | refine sc (by omega) ?_ | refine sc (by simp only [List.length_map, List.length_append, List.length_cons, List.length_nil, List.length_set, List.length_replicate, List.length_singleton] at *; omega) ?_ | refine sc (And.intro (by omega) trivial) ?_ | refine sc (And.intro rfl (Nat.le_of_ble_eq_true rfl)) ?_ | refine sc (And.intro (by simp only [List.length_map, List.length_append, List.length_cons, List.length_nil, List.length_set, List.length_replicate, List.length_singleton] at *; omega) trivial) ?_ | refine sc (by decide) ?_ | refine sc (fun _ => trivial) ?_ | refine And.intro (fun _ => rfl) ?_ | refine sc (fun _ => And.intro (by omega) trivial) ?_))
    refine bnext_ok (l := e.set_) (by omega) (fun g1 g2 => ?_) (fun g => ?_)
    · have g3 : e.held < e.set_.length := Int.ofNat_lt.1 g2
      have hnx : nextOf e = some (e.set_.getD e.held default) := if_pos g3
      (repeat (first | refine st ?_ | refine And.intro rfl ?_ | refine sc (by omega) ?_ | refine sc (by simp only [List.length_map, List.length_append, List.length_cons, List.length_nil, List.length_set, List.length_replicate, List.length_singleton] at *; omega) ?_ | refine sc (And.intro (by omega) trivial) ?_ | refine sc (And.intro rfl (Nat.le_of_ble_eq_true rfl)) ?_ | refine sc (And.intro (by simp only [List.length_map, List.length_append, List.length_cons, List.length_nil, List.length_set, List.length_replicate, List.length_singleton] at *; omega) trivial) ?_ | refine sc (by decide) ?_ | refine sc (fun _ => trivial) ?_ | refine And.intro (fun _ => rfl) ?_ | refine sc (fun _ => And.intro (by omega) trivial) ?_))
      refine inc (M := vr p 60 S_lock_Locks.c ⟨sq, S.es.length, some r⟩ :: sl cPtr 56 sq (S.qs.map fun x => pt x.1) :: bg qp S.qs :: mp r .u64 cH vals :: bg ep S.es :: vr b 63 cH ⟨e.s, e.held⟩ :: F) (lock_shut hr ?_)
      refine ready_ok hw ?_
      cases hrd : readyS S.es t with
      | false =>
        have e1 : takeE S t = 130 := by unfold takeE; rw [he]; simp only [hnx, hrd]; rfl
        rw [e1, if_neg (by decide), if_neg (by decide)] at h
        (repeat (first | refine st ?_ | refine And.intro rfl ?_ | refine sc (by omega) ?_ | refine sc (by simp only [List.length_map, List.length_append, List.length_cons, List.length_nil, List.length_set, List.length_replicate, List.length_singleton] at *; omega) ?_ | refine sc (And.intro (by omega) trivial) ?_ | refine sc (And.intro rfl (Nat.le_of_ble_eq_true rfl)) ?_ | refine sc (And.intro (by simp only [List.length_map, List.length_append, List.length_cons, List.length_nil, List.length_set, List.length_replicate, List.length_singleton] at *; omega) trivial) ?_ | refine sc (by decide) ?_ | refine sc (fun _ => trivial) ?_ | refine And.intro (fun _ => rfl) ?_ | refine sc (fun _ => And.intro (by omega) trivial) ?_))
        exact inc h
      | true =>
        have e1 : takeE S t = 0 := by unfold takeE; rw [he]; simp only [hnx, hrd]; rfl
        rw [e1, if_pos rfl, if_pos rfl, hb, hnx, ← a3] at h
        refine lock_open fun sq r vals hr => ?_
        (repeat (first | refine st ?_ | refine And.intro rfl ?_ | refine sc (by omega) ?_ | refine sc (by simp only [List.length_map, List.length_append, List.length_cons, List.length_nil, List.length_set, List.length_replicate, List.length_singleton] at *; omega) ?_ | refine sc (And.intro (by omega) trivial) ?_ | refine sc (And.intro rfl (Nat.le_of_ble_eq_true rfl)) ?_ | refine sc (And.intro (by simp only [List.length_map, List.length_append, List.length_cons, List.length_nil, List.length_set, List.length_replicate, List.length_singleton] at *; omega) trivial) ?_ | refine sc (by decide) ?_ | refine sc (fun _ => trivial) ?_ | refine And.intro (fun _ => rfl) ?_ | refine sc (fun _ => And.intro (by omega) trivial) ?_))
        have hrel : Rel (upd vals t ⟨e.s, (e.held : Int) + 1⟩) (S.es.set (t.toNat - 1) (bump e)) := by
          refine ⟨upd_uniq hr.1 _ _, fun y => ?_⟩
          rw [lkp_upd, ent_set hk, hr.2 y]
          by_cases hy : y = t
          · rw [if_pos hy, if_pos (by omega), if_pos (show (bump e).gone = false from a4)]; rfl
          · rw [if_neg hy, if_neg (by omega)]
        have hep : bg ep (S.es.set (t.toNat - 1) (bump e)) = bg ep S.es := by
          unfold bg
          congr 1
          apply List.ext_getElem (by simp)
          intro i h1 h2
          rw [List.getElem_map, List.getElem_map, List.getElem_set]
          split
          · rename_i hi
            subst hi
            have : S.es[t.toNat - 1]'hk = e := by rw [a3]; simp [hk]
            rw [this]; rfl
          · rfl
        have hsl : S.es.length = (S.es.set (t.toNat - 1) (bump e)).length := by rw [List.length_set]
        rw [← hep, hsl]
        exact inc (M := vr p 60 S_lock_Locks.c ⟨sq, (S.es.set (t.toNat - 1) (bump e)).length, some r⟩ :: sl cPtr 56 sq (S.qs.map fun x => pt x.1) :: bg qp S.qs :: mp r .u64 cH (upd vals t ⟨e.s, (e.held : Int) + 1⟩) :: bg ep (S.es.set (t.toNat - 1) (bump e)) :: F) (lock_shut (S := ⟨S.qs, S.es.set (t.toNat - 1) (bump e)⟩) hrel h)
    · have g3 : ¬ e.held < e.set_.length := fun hc => g ⟨Int.natCast_nonneg _, Int.ofNat_lt.2 hc⟩
      have hnx : nextOf e = none := if_neg g3
      have e1 : takeE S t = 180 := by unfold takeE; rw [he]; simp only [hnx]
      rw [e1, if_neg (by decide), if_neg (by decide)] at h
      (repeat (first | refine st ?_ | refine And.intro rfl ?_ | refine sc (by omega) ?_ | refine sc (by simp only [List.length_map, List.length_append, List.length_cons, List.length_nil, List.length_set, List.length_replicate, List.length_singleton] at *; omega) ?_ | refine sc (And.intro (by omega) trivial) ?_ | refine sc (And.intro rfl (Nat.le_of_ble_eq_true rfl)) ?_ | refine sc (And.intro (by simp only [List.length_map, List.length_append, List.length_cons, List.length_nil, List.length_set, List.length_replicate, List.length_singleton] at *; omega) trivial) ?_ | refine sc (by decide) ?_ | refine sc (fun _ => trivial) ?_ | refine And.intro (fun _ => rfl) ?_ | refine sc (fun _ => And.intro (by omega) trivial) ?_))
      exact inc (back h)
end
end Go.Proofs.Ytipjamgjgijeeaa
