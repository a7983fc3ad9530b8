/- Fair: are queues and holders as they must be? -/
import Derived.Test.YtipjamgjgijeeaaLo
namespace Go.Proofs.Ytipjamgjgijeeaa
set_option linter.unusedSimpArgs false
set_option linter.unusedVariables false
open Go.Dn
set_option linter.unusedSectionVars false
set_option synthInstance.maxSize 10000
set_option synthInstance.maxHeartbeats 400000
set_option maxHeartbeats 2000000
variable [sd : Side]
/-- Each block that is held is held by the one who stands first. -/
def Fair (es : List LE) : Prop := ∀ k, k < es.length → (es.getD k default).gone = false → ∀ i, i < (es.getD k default).held → (stand es ((es.getD k default).set_.getD i default)).head? = some ((k : Int) + 1)
theorem fair_fresh {S : LS} {ws : List (Sl × List Int)} (h : Fresh S ws) : Fair S.es := fun k hk _ i hi => by
  have := (h.new _ (getD_mem hk)).1
  omega
theorem fair_take {S : LS} (hw : WF S) (hf : Fair S.es) {t : Int} : Fair (takeS S t).es := by
  unfold takeS
  split
  · rename_i hz
    have hrd : readyS S.es t = true := by
      unfold takeE at hz
      cases he : ent S.es t with
      | none => rw [he] at hz; cases hz
      | some e =>
        rw [he] at hz
        simp only at hz
        cases hn : nextOf e with
        | none => rw [hn] at hz; cases hz
        | some b =>
          rw [hn] at hz
          simp only at hz
          split at hz
          · assumption
          · cases hz
    obtain ⟨e, he, hl, hh⟩ := ready_inv hrd
    obtain ⟨a1, a2, a3, a4⟩ := ent_some he
    have hk : t.toNat - 1 < S.es.length := by omega
    intro k hkl hg i hi
    simp only [List.length_set] at hkl
    show (stand (S.es.set _ _) _).head? = _
    rw [stand_held (e := bump (S.es.getD (t.toNat - 1) default)) hk rfl rfl]
    by_cases hkt : k = t.toNat - 1
    · subst hkt
      simp only at hg hi ⊢
      rw [Go.Dn.getD_set_eq hk] at hg hi ⊢
      by_cases hie : i < (S.es.getD (t.toNat - 1) default).held
      · exact hf _ hk hg i hie
      · have hi2 : i < (S.es.getD (t.toNat - 1) default).held + 1 := hi
        have : i = e.held := by rw [a3]; omega
        subst this
        rw [show ((t.toNat - 1 : Nat) : Int) + 1 = t from by omega]
        rw [a3] at hh
        have h2 : (bump (S.es.getD (t.toNat - 1) default)).set_ = (S.es.getD (t.toNat - 1) default).set_ := rfl
        rw [h2, a3]
        exact hh
    · simp only at hg hi ⊢
      rw [Go.Dn.getD_set_ne (fun h => hkt h.symm)] at hg hi ⊢
      exact hf k hkl hg i hi
  · exact hf
theorem fair_drop {es : List LE} (hf : Fair es) {k : Nat} (hk : k < es.length) : Fair (es.set k (ruin (es.getD k default))) := by
  intro j hj hg i hi
  rw [List.length_set] at hj
  rw [stand_gone (e := ruin (es.getD k default)) hk rfl]
  by_cases hjk : j = k
  · subst hjk
    rw [Go.Dn.getD_set_eq hk] at hg
    cases hg
  · rw [Go.Dn.getD_set_ne (fun h => hjk h.symm)] at hg hi ⊢
    have := hf j hj hg i hi
    cases hst : stand es ((es.getD j default).set_.getD i default) with
    | nil => rw [hst] at this; cases this
    | cons x l =>
      rw [hst] at this
      have hx : x = (j : Int) + 1 := Option.some.inj this
      rw [List.filter_cons, if_pos (by rw [decide_eq_true_eq, hx]; omega)]
      exact congrArg some hx
def holds (es : List LE) (b : Int) (k : Nat) : Prop := (es.getD k default).gone = false ∧ b ∈ (es.getD k default).set_.take (es.getD k default).held
theorem holder_iff {S : LS} (hf : Fair S.es) {b : Int} {k : Nat} (hk : k < S.es.length) : holderOf S.es b = some ((k : Int) + 1) ↔ holds S.es b k := by
  constructor
  · intro h
    unfold holderOf at h
    cases hst : (stand S.es b).head? with
    | none => rw [hst] at h; cases h
    | some t =>
      rw [hst] at h
      simp only at h
      split at h
      · rename_i hm
        have ht : t = (k : Int) + 1 := Option.some.inj h
        subst ht
        unfold heldOf at hm
        rw [ent_at hk] at hm
        cases hg : (S.es.getD k default).gone with
        | true => rw [hg] at hm; simp at hm
        | false => rw [hg, if_pos rfl] at hm; exact ⟨hg, hm⟩
      · cases h
  · rintro ⟨hg, hm⟩
    obtain ⟨i, hi, hb⟩ := mem_getD hm
    rw [List.length_take] at hi
    rw [getD_take (by omega)] at hb
    have := hf k hk hg i (by omega)
    rw [hb] at this
    unfold holderOf
    rw [this]
    simp only
    rw [if_pos]
    unfold heldOf
    rw [ent_at hk, if_pos hg]
    exact hm
theorem holder_bound {es : List LE} {b t : Int} (h : holderOf es b = some t) : 1 ≤ t ∧ t ≤ es.length ∧ (stand es b).head? = some t := by
  unfold holderOf at h
  cases hst : (stand es b).head? with
  | none => rw [hst] at h; cases h
  | some x =>
    rw [hst] at h
    simp only at h
    split at h
    · have hx : x = t := Option.some.inj h
      subst hx
      have hm : x ∈ stand es b := List.mem_of_head? hst
      obtain ⟨k, h1, h2, _⟩ := mem_stand.1 hm
      exact ⟨by omega, by omega, rfl⟩
    · cases h
/-- The first so many tickets of a block's queue; the holder among them. -/
def stP (es : List LE) (b : Int) (k : Nat) : List Int := ((List.range k).filter (inQ es b)).map fun (k : Nat) => (k : Int) + 1
theorem stP_yes {es : List LE} {b : Int} {k : Nat} (h : inQ es b k = true) : stP es b (k + 1) = stP es b k ++ [(k : Int) + 1] := by
  unfold stP
  rw [List.range_succ, List.filter_append, List.map_append, List.filter_cons, if_pos h]
  rfl
theorem stP_no {es : List LE} {b : Int} {k : Nat} (h : ¬ inQ es b k = true) : stP es b (k + 1) = stP es b k := by
  unfold stP
  rw [List.range_succ, List.filter_append, List.map_append, List.filter_cons, if_neg h]
  simp
theorem stP_len {es : List LE} {b : Int} {k : Nat} : (stP es b k).length ≤ k := by
  unfold stP
  rw [List.length_map]
  exact Nat.le_trans (List.length_filter_le _ _) (by simp)
def hP (H : Option Int) (k : Nat) : Int := match H with
  | some t => if t ≤ k then t else 0
  | none => 0
theorem hP_yes {k : Nat} : hP (some ((k : Int) + 1)) (k + 1) = (k : Int) + 1 := if_pos (by omega)
theorem hP_zero {k : Nat} : hP (some ((k : Int) + 1)) k = 0 := if_neg (by omega)
theorem hP_no {H : Option Int} {k : Nat} (h : H ≠ some ((k : Int) + 1)) : hP H (k + 1) = hP H k := by
  cases H with
  | none => rfl
  | some t =>
    have : t ≠ (k : Int) + 1 := fun hc => h (by rw [hc])
    unfold hP
    simp only
    by_cases h1 : t ≤ (k : Int)
    · rw [if_pos h1, if_pos (by omega)]
    · rw [if_neg h1, if_neg (by omega)]
section
variable {p : Nat} {S : LS} {w sD sG : Sl} {ws : List (Sl × List Int)} {K : Value → W} {F : List HProp}
def wrest (w sD sG : Sl) (ws : List (Sl × List Int)) (S : LS) (F : List HProp) : List HProp := sl cSl 37 w (ws.map (·.1)) :: bg wp ws :: sl (cInt .i64) 3 sD (S.es.map fun e => (e.held : Int)) :: sl cBool 4 sG (S.es.map (·.gone)) :: F
theorem rs_wp {k : Nat} (hk : k < ws.length) (M : List HProp) : Rs (bg wp ws :: M) (ws.getD k default).1 (cInt .i64) (ws.getD k default).2 :=
  rs_bg (f := wp) (l := ws) (i := k) hk (fun M => (inferInstance : Rs (sl (cInt .i64) 3 (ws.getD k default).1 (ws.getD k default).2 :: M) _ _ _)) M
theorem want_at (hws : ws.map (·.2) = S.es.map (·.set_)) {k : Nat} (hk : k < S.es.length) : (ws.getD k default).2 = (S.es.getD k default).set_ := by
  have hl : ws.length = S.es.length := by have := congrArg List.length hws; simpa using this
  have : (ws.map (·.2)).getD k default = (S.es.map (·.set_)).getD k default := by rw [hws]
  rwa [getD_map' (by omega), getD_map' hk] at this
theorem fair3_ok {k b : Nat} {v45 : Sl} {R : Value → W} {K44 : List Value → W} (hw : WF S) (hf : Fair S.es) (hws : ws.map (·.2) = S.es.map (·.set_)) (hk : k < S.es.length)
    (h : ∀ s, Ent (sl (cInt .u64) 30 s (stP S.es b (k + 1)) :: lockAt p S :: wrest w sD sG ws S F) (K44 [sv s, .int .u64 (hP (holderOf S.es b) (k + 1)), .int .i64 (k + 1 : Nat)])) :
    Ent (sl (cInt .u64) 30 v45 (stP S.es b k) :: lockAt p S :: wrest w sD sG ws S F) (nf19_3 K44 R (sv w) (sv sD) (sv sG) (.int .i64 (S.es.getD k default).set_.length) (.int .i64 b) (sv v45) (.int .u64 (hP (holderOf S.es b) k)) (.int .i64 k)) := by
  unfold wrest at h ⊢
  unfold nf19_3
  have hwl : ws.length = S.es.length := by have := congrArg List.length hws; simpa using this
  have hlen := hw.len
  obtain ⟨hri, hin, hhe⟩ := hw.set_ _ (getD_mem hk)
  have hpw := rises_pw hri
  have hle := rises_len hri hin
  have hn2 := hw.n2
  have hst := stP_len (es := S.es) (b := (b : Int)) (k := k)
  have g1 : (S.es.map (·.gone)).getD k default = (S.es.getD k default).gone := getD_map' hk
  have g2 : (S.es.map fun e => (e.held : Int)).getD k default = ((S.es.getD k default).held : Int) := getD_map' hk
  have g3 : (ws.map (·.1)).getD k default = (ws.getD k default).1 := getD_map' (by omega)
  haveI r1 : ∀ M, Rs (bg wp ws :: M) (ws.getD k default).1 (cInt .i64) (S.es.getD k default).set_ := fun M => want_at hws hk ▸ rs_wp (by omega) M
  have hiff := holder_iff hf (b := (b : Int)) hk
  generalize hge : S.es.getD k default = e at *
  have c1 : inQ S.es b k = true ↔ e.gone = false ∧ (b : Int) ∈ e.set_ := by rw [inQ_iff, hge]
  refine ent_loop (γ := Sl × Nat) (fun t => [sv t.1, .int .u64 (if e.gone = false ∧ (b : Int) ∈ e.set_.take (min t.2 e.held) then (k : Int) + 1 else hP (holderOf S.es b) k), .int .i64 t.2])
    (fun t => sl (cInt .u64) 30 t.1 (stP S.es b k ++ (if e.gone = false ∧ (b : Int) ∈ e.set_.take t.2 then [(k : Int) + 1] else [])) :: lockAt p S :: sl cSl 37 w (ws.map (·.1)) :: bg wp ws :: sl (cInt .i64) 3 sD (S.es.map fun e => (e.held : Int)) :: sl cBool 4 sG (S.es.map (·.gone)) :: F)
    (fun t => t.2 ≤ e.set_.length) (fun t => e.set_.length - t.2) (v45, 0) (by simp only [Nat.zero_min, List.take_zero]; rw [if_neg (by simp)]; rfl) (by simp) ⟨fun _ hs => by rw [List.take_zero, if_neg (by simp), List.append_nil]; exact hs⟩ ?_
  intro ⟨s, i⟩ hi K1 j hK
  simp only [List.headD_cons, List.tail_cons] at *
  refine cs (fun h3 => ?_) (fun h3 => ?_)
  · have hil : i < e.set_.length := by omega
    have htk : e.set_.take (i + 1) = e.set_.take i ++ [e.set_.getD i default] := take_one hil
    (repeat (first | refine st ?_ | refine And.intro rfl ?_ | refine sc (by omega) ?_ | refine sc (by simp only [List.length_map, List.length_append, List.length_cons, List.length_nil, List.length_set, List.length_replicate, List.length_singleton] at *; omega) ?_ | refine sc (And.intro (by omega) trivial) ?_ | refine sc (And.intro rfl (Nat.le_of_ble_eq_true rfl)) ?_ | refine sc (And.intro (by simp only [List.length_map, List.length_append, List.length_cons, List.length_nil, List.length_set, List.length_replicate, List.length_singleton] at *; omega) trivial) ?_ | refine sc (by decide) ?_ | refine sc (fun _ => trivial) ?_ | refine And.intro (fun _ => rfl) ?_ | refine sc (fun _ => And.intro (by omega) trivial) ?_))
    rw [g1]
    cases hg : e.gone with
    | true =>
      unfold nf19_2
      (repeat (first | refine st ?_ | refine And.intro rfl ?_ | refine sc (by omega) ?_ | refine sc (by simp only [List.length_map, List.length_append, List.length_cons, List.length_nil, List.length_set, List.length_replicate, List.length_singleton] at *; omega) ?_ | refine sc (And.intro (by omega) trivial) ?_ | refine sc (And.intro rfl (Nat.le_of_ble_eq_true rfl)) ?_ | refine sc (And.intro (by simp only [List.length_map, List.length_append, List.length_cons, List.length_nil, List.length_set, List.length_replicate, List.length_singleton] at *; omega) trivial) ?_ | refine sc (by decide) ?_ | refine sc (fun _ => trivial) ?_ | refine And.intro (fun _ => rfl) ?_ | refine sc (fun _ => And.intro (by omega) trivial) ?_))
      have h9 := hK (s, i + 1) (by show i + 1 ≤ _; omega) (by show _ - (i + 1) < _; omega)
      simp only [hg, Bool.true_eq_false, false_and, if_false] at h9 ⊢
      exact h9
    | false =>
      (repeat (first | refine st ?_ | refine And.intro rfl ?_ | refine sc (by omega) ?_ | refine sc (by simp only [List.length_map, List.length_append, List.length_cons, List.length_nil, List.length_set, List.length_replicate, List.length_singleton] at *; omega) ?_ | refine sc (And.intro (by omega) trivial) ?_ | refine sc (And.intro rfl (Nat.le_of_ble_eq_true rfl)) ?_ | refine sc (And.intro (by simp only [List.length_map, List.length_append, List.length_cons, List.length_nil, List.length_set, List.length_replicate, List.length_singleton] at *; omega) trivial) ?_ | refine sc (by decide) ?_ | refine sc (fun _ => trivial) ?_ | refine And.intro (fun _ => rfl) ?_ | refine sc (fun _ => And.intro (by omega) trivial) ?_))
      rw [g3]
      (repeat (first | refine st ?_ | refine And.intro rfl ?_ | refine sc (by omega) ?_ | refine sc (by simp only [List.length_map, List.length_append, List.length_cons, List.length_nil, List.length_set, List.length_replicate, List.length_singleton] at *; omega) ?_ | refine sc (And.intro (by omega) trivial) ?_ | refine sc (And.intro rfl (Nat.le_of_ble_eq_true rfl)) ?_ | refine sc (And.intro (by simp only [List.length_map, List.length_append, List.length_cons, List.length_nil, List.length_set, List.length_replicate, List.length_singleton] at *; omega) trivial) ?_ | refine sc (by decide) ?_ | refine sc (fun _ => trivial) ?_ | refine And.intro (fun _ => rfl) ?_ | refine sc (fun _ => And.intro (by omega) trivial) ?_))
      refine cs (fun h4 => ?_) (fun h4 => ?_)
      · have hnot : (b : Int) ∉ e.set_.take i := fun hc => by
          obtain ⟨q, hq1, hq2⟩ := mem_getD hc
          rw [List.length_take] at hq1
          rw [getD_take (by omega)] at hq2
          have := pw_inj hpw (by omega) hil (hq2.trans h4.symm)
          omega
        have hyes : (b : Int) ∈ e.set_.take (i + 1) := by rw [htk, ← h4]; simp
        rw [if_neg (fun hc => hnot hc.2), List.append_nil]
        (repeat (first | refine st ?_ | refine And.intro rfl ?_ | refine sc (by omega) ?_ | refine sc (by simp only [List.length_map, List.length_append, List.length_cons, List.length_nil, List.length_set, List.length_replicate, List.length_singleton] at *; omega) ?_ | refine sc (And.intro (by omega) trivial) ?_ | refine sc (And.intro rfl (Nat.le_of_ble_eq_true rfl)) ?_ | refine sc (And.intro (by simp only [List.length_map, List.length_append, List.length_cons, List.length_nil, List.length_set, List.length_replicate, List.length_singleton] at *; omega) trivial) ?_ | refine sc (by decide) ?_ | refine sc (fun _ => trivial) ?_ | refine And.intro (fun _ => rfl) ?_ | refine sc (fun _ => And.intro (by omega) trivial) ?_))
        intro s2
        (repeat (first | refine st ?_ | refine And.intro rfl ?_ | refine sc (by omega) ?_ | refine sc (by simp only [List.length_map, List.length_append, List.length_cons, List.length_nil, List.length_set, List.length_replicate, List.length_singleton] at *; omega) ?_ | refine sc (And.intro (by omega) trivial) ?_ | refine sc (And.intro rfl (Nat.le_of_ble_eq_true rfl)) ?_ | refine sc (And.intro (by simp only [List.length_map, List.length_append, List.length_cons, List.length_nil, List.length_set, List.length_replicate, List.length_singleton] at *; omega) trivial) ?_ | refine sc (by decide) ?_ | refine sc (fun _ => trivial) ?_ | refine And.intro (fun _ => rfl) ?_ | refine sc (fun _ => And.intro (by omega) trivial) ?_))
        intro s3
        (repeat (first | refine st ?_ | refine And.intro rfl ?_ | refine sc (by omega) ?_ | refine sc (by simp only [List.length_map, List.length_append, List.length_cons, List.length_nil, List.length_set, List.length_replicate, List.length_singleton] at *; omega) ?_ | refine sc (And.intro (by omega) trivial) ?_ | refine sc (And.intro rfl (Nat.le_of_ble_eq_true rfl)) ?_ | refine sc (And.intro (by simp only [List.length_map, List.length_append, List.length_cons, List.length_nil, List.length_set, List.length_replicate, List.length_singleton] at *; omega) trivial) ?_ | refine sc (by decide) ?_ | refine sc (fun _ => trivial) ?_ | refine And.intro (fun _ => rfl) ?_ | refine sc (fun _ => And.intro (by omega) trivial) ?_))
        rw [g2]
        have hno2 : ¬ (false = false ∧ (b : Int) ∈ e.set_.take (min i e.held)) := fun hc => hnot (by
          have := hc.2
          by_cases hm : i ≤ e.held
          · rwa [Nat.min_eq_left hm] at this
          · rw [Nat.min_eq_right (by omega)] at this
            have h5 : e.set_.take e.held = (e.set_.take i).take e.held := by rw [List.take_take, Nat.min_eq_left (by omega)]
            rw [h5] at this
            exact List.mem_of_mem_take this)
        refine cs (fun h5 => ?_) (fun h5 => ?_)
        · have hhd : i < e.held := by omega
          have hH : holderOf S.es b = some ((k : Int) + 1) := hiff.2 ⟨by rw [hge]; exact hg, by
            rw [hge, ← h4]
            have : e.set_.getD i default = (e.set_.take e.held).getD i default := (getD_take hhd).symm
            rw [this]
            exact getD_mem (by rw [List.length_take]; omega)⟩
          (repeat (first | refine st ?_ | refine And.intro rfl ?_ | refine sc (by omega) ?_ | refine sc (by simp only [List.length_map, List.length_append, List.length_cons, List.length_nil, List.length_set, List.length_replicate, List.length_singleton] at *; omega) ?_ | refine sc (And.intro (by omega) trivial) ?_ | refine sc (And.intro rfl (Nat.le_of_ble_eq_true rfl)) ?_ | refine sc (And.intro (by simp only [List.length_map, List.length_append, List.length_cons, List.length_nil, List.length_set, List.length_replicate, List.length_singleton] at *; omega) trivial) ?_ | refine sc (by decide) ?_ | refine sc (fun _ => trivial) ?_ | refine And.intro (fun _ => rfl) ?_ | refine sc (fun _ => And.intro (by omega) trivial) ?_))
          rw [if_neg hno2, hH, hP_zero]
          (repeat (first | refine st ?_ | refine And.intro rfl ?_ | refine sc (by omega) ?_ | refine sc (by simp only [List.length_map, List.length_append, List.length_cons, List.length_nil, List.length_set, List.length_replicate, List.length_singleton] at *; omega) ?_ | refine sc (And.intro (by omega) trivial) ?_ | refine sc (And.intro rfl (Nat.le_of_ble_eq_true rfl)) ?_ | refine sc (And.intro (by simp only [List.length_map, List.length_append, List.length_cons, List.length_nil, List.length_set, List.length_replicate, List.length_singleton] at *; omega) trivial) ?_ | refine sc (by decide) ?_ | refine sc (fun _ => trivial) ?_ | refine And.intro (fun _ => rfl) ?_ | refine sc (fun _ => And.intro (by omega) trivial) ?_))
          refine ct rfl ?_
          unfold nf19_2
          (repeat (first | refine st ?_ | refine And.intro rfl ?_ | refine sc (by omega) ?_ | refine sc (by simp only [List.length_map, List.length_append, List.length_cons, List.length_nil, List.length_set, List.length_replicate, List.length_singleton] at *; omega) ?_ | refine sc (And.intro (by omega) trivial) ?_ | refine sc (And.intro rfl (Nat.le_of_ble_eq_true rfl)) ?_ | refine sc (And.intro (by simp only [List.length_map, List.length_append, List.length_cons, List.length_nil, List.length_set, List.length_replicate, List.length_singleton] at *; omega) trivial) ?_ | refine sc (by decide) ?_ | refine sc (fun _ => trivial) ?_ | refine And.intro (fun _ => rfl) ?_ | refine sc (fun _ => And.intro (by omega) trivial) ?_))
          have h9 := hK (s3, i + 1) (by show i + 1 ≤ _; omega) (by show _ - (i + 1) < _; omega)
          simp only [hg] at h9
          rw [if_pos ⟨trivial, hyes⟩, if_pos ⟨trivial, by rw [Nat.min_eq_left (by omega)]; exact hyes⟩] at h9
          exact inc h9
        · unfold nf19_2
          (repeat (first | refine st ?_ | refine And.intro rfl ?_ | refine sc (by omega) ?_ | refine sc (by simp only [List.length_map, List.length_append, List.length_cons, List.length_nil, List.length_set, List.length_replicate, List.length_singleton] at *; omega) ?_ | refine sc (And.intro (by omega) trivial) ?_ | refine sc (And.intro rfl (Nat.le_of_ble_eq_true rfl)) ?_ | refine sc (And.intro (by simp only [List.length_map, List.length_append, List.length_cons, List.length_nil, List.length_set, List.length_replicate, List.length_singleton] at *; omega) trivial) ?_ | refine sc (by decide) ?_ | refine sc (fun _ => trivial) ?_ | refine And.intro (fun _ => rfl) ?_ | refine sc (fun _ => And.intro (by omega) trivial) ?_))
          rw [if_neg hno2]
          have h9 := hK (s3, i + 1) (by show i + 1 ≤ _; omega) (by show _ - (i + 1) < _; omega)
          simp only [hg] at h9
          rw [if_pos ⟨trivial, hyes⟩, if_neg (fun hc => hno2 (by
            rw [Nat.min_eq_right (show e.held ≤ i by omega)]
            have := hc.2
            rw [Nat.min_eq_right (show e.held ≤ i + 1 by omega)] at this
            exact ⟨rfl, this⟩))] at h9
          exact inc h9
      · unfold nf19_2
        (repeat (first | refine st ?_ | refine And.intro rfl ?_ | refine sc (by omega) ?_ | refine sc (by simp only [List.length_map, List.length_append, List.length_cons, List.length_nil, List.length_set, List.length_replicate, List.length_singleton] at *; omega) ?_ | refine sc (And.intro (by omega) trivial) ?_ | refine sc (And.intro rfl (Nat.le_of_ble_eq_true rfl)) ?_ | refine sc (And.intro (by simp only [List.length_map, List.length_append, List.length_cons, List.length_nil, List.length_set, List.length_replicate, List.length_singleton] at *; omega) trivial) ?_ | refine sc (by decide) ?_ | refine sc (fun _ => trivial) ?_ | refine And.intro (fun _ => rfl) ?_ | refine sc (fun _ => And.intro (by omega) trivial) ?_))
        have h9 := hK (s, i + 1) (by show i + 1 ≤ _; omega) (by show _ - (i + 1) < _; omega)
        simp only [hg] at h9
        have e1 : ((b : Int) ∈ e.set_.take (i + 1)) = ((b : Int) ∈ e.set_.take i) := by
          rw [htk, List.mem_append, List.mem_singleton]
          apply propext
          constructor
          · rintro (h | h)
            · exact h
            · exact absurd h.symm h4
          · exact .inl
        have e2 : ((b : Int) ∈ e.set_.take (min (i + 1) e.held)) = ((b : Int) ∈ e.set_.take (min i e.held)) := by
          by_cases hm : i < e.held
          · rw [Nat.min_eq_left (show i + 1 ≤ e.held by omega), Nat.min_eq_left (show i ≤ e.held by omega), e1]
          · rw [Nat.min_eq_right (show e.held ≤ i + 1 by omega), Nat.min_eq_right (show e.held ≤ i by omega)]
        simp only [e1, e2, true_and] at h9 ⊢
        exact h9
  · have hie : i = e.set_.length := by omega
    subst hie
    (repeat (first | refine st ?_ | refine And.intro rfl ?_ | refine sc (by omega) ?_ | refine sc (by simp only [List.length_map, List.length_append, List.length_cons, List.length_nil, List.length_set, List.length_replicate, List.length_singleton] at *; omega) ?_ | refine sc (And.intro (by omega) trivial) ?_ | refine sc (And.intro rfl (Nat.le_of_ble_eq_true rfl)) ?_ | refine sc (And.intro (by simp only [List.length_map, List.length_append, List.length_cons, List.length_nil, List.length_set, List.length_replicate, List.length_singleton] at *; omega) trivial) ?_ | refine sc (by decide) ?_ | refine sc (fun _ => trivial) ?_ | refine And.intro (fun _ => rfl) ?_ | refine sc (fun _ => And.intro (by omega) trivial) ?_))
    have h9 := h s
    rw [List.take_length, Nat.min_eq_right hhe]
    have hho : (holderOf S.es b = some ((k : Int) + 1)) ↔ (e.gone = false ∧ (b : Int) ∈ e.set_.take e.held) := by rw [hiff]; unfold holds; rw [hge]
    have e1 : stP S.es b (k + 1) = stP S.es b k ++ (if e.gone = false ∧ (b : Int) ∈ e.set_ then [(k : Int) + 1] else []) := by
      by_cases hq : inQ S.es b k = true
      · rw [stP_yes hq, if_pos (c1.1 hq)]
      · rw [stP_no hq, if_neg (fun hc => hq (c1.2 hc)), List.append_nil]
    have e2 : hP (holderOf S.es b) (k + 1) = if e.gone = false ∧ (b : Int) ∈ e.set_.take e.held then (k : Int) + 1 else hP (holderOf S.es b) k := by
      by_cases hq : e.gone = false ∧ (b : Int) ∈ e.set_.take e.held
      · rw [if_pos hq, hho.2 hq, hP_yes]
      · rw [if_neg hq, hP_no (fun hc => hq (hho.1 hc))]
    rw [e1, e2] at h9
    exact h9
theorem stP_all {es : List LE} {b : Int} : stP es b es.length = stand es b := rfl
theorem fair4_ok {b : Nat} {v42 : Sl} {R : Value → W} {K39 : List Value → W} (hw : WF S) (hf : Fair S.es) (hws : ws.map (·.2) = S.es.map (·.set_)) (hb : b < S.qs.length)
    (h : Ent (lockAt p S :: wrest w sD sG ws S F) (K39 [.int .i64 (b + 1 : Nat)])) :
    Ent (sl (cInt .u64) 30 v42 (stand S.es b) :: lockAt p S :: wrest w sD sG ws S F) (nf19_4 K39 R (.pointer (pt p)) (sv w) (sv sD) (sv sG) (sv v42) (.int .i64 S.es.length) (.int .i64 b)) := by
  unfold nf19_4
  have hlen := hw.len
  have hwl : ws.length = S.es.length := by have := congrArg List.length hws; simpa using this
  have hsl := stand_len (es := S.es) (b := (b : Int))
  have hn2 := hw.n2
  refine ent_nil (cInt .u64) 30 ?_
  unfold wrest
  refine inc (M := sl (cInt .u64) 30 Sl.nil [] :: lockAt p S :: sl cSl 37 w (ws.map (·.1)) :: bg wp ws :: sl (cInt .i64) 3 sD (S.es.map fun e => (e.held : Int)) :: sl cBool 4 sG (S.es.map (·.gone)) :: sl (cInt .u64) 30 v42 (stand S.es b) :: F) ?_
  refine ent_loop (γ := Sl × Nat) (fun t => [sv t.1, .int .u64 (hP (holderOf S.es b) t.2), .int .i64 t.2]) (fun t => sl (cInt .u64) 30 t.1 (stP S.es b t.2) :: lockAt p S :: wrest w sD sG ws S (sl (cInt .u64) 30 v42 (stand S.es b) :: F))
    (fun t => t.2 ≤ S.es.length) (fun t => S.es.length - t.2) (Sl.nil, 0) (by
      have : hP (holderOf S.es b) 0 = 0 := by
        cases hh : holderOf S.es b with
        | none => rfl
        | some t => exact if_neg (by have := (holder_bound hh).1; omega)
      show _ = [_, Value.int .u64 (hP (holderOf S.es b) 0), _]
      rw [this]; rfl) (by simp) ⟨fun _ hs => hs⟩ ?_
  intro ⟨s, k⟩ hk K1 j hK
  simp only [List.headD_cons, List.tail_cons] at *
  refine cs (fun h3 => ?_) (fun h3 => ?_)
  · have hkl : k < S.es.length := by omega
    have g3 : (ws.map (·.1)).getD k default = (ws.getD k default).1 := getD_map' (by omega)
    haveI r1 : ∀ M, Rs (bg wp ws :: M) (ws.getD k default).1 (cInt .i64) (S.es.getD k default).set_ := fun M => want_at hws hkl ▸ rs_wp (by omega) M
    unfold wrest at hK ⊢
    (repeat (first | refine st ?_ | refine And.intro rfl ?_ | refine sc (by omega) ?_ | refine sc (by simp only [List.length_map, List.length_append, List.length_cons, List.length_nil, List.length_set, List.length_replicate, List.length_singleton] at *; omega) ?_ | refine sc (And.intro (by omega) trivial) ?_ | refine sc (And.intro rfl (Nat.le_of_ble_eq_true rfl)) ?_ | refine sc (And.intro (by simp only [List.length_map, List.length_append, List.length_cons, List.length_nil, List.length_set, List.length_replicate, List.length_singleton] at *; omega) trivial) ?_ | refine sc (by decide) ?_ | refine sc (fun _ => trivial) ?_ | refine And.intro (fun _ => rfl) ?_ | refine sc (fun _ => And.intro (by omega) trivial) ?_))
    rw [g3]
    (repeat (first | refine st ?_ | refine And.intro rfl ?_ | refine sc (by omega) ?_ | refine sc (by simp only [List.length_map, List.length_append, List.length_cons, List.length_nil, List.length_set, List.length_replicate, List.length_singleton] at *; omega) ?_ | refine sc (And.intro (by omega) trivial) ?_ | refine sc (And.intro rfl (Nat.le_of_ble_eq_true rfl)) ?_ | refine sc (And.intro (by simp only [List.length_map, List.length_append, List.length_cons, List.length_nil, List.length_set, List.length_replicate, List.length_singleton] at *; omega) trivial) ?_ | refine sc (by decide) ?_ | refine sc (fun _ => trivial) ?_ | refine And.intro (fun _ => rfl) ?_ | refine sc (fun _ => And.intro (by omega) trivial) ?_))
    exact fair3_ok hw hf hws hkl fun s2 => hK (s2, k + 1) (by show k + 1 ≤ _; omega) (by show _ - (k + 1) < _; omega)
  · have hke : k = S.es.length := by omega
    subst hke
    clear hK
    rw [stP_all]
    unfold wrest at h ⊢
    (repeat (first | refine st ?_ | refine And.intro rfl ?_ | refine sc (by omega) ?_ | refine sc (by simp only [List.length_map, List.length_append, List.length_cons, List.length_nil, List.length_set, List.length_replicate, List.length_singleton] at *; omega) ?_ | refine sc (And.intro (by omega) trivial) ?_ | refine sc (And.intro rfl (Nat.le_of_ble_eq_true rfl)) ?_ | refine sc (And.intro (by simp only [List.length_map, List.length_append, List.length_cons, List.length_nil, List.length_set, List.length_replicate, List.length_singleton] at *; omega) trivial) ?_ | refine sc (by decide) ?_ | refine sc (fun _ => trivial) ?_ | refine And.intro (fun _ => rfl) ?_ | refine sc (fun _ => And.intro (by omega) trivial) ?_))
    refine ent_take (A := lockAt p S) (holder_ok hw hb ?_)
    (repeat (first | refine st ?_ | refine And.intro rfl ?_ | refine sc (by omega) ?_ | refine sc (by simp only [List.length_map, List.length_append, List.length_cons, List.length_nil, List.length_set, List.length_replicate, List.length_singleton] at *; omega) ?_ | refine sc (And.intro (by omega) trivial) ?_ | refine sc (And.intro rfl (Nat.le_of_ble_eq_true rfl)) ?_ | refine sc (And.intro (by simp only [List.length_map, List.length_append, List.length_cons, List.length_nil, List.length_set, List.length_replicate, List.length_singleton] at *; omega) trivial) ?_ | refine sc (by decide) ?_ | refine sc (fun _ => trivial) ?_ | refine And.intro (fun _ => rfl) ?_ | refine sc (fun _ => And.intro (by omega) trivial) ?_))
    refine sameTickets_ok (l1 := stand S.es b) (l2 := stand S.es b) (by omega) rfl ?_
    (repeat (first | refine st ?_ | refine And.intro rfl ?_ | refine sc (by omega) ?_ | refine sc (by simp only [List.length_map, List.length_append, List.length_cons, List.length_nil, List.length_set, List.length_replicate, List.length_singleton] at *; omega) ?_ | refine sc (And.intro (by omega) trivial) ?_ | refine sc (And.intro rfl (Nat.le_of_ble_eq_true rfl)) ?_ | refine sc (And.intro (by simp only [List.length_map, List.length_append, List.length_cons, List.length_nil, List.length_set, List.length_replicate, List.length_singleton] at *; omega) trivial) ?_ | refine sc (by decide) ?_ | refine sc (fun _ => trivial) ?_ | refine And.intro (fun _ => rfl) ?_ | refine sc (fun _ => And.intro (by omega) trivial) ?_))
    cases hH : holderOf S.es b with
    | none =>
      have e1 : hP none S.es.length = 0 := rfl
      rw [e1]
      (repeat (first | refine st ?_ | refine And.intro rfl ?_ | refine sc (by omega) ?_ | refine sc (by simp only [List.length_map, List.length_append, List.length_cons, List.length_nil, List.length_set, List.length_replicate, List.length_singleton] at *; omega) ?_ | refine sc (And.intro (by omega) trivial) ?_ | refine sc (And.intro rfl (Nat.le_of_ble_eq_true rfl)) ?_ | refine sc (And.intro (by simp only [List.length_map, List.length_append, List.length_cons, List.length_nil, List.length_set, List.length_replicate, List.length_singleton] at *; omega) trivial) ?_ | refine sc (by decide) ?_ | refine sc (fun _ => trivial) ?_ | refine And.intro (fun _ => rfl) ?_ | refine sc (fun _ => And.intro (by omega) trivial) ?_))
      simp only [Option.isSome_none, Option.getD_none]
      (repeat (first | refine st ?_ | refine And.intro rfl ?_ | refine sc (by omega) ?_ | refine sc (by simp only [List.length_map, List.length_append, List.length_cons, List.length_nil, List.length_set, List.length_replicate, List.length_singleton] at *; omega) ?_ | refine sc (And.intro (by omega) trivial) ?_ | refine sc (And.intro rfl (Nat.le_of_ble_eq_true rfl)) ?_ | refine sc (And.intro (by simp only [List.length_map, List.length_append, List.length_cons, List.length_nil, List.length_set, List.length_replicate, List.length_singleton] at *; omega) trivial) ?_ | refine sc (by decide) ?_ | refine sc (fun _ => trivial) ?_ | refine And.intro (fun _ => rfl) ?_ | refine sc (fun _ => And.intro (by omega) trivial) ?_ | refine ct rfl ?_))
      exact inc h
    | some t =>
      obtain ⟨b1, b2, b3⟩ := holder_bound hH
      have e1 : hP (some t) S.es.length = t := if_pos b2
      have e2 : (stand S.es b).getD 0 default = t := by
        cases hst : stand S.es b with
        | nil => rw [hst] at b3; cases b3
        | cons x l => rw [hst] at b3; exact Option.some.inj b3
      have e3 : 0 < (stand S.es b).length := by
        cases hst : stand S.es b with
        | nil => rw [hst] at b3; cases b3
        | cons x l => simp
      rw [e1]
      (repeat (first | refine st ?_ | refine And.intro rfl ?_ | refine sc (by omega) ?_ | refine sc (by simp only [List.length_map, List.length_append, List.length_cons, List.length_nil, List.length_set, List.length_replicate, List.length_singleton] at *; omega) ?_ | refine sc (And.intro (by omega) trivial) ?_ | refine sc (And.intro rfl (Nat.le_of_ble_eq_true rfl)) ?_ | refine sc (And.intro (by simp only [List.length_map, List.length_append, List.length_cons, List.length_nil, List.length_set, List.length_replicate, List.length_singleton] at *; omega) trivial) ?_ | refine sc (by decide) ?_ | refine sc (fun _ => trivial) ?_ | refine And.intro (fun _ => rfl) ?_ | refine sc (fun _ => And.intro (by omega) trivial) ?_))
      refine cf (by omega) ?_
      simp only [Option.isSome_some, Option.getD_some]
      (repeat (first | refine st ?_ | refine And.intro rfl ?_ | refine sc (by omega) ?_ | refine sc (by simp only [List.length_map, List.length_append, List.length_cons, List.length_nil, List.length_set, List.length_replicate, List.length_singleton] at *; omega) ?_ | refine sc (And.intro (by omega) trivial) ?_ | refine sc (And.intro rfl (Nat.le_of_ble_eq_true rfl)) ?_ | refine sc (And.intro (by simp only [List.length_map, List.length_append, List.length_cons, List.length_nil, List.length_set, List.length_replicate, List.length_singleton] at *; omega) trivial) ?_ | refine sc (by decide) ?_ | refine sc (fun _ => trivial) ?_ | refine And.intro (fun _ => rfl) ?_ | refine sc (fun _ => And.intro (by omega) trivial) ?_ | refine ct rfl ?_))
      rw [e2]
      (repeat (first | refine st ?_ | refine And.intro rfl ?_ | refine sc (by omega) ?_ | refine sc (by simp only [List.length_map, List.length_append, List.length_cons, List.length_nil, List.length_set, List.length_replicate, List.length_singleton] at *; omega) ?_ | refine sc (And.intro (by omega) trivial) ?_ | refine sc (And.intro rfl (Nat.le_of_ble_eq_true rfl)) ?_ | refine sc (And.intro (by simp only [List.length_map, List.length_append, List.length_cons, List.length_nil, List.length_set, List.length_replicate, List.length_singleton] at *; omega) trivial) ?_ | refine sc (by decide) ?_ | refine sc (fun _ => trivial) ?_ | refine And.intro (fun _ => rfl) ?_ | refine sc (fun _ => And.intro (by omega) trivial) ?_ | refine ct rfl ?_))
      exact inc h
theorem fair_ok (hw : WF S) (hf : Fair S.es) (hws : ws.map (·.2) = S.es.map (·.set_)) (h : Ent (lockAt p S :: wrest w sD sG ws S F) (K (.bool true))) :
    Ent (lockAt p S :: wrest w sD sG ws S F) (callC Try.prog 19 [.pointer (pt p), .int .i64 S.qs.length, sv w, sv sD, sv sG] K) := by
  refine ent_mono ?_ fun w => nf19_ok
  unfold nf19
  have hlen := hw.len
  have hn2 := hw.n2
  have hwl : ws.length = S.es.length := by have := congrArg List.length hws; simpa using this
  unfold wrest at h ⊢
  (repeat (first | refine st ?_ | refine And.intro rfl ?_ | refine sc (by omega) ?_ | refine sc (by simp only [List.length_map, List.length_append, List.length_cons, List.length_nil, List.length_set, List.length_replicate, List.length_singleton] at *; omega) ?_ | refine sc (And.intro (by omega) trivial) ?_ | refine sc (And.intro rfl (Nat.le_of_ble_eq_true rfl)) ?_ | refine sc (And.intro (by simp only [List.length_map, List.length_append, List.length_cons, List.length_nil, List.length_set, List.length_replicate, List.length_singleton] at *; omega) trivial) ?_ | refine sc (by decide) ?_ | refine sc (fun _ => trivial) ?_ | refine And.intro (fun _ => rfl) ?_ | refine sc (fun _ => And.intro (by omega) trivial) ?_))
  rw [List.length_map, hwl]
  refine ent_loop (γ := Bool × Nat) (fun t => [.bool t.1, .int .i64 t.2]) (fun _ => lockAt p S :: sl cSl 37 w (ws.map (·.1)) :: bg wp ws :: sl (cInt .i64) 3 sD (S.es.map fun e => (e.held : Int)) :: sl cBool 4 sG (S.es.map (·.gone)) :: F)
    (fun t => t.2 ≤ S.es.length ∧ (t.1 = true → ∀ j, j < t.2 → (S.es.getD j default).gone = true)) (fun t => S.es.length - t.2) (true, 0) rfl ⟨by simp, fun _ j hj => by simp at hj⟩ inferInstance ?_
  intro ⟨least, k⟩ ⟨hk, hle⟩ K1 j hK
  simp only [List.headD_cons, List.tail_cons] at *
  refine cs (fun h3 => ?_) (fun h3 => ?_)
  · have hkl : k < S.es.length := by omega
    obtain ⟨hri, hin, hhe⟩ := hw.set_ _ (getD_mem hkl)
    have hll := rises_len hri hin
    have g1 : (S.es.map (·.gone)).getD k default = (S.es.getD k default).gone := getD_map' hkl
    have g2 : (S.es.map fun e => (e.held : Int)).getD k default = ((S.es.getD k default).held : Int) := getD_map' hkl
    have g3 : (ws.map (·.1)).getD k default = (ws.getD k default).1 := getD_map' (by omega)
    have hwa := want_at hws hkl
    (repeat (first | refine st ?_ | refine And.intro rfl ?_ | refine sc (by omega) ?_ | refine sc (by simp only [List.length_map, List.length_append, List.length_cons, List.length_nil, List.length_set, List.length_replicate, List.length_singleton] at *; omega) ?_ | refine sc (And.intro (by omega) trivial) ?_ | refine sc (And.intro rfl (Nat.le_of_ble_eq_true rfl)) ?_ | refine sc (And.intro (by simp only [List.length_map, List.length_append, List.length_cons, List.length_nil, List.length_set, List.length_replicate, List.length_singleton] at *; omega) trivial) ?_ | refine sc (by decide) ?_ | refine sc (fun _ => trivial) ?_ | refine And.intro (fun _ => rfl) ?_ | refine sc (fun _ => And.intro (by omega) trivial) ?_))
    rw [g1]
    cases hg : (S.es.getD k default).gone with
    | true =>
      unfold nf19_1
      (repeat (first | refine st ?_ | refine And.intro rfl ?_ | refine sc (by omega) ?_ | refine sc (by simp only [List.length_map, List.length_append, List.length_cons, List.length_nil, List.length_set, List.length_replicate, List.length_singleton] at *; omega) ?_ | refine sc (And.intro (by omega) trivial) ?_ | refine sc (And.intro rfl (Nat.le_of_ble_eq_true rfl)) ?_ | refine sc (And.intro (by simp only [List.length_map, List.length_append, List.length_cons, List.length_nil, List.length_set, List.length_replicate, List.length_singleton] at *; omega) trivial) ?_ | refine sc (by decide) ?_ | refine sc (fun _ => trivial) ?_ | refine And.intro (fun _ => rfl) ?_ | refine sc (fun _ => And.intro (by omega) trivial) ?_))
      exact hK (least, k + 1) ⟨by show k + 1 ≤ _; omega, fun hl j hj => by
        by_cases hjk : j < k
        · exact hle hl j hjk
        · have : j = k := by omega
          subst this; exact hg⟩ (by show _ - (k + 1) < _; omega)
    | false =>
      have hhl : heldOf S.es ((k : Int) + 1) = (S.es.getD k default).set_.take (S.es.getD k default).held := by unfold heldOf; rw [ent_at hkl, if_pos hg]
      refine ent_take (A := bg wp ws) (bg_at (i := k) (by omega) ?_)
      show Ent (sl (cInt .i64) 3 (ws.getD k default).1 (ws.getD k default).2 :: _) _
      rw [hwa]
      refine ent_slen fun c1 c2 => ?_
      (repeat (first | refine st ?_ | refine And.intro rfl ?_ | refine sc (by omega) ?_ | refine sc (by simp only [List.length_map, List.length_append, List.length_cons, List.length_nil, List.length_set, List.length_replicate, List.length_singleton] at *; omega) ?_ | refine sc (And.intro (by omega) trivial) ?_ | refine sc (And.intro rfl (Nat.le_of_ble_eq_true rfl)) ?_ | refine sc (And.intro (by simp only [List.length_map, List.length_append, List.length_cons, List.length_nil, List.length_set, List.length_replicate, List.length_singleton] at *; omega) trivial) ?_ | refine sc (by decide) ?_ | refine sc (fun _ => trivial) ?_ | refine And.intro (fun _ => rfl) ?_ | refine sc (fun _ => And.intro (by omega) trivial) ?_))
      rw [g3, g2]
      (repeat (first | refine st ?_ | refine And.intro rfl ?_ | refine sc (by omega) ?_ | refine sc (by simp only [List.length_map, List.length_append, List.length_cons, List.length_nil, List.length_set, List.length_replicate, List.length_singleton] at *; omega) ?_ | refine sc (And.intro (by omega) trivial) ?_ | refine sc (And.intro rfl (Nat.le_of_ble_eq_true rfl)) ?_ | refine sc (And.intro (by simp only [List.length_map, List.length_append, List.length_cons, List.length_nil, List.length_set, List.length_replicate, List.length_singleton] at *; omega) trivial) ?_ | refine sc (by decide) ?_ | refine sc (fun _ => trivial) ?_ | refine And.intro (fun _ => rfl) ?_ | refine sc (fun _ => And.intro (by omega) trivial) ?_))
      intro s1 hc
      haveI vw : VwOf s1 (cInt .i64) (ws.getD k default).1 0 (S.es.getD k default).held := ⟨hc, by omega⟩
      refine ent_take (A := lockAt p S) (held_ok hw fun s2 => ?_)
      rw [hhl]
      (repeat (first | refine st ?_ | refine And.intro rfl ?_ | refine sc (by omega) ?_ | refine sc (by simp only [List.length_map, List.length_append, List.length_cons, List.length_nil, List.length_set, List.length_replicate, List.length_singleton] at *; omega) ?_ | refine sc (And.intro (by omega) trivial) ?_ | refine sc (And.intro rfl (Nat.le_of_ble_eq_true rfl)) ?_ | refine sc (And.intro (by simp only [List.length_map, List.length_append, List.length_cons, List.length_nil, List.length_set, List.length_replicate, List.length_singleton] at *; omega) trivial) ?_ | refine sc (by decide) ?_ | refine sc (fun _ => trivial) ?_ | refine And.intro (fun _ => rfl) ?_ | refine sc (fun _ => And.intro (by omega) trivial) ?_ | refine And.intro (by rw [g2]) ?_ | refine And.intro (by rw [g3]) ?_))
      refine sameInts_ok (l1 := (S.es.getD k default).set_.take (S.es.getD k default).held) (l2 := ((S.es.getD k default).set_.drop 0).take ((S.es.getD k default).held - 0)) (by rw [List.length_take]; omega) rfl ?_
      (repeat (first | refine st ?_ | refine And.intro rfl ?_ | refine sc (by omega) ?_ | refine sc (by simp only [List.length_map, List.length_append, List.length_cons, List.length_nil, List.length_set, List.length_replicate, List.length_singleton] at *; omega) ?_ | refine sc (And.intro (by omega) trivial) ?_ | refine sc (And.intro rfl (Nat.le_of_ble_eq_true rfl)) ?_ | refine sc (And.intro (by simp only [List.length_map, List.length_append, List.length_cons, List.length_nil, List.length_set, List.length_replicate, List.length_singleton] at *; omega) trivial) ?_ | refine sc (by decide) ?_ | refine sc (fun _ => trivial) ?_ | refine And.intro (fun _ => rfl) ?_ | refine sc (fun _ => And.intro (by omega) trivial) ?_))
      have next : Ent (sl (cInt .i64) 3 (ws.getD k default).1 (S.es.getD k default).set_ :: bg wp (ws.eraseIdx k) :: lockAt p S :: sl cSl 37 w (ws.map (·.1)) :: sl (cInt .i64) 3 sD (S.es.map fun e => (e.held : Int)) :: sl cBool 4 sG (S.es.map (·.gone)) :: F) (K1 [.bool false, .int .i64 (k + 1 : Nat)]) := by
        have b1 := bg_back (f := wp) (l := ws) (i := k) (F := lockAt p S :: sl cSl 37 w (ws.map (·.1)) :: sl (cInt .i64) 3 sD (S.es.map fun e => (e.held : Int)) :: sl cBool 4 sG (S.es.map (·.gone)) :: F) (φ := K1 [.bool false, .int .i64 (k + 1 : Nat)]) (by omega)
          (inc (M := lockAt p S :: sl cSl 37 w (ws.map (·.1)) :: bg wp ws :: sl (cInt .i64) 3 sD (S.es.map fun e => (e.held : Int)) :: sl cBool 4 sG (S.es.map (·.gone)) :: F) (hK (false, k + 1) ⟨by show k + 1 ≤ _; omega, fun hl => by cases hl⟩ (by show _ - (k + 1) < _; omega)))
        rw [show wp (ws.getD k default) = sl (cInt .i64) 3 (ws.getD k default).1 (ws.getD k default).2 from rfl, hwa] at b1
        exact b1
      cases hls : least with
      | false =>
        unfold nf19_1
        (repeat (first | refine st ?_ | refine And.intro rfl ?_ | refine sc (by omega) ?_ | refine sc (by simp only [List.length_map, List.length_append, List.length_cons, List.length_nil, List.length_set, List.length_replicate, List.length_singleton] at *; omega) ?_ | refine sc (And.intro (by omega) trivial) ?_ | refine sc (And.intro rfl (Nat.le_of_ble_eq_true rfl)) ?_ | refine sc (And.intro (by simp only [List.length_map, List.length_append, List.length_cons, List.length_nil, List.length_set, List.length_replicate, List.length_singleton] at *; omega) trivial) ?_ | refine sc (by decide) ?_ | refine sc (fun _ => trivial) ?_ | refine And.intro (fun _ => rfl) ?_ | refine sc (fun _ => And.intro (by omega) trivial) ?_))
        exact inc next
      | true =>
        (repeat (first | refine st ?_ | refine And.intro rfl ?_ | refine sc (by omega) ?_ | refine sc (by simp only [List.length_map, List.length_append, List.length_cons, List.length_nil, List.length_set, List.length_replicate, List.length_singleton] at *; omega) ?_ | refine sc (And.intro (by omega) trivial) ?_ | refine sc (And.intro rfl (Nat.le_of_ble_eq_true rfl)) ?_ | refine sc (And.intro (by simp only [List.length_map, List.length_append, List.length_cons, List.length_nil, List.length_set, List.length_replicate, List.length_singleton] at *; omega) trivial) ?_ | refine sc (by decide) ?_ | refine sc (fun _ => trivial) ?_ | refine And.intro (fun _ => rfl) ?_ | refine sc (fun _ => And.intro (by omega) trivial) ?_))
        rw [g3, g2]
        (repeat (first | refine st ?_ | refine And.intro rfl ?_ | refine sc (by omega) ?_ | refine sc (by simp only [List.length_map, List.length_append, List.length_cons, List.length_nil, List.length_set, List.length_replicate, List.length_singleton] at *; omega) ?_ | refine sc (And.intro (by omega) trivial) ?_ | refine sc (And.intro rfl (Nat.le_of_ble_eq_true rfl)) ?_ | refine sc (And.intro (by simp only [List.length_map, List.length_append, List.length_cons, List.length_nil, List.length_set, List.length_replicate, List.length_singleton] at *; omega) trivial) ?_ | refine sc (by decide) ?_ | refine sc (fun _ => trivial) ?_ | refine And.intro (fun _ => rfl) ?_ | refine sc (fun _ => And.intro (by omega) trivial) ?_))
        refine cs (fun h5 => ?_) (fun h5 => ?_)
        · have hrd : readyS S.es ((k : Int) + 1) = true := by
            unfold readyS
            rw [ent_at hkl, if_pos hg]
            simp only [Option.bind_some]
            have hlt : (S.es.getD k default).held < (S.es.getD k default).set_.length := by omega
            unfold nextOf
            rw [if_pos hlt]
            simp only
            rw [decide_eq_true_eq]
            have hmem : ((k : Int) + 1) ∈ stand S.es ((S.es.getD k default).set_.getD (S.es.getD k default).held default) := mem_stand.2 ⟨k, hkl, rfl, inQ_iff.2 ⟨hg, getD_mem hlt⟩⟩
            cases hst : stand S.es ((S.es.getD k default).set_.getD (S.es.getD k default).held default) with
            | nil => rw [hst] at hmem; cases hmem
            | cons x l =>
              have hx : x ∈ stand S.es ((S.es.getD k default).set_.getD (S.es.getD k default).held default) := by rw [hst]; exact .head _
              obtain ⟨q, q1, q2, q3⟩ := mem_stand.1 hx
              have hqk : ¬ q < k := fun hc => by
                have := hle hls q hc
                have h6 := (inQ_iff.1 q3).1
                rw [this] at h6; cases h6
              rw [hst] at hmem
              rcases List.mem_cons.1 hmem with h7 | h7
              · rw [← h7]; rfl
              · have hp := stand_pw (es := S.es) (b := (S.es.getD k default).set_.getD (S.es.getD k default).held default)
                rw [hst] at hp
                have := (List.pairwise_cons.1 hp).1 _ h7
                omega
          (repeat (first | refine st ?_ | refine And.intro rfl ?_ | refine sc (by omega) ?_ | refine sc (by simp only [List.length_map, List.length_append, List.length_cons, List.length_nil, List.length_set, List.length_replicate, List.length_singleton] at *; omega) ?_ | refine sc (And.intro (by omega) trivial) ?_ | refine sc (And.intro rfl (Nat.le_of_ble_eq_true rfl)) ?_ | refine sc (And.intro (by simp only [List.length_map, List.length_append, List.length_cons, List.length_nil, List.length_set, List.length_replicate, List.length_singleton] at *; omega) trivial) ?_ | refine sc (by decide) ?_ | refine sc (fun _ => trivial) ?_ | refine And.intro (fun _ => rfl) ?_ | refine sc (fun _ => And.intro (by omega) trivial) ?_))
          refine ent_take (A := lockAt p S) (ready_ok hw ?_)
          rw [hrd]
          unfold nf19_1
          (repeat (first | refine st ?_ | refine And.intro rfl ?_ | refine sc (by omega) ?_ | refine sc (by simp only [List.length_map, List.length_append, List.length_cons, List.length_nil, List.length_set, List.length_replicate, List.length_singleton] at *; omega) ?_ | refine sc (And.intro (by omega) trivial) ?_ | refine sc (And.intro rfl (Nat.le_of_ble_eq_true rfl)) ?_ | refine sc (And.intro (by simp only [List.length_map, List.length_append, List.length_cons, List.length_nil, List.length_set, List.length_replicate, List.length_singleton] at *; omega) trivial) ?_ | refine sc (by decide) ?_ | refine sc (fun _ => trivial) ?_ | refine And.intro (fun _ => rfl) ?_ | refine sc (fun _ => And.intro (by omega) trivial) ?_))
          exact inc next
        · unfold nf19_1
          (repeat (first | refine st ?_ | refine And.intro rfl ?_ | refine sc (by omega) ?_ | refine sc (by simp only [List.length_map, List.length_append, List.length_cons, List.length_nil, List.length_set, List.length_replicate, List.length_singleton] at *; omega) ?_ | refine sc (And.intro (by omega) trivial) ?_ | refine sc (And.intro rfl (Nat.le_of_ble_eq_true rfl)) ?_ | refine sc (And.intro (by simp only [List.length_map, List.length_append, List.length_cons, List.length_nil, List.length_set, List.length_replicate, List.length_singleton] at *; omega) trivial) ?_ | refine sc (by decide) ?_ | refine sc (fun _ => trivial) ?_ | refine And.intro (fun _ => rfl) ?_ | refine sc (fun _ => And.intro (by omega) trivial) ?_))
          exact inc next
  · clear hK
    (repeat (first | refine st ?_ | refine And.intro rfl ?_ | refine sc (by omega) ?_ | refine sc (by simp only [List.length_map, List.length_append, List.length_cons, List.length_nil, List.length_set, List.length_replicate, List.length_singleton] at *; omega) ?_ | refine sc (And.intro (by omega) trivial) ?_ | refine sc (And.intro rfl (Nat.le_of_ble_eq_true rfl)) ?_ | refine sc (And.intro (by simp only [List.length_map, List.length_append, List.length_cons, List.length_nil, List.length_set, List.length_replicate, List.length_singleton] at *; omega) trivial) ?_ | refine sc (by decide) ?_ | refine sc (fun _ => trivial) ?_ | refine And.intro (fun _ => rfl) ?_ | refine sc (fun _ => And.intro (by omega) trivial) ?_))
    unfold nf19_5
    refine ent_loop (γ := Nat) (fun b => [.int .i64 b]) (fun _ => lockAt p S :: sl cSl 37 w (ws.map (·.1)) :: bg wp ws :: sl (cInt .i64) 3 sD (S.es.map fun e => (e.held : Int)) :: sl cBool 4 sG (S.es.map (·.gone)) :: F)
      (fun b => b ≤ S.qs.length) (fun b => S.qs.length - b) 0 rfl (by omega) inferInstance ?_
    intro b hb K2 j2 hK
    simp only [List.headD_cons] at *
    refine cs (fun h4 => ?_) (fun h4 => ?_)
    · (repeat (first | refine st ?_ | refine And.intro rfl ?_ | refine sc (by omega) ?_ | refine sc (by simp only [List.length_map, List.length_append, List.length_cons, List.length_nil, List.length_set, List.length_replicate, List.length_singleton] at *; omega) ?_ | refine sc (And.intro (by omega) trivial) ?_ | refine sc (And.intro rfl (Nat.le_of_ble_eq_true rfl)) ?_ | refine sc (And.intro (by simp only [List.length_map, List.length_append, List.length_cons, List.length_nil, List.length_set, List.length_replicate, List.length_singleton] at *; omega) trivial) ?_ | refine sc (by decide) ?_ | refine sc (fun _ => trivial) ?_ | refine And.intro (fun _ => rfl) ?_ | refine sc (fun _ => And.intro (by omega) trivial) ?_))
      refine queue_ok hw (by omega) fun s1 => ?_
      (repeat (first | refine st ?_ | refine And.intro rfl ?_ | refine sc (by omega) ?_ | refine sc (by simp only [List.length_map, List.length_append, List.length_cons, List.length_nil, List.length_set, List.length_replicate, List.length_singleton] at *; omega) ?_ | refine sc (And.intro (by omega) trivial) ?_ | refine sc (And.intro rfl (Nat.le_of_ble_eq_true rfl)) ?_ | refine sc (And.intro (by simp only [List.length_map, List.length_append, List.length_cons, List.length_nil, List.length_set, List.length_replicate, List.length_singleton] at *; omega) trivial) ?_ | refine sc (by decide) ?_ | refine sc (fun _ => trivial) ?_ | refine And.intro (fun _ => rfl) ?_ | refine sc (fun _ => And.intro (by omega) trivial) ?_))
      rw [List.length_map, hwl]
      exact fair4_ok hw hf hws (by omega) (hK (b + 1) (by omega) (by omega))
    · (repeat (first | refine st ?_ | refine And.intro rfl ?_ | refine sc (by omega) ?_ | refine sc (by simp only [List.length_map, List.length_append, List.length_cons, List.length_nil, List.length_set, List.length_replicate, List.length_singleton] at *; omega) ?_ | refine sc (And.intro (by omega) trivial) ?_ | refine sc (And.intro rfl (Nat.le_of_ble_eq_true rfl)) ?_ | refine sc (And.intro (by simp only [List.length_map, List.length_append, List.length_cons, List.length_nil, List.length_set, List.length_replicate, List.length_singleton] at *; omega) trivial) ?_ | refine sc (by decide) ?_ | refine sc (fun _ => trivial) ?_ | refine And.intro (fun _ => rfl) ?_ | refine sc (fun _ => And.intro (by omega) trivial) ?_))
      exact h
end
end Go.Proofs.Ytipjamgjgijeeaa
