/-
  Own framework, part V: what is often wanted: lists by places; remainders; a slice that grows while its earlier states are kept.
  Conditions: none; general over any program.
-/
import Derived.Test.YtipjamgjgijeeaaDnU
set_option linter.unusedSectionVars false
set_option synthInstance.maxSize 10000
set_option synthInstance.maxHeartbeats 400000
set_option maxHeartbeats 2000000
namespace Go.Dn
set_option linter.unusedSimpArgs false
set_option linter.unusedVariables false
variable {P : Program} [sd : Side]
/-! ## Plain facts and the impossible, as pieces -/
def ff : HProp := fun _ => False
theorem ent_ff {φ : W} : Ent [ff] φ := fun w hw => by
  obtain ⟨⟨_, _, _, _, h, _⟩, _⟩ := hw
  exact h.elim
/-- A variable that holds a slice. -/
def slv {α : Type} (b T : Nat) (c : Cd α) (e : TypeId) (xs : List α) : HProp := fun h => ∃ s, stars [vr b T cSl s, sl c e s xs] h
theorem slv_open {α : Type} {b T : Nat} {c : Cd α} {e : TypeId} {xs : List α} {F : List HProp} {φ : W} (h : ∀ s, Ent (vr b T cSl s :: sl c e s xs :: F) φ) : Ent (slv b T c e xs :: F) φ :=
  ent_ex fun s => ent_open (M := [_, _]) (fun _ h => h) (h s)
theorem slv_shut {α : Type} {b T : Nat} {c : Cd α} {e : TypeId} {xs : List α} {F : List HProp} {φ : W} {s : Sl} (h : Ent (slv b T c e xs :: F) φ) : Ent (vr b T cSl s :: sl c e s xs :: F) φ :=
  ent_shut (M := [_, _]) (fun _ h => ⟨s, h⟩) h
abbrev pt (p : Nat) : Option Addr := some ⟨p, 0, none⟩
/-! ## Lists by places -/
theorem take_one {α : Type} [Inhabited α] {l : List α} {i : Nat} (h : i < l.length) : l.take (i + 1) = l.take i ++ [l.getD i default] := by
  rw [List.take_succ_eq_append_getElem h]; simp [h]
theorem getD_mem {α : Type} [Inhabited α] {l : List α} {i : Nat} (h : i < l.length) : l.getD i default ∈ l := by
  rw [List.getD_eq_getElem?_getD, List.getElem?_eq_getElem h]; exact List.getElem_mem h
theorem mem_getD {α : Type} [Inhabited α] {l : List α} {x : α} (h : x ∈ l) : ∃ i, i < l.length ∧ l.getD i default = x := by
  obtain ⟨i, hi, rfl⟩ := List.getElem_of_mem h
  exact ⟨i, hi, by rw [List.getD_eq_getElem?_getD, List.getElem?_eq_getElem hi]; rfl⟩
theorem list_eq_of {α : Type} [Inhabited α] {l1 l2 : List α} (hl : l1.length = l2.length) (h : ∀ j, j < l1.length → l1.getD j default = l2.getD j default) : l1 = l2 := by
  apply List.ext_getElem hl
  intro i h1 h2
  have := h i h1
  simpa [h1, h2] using this
theorem getD_map' {α β : Type} [Inhabited α] [Inhabited β] {f : α → β} {l : List α} {i : Nat} (hi : i < l.length) : (l.map f).getD i default = f (l.getD i default) := by simp [hi]
theorem map_getD_eq {α β : Type} [Inhabited α] [Inhabited β] {f : α → β} {l : List α} {ls : List β} {i : Nat} (h : l.map f = ls) (hi : i < l.length) : ls.getD i default = f (l.getD i default) := by
  rw [← h, getD_map' hi]
theorem drop_getD {α : Type} [Inhabited α] {l : List α} {i : Nat} (h : i < l.length) : l.drop i = l.getD i default :: l.drop (i + 1) := by
  rw [List.drop_eq_getElem_cons h]; simp [h]
theorem getD_set_eq {α : Type} {l : List α} {i : Nat} {a d : α} (h : i < l.length) : (l.set i a).getD i d = a := by simp [h]
theorem getD_set_ne {α : Type} {l : List α} {i j : Nat} {a d : α} (h : i ≠ j) : (l.set i a).getD j d = l.getD j d := by simp [h]
theorem getD_app_l {α : Type} {l1 l2 : List α} {i : Nat} {d : α} (h : i < l1.length) : (l1 ++ l2).getD i d = l1.getD i d := by
  simp only [List.getD_eq_getElem?_getD]; rw [List.getElem?_append_left h]
theorem getD_app_r {α : Type} {l1 l2 : List α} {i : Nat} {d : α} (h : l1.length ≤ i) : (l1 ++ l2).getD i d = l2.getD (i - l1.length) d := by
  simp only [List.getD_eq_getElem?_getD]; rw [List.getElem?_append_right h]
theorem getD_rep {α : Type} {n i : Nat} {a d : α} (h : i < n) : (List.replicate n a).getD i d = a := by
  simp only [List.getD_eq_getElem?_getD, List.getElem?_replicate]; rw [if_pos h]; rfl
theorem getD_take {α : Type} {l : List α} {n i : Nat} {d : α} (h : i < n) : (l.take n).getD i d = l.getD i d := by
  simp only [List.getD_eq_getElem?_getD]; rw [List.getElem?_take_of_lt h]
theorem getD_drop {α : Type} {l : List α} {n i : Nat} {d : α} : (l.drop n).getD i d = l.getD (n + i) d := by
  simp only [List.getD_eq_getElem?_getD]; rw [List.getElem?_drop]
theorem take_set_rep {α : Type} {l : List α} {k : Nat} {x : α} (h : l.take k = List.replicate k x) (hk : k < l.length) : (l.set k x).take (k + 1) = List.replicate (k + 1) x := by
  rw [List.take_succ_eq_append_getElem (by simpa using hk), List.take_set, List.set_eq_of_length_le (by simp; omega), h, List.replicate_succ']
  simp
theorem filter_one {α : Type} [Inhabited α] {q : α → Bool} {l : List α} {i : Nat} (h : i < l.length) : (l.take (i + 1)).filter q = (l.take i).filter q ++ (if q (l.getD i default) = true then [l.getD i default] else []) := by
  rw [take_one h, List.filter_append]
  congr 1
  cases hq : q (l.getD i default) <;> simp [List.filter, -List.getD_eq_getElem?_getD, hq]
theorem filterMap_one {α β : Type} [Inhabited α] {f : α → Option β} {l : List α} {i : Nat} (h : i < l.length) : (l.take (i + 1)).filterMap f = (l.take i).filterMap f ++ (f (l.getD i default)).toList := by
  rw [take_one h, List.filterMap_append]
  congr 1
theorem view_all {α : Type} {l : List α} {x : α} : ((l ++ [x]).drop 0).take (l.length - 0) = l := by simp
theorem view_all2 {α : Type} {l m : List α} : ((l ++ m).drop 0).take (l.length - 0) = l := by simp
theorem tmod_pos {a b : Int} (hb : 0 < b) : (a.tmod b + b).tmod b = a.emod b := by
  have h1 : -b < a.tmod b := by
    have := Int.lt_tmod_of_pos a hb
    omega
  have h2 : a.tmod b < b := Int.tmod_lt_of_pos a hb
  rw [Int.tmod_eq_emod_of_nonneg (by omega)]
  have h3 : (a.tmod b) % b = a % b := by
    have e : a.tmod b + b * a.tdiv b = a := Int.tmod_add_mul_tdiv a b
    have e2 : (a.tmod b + b * a.tdiv b) % b = a.tmod b % b := Int.add_mul_emod_self_left _ _ _
    rw [e] at e2
    exact e2.symm
  rw [Int.add_emod_right, h3]
  rfl
theorem tmod_bound {a b : Int} (hb : 0 < b) : -b < a.tmod b ∧ a.tmod b < b := by
  have := Int.lt_tmod_of_pos a hb
  exact ⟨by omega, Int.tmod_lt_of_pos a hb⟩
theorem emod_bound {a b : Int} (hb : 0 < b) : 0 ≤ a.emod b ∧ a.emod b < b := ⟨Int.emod_nonneg a (by omega), Int.emod_lt_of_pos a hb⟩
/-- What a slice that is none holds. -/
theorem ent_rs {L : List HProp} {s : Sl} {α : Type} {c : Cd α} {xs : List α} {φ : W} [rs : Rs L s c xs] (h : (s.a = none → xs = []) → s.len = xs.length → Ent L φ) : Ent L φ := ent_sat fun w hw => by
  obtain ⟨h1, h2⟩ := rs.out _ hw.1
  refine h (fun ha => ?_) h1
  by_cases hx : xs = []
  · exact hx
  · obtain ⟨b, off, l, T, fz, h3, _⟩ := h2 hx
    rw [h3] at ha; cases ha
instance St.eqMs {L : List HProp} {K : Value → W} {t k e : TypeId} [MpT P t k e] {cx cy : Bool} {r : Nat} : St L (pu P (eqS .eql t cx cy (.map (some r)) (.map none)) K) True (Ent L (K (.bool false))) :=
  ⟨fun _ h => ent_pu (prun_eqB (.inl rfl) (by simp) (by simp) (by simp) (by simp) (by simp) (by simp) prun_eqMp) h⟩
/-! ## A slice that grows while its earlier states are kept -/
/-- 'cur' is owned and holds 'ys'; each noted slice reads as so many of them, whatever block it lies in. -/
def chn {α : Type} (c : Cd α) (e : TypeId) (cur : Sl) (ys : List α) (vs : List (Sl × Nat)) : HProp := fun h => ∃ h1 h2, dsj h1 h2 ∧ h = uni h1 h2 ∧ sl c e cur ys h1 ∧ ∀ x ∈ vs, x.2 ≤ ys.length ∧ (Cut c.n cur x.1 0 x.2 ∨ RdOk h2 x.1 c (ys.take x.2))
section
variable {α : Type} {c : Cd α} {e : TypeId} {cur : Sl} {ys : List α} {vs : List (Sl × Nat)} {F : List HProp} {φ : W}
theorem chn_mk (h : Ent (chn c e cur ys [] :: F) φ) : Ent (sl c e cur ys :: F) φ :=
  ent_pre (fun _ hs => sats_head (fun hp hh => ⟨hp, fun _ => none, fun _ => .inr rfl, by funext i; simp [uni], hh, fun _ hx => absurd hx List.not_mem_nil⟩) hs) h
theorem chn_note (h : Ent (chn c e cur ys (vs ++ [(cur, ys.length)]) :: F) φ) : Ent (chn c e cur ys vs :: F) φ :=
  ent_pre (fun _ hs => sats_head (fun hp hh => by
    obtain ⟨h1, h2, d, e1, ha, hv⟩ := hh
    refine ⟨h1, h2, d, e1, ha, fun x hx => ?_⟩
    rcases List.mem_append.1 hx with hx | hx
    · exact hv x hx
    · rw [List.mem_singleton.1 hx]
      refine ⟨Nat.le_refl _, .inl ?_⟩
      have := (sl_len ha).1
      simp only
      rw [← this]
      exact Cut.refl) hs) h
theorem rdOk_cut {h : Hp} {s : Sl} {n : Nat} (hr : RdOk h cur c ys) (hc : Cut c.n cur s 0 n) (hn : n ≤ ys.length) : RdOk h s c (ys.take n) := by
  have := hr.cut hc hn
  simpa using this
theorem chn_rs {L : List HProp} {x : Sl × Nat} (hx : x ∈ vs) : Rs (chn c e cur ys vs :: L) x.1 c (ys.take x.2) := ⟨fun h hs => by
  obtain ⟨g1, g2, d, rfl, ⟨h1, h2, d', rfl, ha, hv⟩, _⟩ := hs
  obtain ⟨hn, hv⟩ := hv x hx
  rcases hv with hv | hv
  · exact ((rdOk_cut (rdOk_sl ha) hv hn).mono uni_l).mono uni_l
  · exact (hv.mono (uni_r d')).mono uni_l⟩
instance Rs.chn {L : List HProp} : Rs (chn c e cur ys vs :: L) cur c ys := ⟨fun h hs => by
  obtain ⟨g1, g2, d, rfl, ⟨h1, h2, d', rfl, ha, hv⟩, _⟩ := hs
  exact ((rdOk_sl ha).mono uni_l).mono uni_l⟩
theorem chn_append {t t' ty : TypeId} [SlT P t e] [SlT P t' e] {z : α} {bytes : Nat} [Ty P e c z bytes] {s2 : Sl} {zs : List α} {K : Value → W} [rs : Rs (chn c e cur ys vs :: F) s2 c zs]
    (hC : (ys.length + zs.length) * bytes ≤ 140737488355328) (h : ∀ s', Ent (chn c e s' (ys ++ zs) vs :: F) (K (sv s'))) :
    Ent (chn c e cur ys vs :: F) (ef P (Builtin.append_ #[t, t'] ty [sv cur, sv s2].toArray) K) := fun w hw => by
  have hr := rs.out _ hw.1
  obtain ⟨⟨g1, g2, d, e1, ⟨h1, h2, d', e2, ha, hv⟩, hL⟩, hside⟩ := hw
  subst e2
  obtain ⟨d1, d2⟩ := dsj_uni.1 (dsj_symm d)
  have hs0 : sats (sl c e cur ys :: (fun h => h = h2) :: F) (hof w) := ⟨h1, uni h2 g2, dsj_uni.2 ⟨d', dsj_symm d1⟩, by rw [e1, uni_assoc], ha, h2, g2, dsj_symm d2, rfl, rfl, hL⟩
  obtain ⟨s', w', r, hs, hsame⟩ := run_append (P := P) (t := t) (t' := t') (ty := ty) (M := (fun h => h = h2) :: F) hs0 hr hC
  refine ⟨_, w', r, h s' w' ⟨?_, sd.keep hsame hside⟩⟩
  have tk : ∀ n, n ≤ ys.length → (ys ++ zs).take n = ys.take n := fun n hn => List.take_append_of_le_length hn
  rcases hs with ⟨hc, hs⟩ | hs
  · obtain ⟨q1, q2, dq, eq, hq, q3, q4, dq', eq', rfl, hF⟩ := hs
    subst eq'
    obtain ⟨dq1, dq2⟩ := dsj_uni.1 dq
    refine ⟨uni q1 q3, q4, dsj_symm (dsj_uni.2 ⟨dsj_symm dq2, dsj_symm dq'⟩), by rw [eq, uni_assoc], ⟨q1, q3, dq1, rfl, hq, fun x hx => ?_⟩, hF⟩
    obtain ⟨hn, hv⟩ := hv x hx
    refine ⟨by rw [List.length_append]; omega, ?_⟩
    rw [tk _ hn]
    exact hv.imp (fun h => hc.trans0 h) id
  · obtain ⟨q1, q2, dq, eq, hq, q3, q4, dq', eq', hold, q5, q6, dq'', eq'', rfl, hF⟩ := hs
    subst eq''; subst eq'
    obtain ⟨a1, a2⟩ := dsj_uni.1 dq
    obtain ⟨a3, a4⟩ := dsj_uni.1 a2
    obtain ⟨b1, b2⟩ := dsj_uni.1 dq'
    refine ⟨uni q1 (uni q3 q5), q6, dsj_symm (dsj_uni.2 ⟨dsj_symm a4, dsj_uni.2 ⟨dsj_symm b2, dsj_symm dq''⟩⟩), by rw [eq, uni_assoc, uni_assoc], ⟨q1, uni q3 q5, dsj_uni.2 ⟨a1, a3⟩, rfl, hq, fun x hx => ?_⟩, hF⟩
    obtain ⟨hn, hv⟩ := hv x hx
    refine ⟨by rw [List.length_append]; omega, .inr ?_⟩
    rw [tk _ hn]
    rcases hv with hv | hv
    · exact (rdOk_cut (rdOk_sl hold) hv hn).mono uni_l
    · exact hv.mono (uni_r b1)
end
end Go.Dn
