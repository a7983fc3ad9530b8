/-
  Own framework, part T: many pieces in one; a slice and what it was grown to; stores through a part; loops that hold ranges.
  Conditions: none; general over any program.
-/
import Derived.Test.YtipjamgjgijeeaaDnS
set_option linter.unusedSectionVars false
set_option synthInstance.maxSize 10000
set_option synthInstance.maxHeartbeats 400000
set_option maxHeartbeats 2000000
namespace Go.Dn
set_option linter.unusedSimpArgs false
set_option linter.unusedVariables false
variable {P : Program} [sd : Side]
theorem sats_perm {L M : List HProp} (hp : L.Perm M) : ∀ h, sats L h → sats M h := by
  induction hp with
  | nil => exact fun _ h => h
  | cons x _ ih => exact fun _ h => sats_tail ih h
  | swap x y l => exact fun _ h => sats_swap h
  | trans _ _ ih1 ih2 => exact fun h hs => ih2 h (ih1 h hs)
theorem perm_at {α : Type} : ∀ (l : List α) (i : Nat) (h : i < l.length), l.Perm (l[i] :: l.eraseIdx i)
  | x :: l, 0, _ => List.Perm.refl _
  | x :: l, i + 1, h => by
    have h1 := perm_at l i (by simpa using h)
    simp only [List.getElem_cons_succ, List.eraseIdx_cons_succ]
    exact (h1.cons x).trans (List.Perm.swap _ _ _)
theorem perm_put {α : Type} : ∀ (l : List α) (i : Nat) (x : α) (h : i < l.length), (x :: l.eraseIdx i).Perm (l.set i x)
  | y :: l, 0, x, _ => List.Perm.refl _
  | y :: l, i + 1, x, h => by
    have h1 := perm_put l i x (by simpa using h)
    simp only [List.eraseIdx_cons_succ, List.set_cons_succ]
    exact (List.Perm.swap _ _ _).trans (h1.cons y)
/-- Many pieces in one. -/
def bg {α : Type} (f : α → HProp) (l : List α) : HProp := stars (l.map f)
section
variable {α : Type} {f : α → HProp} {l : List α} {F : List HProp} {φ : W}
theorem bg_sats {h : Hp} : sats (bg f l :: F) h ↔ sats (l.map f ++ F) h := sats_stars
theorem bg_nil (f : α → HProp) (h : Ent (bg f [] :: F) φ) : Ent F φ := ent_pre (fun _ hs => (bg_sats (f := f) (l := [])).2 hs) h
theorem bg_cons {x : α} (h : Ent (f x :: bg f l :: F) φ) : Ent (bg f (x :: l) :: F) φ :=
  ent_pre (fun hp hs => by
    have h1 : sats (f x :: (l.map f ++ F)) hp := bg_sats.1 hs
    exact sats_tail (fun _ h => bg_sats.2 h) h1) h
theorem bg_push {x : α} (h : Ent (bg f (x :: l) :: F) φ) : Ent (f x :: bg f l :: F) φ :=
  ent_pre (fun hp hs => bg_sats.2 (by
    show sats (f x :: (l.map f ++ F)) hp
    exact sats_tail (fun _ h => bg_sats.1 h) hs)) h
theorem bg_snoc {x : α} (h : Ent (bg f (l ++ [x]) :: F) φ) : Ent (bg f l :: f x :: F) φ :=
  ent_pre (fun hp hs => bg_sats.2 (by
    have h1 : sats (l.map f ++ f x :: F) hp := bg_sats.1 hs
    simpa using h1)) h
theorem bg_at [Inhabited α] {i : Nat} (hi : i < l.length) (h : Ent (f (l.getD i default) :: bg f (l.eraseIdx i) :: F) φ) : Ent (bg f l :: F) φ :=
  ent_pre (fun hp hs => by
    have h1 := bg_sats.1 hs
    have e : l.getD i default = l[i] := by simp [hi]
    have hperm : (l.map f ++ F).Perm (f (l.getD i default) :: ((l.eraseIdx i).map f ++ F)) := by
      rw [e]
      exact ((perm_at l i hi).map f).append_right F
    exact sats_tail (fun _ h => bg_sats.2 h) (sats_perm hperm _ h1)) h
theorem bg_put {i : Nat} {x : α} (hi : i < l.length) (h : Ent (bg f (l.set i x) :: F) φ) : Ent (f x :: bg f (l.eraseIdx i) :: F) φ :=
  ent_pre (fun hp hs => bg_sats.2 (by
    have h1 : sats (f x :: ((l.eraseIdx i).map f ++ F)) hp := sats_tail (fun _ h => bg_sats.1 h) hs
    exact sats_perm (((perm_put l i x hi).map f).append_right F) _ h1)) h
theorem set_self [Inhabited α] {i : Nat} : l.set i (l.getD i default) = l := by
  apply List.ext_getElem (by simp)
  intro k h1 h2
  rw [List.getElem_set]
  split
  · rename_i h; subst h; simp [h2]
  · rfl
theorem bg_back [Inhabited α] {i : Nat} (hi : i < l.length) (h : Ent (bg f l :: F) φ) : Ent (f (l.getD i default) :: bg f (l.eraseIdx i) :: F) φ :=
  bg_put hi (by rw [set_self]; exact h)
theorem bg_map {β : Type} {k : β → α} {l : List β} : bg f (l.map k) = bg (fun x => f (k x)) l := by simp [bg, Function.comp_def]
theorem bg_two {l1 l2 : List α} (h : Ent (bg f (l1 ++ l2) :: F) φ) : Ent (bg f l1 :: bg f l2 :: F) φ :=
  ent_pre (fun hp hs => bg_sats.2 (by
    have h1 : sats (l1.map f ++ bg f l2 :: F) hp := bg_sats.1 hs
    have h2 : sats (bg f l2 :: (l1.map f ++ F)) hp := sats_perm List.perm_middle _ h1
    have h3 : sats (l2.map f ++ (l1.map f ++ F)) hp := bg_sats.1 h2
    rw [List.map_append, List.append_assoc]
    refine sats_perm ?_ _ h3
    rw [← List.append_assoc, ← List.append_assoc]
    exact List.Perm.append_right F List.perm_append_comm)) h
end
/-- Each piece made less. -/
theorem bg_weak {α : Type} {f g : α → HProp} {l : List α} {F : List HProp} {φ : W} (hfg : ∀ x ∈ l, ∀ L h, sats (f x :: L) h → sats (g x :: L) h) (h : Ent (bg g l :: F) φ) : Ent (bg f l :: F) φ :=
  ent_pre (fun hp hs => bg_sats.2 (by
    have h1 := bg_sats.1 hs
    clear hs h
    induction l generalizing hp with
    | nil => exact h1
    | cons x l ih => exact sats_tail (fun hp h2 => ih (fun y hy => hfg y (.tail _ hy)) hp h2) (hfg x (.head _) _ _ h1))) h
/-! ## A slice, and what it was grown to -/
theorem sl_cut {α : Type} {c : Cd α} {e : TypeId} {s s' : Sl} {xs ys : List α} {h : Hp} (hs : sl c e s' (xs ++ ys) h) (hc : Cut c.n s' s 0 xs.length) : sl c e s xs h := by
  have h1 := hc.len
  have h2 := hc.cap
  have h3 := hc.a0
  obtain ⟨a, len, cap⟩ := s
  simp only [Nat.sub_zero] at h1 h2 h3
  subst h1 h2 h3
  rcases hs with ⟨rfl, hnil, hemp⟩ | ⟨b, cap', junk, rfl, hle, hj, rfl⟩
  · have hx : xs = [] := (List.append_eq_nil_iff.1 hnil).1
    subst hx
    exact .inl ⟨rfl, rfl, hemp⟩
  · rw [List.length_append] at hle hj
    refine .inr ⟨b, cap', flat c ys ++ junk, rfl, by omega, ?_, ?_⟩
    · rw [List.length_append, flat_len, hj, ← Nat.add_mul]
      congr 1
      omega
    · rw [flat_append, List.append_assoc]
theorem sl_len {α : Type} {c : Cd α} {e : TypeId} {s : Sl} {xs : List α} {h : Hp} (hs : sl c e s xs h) : s.len = xs.length ∧ xs.length ≤ s.cap := by
  rcases hs with ⟨rfl, rfl, _⟩ | ⟨b, cap, junk, rfl, hle, _, _⟩
  · exact ⟨rfl, Nat.le_refl _⟩
  · exact ⟨rfl, hle⟩
theorem Cut.refl {n : Nat} {s : Sl} : Cut n s s 0 s.len := ⟨rfl, rfl, fun _ => map_add0 _ _⟩
theorem Cut.trans0 {n k l : Nat} {s s' s'' : Sl} (h1 : Cut n s'' s' 0 l) (h2 : Cut n s' s 0 k) : Cut n s'' s 0 k :=
  ⟨h2.len, by rw [h2.cap, h1.cap]; rfl, fun _ => by rw [h2.a0, h1.a0]; exact map_add0 _ _⟩
/-- In one block or in two: 's' with 'xs', and 's'' with 'xs' and 'ys' behind it. -/
def grw {α : Type} (c : Cd α) (e : TypeId) (s s' : Sl) (xs ys : List α) : HProp := fun h =>
  (Cut c.n s' s 0 xs.length ∧ sl c e s' (xs ++ ys) h) ∨ stars [sl c e s' (xs ++ ys), sl c e s xs] h
section
variable {α : Type} {c : Cd α} {e : TypeId} {s s' : Sl} {xs ys : List α} {F : List HProp} {φ : W}
theorem grw_mk (h : Ent (grw c e s s xs [] :: F) φ) : Ent (sl c e s xs :: F) φ :=
  ent_pre (fun _ hs => sats_head (fun hp hh => .inl ⟨by
    have := (sl_len hh).1
    rw [← this]
    exact Cut.refl, by rw [List.append_nil]; exact hh⟩) hs) h
theorem grw_open (h1 : Cut c.n s' s 0 xs.length → Ent (sl c e s' (xs ++ ys) :: F) φ) (h2 : Ent (sl c e s' (xs ++ ys) :: sl c e s xs :: F) φ) : Ent (grw c e s s' xs ys :: F) φ := fun w hw => by
  obtain ⟨⟨g1, g2, d, e1, ha, hL⟩, hside⟩ := hw
  rcases ha with ⟨hc, ha⟩ | ha
  · exact h1 hc w ⟨⟨g1, g2, d, e1, ha, hL⟩, hside⟩
  · exact h2 w ⟨sats_stars.1 ⟨g1, g2, d, e1, ha, hL⟩, hside⟩
theorem grw_in1 (hc : Cut c.n s' s 0 xs.length) (h : Ent (grw c e s s' xs ys :: F) φ) : Ent (sl c e s' (xs ++ ys) :: F) φ := ent_pre (fun _ hs => sats_head (fun _ hh => .inl ⟨hc, hh⟩) hs) h
theorem grw_in2 (h : Ent (grw c e s s' xs ys :: F) φ) : Ent (sl c e s' (xs ++ ys) :: sl c e s xs :: F) φ := ent_shut (M := [_, _]) (fun _ hh => .inr hh) h
instance Rs.grwN {L : List HProp} : Rs (grw c e s s' xs ys :: L) s' c (xs ++ ys) := ⟨fun h hs => by
  obtain ⟨g1, g2, d, rfl, ha, _⟩ := hs
  rcases ha with ⟨_, ha⟩ | ⟨g3, g4, d', rfl, ha, _⟩
  · exact (rdOk_sl ha).mono uni_l
  · exact ((rdOk_sl ha).mono uni_l).mono uni_l⟩
instance Rs.grwO {L : List HProp} : Rs (grw c e s s' xs ys :: L) s c xs := ⟨fun h hs => by
  obtain ⟨g1, g2, d, rfl, ha, _⟩ := hs
  rcases ha with ⟨hc, ha⟩ | ⟨g3, g4, d', rfl, _, g5, g6, d'', rfl, ha, _⟩
  · exact (rdOk_sl (sl_cut ha hc)).mono uni_l
  · exact (((rdOk_sl ha).mono uni_l).mono (uni_r d')).mono uni_l⟩
theorem grw_append {t t' ty : TypeId} [SlT P t e] [SlT P t' e] {z : α} {bytes : Nat} [Ty P e c z bytes] {s2 : Sl} {zs : List α} {K : Value → W} [rs : Rs (grw c e s s' xs ys :: F) s2 c zs]
    (hC : (xs.length + ys.length + zs.length) * bytes ≤ 140737488355328) (h : ∀ s'', Ent (grw c e s s'' xs (ys ++ zs) :: F) (K (sv s''))) :
    Ent (grw c e s s' xs ys :: F) (ef P (Builtin.append_ #[t, t'] ty [sv s', sv s2].toArray) K) := fun w hw => by
  have hr := rs.out _ hw.1
  obtain ⟨⟨g1, g2, d, e1, ha, hL⟩, hside⟩ := hw
  have hC' : ((xs ++ ys).length + zs.length) * bytes ≤ 140737488355328 := by rw [List.length_append]; exact hC
  rcases ha with ⟨hc, ha⟩ | ha
  · obtain ⟨s'', w', r, hs, hsame⟩ := run_append (P := P) (t := t) (t' := t') (ty := ty) (M := F) ⟨g1, g2, d, e1, ha, hL⟩ hr hC'
    refine ⟨_, w', r, h s'' w' ⟨?_, sd.keep hsame hside⟩⟩
    rcases hs with ⟨hc2, hs⟩ | hs
    · exact sats_head (fun _ hh => .inl ⟨hc2.trans0 hc, by rw [← List.append_assoc]; exact hh⟩) hs
    · have h1 : sats (sl c e s'' (xs ++ ys ++ zs) :: sl c e s xs :: F) (hof w') := sats_tail (fun _ hh => sats_head (fun _ hh => sl_cut hh hc) hh) hs
      rw [List.append_assoc] at h1
      exact sats_head (fun _ hh => .inr hh) (sats_stars.2 (show sats ([_, _] ++ F) _ from h1))
  · have h0 : sats (sl c e s' (xs ++ ys) :: sl c e s xs :: F) (hof w) := sats_stars.1 ⟨g1, g2, d, e1, ha, hL⟩
    obtain ⟨s'', w', r, hs, hsame⟩ := run_append (P := P) (t := t) (t' := t') (ty := ty) (M := sl c e s xs :: F) h0 hr hC'
    refine ⟨_, w', r, h s'' w' ⟨?_, sd.keep hsame hside⟩⟩
    have h1 : sats (sl c e s'' (xs ++ ys ++ zs) :: sl c e s xs :: F) (hof w') := by
      rcases hs with ⟨_, hs⟩ | hs
      · exact hs
      · exact sats_tail (fun _ hh => sats_drop hh) hs
    rw [List.append_assoc] at h1
    exact sats_head (fun _ hh => .inr hh) (sats_stars.2 (show sats ([_, _] ++ F) _ from h1))
end
/-! ## Stores through a part -/
theorem ep_view {n : Nat} {s s' : Sl} {hi m : Nat} (h : Cut n s s' 0 hi) : ep s' m = ep s m := by
  unfold ep
  rw [h.a0]
instance (priority := low) Sto.view {L L' : List HProp} {t : TypeId} {s s' : Sl} {α : Type} {c : Cd α} {hi m : Nat} {v : Value} {C : Prop} [vw : VwOf s' c s 0 hi] [so : Sto P L t (ep s m) v L' C] : Sto P L t (ep s' m) v L' C :=
  ⟨fun hC w hw => by rw [ep_view vw.out]; exact so.out hC w hw⟩
/-! ## Rearranging: what is wanted first, what is left over last -/
instance (priority := 500) Inc.cons' {A : HProp} {L L1 M : List HProp} [tk : TakeF A L L1] [ic : Inc L1 M] : Inc L (A :: M) := Inc.cons
instance St.lenckS {L : List HProp} {t e : TypeId} [SlT P t e] {ty : TypeId} {s : Sl} {α : Type} {c : Cd α} {xs : List α} [rs : Rs L s c xs] {b b' : Bool} {u : Value} {A : W} :
    St L (andW (ck P (some (.bool b, b')) (Builtin.len_ #[t] ty [sv s].toArray) u) A) True ((b = b' → u = .int .i64 xs.length) ∧ Ent L A) :=
  ⟨fun _ h w hw => ⟨fun e => by
    have e2 : b = b' := by injection e
    have h1 := (rs.out _ hw.1).1
    rw [h.1 e2, ← h1]
    exact prun_run prun_len w, h.2 w hw⟩⟩
/-! ## Functions as data -/
def fnil : Fv := ⟨.nilFunc, rfl⟩
def mkF (f : Fn) (a b : Array Value) : Fv := ⟨.func f a b, rfl⟩
instance VOf.fn {f : Fn} {a b : Array Value} : VOf cFn (.func f a b) (mkF f a b) := ⟨rfl⟩
instance VOf.fnil : VOf cFn .nilFunc fnil := ⟨rfl⟩
theorem val_mkF {f : Fn} {a b : Array Value} : cFn.val (mkF f a b) = .func f a b := rfl
/-! ## Literals; elements of small arrays within structs -/
instance ToN.l0 : ToN (0 : Int) 0 := ⟨rfl⟩
instance ToN.l1 : ToN (1 : Int) 1 := ⟨rfl⟩
instance ToN.l2 : ToN (2 : Int) 2 := ⟨rfl⟩
instance ToN.l3 : ToN (3 : Int) 3 := ⟨rfl⟩
instance (priority := high) NMul.s1i {k : IntKind} : NMul 1 (cInt k).n 1 := ⟨rfl⟩
instance (priority := high) NMul.s1u : NMul 1 cU8.n 1 := ⟨rfl⟩
instance (priority := low) Pos.su {j : Nat} : Pos j cU8.n j 0 := ⟨by show j = j * 1 + 0; omega⟩
instance (priority := low) Pos.si {j : Nat} {k : IntKind} : Pos j (cInt k).n j 0 := ⟨by show j = j * 1 + 0; omega⟩
instance (priority := high) NMul.s1p : NMul 1 cPtr.n 1 := ⟨rfl⟩
instance (priority := low) Pos.sp {j : Nat} : Pos j cPtr.n j 0 := ⟨by show j = j * 1 + 0; omega⟩
instance (priority := high) NMul.s1s : NMul 1 cSl.n 1 := ⟨rfl⟩
instance (priority := low) Pos.ss {j : Nat} : Pos j cSl.n j 0 := ⟨by show j = j * 1 + 0; omega⟩
instance (priority := high) NMul.s1b : NMul 1 cBool.n 1 := ⟨rfl⟩
instance (priority := low) Pos.sb {j : Nat} : Pos j cBool.n j 0 := ⟨by show j = j * 1 + 0; omega⟩
instance (priority := high) NMul.s1f : NMul 1 cFn.n 1 := ⟨rfl⟩
instance (priority := low) Pos.sf {j : Nat} : Pos j cFn.n j 0 := ⟨by show j = j * 1 + 0; omega⟩
instance (priority := high) NMul.s1m : NMul 1 cMap.n 1 := ⟨rfl⟩
instance (priority := low) Pos.sm {j : Nat} : Pos j cMap.n j 0 := ⟨by show j = j * 1 + 0; omega⟩
theorem SubC.weak {α β : Type} {c : Cd α} {f : Nat} {c' : Cd β} {g : α → β} {s : α → β → α} {C : Prop} (h : SubC c f c' g s C) (hC : C) : SubC c f c' g s True := ⟨fun _ => h.le hC, fun _ => h.get_eq hC, fun _ => h.set_eq hC⟩
theorem SubC.at_ {α β : Type} {c : Cd α} {f f' : Nat} {c' : Cd β} {g : α → β} {s : α → β → α} (h : SubC c f c' g s True) (e : f = f') : SubC c f' c' g s True := e ▸ h
theorem Arr.get0 {α : Type} [Inhabited α] {n : Nat} {x : α} {l : List α} {h : (x :: l).length = n} : (⟨x :: l, h⟩ : Arr n α).get 0 = x := rfl
theorem Arr.get1 {α : Type} [Inhabited α] {n : Nat} {x y : α} {l : List α} {h : (x :: y :: l).length = n} : (⟨x :: y :: l, h⟩ : Arr n α).get 1 = y := rfl
theorem Arr.set0 {α : Type} {n : Nat} {x z : α} {l : List α} {h : (x :: l).length = n} : (⟨x :: l, h⟩ : Arr n α).set 0 z = ⟨z :: l, h⟩ := rfl
theorem Arr.set1 {α : Type} {n : Nat} {x y z : α} {l : List α} {h : (x :: y :: l).length = n} : (⟨x :: y :: l, h⟩ : Arr n α).set 1 z = ⟨x :: z :: l, h⟩ := rfl
/-! ## Pieces brought to the front -/
class FrontV (b : Nat) (L : List HProp) (T : outParam TypeId) {α : outParam Type} (c : outParam (Cd α)) (x : outParam α) (M : outParam (List HProp)) : Prop where
  out : ∀ h, sats L h → sats (vr b T c x :: M) h
instance FrontV.here {α : Type} {b : Nat} {T : TypeId} {c : Cd α} {x : α} {L : List HProp} : FrontV b (vr b T c x :: L) T c x L := ⟨fun _ h => h⟩
instance (priority := low) FrontV.there {α : Type} {b : Nat} {T : TypeId} {c : Cd α} {x : α} {A : HProp} {L M : List HProp} [fv : FrontV b L T c x M] : FrontV b (A :: L) T c x (A :: M) :=
  ⟨fun _ h => sats_swap (sats_tail fv.out h)⟩
theorem ent_frontV (b : Nat) {L : List HProp} {T : TypeId} {α : Type} {c : Cd α} {x : α} {M : List HProp} {φ : W} [fv : FrontV b L T c x M] (h : Ent (vr b T c x :: M) φ) : Ent L φ := ent_pre fv.out h
theorem ent_frontS (s : Sl) {L : List HProp} {e : TypeId} {α : Type} {c : Cd α} {xs : List α} {L' : List α → List HProp} {M : List HProp} {φ : W} [pk : PickS s L e c xs L' M] (h : Ent (sl c e s xs :: M) φ) : Ent L φ := ent_pre pk.out.1 h
/-! ## Loops that hold ranges -/
theorem ent_loopM {γ : Type} {n : Nat} {B : (List Value → List Nat → W) → List Value → List Nat → Env → W} {s0 : List Value} {m0 : List Nat} {L : List HProp} (vals : γ → List Value) (mk : γ → List Nat) (Lg : γ → List HProp) (pure : γ → Prop) (μ : γ → Nat) (g0 : γ)
    (h0 : s0 = vals g0) (hm0 : m0 = mk g0) (hp : pure g0) (hL : Inc L (Lg g0)) (hμ : ∀ g g', vals g = vals g' → μ g = μ g')
    (round : ∀ g, pure g → ∀ (K : List Value → List Nat → W) (j : Env), (∀ g', pure g' → μ g' < μ g → Ent (Lg g') (K (vals g') (mk g'))) → Ent (Lg g) (B K (vals g) (mk g) j)) : Ent L (loopM n B s0 m0) := by
  intro w hw
  let I : List Value → List Nat → W := fun s m w => ∃ g, s = vals g ∧ m = mk g ∧ pure g ∧ Sat (Lg g) w
  let ν : List Value → Nat := fun s => Classical.epsilon fun k => ∃ g, s = vals g ∧ μ g = k
  have hν : ∀ g, ν (vals g) = μ g := fun g => by
    obtain ⟨g', h1, h2⟩ := Classical.epsilon_spec (p := fun k => ∃ g', vals g = vals g' ∧ μ g' = k) ⟨μ g, g, rfl, rfl⟩
    show Classical.epsilon _ = _
    rw [← h2]
    exact hμ _ _ h1.symm
  refine ⟨I, fun s _ => ν s, ⟨g0, h0, hm0, hp, hL.out _ hw.1, hw.2⟩, ?_⟩
  rintro s m j w' _ ⟨g, rfl, rfl, h3, h4⟩
  refine round g h3 _ j (fun g' hp' hlt w'' hw'' => ⟨⟨g', rfl, rfl, hp', hw''⟩, ?_⟩) w' h4
  show ν _ < ν _
  rw [hν, hν]
  exact hlt
/-- A loop that turns one piece alone. -/
theorem ent_loop1 {γ : Type} {n : Nat} {B : (List Value → W) → List Value → Env → W} {s0 : List Value} {M : List HProp} (vals : γ → List Value) (A : γ → HProp) (pure : γ → Prop) (μ : γ → Nat) (g0 : γ)
    (h0 : s0 = vals g0) (hp : pure g0) (round : ∀ g, pure g → ∀ (K : List Value → W) (j : Env), (∀ g', pure g' → μ g' < μ g → Ent (A g' :: M) (K (vals g'))) → Ent (A g :: M) (B K (vals g) j)) : Ent (A g0 :: M) (loopL n B s0) :=
  ent_loop vals (fun g => A g :: M) pure μ g0 h0 hp ⟨fun _ h => h⟩ round
/-- A loop that turns nothing. -/
theorem ent_loop0 {γ : Type} {n : Nat} {B : (List Value → W) → List Value → Env → W} {s0 : List Value} {L : List HProp} (vals : γ → List Value) (pure : γ → Prop) (μ : γ → Nat) (g0 : γ)
    (h0 : s0 = vals g0) (hp : pure g0) (round : ∀ g, pure g → ∀ (K : List Value → W) (j : Env), (∀ g', pure g' → μ g' < μ g → Ent L (K (vals g'))) → Ent L (B K (vals g) j)) : Ent L (loopL n B s0) :=
  ent_loop vals (fun _ => L) pure μ g0 h0 hp ⟨fun _ h => h⟩ round
theorem ent_endMs {m : List Nat} {F : List HProp} {K : W} (h : Ent F K) : Ent (bg dfr m :: F) (endM P m K) := by
  induction m with
  | nil => exact ent_drop h
  | cons r m ih => exact bg_cons (ent_endM ih)
end Go.Dn
