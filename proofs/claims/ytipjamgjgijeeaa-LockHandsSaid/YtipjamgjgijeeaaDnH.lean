/-
  Own framework, part H: assertions on pieces of the heap; lists of them held apart; entailments.
  Conditions: none; general over any program.
-/
import Derived.Test.YtipjamgjgijeeaaDnG
set_option linter.unusedSectionVars false
set_option synthInstance.maxSize 10000
set_option synthInstance.maxHeartbeats 400000
set_option maxHeartbeats 2000000
namespace Go.Dn
set_option linter.unusedSimpArgs false
set_option linter.unusedVariables false
variable {P : Program}

abbrev Hp := Nat → Option Obj
def sng (b : Nat) (o : Obj) : Hp := fun i => if i = b then some o else none
def uni (h1 h2 : Hp) : Hp := fun i => (h1 i).or (h2 i)
def dsj (h1 h2 : Hp) : Prop := ∀ i, h1 i = none ∨ h2 i = none
abbrev HProp := Hp → Prop
def sats : List HProp → Hp → Prop
  | [], _ => True
  | A :: L, h => ∃ h1 h2, dsj h1 h2 ∧ h = uni h1 h2 ∧ A h1 ∧ sats L h2
def hof (w : World) : Hp := fun b => w.heap[b]?
/-- What a world is besides its heap, and stays. -/
structure Same (w w' : World) : Prop where
  os : w'.os = w.os
  tape : w'.tape = w.tape
  output : w'.output = w.output
class Side where
  ok : World → Prop
  keep : ∀ {w w' : World}, Same w w' → ok w → ok w'
instance (priority := low) Side.triv : Side := ⟨fun _ => True, fun _ _ => trivial⟩
variable [sd : Side]
def Sat (L : List HProp) (w : World) : Prop := sats L (hof w) ∧ sd.ok w
def Ent (L : List HProp) (φ : W) : Prop := ∀ w, Sat L w → φ w

theorem dsj_symm {h1 h2 : Hp} (h : dsj h1 h2) : dsj h2 h1 := fun i => (h i).symm
theorem uni_comm {h1 h2 : Hp} (h : dsj h1 h2) : uni h1 h2 = uni h2 h1 := by
  funext i
  rcases h i with hi | hi <;> simp [uni, hi]
theorem uni_assoc (h1 h2 h3 : Hp) : uni (uni h1 h2) h3 = uni h1 (uni h2 h3) := by
  funext i; simp [uni, Option.or_assoc]
theorem dsj_uni {h1 h2 h3 : Hp} : dsj h1 (uni h2 h3) ↔ dsj h1 h2 ∧ dsj h1 h3 := by
  constructor
  · intro h
    refine ⟨fun i => (h i).imp id fun x => ?_, fun i => (h i).imp id fun x => ?_⟩ <;> (simp [uni] at x; simp [x])
  · rintro ⟨ha, hb⟩ i
    rcases ha i with x | x
    · exact .inl x
    · rcases hb i with y | y
      · exact .inl y
      · exact .inr (by simp [uni, x, y])
theorem sats_swap {A B : HProp} {L : List HProp} {h : Hp} (hs : sats (A :: B :: L) h) : sats (B :: A :: L) h := by
  obtain ⟨h1, h2, d, rfl, ha, h3, h4, d', rfl, hb, hl⟩ := hs
  obtain ⟨d1, d2⟩ := dsj_uni.1 d
  refine ⟨h3, uni h1 h4, dsj_uni.2 ⟨dsj_symm d1, d'⟩, ?_, hb, h1, h4, d2, rfl, ha, hl⟩
  rw [← uni_assoc, uni_comm d1, uni_assoc]
theorem sats_tail {A : HProp} {L L' : List HProp} (hl : ∀ h, sats L h → sats L' h) {h : Hp} (hs : sats (A :: L) h) : sats (A :: L') h := by
  obtain ⟨h1, h2, d, e, ha, hL⟩ := hs
  exact ⟨h1, h2, d, e, ha, hl _ hL⟩
theorem sats_head {A B : HProp} {L : List HProp} (hl : ∀ h, A h → B h) {h : Hp} (hs : sats (A :: L) h) : sats (B :: L) h := by
  obtain ⟨h1, h2, d, e, ha, hL⟩ := hs
  exact ⟨h1, h2, d, e, hl _ ha, hL⟩
theorem sats_mono : ∀ {L : List HProp} {h h' : Hp}, (∀ i o, h i = some o → h' i = some o) → sats L h → sats L h'
  | [], _, _, _, _ => trivial
  | A :: L, h, h', hsub, ⟨h1, h2, d, e, ha, hL⟩ => by
    subst e
    refine ⟨h1, fun i => if (h1 i).isSome then none else h' i, fun i => ?_, ?_, ha, sats_mono (h := h2) (fun i o hi => ?_) hL⟩
    · by_cases hx : h1 i = none
      · exact .inl hx
      · exact .inr (if_pos (by cases hy : h1 i <;> simp_all))
    · funext i
      cases hx : h1 i with
      | none => simp [uni, hx]
      | some o => simp only [uni, hx, Option.some_or]; exact hsub i o (by simp [uni, hx])
    · rcases d i with x | x
      · simp only [x, Option.isSome_none, Bool.false_eq_true, if_false]
        exact hsub i o (by simp [uni, x, hi])
      · rw [x] at hi; cases hi
theorem sats_drop {A : HProp} {L : List HProp} {h : Hp} (hs : sats (A :: L) h) : sats L h := by
  obtain ⟨h1, h2, d, rfl, _, hL⟩ := hs
  refine sats_mono (fun i o hi => ?_) hL
  rcases d i with x | x
  · simp [uni, x, hi]
  · rw [x] at hi; cases hi
theorem sats_nil {h : Hp} : sats [] h := trivial
theorem sats_append : ∀ {L M : List HProp} {h : Hp}, sats (L ++ M) h → ∃ h1 h2, dsj h1 h2 ∧ h = uni h1 h2 ∧ sats M h2 ∧ sats L h
  | [], M, h, hs => ⟨fun _ => none, h, fun i => .inl rfl, by funext i; simp [uni], hs, trivial⟩
  | A :: L, M, h, ⟨h1, h2, d, e, ha, hL⟩ => by
    subst e
    obtain ⟨h3, h4, d', rfl, hm, hl⟩ := sats_append hL
    obtain ⟨d1, d2⟩ := dsj_uni.1 d
    exact ⟨uni h1 h3, h4, dsj_symm (dsj_uni.2 ⟨dsj_symm d2, dsj_symm d'⟩), by rw [uni_assoc], hm, h1, _, d, rfl, ha, hl⟩

/-- A block of plain cells. -/
def pl (b : Nat) (T : TypeId) (l : List Value) : HProp := fun h => h = sng b (.cells l.toArray T)
/-- A block of whatever kind. -/
def ob (b : Nat) (o : Obj) : HProp := fun h => h = sng b o
/-- A whole piece of the heap. -/
def own (h0 : Hp) : HProp := fun h => h = h0
/-- Several pieces in one. -/
def stars : List HProp → HProp
  | [] => fun h => ∀ i, h i = none
  | A :: L => fun h => ∃ h1 h2, dsj h1 h2 ∧ h = uni h1 h2 ∧ A h1 ∧ stars L h2
theorem sats_stars : ∀ {M : List HProp} {L : List HProp} {h : Hp}, sats (stars M :: L) h ↔ sats (M ++ L) h
  | [], L, h => by
    constructor
    · rintro ⟨h1, h2, d, rfl, he, hL⟩
      have : uni h1 h2 = h2 := by funext i; simp [uni, he i]
      rw [this]; exact hL
    · intro hL
      exact ⟨fun _ => none, h, fun i => .inl rfl, by funext i; simp [uni], fun i => rfl, hL⟩
  | A :: M, L, h => by
    constructor
    · rintro ⟨h1, h2, d, rfl, ⟨h3, h4, d', rfl, ha, hm⟩, hL⟩
      obtain ⟨d1, d2⟩ := dsj_uni.1 (dsj_symm d)
      refine ⟨h3, uni h4 h2, dsj_uni.2 ⟨d', dsj_symm d1⟩, by rw [uni_assoc], ha, ?_⟩
      exact sats_stars.1 ⟨h4, h2, dsj_symm d2, rfl, hm, hL⟩
    · rintro ⟨h1, h2, d, rfl, ha, hL⟩
      obtain ⟨h3, h4, d', rfl, hm, hL⟩ := sats_stars.2 hL
      obtain ⟨d1, d2⟩ := dsj_uni.1 d
      exact ⟨uni h1 h3, h4, dsj_symm (dsj_uni.2 ⟨dsj_symm d2, dsj_symm d'⟩), by rw [uni_assoc], ⟨h1, h3, d1, rfl, ha, hm⟩, hL⟩

/-! ## Finding a piece -/
/-- The list holds 'R a'; with another argument it is 'L''. -/
class PickF {α : Type} (R : α → HProp) (L : List HProp) (a : outParam α) (L' : outParam (α → List HProp)) : Prop where
  out : ∃ M, (∀ h, sats L h → sats (R a :: M) h) ∧ ∀ a' h, sats (R a' :: M) h → sats (L' a') h
instance PickF.here {α : Type} {R : α → HProp} {a : α} {L : List HProp} : PickF R (R a :: L) a (fun x => R x :: L) :=
  ⟨L, fun _ h => h, fun _ _ h => h⟩
instance (priority := low) PickF.there {α : Type} {R : α → HProp} {A : HProp} {a : α} {L : List HProp} {L' : α → List HProp} [pk : PickF R L a L'] : PickF R (A :: L) a (fun x => A :: L' x) :=
  let ⟨M, h1, h2⟩ := pk.out
  ⟨A :: M, fun _ h => sats_swap (sats_tail h1 h), fun a' _ h => sats_tail (h2 a') (sats_swap h)⟩
/-- A block of cells in the list. -/
class PickB (b : Nat) (L : List HProp) (T : outParam TypeId) (l : outParam (List Value)) (L' : outParam (List Value → List HProp)) : Prop where
  out : ∃ M, (∀ h, sats L h → sats (pl b T l :: M) h) ∧ ∀ l' h, sats (pl b T l' :: M) h → sats (L' l') h
instance PickB.here {b : Nat} {T : TypeId} {l : List Value} {L : List HProp} : PickB b (pl b T l :: L) T l (fun x => pl b T x :: L) :=
  ⟨L, fun _ h => h, fun _ _ h => h⟩
instance (priority := low) PickB.there {b : Nat} {T : TypeId} {l : List Value} {A : HProp} {L : List HProp} {L' : List Value → List HProp} [pk : PickB b L T l L'] : PickB b (A :: L) T l (fun x => A :: L' x) :=
  let ⟨M, h1, h2⟩ := pk.out
  ⟨A :: M, fun _ h => sats_swap (sats_tail h1 h), fun a' _ h => sats_tail (h2 a') (sats_swap h)⟩
/-- A piece to be taken out. -/
class TakeF (A : HProp) (L : List HProp) (M : outParam (List HProp)) : Prop where
  out : ∀ h, sats L h → sats (A :: M) h
instance TakeF.here {A : HProp} {L : List HProp} : TakeF A (A :: L) L := ⟨fun _ h => h⟩
instance (priority := low) TakeF.there {A B : HProp} {L M : List HProp} [tk : TakeF A L M] : TakeF A (B :: L) (B :: M) :=
  ⟨fun _ h => sats_swap (sats_tail tk.out h)⟩

theorem sng_get {b : Nat} {o : Obj} {M : List HProp} {h : Hp} {A : HProp} (hA : ∀ h', A h' → h' = sng b o) (hs : sats (A :: M) h) : h b = some o := by
  obtain ⟨h1, h2, d, rfl, ha, _⟩ := hs
  rw [hA _ ha]
  simp [uni, sng]
theorem PickB.get {b : Nat} {L : List HProp} {T : TypeId} {l : List Value} {L' : List Value → List HProp} (pk : PickB b L T l L') {w : World} (h : Sat L w) :
    w.heap[b]? = some (.cells l.toArray T) := by
  obtain ⟨M, h1, _⟩ := pk.out
  exact sng_get (fun _ h => h) (h1 _ h.1)
theorem sats_set {b : Nat} {o o' : Obj} {M : List HProp} {h h' : Hp} (hs : sats ((fun x => x = sng b o) :: M) h) (hb : h' b = some o') (ho : ∀ i, i ≠ b → h' i = h i) :
    sats ((fun x => x = sng b o') :: M) h' := by
  obtain ⟨h1, h2, d, rfl, rfl, hM⟩ := hs
  have hb2 : h2 b = none := by
    rcases d b with x | x
    · simp [sng] at x
    · exact x
  refine ⟨sng b o', h2, fun i => ?_, ?_, rfl, hM⟩
  · by_cases hi : i = b
    · subst hi; exact .inr hb2
    · exact .inl (by simp [sng, hi])
  · funext i
    by_cases hi : i = b
    · subst hi; rw [hb]; simp [uni, sng]
    · rw [ho i hi]; simp [uni, sng, hi]
theorem PickB.set {b : Nat} {L : List HProp} {T : TypeId} {l : List Value} {L' : List Value → List HProp} (pk : PickB b L T l L') {w w' : World} (h : Sat L w) (l' : List Value)
    (hw : hof w' b = some (.cells l'.toArray T)) (ho : ∀ i, i ≠ b → hof w' i = hof w i) (hs : Same w w') : Sat (L' l') w' := by
  obtain ⟨M, h1, h2⟩ := pk.out
  exact ⟨h2 l' _ (sats_set (h1 _ h.1) hw ho), sd.keep hs h.2⟩
theorem sat_new {L : List HProp} {w : World} (h : Sat L w) (o : Obj) : Sat (ob w.heap.size o :: L) { w with heap := w.heap.push o } := by
  refine ⟨⟨sng w.heap.size o, hof w, fun i => ?_, ?_, rfl, h.1⟩, sd.keep (w := w) ⟨rfl, rfl, rfl⟩ h.2⟩
  · by_cases hi : i = w.heap.size
    · subst hi; exact .inr (by simp [hof])
    · exact .inl (by simp [sng, hi])
  · funext i
    simp only [hof, uni, sng]
    by_cases hi : i = w.heap.size
    · subst hi; simp
    · simp [hi, Array.getElem?_push]

/-! ## Entailments -/
theorem ent_pre {L L' : List HProp} {φ : W} (hl : ∀ h, sats L h → sats L' h) (h : Ent L' φ) : Ent L φ := fun w hw => h w ⟨hl _ hw.1, hw.2⟩
theorem ent_mono {L : List HProp} {φ ψ : W} (h : Ent L φ) (hf : ∀ w, φ w → ψ w) : Ent L ψ := fun w hw => hf w (h w hw)
theorem ent_drop {A : HProp} {L : List HProp} {φ : W} (h : Ent L φ) : Ent (A :: L) φ := ent_pre (fun _ => sats_drop) h
theorem ent_swap {A B : HProp} {L : List HProp} {φ : W} (h : Ent (B :: A :: L) φ) : Ent (A :: B :: L) φ := ent_pre (fun _ => sats_swap) h
/-- Opening a piece that is made of others. -/
theorem ent_open {A : HProp} {M L : List HProp} {φ : W} (hA : ∀ h, A h → stars M h) (h : Ent (M ++ L) φ) : Ent (A :: L) φ :=
  ent_pre (fun _ hs => sats_stars.1 (sats_head hA hs)) h
theorem ent_shut {A : HProp} {M L : List HProp} {φ : W} (hA : ∀ h, stars M h → A h) (h : Ent (A :: L) φ) : Ent (M ++ L) φ :=
  ent_pre (fun _ hs => sats_head hA (sats_stars.2 hs)) h
theorem ent_ex {α : Type} {A : α → HProp} {L : List HProp} {φ : W} (h : ∀ x, Ent (A x :: L) φ) : Ent ((fun hp => ∃ x, A x hp) :: L) φ := by
  intro w hw
  obtain ⟨⟨h1, h2, d, e, ⟨x, hx⟩, hL⟩, hs⟩ := hw
  exact h x w ⟨⟨h1, h2, d, e, hx, hL⟩, hs⟩
/-- A piece brought to the front. -/
theorem ent_take {A : HProp} {L M : List HProp} {φ : W} [tk : TakeF A L M] (h : Ent (A :: M) φ) : Ent L φ := ent_pre tk.out h
/-- A law for one piece, used wherever the piece stands. -/
theorem lift1 {α : Type} {R : α → HProp} {a a' : α} {L : List HProp} {L' : α → List HProp} {φ ψ : W} [pk : PickF R L a L'] (h : ∀ F, Ent (R a' :: F) ψ → Ent (R a :: F) φ)
    (hk : Ent (L' a') ψ) : Ent L φ := by
  obtain ⟨M, h1, h2⟩ := pk.out
  exact ent_pre h1 (h M (ent_pre (h2 a') hk))
end Go.Dn
