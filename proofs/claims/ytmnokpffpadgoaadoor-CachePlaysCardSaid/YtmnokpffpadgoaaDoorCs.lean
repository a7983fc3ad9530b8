/- What the cache's functions do. -/
import Derived.Test.YtmnokpffpadgoaaDoorNf
import Derived.Test.YtmnokpffpadgoaaDoorTy
namespace Go.Proofs.YtmnokpffpadgoaaDoor
set_option linter.unusedSimpArgs false
set_option linter.unusedVariables false
open Go.Dn
set_option linter.unusedSectionVars false
set_option synthInstance.maxSize 10000
set_option synthInstance.maxHeartbeats 400000
set_option maxHeartbeats 2000000
variable [sd : Side]
abbrev E := S_cache_Entry
structure CM where
  ents : List S_cache_Entry
  there : List Bool
  last : Int
  any : Bool
def cacheX (p : Nat) (m : CM) (se sh : Sl) : HProp := fun h => stars [vr p 70 S_cache_Cache.c ⟨se, sh, m.last, m.any⟩, sl S_cache_Entry.c 57 se m.ents, sl cBool 4 sh m.there] h
def cacheAt (p : Nat) (m : CM) : HProp := fun h => ∃ (se sh : Sl), cacheX p m se sh h
theorem cacheX_open {p : Nat} {m : CM} {F : List HProp} {φ : W} {se sh : Sl} (h : Ent (vr p 70 S_cache_Cache.c ⟨se, sh, m.last, m.any⟩ :: sl S_cache_Entry.c 57 se m.ents :: sl cBool 4 sh m.there :: F) φ) : Ent (cacheX p m se sh :: F) φ :=
  ent_open (M := [_, _, _]) (fun _ h => h) h
theorem cacheX_shut {p : Nat} {m : CM} {F : List HProp} {φ : W} {se sh : Sl} (h : Ent (cacheX p m se sh :: F) φ) : Ent (vr p 70 S_cache_Cache.c ⟨se, sh, m.last, m.any⟩ :: sl S_cache_Entry.c 57 se m.ents :: sl cBool 4 sh m.there :: F) φ :=
  ent_shut (M := [_, _, _]) (fun _ h => h) h
theorem cache_open {p : Nat} {m : CM} {F : List HProp} {φ : W} (h : ∀ se sh, Ent (vr p 70 S_cache_Cache.c ⟨se, sh, m.last, m.any⟩ :: sl S_cache_Entry.c 57 se m.ents :: sl cBool 4 sh m.there :: F) φ) : Ent (cacheAt p m :: F) φ :=
  ent_ex fun se => ent_ex fun sh => cacheX_open (h se sh)
theorem cache_openX {p : Nat} {m : CM} {F : List HProp} {φ : W} (h : ∀ se sh, Ent (cacheX p m se sh :: F) φ) : Ent (cacheAt p m :: F) φ :=
  ent_ex fun se => ent_ex fun sh => h se sh
theorem cache_shut {p : Nat} {m : CM} {F : List HProp} {φ : W} {se sh : Sl} (h : Ent (cacheAt p m :: F) φ) : Ent (vr p 70 S_cache_Cache.c ⟨se, sh, m.last, m.any⟩ :: sl S_cache_Entry.c 57 se m.ents :: sl cBool 4 sh m.there :: F) φ :=
  ent_shut (M := [_, _, _]) (fun _ h => ⟨se, sh, h⟩) h
theorem cache_shutX {p : Nat} {m : CM} {F : List HProp} {φ : W} {se sh : Sl} (h : Ent (cacheAt p m :: F) φ) : Ent (cacheX p m se sh :: F) φ :=
  ent_pre (fun _ hs => sats_head (fun _ hh => ⟨se, sh, hh⟩) hs) h
def ff : HProp := fun _ => False
theorem ent_ff {φ : W} : Ent [ff] φ := fun w hw => by
  obtain ⟨⟨_, _, _, _, h, _⟩, _⟩ := hw
  exact h.elim
def pureP (q : Prop) : HProp := fun _ => q
theorem ent_pureP {q : Prop} {L : List HProp} {φ : W} (h : q → Ent L φ) : Ent (pureP q :: L) φ := fun w hw => by
  have hw' := hw
  obtain ⟨⟨_, _, _, _, hq, _⟩, _⟩ := hw
  exact ent_drop (h hq) w hw'
theorem ent_pure {q : Prop} {L : List HProp} {φ : W} (hq : q) (h : Ent (pureP q :: L) φ) : Ent L φ :=
  ent_pre (L' := pureP q :: L) (fun hp hs => ⟨fun _ => none, hp, fun _ => .inl rfl, by funext i; simp [uni], hq, hs⟩) h
/-- A variable that holds a slice. -/
def slv {α : Type} (b T : Nat) (c : Cd α) (e : TypeId) (xs : List α) : HProp := fun h => ∃ s, stars [vr b T cSl s, sl c e s xs] h
theorem slv_open {α : Type} {b T : Nat} {c : Cd α} {e : TypeId} {xs : List α} {F : List HProp} {φ : W} (h : ∀ s, Ent (vr b T cSl s :: sl c e s xs :: F) φ) : Ent (slv b T c e xs :: F) φ :=
  ent_ex fun s => ent_open (M := [_, _]) (fun _ h => h) (h s)
theorem slv_shut {α : Type} {b T : Nat} {c : Cd α} {e : TypeId} {xs : List α} {F : List HProp} {φ : W} {s : Sl} (h : Ent (slv b T c e xs :: F) φ) : Ent (vr b T cSl s :: sl c e s xs :: F) φ :=
  ent_shut (M := [_, _]) (fun _ h => ⟨s, h⟩) h
/-- The entries below a block. -/
def lstP (m : CM) (i : Nat) : List E := ((List.range i).filter fun b => m.there.getD b false).map fun b => m.ents.getD b default
abbrev lst (m : CM) : List E := lstP m m.ents.length
theorem lstP_yes {m : CM} {i : Nat} (h : m.there.getD i false = true) : lstP m (i + 1) = lstP m i ++ [m.ents.getD i default] := by
  unfold lstP
  rw [List.range_succ, List.filter_append, List.map_append]
  simp [List.filter, -List.getD_eq_getElem?_getD, h]
theorem lstP_no {m : CM} {i : Nat} (h : m.there.getD i false = false) : lstP m (i + 1) = lstP m i := by
  unfold lstP
  rw [List.range_succ, List.filter_append, List.map_append]
  simp [List.filter, -List.getD_eq_getElem?_getD, h]
theorem lstP_len {m : CM} : ∀ i, (lstP m i).length ≤ i := fun i => by
  unfold lstP
  rw [List.length_map]
  exact Nat.le_trans (List.length_filter_le _ _) (by simp)

theorem all_ok {p cap : Nat} {se sh : Sl} {m : CM} {yv : Value} {Y S : Nat → List HProp} {Q : Nat → Prop} {K : Value → W} (hl : m.there.length = m.ents.length) (hn : m.ents.length ≤ 64) (hq : Q 0)
    (hy : ∀ i, i < m.ents.length → m.there.getD i false = true → Q i → ∀ K' : Value → W, (Q (i + 1) → Ent (vr cap 24 cPtr (some ⟨p, 0, none⟩) :: cacheX p m se sh :: Y (i + 1)) (K' (.bool true))) →
      (Ent (vr cap 24 cPtr (some ⟨p, 0, none⟩) :: cacheX p m se sh :: S i) (K' (.bool false))) →
      Ent (vr cap 24 cPtr (some ⟨p, 0, none⟩) :: cacheX p m se sh :: Y i) (callV Tryd.prog yv [S_cache_Entry.c.val (m.ents.getD i default)] K'))
    (hskip : ∀ i, m.there.getD i false = false → (Q i → Q (i + 1)) ∧ Y (i + 1) = Y i)
    (hstop : ∀ i, i < m.ents.length → m.there.getD i false = true → Q i → Ent (vr cap 24 cPtr (some ⟨p, 0, none⟩) :: cacheX p m se sh :: S i) (K (.tuple #[])))
    (hend : Q m.ents.length → Ent (vr cap 24 cPtr (some ⟨p, 0, none⟩) :: cacheX p m se sh :: Y m.ents.length) (K (.tuple #[]))) :
    Ent (vr cap 24 cPtr (some ⟨p, 0, none⟩) :: cacheX p m se sh :: Y 0) (callC Tryd.prog 30 [yv, .pointer (some ⟨cap, 0, none⟩)] K) := by
  refine ent_mono ?_ fun w => nf30_ok
  unfold nf30
  refine ent_swap (cacheX_open ?_)
  repeat refine st ?_
  refine ent_loop (γ := Nat) (fun i => [.int .i64 i]) (fun i => vr p 70 S_cache_Cache.c ⟨se, sh, m.last, m.any⟩ :: sl S_cache_Entry.c 57 se m.ents :: sl cBool 4 sh m.there :: vr cap 24 cPtr (some ⟨p, 0, none⟩) :: Y i)
    (fun i => i ≤ m.ents.length ∧ Q i) (fun i => m.ents.length - i) 0 rfl ⟨by omega, hq⟩ inferInstance ?_
  intro i ⟨hi, hqi⟩ K1 j hK
  simp only [List.headD_cons, List.tail_cons]
  refine cs (fun h1 => ?_) (fun h1 => ?_)
  · have hi1 : i < m.ents.length := by omega
    repeat refine st ?_
    refine sc (by omega) ?_
    refine sc ⟨hi1, trivial⟩ ?_
    refine st ?_
    intro q
    repeat refine st ?_
    refine sc (by omega) ?_
    refine sc ⟨by omega, trivial⟩ ?_
    cases hb : m.there.getD i false with
    | true =>
      have hb' : m.there.getD i default = true := hb
      simp only [hb']
      repeat refine st ?_
      refine ent_drop (cacheX_shut (ent_swap (hy i hi1 hb hqi _ (fun hq' => ?_) ?_)))
      · repeat refine st ?_
        refine sc (by omega) ?_
        exact ent_swap (cacheX_open (inc (hK (i + 1) ⟨hi1, hq'⟩ (by omega))))
      · repeat refine st ?_
        exact hstop i hi1 hb hqi
    | false =>
      have hb' : m.there.getD i default = false := hb
      simp only [hb']
      repeat refine st ?_
      refine sc (by omega) ?_
      obtain ⟨hq', hY⟩ := hskip i hb
      have := hK (i + 1) ⟨hi1, hq' hqi⟩ (by omega)
      rw [hY] at this
      exact inc this
  · repeat refine st ?_
    have : i = m.ents.length := by omega
    subst this
    exact cacheX_shut (inc (hend hqi))

/-- All: an iterator. -/
theorem mkall_ok {p : Nat} {K : Value → W} {F : List HProp} (h : ∀ cap, Ent (vr cap 24 cPtr (some ⟨p, 0, none⟩) :: F) (K (.func (.func 30) #[] #[.pointer (some ⟨cap, 0, none⟩)]))) :
    Ent F (callC Tryd.prog 28 [.pointer (some ⟨p, 0, none⟩)] K) := by
  refine ent_mono ?_ fun w => nf28_ok
  unfold nf28
  refine st ?_
  intro cap
  repeat refine st ?_
  exact h cap
theorem entries_ok {p : Nat} {m : CM} {K : Value → W} {F : List HProp} (hl : m.there.length = m.ents.length) (hn : m.ents.length ≤ 64)
    (h : ∀ s, Ent (sl S_cache_Entry.c 57 s (lst m) :: cacheAt p m :: F) (K (sv s))) : Ent (cacheAt p m :: F) (callC Tryd.prog 14 [.pointer (some ⟨p, 0, none⟩)] K) := by
  refine ent_mono ?_ fun w => nf14_ok
  unfold nf14
  refine st ?_
  intro b
  refine mkall_ok fun cap => ?_
  refine ent_range ?_
  intro fn tmps l r hs hf K2 hK2
  refine inc (M := vr b 60 cSl Sl.nil :: vr cap 24 cPtr (some ⟨p, 0, none⟩) :: cacheAt p m :: lrec l .ready none fn tmps (rfP Tryd.f14 0) (rfA Tryd.f14 0) (rfB Tryd.f14 0) r :: dfr r :: F) (ent_nil S_cache_Entry.c 57 (ent_swap (slv_shut ?_)))
  refine ent_take (A := cacheAt p m) (cache_openX fun se sh => ?_)
  refine inc (M := vr cap 24 cPtr (some ⟨p, 0, none⟩) :: cacheX p m se sh :: slv b 60 S_cache_Entry.c 57 [] :: lrec l .ready none fn tmps (rfP Tryd.f14 0) (rfA Tryd.f14 0) (rfB Tryd.f14 0) r :: dfr r :: F) ?_
  refine all_ok (Y := fun i => slv b 60 S_cache_Entry.c 57 (lstP m i) :: lrec l .ready none fn tmps (rfP Tryd.f14 0) (rfA Tryd.f14 0) (rfB Tryd.f14 0) r :: dfr r :: F) (S := fun _ => [ff]) (Q := fun _ => True) hl hn trivial ?_ ?_ ?_ ?_
  · intro i hi hb _ K' h1 _
    refine nf14_r0_ok hs hf ?_
    unfold nf14_r0
    refine st ?_
    intro q
    repeat refine st ?_
    refine ent_take (A := slv b 60 S_cache_Entry.c 57 (lstP m i)) (slv_open fun s => ?_)
    repeat refine st ?_
    refine sc ⟨rfl, by show 1 * 34 ≤ 16777216; decide⟩ ?_
    intro s2
    have hlen := lstP_len (m := m) i
    refine sc (by simp only [List.length_singleton]; omega) ?_
    intro s3
    repeat refine st ?_
    have h2 := h1 trivial
    rw [lstP_yes hb] at h2
    exact ent_take (A := sl S_cache_Entry.c 57 s3 (lstP m i ++ [m.ents.getD i default])) (ent_take (A := vr b 60 cSl s3) (slv_shut (inc h2)))
  · intro i hb
    exact ⟨fun _ => trivial, by rw [lstP_no hb]⟩
  · intro i _ _ _
    exact inc (M := [ff]) ent_ff
  · intro _
    refine ent_take (A := lrec l .ready none fn tmps (rfP Tryd.f14 0) (rfA Tryd.f14 0) (rfB Tryd.f14 0) r) (hK2 _ _ _ _ (by simp) ?_)
    show Ent _ (rd _ _ _)
    refine ent_take (A := slv b 60 S_cache_Entry.c 57 (lst m)) (slv_open fun s => ?_)
    repeat refine st ?_
    refine ent_endM (ent_endM0 ?_)
    exact ent_take (A := cacheX p m se sh) (cache_shutX (inc (h s)))

theorem len_ok {p : Nat} {m : CM} {K : Value → W} {F : List HProp} (hl : m.there.length = m.ents.length) (hn : m.ents.length ≤ 64)
    (h : Ent (cacheAt p m :: F) (K (.int .i64 (lst m).length))) : Ent (cacheAt p m :: F) (callC Tryd.prog 17 [.pointer (some ⟨p, 0, none⟩)] K) := by
  refine ent_mono ?_ fun w => nf17_ok
  unfold nf17
  refine entries_ok hl hn fun s => ?_
  repeat refine st ?_
  exact inc h
theorem new_ok {n : Int} {K : Value → W} {F : List HProp} (h0 : 1 ≤ n ∧ n ≤ 64 → ∀ p, Ent (cacheAt p ⟨List.replicate n.toNat S_cache_Entry.z, List.replicate n.toNat false, 0, false⟩ :: F) (K (.tuple #[.pointer (some ⟨p, 0, none⟩), .int .i64 0])))
    (h1 : ¬ (1 ≤ n ∧ n ≤ 64) → Ent F (K (.tuple #[.pointer none, .int .i64 2]))) : Ent F (callC Tryd.prog 5 [.int .i64 n] K) := by
  refine ent_mono ?_ fun w => nf5_ok
  unfold nf5
  refine cs (fun h => ?_) (fun h => ?_)
  · repeat refine st ?_
    exact h1 (by omega)
  · repeat refine st ?_
    refine cs (fun h' => ?_) (fun h' => ?_)
    · repeat refine st ?_
      exact h1 (by omega)
    · repeat refine st ?_
      have hn : 1 ≤ n ∧ n ≤ 64 := by omega
      constructor
      · refine sc (by omega) ?_
        intro s1
        refine sc (by omega) ?_
        intro s2
        repeat refine st ?_
        intro p
        exact inc (M := vr p 70 S_cache_Cache.c ⟨s1, s2, 0, false⟩ :: sl S_cache_Entry.c 57 s1 (List.replicate n.toNat S_cache_Entry.z) :: sl cBool 4 s2 (List.replicate n.toNat false) :: F)
          (cache_shut (m := ⟨_, _, _, _⟩) (h0 hn p))
      · refine sc (by omega) ?_
        intro s1
        refine sc (by omega) ?_
        intro s2
        repeat refine st ?_
        intro p
        exact inc (M := vr p 70 S_cache_Cache.c ⟨s2, s1, 0, false⟩ :: sl S_cache_Entry.c 57 s2 (List.replicate n.toNat S_cache_Entry.z) :: sl cBool 4 s1 (List.replicate n.toNat false) :: F)
          (cache_shut (m := ⟨_, _, _, _⟩) (h0 hn p))
open Classical in
noncomputable def getM (m : CM) (b : Int) : S_cache_Entry × Bool := if 0 ≤ b ∧ b < m.ents.length ∧ m.there.getD b.toNat false = true then (m.ents.getD b.toNat default, true) else (S_cache_Entry.z, false)
theorem get_ok {p : Nat} {m : CM} {b : Int} {K : Value → W} {F : List HProp} (hl : m.there.length = m.ents.length) (hn : m.ents.length ≤ 64)
    (h : Ent (cacheAt p m :: F) (K (.tuple #[S_cache_Entry.c.val (getM m b).1, .bool (getM m b).2]))) : Ent (cacheAt p m :: F) (callC Tryd.prog 13 [.pointer (some ⟨p, 0, none⟩), .int .i64 b] K) := by
  refine ent_mono ?_ fun w => nf13_ok
  unfold nf13
  refine cache_open fun se sh => ?_
  refine st ?_
  intro q
  repeat refine st ?_
  refine cs (fun h1 => ?_) (fun h1 => ?_)
  · repeat refine st ?_
    have e : getM m b = (S_cache_Entry.z, false) := if_neg (by omega)
    rw [e] at h
    exact ent_drop (cache_shut (inc h))
  · repeat refine st ?_
    refine cs (fun h2 => ?_) (fun h2 => ?_)
    · repeat refine st ?_
      have e : getM m b = (S_cache_Entry.z, false) := if_neg (by omega)
      rw [e] at h
      exact ent_drop (cache_shut (inc h))
    · repeat refine st ?_
      obtain ⟨k, rfl⟩ : ∃ k : Nat, b = k := ⟨b.toNat, by omega⟩
      refine sc (by omega) ?_
      repeat refine st ?_
      refine sc ⟨by omega, trivial⟩ ?_
      cases hb : m.there.getD k false with
      | false =>
        have hb' : m.there.getD k default = false := hb
        simp only [hb']
        repeat refine st ?_
        have e : getM m k = (S_cache_Entry.z, false) := if_neg (by rw [Int.toNat_natCast, hb]; simp)
        rw [e] at h
        exact ent_drop (cache_shut (inc h))
      | true =>
        have hb' : m.there.getD k default = true := hb
        simp only [hb']
        repeat refine st ?_
        refine sc (by omega) ?_
        refine sc ⟨by omega, trivial⟩ ?_
        repeat refine st ?_
        have e : getM m k = (m.ents.getD k default, true) := if_pos ⟨by omega, by omega, by rw [Int.toNat_natCast, hb]⟩
        rw [e] at h
        exact ent_drop (cache_shut (inc h))

/-! ## Put -/
def inB (m : CM) (x : S_api_Image) : Prop := 0 ≤ x.Block ∧ x.Block < m.ents.length
def rises (l : List S_api_Image) : Prop := ∀ i, i + 1 < l.length → (l.getD i default).Block < (l.getD (i + 1) default).Block
open Classical in
noncomputable def putRes (m : CM) (l : List S_api_Image) (pos : Int) : Int :=
  if ∀ i, i < l.length → inB m (l.getD i default) then if rises l then if m.any = true ∧ pos ≤ m.last ∨ 4611686018427387904 < pos then 30 else 0 else 53 else 51
def putE (es : List S_cache_Entry) (l : List S_api_Image) (pos : Int) : List S_cache_Entry := l.foldl (fun es x => es.set x.Block.toNat ⟨x.Block, x.Value, pos⟩) es
def putT (ts : List Bool) (l : List S_api_Image) : List Bool := l.foldl (fun ts x => ts.set x.Block.toNat true) ts
theorem putE_len {l : List S_api_Image} {pos : Int} : ∀ {es : List S_cache_Entry}, (putE es l pos).length = es.length := by
  induction l with
  | nil => intro es; rfl
  | cons x l ih => intro es; show (putE (es.set _ _) l pos).length = _; rw [ih]; simp
theorem putT_len {l : List S_api_Image} : ∀ {ts : List Bool}, (putT ts l).length = ts.length := by
  induction l with
  | nil => intro ts; rfl
  | cons x l ih => intro ts; show (putT (ts.set _ _) l).length = _; rw [ih]; simp
theorem take_one {α : Type} [Inhabited α] {l : List α} {i : Nat} (h : i < l.length) : l.take (i + 1) = l.take i ++ [l.getD i default] := by
  rw [List.take_succ_eq_append_getElem h]; simp [h]
theorem putE_one {es : List S_cache_Entry} {l : List S_api_Image} {pos : Int} {i : Nat} (h : i < l.length) :
    putE es (l.take (i + 1)) pos = (putE es (l.take i) pos).set (l.getD i default).Block.toNat ⟨(l.getD i default).Block, (l.getD i default).Value, pos⟩ := by
  rw [take_one h]; simp [putE, -List.getD_eq_getElem?_getD]
theorem putT_one {ts : List Bool} {l : List S_api_Image} {i : Nat} (h : i < l.length) : putT ts (l.take (i + 1)) = (putT ts (l.take i)).set (l.getD i default).Block.toNat true := by
  rw [take_one h]; simp [putT, -List.getD_eq_getElem?_getD]
open Classical in
noncomputable def putM (m : CM) (l : List S_api_Image) (pos : Int) : CM := if putRes m l pos = 0 then ⟨putE m.ents l pos, putT m.there l, pos, true⟩ else m
theorem put_tail {p : Nat} {m : CM} {se sh si : Sl} {l : List S_api_Image} {pos : Int} {K : Value → W} {F : List HProp} [rs : Rs F si S_api_Image.c l] (hl : m.there.length = m.ents.length) (hn : m.ents.length ≤ 64) (hlen : l.length ≤ 9223372036854775807)
    (hin : ∀ i, i < l.length → inB m (l.getD i default)) (h : Ent (cacheAt p ⟨putE m.ents l pos, putT m.there l, pos, true⟩ :: F) (K (.int .i64 0))) :
    Ent (vr p 70 S_cache_Cache.c ⟨se, sh, m.last, m.any⟩ :: sl S_cache_Entry.c 57 se m.ents :: sl cBool 4 sh m.there :: F) (nf12_1 K (.pointer (some ⟨p, 0, none⟩)) (sv si) (.int .u64 pos) (.int .i64 l.length)) := by
  unfold nf12_1
  refine ent_loop (γ := Nat) (fun i => [.int .i64 i]) (fun i => vr p 70 S_cache_Cache.c ⟨se, sh, m.last, m.any⟩ :: sl S_cache_Entry.c 57 se (putE m.ents (l.take i) pos) :: sl cBool 4 sh (putT m.there (l.take i)) :: F)
    (fun i => i ≤ l.length) (fun i => l.length - i) 0 rfl (by omega) ⟨fun _ h => h⟩ ?_
  intro i hi K1 j hK
  simp only [List.headD_cons]
  refine cs (fun h1 => ?_) (fun h1 => ?_)
  · have hi1 : i < l.length := by omega
    obtain ⟨hb0, hb1⟩ := hin i hi1
    have e1 : (putE m.ents (l.take i) pos).length = m.ents.length := putE_len
    have e2 : (putT m.there (l.take i)).length = m.ents.length := by rw [putT_len, hl]
    repeat refine st ?_
    refine sc (by omega) ?_
    refine sc ⟨hi1, trivial⟩ ?_
    refine st ?_
    intro q
    repeat refine st ?_
    refine sc (by omega) ?_
    refine sc ⟨by omega, trivial⟩ ?_
    repeat refine st ?_
    refine ⟨rfl, ?_⟩
    refine sc (by omega) ?_
    refine sc ⟨by omega, trivial⟩ ?_
    refine sc (by omega) ?_
    have h2 := hK (i + 1) hi1 (by omega)
    rw [putE_one hi1, putT_one hi1] at h2
    exact ent_drop h2
  · have hil : i = l.length := by omega
    subst hil
    rw [List.take_length]
    repeat refine st ?_
    exact cache_shut (m := ⟨_, _, _, _⟩) h
theorem put_ok {p : Nat} {m : CM} {si : Sl} {l : List S_api_Image} {pos : Int} {K : Value → W} {F : List HProp} [rs : Rs F si S_api_Image.c l] (hl : m.there.length = m.ents.length) (hn : m.ents.length ≤ 64) (hlen : l.length ≤ 9223372036854775807)
    (h : Ent (cacheAt p (putM m l pos) :: F) (K (.int .i64 (putRes m l pos)))) : Ent (cacheAt p m :: F) (callC Tryd.prog 12 [.pointer (some ⟨p, 0, none⟩), sv si, .int .u64 pos] K) := by
  refine ent_mono ?_ fun w => nf12_ok
  unfold nf12
  have fail : ∀ r : Int, r ≠ 0 → putRes m l pos = r → Ent (cacheAt p m :: F) (K (.int .i64 r)) := by
    intro r hr he
    rw [he] at h
    have : putM m l pos = m := if_neg (by rw [he]; exact hr)
    rwa [this] at h
  refine cache_open fun se sh => ?_
  repeat refine st ?_
  refine ent_loop (γ := Nat) (fun i => [.int .i64 i]) (fun _ => vr p 70 S_cache_Cache.c ⟨se, sh, m.last, m.any⟩ :: sl S_cache_Entry.c 57 se m.ents :: sl cBool 4 sh m.there :: F)
    (fun i => i ≤ l.length ∧ ∀ j, j < i → inB m (l.getD j default)) (fun i => l.length - i) 0 rfl ⟨by omega, fun j hj => by omega⟩ inferInstance ?_
  intro i ⟨hi, hin⟩ K1 j hK
  simp only [List.headD_cons]
  refine cs (fun h1 => ?_) (fun h1 => ?_)
  · have hi1 : i < l.length := by omega
    repeat refine st ?_
    refine sc (by omega) ?_
    refine sc ⟨hi1, trivial⟩ ?_
    refine st ?_
    intro q
    repeat refine st ?_
    refine cs (fun h2 => ?_) (fun h2 => ?_)
    · repeat refine st ?_
      have : putRes m l pos = 51 := if_neg fun hx => by have := (hx i hi1).1; omega
      exact ent_drop (cache_shut (fail 51 (by decide) this))
    · repeat refine st ?_
      refine cs (fun h3 => ?_) (fun h3 => ?_)
      · repeat refine st ?_
        have : putRes m l pos = 51 := if_neg fun hx => by have := (hx i hi1).2; omega
        exact ent_drop (cache_shut (fail 51 (by decide) this))
      · repeat refine st ?_
        refine sc (by omega) ?_
        refine inc (hK (i + 1) ⟨hi1, fun j hj => ?_⟩ (by omega))
        by_cases hji : j < i
        · exact hin j hji
        · have : j = i := by omega
          subst this
          exact ⟨by omega, by omega⟩
  · repeat refine st ?_
    have hil : i = l.length := by omega
    subst hil
    clear hK
    refine ent_loop (γ := Nat) (fun i => [.int .i64 i]) (fun _ => vr p 70 S_cache_Cache.c ⟨se, sh, m.last, m.any⟩ :: sl S_cache_Entry.c 57 se m.ents :: sl cBool 4 sh m.there :: F)
      (fun i => 1 ≤ i ∧ (i ≤ l.length ∨ i = 1) ∧ ∀ j, j + 1 < i → (l.getD j default).Block < (l.getD (j + 1) default).Block) (fun i => l.length - i) 1 rfl ⟨by omega, by omega, fun j hj => by omega⟩ inferInstance ?_
    intro i ⟨hi0, hi, hri⟩ K2 j2 hK
    simp only [List.headD_cons]
    repeat refine st ?_
    refine cs (fun h2 => ?_) (fun h2 => ?_)
    · have hi1 : i < l.length := by omega
      repeat refine st ?_
      refine sc (by omega) ?_
      refine sc (by omega) ?_
      refine sc ⟨by omega, trivial⟩ ?_
      refine sc (by omega) ?_
      refine sc (by omega) ?_
      refine sc (by omega) ?_
      refine sc ⟨by omega, trivial⟩ ?_
      have e : ((i : Int) - 1).toNat = i - 1 := by omega
      simp only [e]
      refine cs (fun h3 => ?_) (fun h3 => ?_)
      · repeat refine st ?_
        have : putRes m l pos = 53 := by
          unfold putRes
          rw [if_pos hin, if_neg]
          intro hx
          have := hx (i - 1) (by omega)
          rw [show i - 1 + 1 = i from by omega] at this
          omega
        exact cache_shut (fail 53 (by decide) this)
      · repeat refine st ?_
        refine sc (by omega) ?_
        refine inc (hK (i + 1) ⟨by omega, by omega, fun j hj => ?_⟩ (by omega))
        by_cases hji : j + 1 < i
        · exact hri j hji
        · have : i = j + 1 := by omega
          subst this
          rw [show j + 1 - 1 = j from by omega] at h3
          omega
    · repeat refine st ?_
      have hris : rises l := fun j hj => hri j (by omega)
      clear hK hi0 hi hri h2
      have h30 : m.any = true ∧ pos ≤ m.last ∨ 4611686018427387904 < pos → Ent (cacheAt p m :: F) (K (.int .i64 30)) := fun hc => fail 30 (by decide) (by unfold putRes; rw [if_pos hin, if_pos hris, if_pos hc])
      have h0 : ¬ (m.any = true ∧ pos ≤ m.last ∨ 4611686018427387904 < pos) → Ent (cacheAt p ⟨putE m.ents l pos, putT m.there l, pos, true⟩ :: F) (K (.int .i64 0)) := fun hc => by
        have e : putRes m l pos = 0 := by unfold putRes; rw [if_pos hin, if_pos hris, if_neg hc]
        have e2 : putM m l pos = ⟨putE m.ents l pos, putT m.there l, pos, true⟩ := if_pos e
        rw [e, e2] at h
        exact h
      clear h fail
      obtain ⟨me, mt, ml, ma⟩ := m
      cases ma with
      | true =>
        repeat refine st ?_
        refine cs (fun h3 => ?_) (fun h3 => ?_)
        · repeat refine st ?_
          exact cache_shut (m := ⟨me, mt, ml, true⟩) (h30 (.inl ⟨rfl, h3⟩))
        · repeat refine st ?_
          refine cs (fun h4 => ?_) (fun h4 => ?_)
          · repeat refine st ?_
            exact cache_shut (m := ⟨me, mt, ml, true⟩) (h30 (.inr h4))
          · repeat refine st ?_
            exact put_tail (m := ⟨me, mt, ml, true⟩) hl hn hlen hin (h0 fun hc => by rcases hc with hc | hc; exact h3 hc.2; exact h4 hc)
      | false =>
        repeat refine st ?_
        refine cs (fun h4 => ?_) (fun h4 => ?_)
        · repeat refine st ?_
          exact cache_shut (m := ⟨me, mt, ml, false⟩) (h30 (.inr h4))
        · repeat refine st ?_
          exact put_tail (m := ⟨me, mt, ml, false⟩) hl hn hlen hin (h0 fun hc => by rcases hc with hc | hc; exact absurd hc.1 (by simp); exact h4 hc)

theorem last_ok {p : Nat} {m : CM} {K : Value → W} {F : List HProp} (h : Ent (cacheAt p m :: F) (K (.tuple #[.int .u64 m.last, .bool m.any]))) : Ent (cacheAt p m :: F) (callC Tryd.prog 15 [.pointer (some ⟨p, 0, none⟩)] K) := by
  refine ent_mono ?_ fun w => nf15_ok
  unfold nf15
  refine cache_open fun se sh => ?_
  repeat refine st ?_
  exact cache_shut h
theorem copy_ok {p : Nat} {m : CM} {K : Value → W} {F : List HProp} (hl : m.there.length = m.ents.length) (hn : m.ents.length ≤ 64) (h : ∀ q, Ent (cacheAt q m :: cacheAt p m :: F) (K (.pointer (some ⟨q, 0, none⟩)))) :
    Ent (cacheAt p m :: F) (callC Tryd.prog 7 [.pointer (some ⟨p, 0, none⟩)] K) := by
  refine ent_mono ?_ fun w => nf7_ok
  unfold nf7
  refine cache_open fun se sh => ?_
  repeat refine st ?_
  intro q
  repeat refine st ?_
  refine sc (by omega) ?_
  intro s1
  repeat refine st ?_
  refine sc (by omega) ?_
  intro s2
  repeat refine st ?_
  refine inc (M := vr p 70 S_cache_Cache.c ⟨se, sh, m.last, m.any⟩ :: sl S_cache_Entry.c 57 se m.ents :: sl cBool 4 sh m.there :: vr q 70 S_cache_Cache.c ⟨s1, s2, m.last, m.any⟩ :: sl S_cache_Entry.c 57 s1 m.ents :: sl cBool 4 s2 m.there :: F) ?_
  refine cache_shut (m := m) ?_
  refine inc (M := vr q 70 S_cache_Cache.c ⟨s1, s2, m.last, m.any⟩ :: sl S_cache_Entry.c 57 s1 m.ents :: sl cBool 4 s2 m.there :: cacheAt p m :: F) ?_
  exact cache_shut (m := m) (h q)
/-! ## Drop -/
open Classical in
noncomputable def dropStep (s : CM × Nat) (e : S_cache_Entry) : CM × Nat :=
  if (getM s.1 e.Block).2 = true ∧ (getM s.1 e.Block).1.Position = e.Position then (⟨s.1.ents, s.1.there.set e.Block.toNat false, s.1.last, s.1.any⟩, s.2 + 1) else s
noncomputable def dropM (m : CM) (l : List S_cache_Entry) : CM × Nat := l.foldl dropStep (m, 0)
theorem dropStep_len {s : CM × Nat} {e : S_cache_Entry} : (dropStep s e).1.ents = s.1.ents ∧ (dropStep s e).1.there.length = s.1.there.length ∧ (dropStep s e).2 ≤ s.2 + 1 := by
  unfold dropStep
  split <;> simp
theorem dropM_len {m : CM} {l : List S_cache_Entry} : (dropM m l).1.ents = m.ents ∧ (dropM m l).1.there.length = m.there.length ∧ (dropM m l).2 ≤ l.length := by
  have key : ∀ (l : List S_cache_Entry) (s : CM × Nat), (l.foldl dropStep s).1.ents = s.1.ents ∧ (l.foldl dropStep s).1.there.length = s.1.there.length ∧ (l.foldl dropStep s).2 ≤ s.2 + l.length := by
    intro l
    induction l with
    | nil => intro s; exact ⟨rfl, rfl, Nat.le_refl _⟩
    | cons x l ih =>
      intro s
      obtain ⟨h1, h2, h3⟩ := ih (dropStep s x)
      obtain ⟨g1, g2, g3⟩ := dropStep_len (s := s) (e := x)
      exact ⟨h1.trans g1, h2.trans g2, by simp only [List.foldl_cons, List.length_cons]; omega⟩
  have := key l (m, 0)
  simpa [dropM] using this
theorem dropM_one {m : CM} {l : List S_cache_Entry} {i : Nat} (h : i < l.length) : dropM m (l.take (i + 1)) = dropStep (dropM m (l.take i)) (l.getD i default) := by
  rw [take_one h]; simp [dropM, -List.getD_eq_getElem?_getD]
theorem drop_ok {p : Nat} {m : CM} {s : Sl} {l : List S_cache_Entry} {K : Value → W} {F : List HProp} [rs : Rs F s S_cache_Entry.c l] (hl : m.there.length = m.ents.length) (hn : m.ents.length ≤ 64) (hlen : l.length ≤ 9223372036854775807)
    (h : Ent (cacheAt p (dropM m l).1 :: F) (K (.int .i64 (dropM m l).2))) : Ent (cacheAt p m :: F) (callC Tryd.prog 18 [.pointer (some ⟨p, 0, none⟩), sv s] K) := by
  refine ent_mono ?_ fun w => nf18_ok
  unfold nf18
  repeat refine st ?_
  refine ent_loop (γ := Nat) (fun i => [.int .i64 (dropM m (l.take i)).2, .int .i64 i]) (fun i => cacheAt p (dropM m (l.take i)).1 :: F)
    (fun i => i ≤ l.length) (fun i => l.length - i) 0 rfl (by omega) ⟨fun _ h => h⟩ ?_
  intro i hi K1 j hK
  simp only [List.headD_cons, List.tail_cons]
  refine cs (fun h1 => ?_) (fun h1 => ?_)
  · have hi1 : i < l.length := by omega
    obtain ⟨e1, e2, e3⟩ := dropM_len (m := m) (l := l.take i)
    rw [List.length_take] at e3
    repeat refine st ?_
    refine sc (by omega) ?_
    refine sc ⟨hi1, trivial⟩ ?_
    refine st ?_
    intro q
    repeat refine st ?_
    refine ent_take (A := cacheAt p (dropM m (l.take i)).1) (get_ok (by rw [e2, hl, e1]) (by rw [e1]; exact hn) ?_)
    have hstep := dropM_one (m := m) hi1
    generalize hg : dropM m (l.take i) = g at *
    generalize hx : l.getD i default = x at *
    have hK1 := hK (i + 1) hi1 (by omega)
    rw [hstep] at hK1
    unfold dropStep at hK1
    repeat refine st ?_
    intro q2
    repeat refine st ?_
    cases hgt : (getM g.1 x.Block).2 with
    | false =>
      rw [if_neg (by rw [hgt]; simp)] at hK1
      repeat refine st ?_
      unfold nf18_1
      refine sc (by omega) ?_
      exact inc hK1
    | true =>
      repeat refine st ?_
      refine cs (fun h2 => ?_) (fun h2 => ?_)
      · rw [if_pos ⟨hgt, h2⟩] at hK1
        repeat refine st ?_
        refine ent_take (A := cacheAt p g.1) (cache_open fun se sh => ?_)
        have hb : 0 ≤ x.Block ∧ x.Block < g.1.ents.length := by
          apply Classical.byContradiction
          intro hx2
          have : getM g.1 x.Block = (S_cache_Entry.z, false) := if_neg (by omega)
          rw [this] at hgt
          cases hgt
        repeat refine st ?_
        refine sc (by rw [e2, hl, ← e1]; exact hb) ?_
        refine sc ⟨by rw [e2, hl, ← e1]; omega, trivial⟩ ?_
        refine sc (by omega) ?_
        unfold nf18_1
        refine sc (by omega) ?_
        refine cache_shut (m := ⟨g.1.ents, g.1.there.set x.Block.toNat false, g.1.last, g.1.any⟩) ?_
        exact inc hK1
      · rw [if_neg (fun hc => h2 hc.2)] at hK1
        repeat refine st ?_
        unfold nf18_1
        refine sc (by omega) ?_
        exact inc hK1
  · have hil : i = l.length := by omega
    subst hil
    rw [List.take_length]
    repeat refine st ?_
    exact h

/-! ## The statement's own -/
abbrev toR (e : S_cache_Entry) : S_wicketref17_Entry := ⟨e.Block, e.Value, e.Position⟩
theorem plain_ok {s : Sl} {l : List S_cache_Entry} {K : Value → W} {F : List HProp} [rs : Rs F s S_cache_Entry.c l] (hlen : l.length * 48 ≤ 140737488355328)
    (h : ∀ s', Ent (sl S_wicketref17_Entry.c 76 s' (l.map toR) :: F) (K (sv s'))) : Ent F (callC Tryd.prog 26 [sv s] K) := by
  refine ent_mono ?_ fun w => nf26_ok
  unfold nf26
  refine ent_nil S_wicketref17_Entry.c 76 ?_
  refine ent_loop (γ := Nat × Sl) (fun g => [sv g.2, .int .i64 g.1]) (fun g => sl S_wicketref17_Entry.c 76 g.2 ((l.take g.1).map toR) :: F)
    (fun g => g.1 ≤ l.length) (fun g => l.length - g.1) (0, Sl.nil) rfl (by simp) ⟨fun _ h => h⟩ ?_
  intro ⟨i, t⟩ hi K1 j hK
  simp only [List.headD_cons, List.tail_cons] at *
  repeat refine st ?_
  refine cs (fun h1 => ?_) (fun h1 => ?_)
  · have hi1 : i < l.length := by omega
    repeat refine st ?_
    refine sc (by omega) ?_
    refine sc (by omega) ?_
    refine sc ⟨hi1, trivial⟩ ?_
    refine sc (by omega) ?_
    refine sc (by omega) ?_
    refine sc ⟨hi1, trivial⟩ ?_
    refine sc (by omega) ?_
    refine sc (by omega) ?_
    refine sc ⟨hi1, trivial⟩ ?_
    repeat refine st ?_
    refine sc ⟨rfl, by show 1 * 34 ≤ 16777216; decide⟩ ?_
    intro s2
    refine sc (by simp only [List.length_map, List.length_take, List.length_singleton]; omega) ?_
    intro s3
    repeat refine st ?_
    refine sc (by omega) ?_
    have := hK (i + 1, s3) hi1 (by simp only; omega)
    simp only [take_one hi1, List.map_append, List.map_cons, List.map_nil] at this
    exact inc this
  · have hil : i = l.length := by omega
    subst hil
    rw [List.take_length]
    repeat refine st ?_
    exact h t

theorem lstP_take {m : CM} {n i : Nat} (h : i ≤ n) : (lstP m n).take (lstP m i).length = lstP m i := by
  obtain ⟨k, rfl⟩ : ∃ k, n = i + k := ⟨n - i, by omega⟩
  unfold lstP
  rw [List.range_add, List.filter_append, List.map_append, List.take_left']
  rfl
theorem given_ok {p : Nat} {m : CM} {en : Int} {K : Value → W} {F : List HProp} (hl : m.there.length = m.ents.length) (hn : m.ents.length ≤ 64)
    (h : ∀ s, Ent (sl S_wicketref17_Entry.c 76 s (((lst m).take en.toNat).map toR) :: cacheAt p m :: F) (K (.tuple #[sv s, .bool true]))) : Ent (cacheAt p m :: F) (callC Tryd.prog 16 [.pointer (some ⟨p, 0, none⟩), .int .i64 en] K) := by
  refine ent_mono ?_ fun w => nf16_ok
  unfold nf16
  refine st ?_
  intro b1
  refine mkall_ok fun cap => ?_
  repeat refine st ?_
  intro b
  refine ent_range ?_
  intro fn tmps l r hs hf K2 hK2
  refine inc (M := vr b 60 cSl Sl.nil :: vr b1 3 (cInt .i64) en :: vr cap 24 cPtr (some ⟨p, 0, none⟩) :: cacheAt p m :: lrec l .ready none fn tmps (rfP Tryd.f16 0) (rfA Tryd.f16 0) (rfB Tryd.f16 0) r :: dfr r :: F) (ent_nil S_cache_Entry.c 57 (ent_swap (slv_shut ?_)))
  refine ent_take (A := cacheAt p m) (cache_openX fun se sh => ?_)
  refine inc (M := vr cap 24 cPtr (some ⟨p, 0, none⟩) :: cacheX p m se sh :: slv b 60 S_cache_Entry.c 57 [] :: vr b1 3 (cInt .i64) en :: lrec l .ready none fn tmps (rfP Tryd.f16 0) (rfA Tryd.f16 0) (rfB Tryd.f16 0) r :: dfr r :: F) ?_
  have fin : ∀ i, (lst m).take en.toNat = lstP m i → Ent (slv b 60 S_cache_Entry.c 57 (lstP m i) :: cacheX p m se sh :: dfr r :: F) (nf16_1 K (.pointer (some ⟨b, 0, none⟩)) ([r] ++ [])) := by
    intro i hi
    unfold nf16_1
    refine slv_open fun s => ?_
    refine st ?_
    have hlen := lstP_len (m := m) i
    refine plain_ok (l := lstP m i) (by rw [← hi, List.length_take]; have : (lst m).length ≤ m.ents.length := lstP_len _; omega) fun s2 => ?_
    refine ent_endM (ent_endM0 ?_)
    refine ent_take (A := cacheX p m se sh) (cache_shutX ?_)
    have := h s2
    rw [hi] at this
    exact inc this
  refine all_ok (Y := fun i => slv b 60 S_cache_Entry.c 57 (lstP m i) :: vr b1 3 (cInt .i64) en :: lrec l .ready none fn tmps (rfP Tryd.f16 0) (rfA Tryd.f16 0) (rfB Tryd.f16 0) r :: dfr r :: F)
    (S := fun i => slv b 60 S_cache_Entry.c 57 (lstP m i) :: lrec l .done (some (.exit 0)) fn tmps (rfP Tryd.f16 0) (rfA Tryd.f16 0) (rfB Tryd.f16 0) r :: dfr r :: pureP ((lst m).take en.toNat = lstP m i) :: F) (Q := fun i => (lstP m i).length ≤ en.toNat) hl hn (by simp [lstP]) ?_ ?_ ?_ ?_
  · intro i hi hb hq K' h1 h2
    refine nf16_r0_ok hs hf ?_
    unfold nf16_r0
    refine st ?_
    intro q
    repeat refine st ?_
    refine ent_take (A := slv b 60 S_cache_Entry.c 57 (lstP m i)) (slv_open fun s => ?_)
    repeat refine st ?_
    refine cs (fun h3 => ?_) (fun h3 => ?_)
    · repeat refine st ?_
      refine ent_take (A := sl S_cache_Entry.c 57 s (lstP m i)) (ent_take (A := vr b 60 cSl s) (slv_shut ?_))
      have he : (lst m).take en.toNat = lstP m i := by
        have := lstP_take (m := m) (n := m.ents.length) (i := i) (by omega)
        rw [← show (lstP m i).length = en.toNat by omega]
        exact this
      exact ent_pure he (inc h2)
    · repeat refine st ?_
      refine sc ⟨rfl, by show 1 * 34 ≤ 16777216; decide⟩ ?_
      intro s2
      have hlen := lstP_len (m := m) i
      refine sc (by simp only [List.length_singleton]; omega) ?_
      intro s3
      repeat refine st ?_
      have h2 := h1 (by rw [lstP_yes hb, List.length_append, List.length_singleton]; omega)
      rw [lstP_yes hb] at h2
      exact ent_take (A := sl S_cache_Entry.c 57 s3 (lstP m i ++ [m.ents.getD i default])) (ent_take (A := vr b 60 cSl s3) (slv_shut (inc h2)))
  · intro i hb
    simp only [lstP_no hb, and_true]
    exact id
  · intro i _ _ _
    refine ent_take (A := pureP ((lst m).take en.toNat = lstP m i)) (ent_pureP fun he => ?_)
    refine ent_take (A := lrec l .done (some (.exit 0)) fn tmps (rfP Tryd.f16 0) (rfA Tryd.f16 0) (rfB Tryd.f16 0) r) (hK2 _ _ _ _ (by simp) ?_)
    show Ent _ (nf16_1 K (.pointer (some ⟨b, 0, none⟩)) ([r] ++ []))
    exact inc (fin i he)
  · intro hq
    refine ent_take (A := lrec l .ready none fn tmps (rfP Tryd.f16 0) (rfA Tryd.f16 0) (rfB Tryd.f16 0) r) (hK2 _ _ _ _ (by simp) ?_)
    show Ent _ (nf16_1 K (.pointer (some ⟨b, 0, none⟩)) ([r] ++ []))
    exact inc (fin _ (List.take_of_length_le hq))
end Go.Proofs.YtmnokpffpadgoaaDoor
