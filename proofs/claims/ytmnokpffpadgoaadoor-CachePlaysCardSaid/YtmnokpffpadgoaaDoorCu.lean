/- What the document's Put and Drop do. -/
import Derived.Test.YtmnokpffpadgoaaDoorCr
namespace Go.Proofs.YtmnokpffpadgoaaDoor
set_option linter.unusedSimpArgs false
set_option linter.unusedVariables false
open Go.Dn
set_option linter.unusedSectionVars false
set_option synthInstance.maxSize 10000
set_option synthInstance.maxHeartbeats 400000
set_option maxHeartbeats 2000000
variable [sd : Side]
abbrev insE (l : List S_wicketref17_Entry) (x : S_wicketref17_Entry) : List S_wicketref17_Entry := l.filter (fun e => decide (e.Block < x.Block)) ++ [x] ++ l.filter (fun e => decide (x.Block < e.Block))
theorem filter_one {α : Type} [Inhabited α] {q : α → Bool} {l : List α} {i : Nat} (h : i < l.length) : (l.take (i + 1)).filter q = (l.take i).filter q ++ (if q (l.getD i default) = true then [l.getD i default] else []) := by
  rw [take_one h, List.filter_append]
  congr 1
  cases hq : q (l.getD i default) <;> simp [List.filter, -List.getD_eq_getElem?_getD, hq]
theorem filter_take_len {α : Type} {q : α → Bool} {l : List α} {i : Nat} : ((l.take i).filter q).length ≤ l.length := Nat.le_trans (List.length_filter_le _ _) (by rw [List.length_take]; omega)
theorem ins_ok {p q i : Nat} {m : RM} {x : S_wicketref17_Entry} {K3 : List Value → W} {F : List HProp} (hlen : m.list.length ≤ 1000000) (hi : i < 1000000000)
    (h : Ent (refAt p ⟨m.blocks, insE m.list x, m.some, m.last⟩ :: F) (K3 [.int .i64 (i + 1)])) :
    Ent (vr q 76 S_wicketref17_Entry.c x :: refAt p m :: F) (nf20_4 K3 (.pointer (some ⟨p, 0, none⟩)) (.pointer (some ⟨q, 0, none⟩)) (.int .i64 i)) := by
  unfold nf20_4
  refine ent_take (A := refAt p m) (ref_open fun s => ?_)
  refine ent_nil S_wicketref17_Entry.c 76 ?_
  refine ent_loop (γ := Nat × Sl) (fun g => [sv g.2, .int .i64 g.1]) (fun g => sl S_wicketref17_Entry.c 76 g.2 ((m.list.take g.1).filter fun e => decide (e.Block < x.Block)) :: vr p 72 S_wicketref17_Cache.c ⟨m.blocks, s, m.some, m.last⟩ :: sl S_wicketref17_Entry.c 76 s m.list :: vr q 76 S_wicketref17_Entry.c x :: F)
    (fun g => g.1 ≤ m.list.length) (fun g => m.list.length - g.1) (0, Sl.nil) rfl (by simp) ⟨fun _ h => h⟩ ?_
  intro ⟨k, t⟩ hk K1 j hK
  simp only [List.headD_cons, List.tail_cons] at *
  have hfl := filter_take_len (q := fun e : S_wicketref17_Entry => decide (e.Block < x.Block)) (l := m.list) (i := k)
  repeat refine st ?_
  refine cs (fun h1 => ?_) (fun h1 => ?_)
  · have hk1 : k < m.list.length := by omega
    repeat refine st ?_
    refine sc (by omega) ?_
    refine sc (by omega) ?_
    refine sc ⟨hk1, trivial⟩ ?_
    repeat refine st ?_
    refine cs (fun h2 => ?_) (fun h2 => ?_)
    · repeat refine st ?_
      refine sc (by omega) ?_
      refine sc ⟨hk1, trivial⟩ ?_
      refine sc ⟨rfl, by show 1 * 34 ≤ 16777216; decide⟩ ?_
      intro s2
      refine sc (by simp only [List.length_singleton]; omega) ?_
      intro s3
      unfold nf20_1
      refine sc (by omega) ?_
      have := hK (k + 1, s3) hk1 (by simp only; omega)
      simp only [filter_one hk1, decide_eq_true_eq, if_pos h2] at this
      exact inc this
    · repeat refine st ?_
      unfold nf20_1
      refine sc (by omega) ?_
      have := hK (k + 1, t) hk1 (by simp only; omega)
      simp only [filter_one hk1, decide_eq_true_eq, if_neg h2, List.append_nil] at this
      exact this
  · have : k = m.list.length := by omega
    subst this
    rw [List.take_length] at hfl ⊢
    repeat refine st ?_
    refine sc ⟨rfl, by show 1 * 34 ≤ 16777216; decide⟩ ?_
    intro s2
    refine sc (by simp only [List.length_singleton]; omega) ?_
    intro s3
    unfold nf20_3
    refine ent_loop (γ := Nat × Sl) (fun g => [sv g.2, .int .i64 g.1]) (fun g => sl S_wicketref17_Entry.c 76 g.2 ((m.list.filter fun e => decide (e.Block < x.Block)) ++ [x] ++ (m.list.take g.1).filter fun e => decide (x.Block < e.Block)) :: vr p 72 S_wicketref17_Cache.c ⟨m.blocks, s, m.some, m.last⟩ :: sl S_wicketref17_Entry.c 76 s m.list :: vr q 76 S_wicketref17_Entry.c x :: F)
      (fun g => g.1 ≤ m.list.length) (fun g => m.list.length - g.1) (0, s3) rfl (by simp) (by simp only [List.take_zero, List.filter_nil, List.append_nil]; infer_instance) ?_
    intro ⟨k, t⟩ hk K1 j hK
    simp only [List.headD_cons, List.tail_cons] at *
    have hfl2 := filter_take_len (q := fun e : S_wicketref17_Entry => decide (x.Block < e.Block)) (l := m.list) (i := k)
    repeat refine st ?_
    refine cs (fun h1 => ?_) (fun h1 => ?_)
    · have hk1 : k < m.list.length := by omega
      repeat refine st ?_
      refine sc (by omega) ?_
      refine sc (by omega) ?_
      refine sc ⟨hk1, trivial⟩ ?_
      repeat refine st ?_
      refine cs (fun h2 => ?_) (fun h2 => ?_)
      · repeat refine st ?_
        refine sc (by omega) ?_
        refine sc ⟨hk1, trivial⟩ ?_
        refine sc ⟨rfl, by show 1 * 34 ≤ 16777216; decide⟩ ?_
        intro s4
        refine sc (by simp only [List.length_append, List.length_singleton]; omega) ?_
        intro s5
        unfold nf20_2
        refine sc (by omega) ?_
        have := hK (k + 1, s5) hk1 (by simp only; omega)
        simp only [filter_one hk1, decide_eq_true_eq, if_pos h2, ← List.append_assoc] at this
        exact inc this
      · repeat refine st ?_
        unfold nf20_2
        refine sc (by omega) ?_
        have := hK (k + 1, t) hk1 (by simp only; omega)
        simp only [filter_one hk1, decide_eq_true_eq, if_neg h2, List.append_nil] at this
        exact this
    · have : k = m.list.length := by omega
      subst this
      rw [List.take_length]
      repeat refine st ?_
      refine sc (by omega) ?_
      exact inc (M := vr p 72 S_wicketref17_Cache.c ⟨m.blocks, t, m.some, m.last⟩ :: sl S_wicketref17_Entry.c 76 t (insE m.list x) :: F) (ref_shut (m := ⟨_, _, _, _⟩) h)
theorem insE_len {l : List S_wicketref17_Entry} {x : S_wicketref17_Entry} : (insE l x).length ≤ l.length + 1 := by
  have key : ∀ l : List S_wicketref17_Entry, (l.filter fun e => decide (e.Block < x.Block)).length + (l.filter fun e => decide (x.Block < e.Block)).length ≤ l.length := by
    intro l
    induction l with
    | nil => simp
    | cons y l ih =>
      simp only [List.filter_cons, List.length_cons]
      split <;> split <;> (rename_i a b; simp only [decide_eq_true_eq] at a b; (try simp only [List.length_cons] at ih ⊢); omega)
  have := key l
  simp only [List.length_append, List.length_singleton]
  omega
def refPutL (l : List S_api_Image) (pos : Int) (ls : List S_wicketref17_Entry) : List S_wicketref17_Entry := l.foldl (fun ls x => insE ls ⟨x.Block, x.Value, pos⟩) ls
theorem refPutL_one {l : List S_api_Image} {pos : Int} {ls : List S_wicketref17_Entry} {i : Nat} (h : i < l.length) : refPutL (l.take (i + 1)) pos ls = insE (refPutL (l.take i) pos ls) ⟨(l.getD i default).Block, (l.getD i default).Value, pos⟩ := by
  rw [take_one h]; simp only [refPutL, List.foldl_append, List.foldl_cons, List.foldl_nil]
theorem refPutL_len {pos : Int} : ∀ {l : List S_api_Image} {ls : List S_wicketref17_Entry}, (refPutL l pos ls).length ≤ ls.length + l.length
  | [], _ => Nat.le_refl _
  | x :: l, ls => by
    have := refPutL_len (pos := pos) (l := l) (ls := insE ls ⟨x.Block, x.Value, pos⟩)
    have h2 := insE_len (l := ls) (x := ⟨x.Block, x.Value, pos⟩)
    show (refPutL l pos (insE ls _)).length ≤ _
    simp only [List.length_cons]
    omega
open Classical in
noncomputable def refPutM (m : RM) (l : List S_api_Image) (pos : Int) : RM := if refRes m l pos = 0 then ⟨m.blocks, refPutL l pos m.list, true, pos⟩ else m
theorem refPut_ok {p : Nat} {m : RM} {si : Sl} {l : List S_api_Image} {pos : Int} {K : Value → W} {F : List HProp} [rs : Rs F si S_api_Image.c l] (hlen : l.length ≤ 9223372036854775807) (hsz : refRes m l pos = 0 → m.list.length + l.length ≤ 1000000)
    (h : Ent (refAt p (refPutM m l pos) :: F) (K (.int .i64 (refRes m l pos)))) : Ent (refAt p m :: F) (callC Tryd.prog 20 [.pointer (some ⟨p, 0, none⟩), sv si, .int .u64 pos] K) := by
  refine ent_mono ?_ fun w => nf20_ok
  unfold nf20
  refine may_ok hlen ?_
  refine cs (fun hr => ?_) (fun hr => ?_)
  · have hsz' := hsz hr
    have hm : refPutM m l pos = ⟨m.blocks, refPutL l pos m.list, true, pos⟩ := if_pos hr
    rw [hr, hm] at h
    repeat refine st ?_
    refine ent_loop (γ := Nat) (fun i => [.int .i64 i]) (fun i => refAt p ⟨m.blocks, refPutL (l.take i) pos m.list, m.some, m.last⟩ :: F)
      (fun i => i ≤ l.length) (fun i => l.length - i) 0 rfl (by omega) ⟨fun _ h => h⟩ ?_
    intro i hi K1 j hK
    simp only [List.headD_cons] at *
    repeat refine st ?_
    refine cs (fun h1 => ?_) (fun h1 => ?_)
    · have hi1 : i < l.length := by omega
      have hll := refPutL_len (pos := pos) (l := l.take i) (ls := m.list)
      rw [List.length_take] at hll
      repeat refine st ?_
      refine sc (by omega) ?_
      refine sc (by omega) ?_
      refine sc ⟨hi1, trivial⟩ ?_
      refine sc (by omega) ?_
      refine sc (by omega) ?_
      refine sc ⟨hi1, trivial⟩ ?_
      repeat refine st ?_
      intro q
      refine sc ⟨hi1, trivial⟩ ⟨rfl, ?_⟩
      refine sc ⟨hi1, trivial⟩ ⟨rfl, ?_⟩
      repeat refine st ?_
      refine ins_ok (m := ⟨m.blocks, refPutL (l.take i) pos m.list, m.some, m.last⟩) (by show (refPutL (l.take i) pos m.list).length ≤ _; omega) (by omega) ?_
      have := hK (i + 1) hi1 (by omega)
      rw [refPutL_one hi1] at this
      exact this
    · have : i = l.length := by omega
      subst this
      rw [List.take_length]
      refine st ?_
      refine ref_open fun s => ?_
      repeat refine st ?_
      exact ref_shut (m := ⟨_, _, _, _⟩) h
  · have hm : refPutM m l pos = m := if_neg hr
    rw [hm] at h
    repeat refine st ?_
    exact h
/-! ## Drop -/
abbrev notE (x e : S_wicketref17_Entry) : Bool := decide (e.Block ≠ x.Block ∨ e.Position ≠ x.Position)
def refDropL (ls : List S_wicketref17_Entry) (l : List S_wicketref17_Entry) : List S_wicketref17_Entry := l.foldl (fun ls x => ls.filter (notE x)) ls
theorem refDropL_one {ls l : List S_wicketref17_Entry} {i : Nat} (h : i < l.length) : refDropL ls (l.take (i + 1)) = (refDropL ls (l.take i)).filter (notE (l.getD i default)) := by
  rw [take_one h]; simp only [refDropL, List.foldl_append, List.foldl_cons, List.foldl_nil]
theorem refDropL_len : ∀ {l ls : List S_wicketref17_Entry}, (refDropL ls l).length ≤ ls.length
  | [], _ => Nat.le_refl _
  | x :: l, ls => Nat.le_trans (refDropL_len (l := l) (ls := ls.filter (notE x))) (List.length_filter_le _ _)
theorem refDrop_ok {p : Nat} {m : RM} {sa : Sl} {l : List S_wicketref17_Entry} {K : Value → W} {F : List HProp} [rs : Rs F sa S_wicketref17_Entry.c l] (hlen : l.length ≤ 9223372036854775807) (hsz : m.list.length ≤ 1000000)
    (h : Ent (refAt p ⟨m.blocks, refDropL m.list l, m.some, m.last⟩ :: F) (K (.int .i64 ((m.list.length : Int) - (refDropL m.list l).length)))) : Ent (refAt p m :: F) (callC Tryd.prog 24 [.pointer (some ⟨p, 0, none⟩), sv sa] K) := by
  refine ent_mono ?_ fun w => nf24_ok
  unfold nf24
  refine ent_loop (γ := Nat) (fun i => [.int .i64 ((m.list.length : Int) - (refDropL m.list (l.take i)).length), .int .i64 i]) (fun i => refAt p ⟨m.blocks, refDropL m.list (l.take i), m.some, m.last⟩ :: F)
    (fun i => i ≤ l.length) (fun i => l.length - i) 0 (by simp [refDropL]) (by omega) ⟨fun _ h => h⟩ ?_
  intro i hi K1 j hK
  simp only [List.headD_cons, List.tail_cons] at *
  repeat refine st ?_
  refine cs (fun h1 => ?_) (fun h1 => ?_)
  · have hi1 : i < l.length := by omega
    have hll := refDropL_len (l := l.take i) (ls := m.list)
    have hone := refDropL_one (ls := m.list) hi1
    have hK1 := hK (i + 1) hi1 (by omega)
    rw [hone] at hK1
    generalize refDropL m.list (l.take i) = ls at *
    repeat refine st ?_
    unfold nf24_2
    refine ref_open fun s => ?_
    refine ent_nil S_wicketref17_Entry.c 76 ?_
    refine ent_loop (γ := Nat × Sl) (fun g => [sv g.2, .int .i64 g.1]) (fun g => sl S_wicketref17_Entry.c 76 g.2 ((ls.take g.1).filter (notE (l.getD i default))) :: vr p 72 S_wicketref17_Cache.c ⟨m.blocks, s, m.some, m.last⟩ :: sl S_wicketref17_Entry.c 76 s ls :: F)
      (fun g => g.1 ≤ ls.length) (fun g => ls.length - g.1) (0, Sl.nil) rfl (by simp) ⟨fun _ h => h⟩ ?_
    intro ⟨k, t⟩ hk K2 j2 hK2
    simp only [List.headD_cons, List.tail_cons] at *
    have hfl := filter_take_len (q := notE (l.getD i default)) (l := ls) (i := k)
    repeat refine st ?_
    refine cs (fun h2 => ?_) (fun h2 => ?_)
    · have hk1 : k < ls.length := by omega
      have hyes : notE (l.getD i default) (ls.getD k default) = true → ∀ s3, Ent (sl S_wicketref17_Entry.c 76 s3 ((ls.take k).filter (notE (l.getD i default)) ++ [ls.getD k default]) :: vr p 72 S_wicketref17_Cache.c ⟨m.blocks, s, m.some, m.last⟩ :: sl S_wicketref17_Entry.c 76 s ls :: F) (K2 [sv s3, .int .i64 (k + 1)]) := fun hq s3 => by
        have := hK2 (k + 1, s3) hk1 (by simp only; omega)
        simp only [filter_one hk1, if_pos hq] at this
        exact this
      repeat refine st ?_
      refine sc (by omega) ?_
      refine sc (by omega) ?_
      refine sc ⟨hk1, trivial⟩ ?_
      refine sc (by omega) ?_
      refine sc (by omega) ?_
      refine sc ⟨hi1, trivial⟩ ?_
      refine cs (fun h3 => ?_) (fun h3 => ?_)
      · repeat refine st ?_
        refine sc (by omega) ?_
        repeat refine st ?_
        refine sc (by omega) ?_
        repeat refine st ?_
        refine sc ⟨hk1, trivial⟩ ?_
        repeat refine st ?_
        refine sc (by omega) ?_
        repeat refine st ?_
        refine sc (by omega) ?_
        repeat refine st ?_
        refine sc ⟨hi1, trivial⟩ ?_
        repeat refine st ?_
        refine cs (fun h4 => ?_) (fun h4 => ?_)
        · repeat refine st ?_
          unfold nf24_1
          refine sc (by omega) ?_
          have := hK2 (k + 1, t) hk1 (by simp only; omega)
          have hq : ¬ notE (l.getD i default) (ls.getD k default) = true := by
            intro hc
            rcases of_decide_eq_true hc with hc | hc
            · exact hc h3
            · exact hc h4
          simp only [filter_one hk1, if_neg hq, List.append_nil] at this
          exact this
        · repeat refine st ?_
          refine sc (by omega) ?_
          refine sc ⟨hk1, trivial⟩ ?_
          refine sc ⟨rfl, by show 1 * 34 ≤ 16777216; decide⟩ ?_
          intro s2
          refine sc (by simp only [List.length_singleton]; omega) ?_
          intro s3
          unfold nf24_1
          refine sc (by omega) ?_
          exact inc (hyes (decide_eq_true (.inr h4)) s3)
      · repeat refine st ?_
        refine sc (by omega) ?_
        refine sc ⟨hk1, trivial⟩ ?_
        refine sc ⟨rfl, by show 1 * 34 ≤ 16777216; decide⟩ ?_
        intro s2
        refine sc (by simp only [List.length_singleton]; omega) ?_
        intro s3
        unfold nf24_1
        refine sc (by omega) ?_
        exact inc (hyes (decide_eq_true (.inl h3)) s3)
    · have : k = ls.length := by omega
      subst this
      rw [List.take_length] at hfl ⊢
      repeat refine st ?_
      refine sc (by omega) ?_
      repeat refine st ?_
      refine sc (by omega) ?_
      repeat refine st ?_
      refine sc (by omega) ?_
      have e : (m.list.length : Int) - ls.length + ls.length - (ls.filter (notE (l.getD i default))).length = (m.list.length : Int) - (ls.filter (notE (l.getD i default))).length := by omega
      rw [e]
      exact inc (M := vr p 72 S_wicketref17_Cache.c ⟨m.blocks, t, m.some, m.last⟩ :: sl S_wicketref17_Entry.c 76 t (ls.filter (notE (l.getD i default))) :: F) (ref_shut (m := ⟨_, _, _, _⟩) hK1)
  · have : i = l.length := by omega
    subst this
    rw [List.take_length]
    repeat refine st ?_
    exact h
end Go.Proofs.YtmnokpffpadgoaaDoor
