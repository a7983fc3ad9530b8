/- The two sides of a cache say the same: what each call does to both. -/
import Derived.Test.YtmnokpffpadgoaaDoorCi
import Derived.Test.YtmnokpffpadgoaaDoorCl
namespace Go.Proofs.YtmnokpffpadgoaaDoor
set_option linter.unusedSimpArgs false
set_option linter.unusedVariables false
open Go.Dn
set_option linter.unusedSectionVars false
set_option synthInstance.maxSize 10000
set_option synthInstance.maxHeartbeats 400000
set_option maxHeartbeats 2000000
variable [sd : Side]
abbrev RE := S_wicketref17_Entry
theorem getD_set_eq {α : Type} {l : List α} {i : Nat} {a d : α} (h : i < l.length) : (l.set i a).getD i d = a := by simp [h]
theorem getD_set_ne {α : Type} {l : List α} {i j : Nat} {a d : α} (h : i ≠ j) : (l.set i a).getD j d = l.getD j d := by
  simp [h]
/-- What a cache holds of a block. -/
def gM (m : CM) (b : Nat) : Option RE := if m.there.getD b false = true then some (toR (m.ents.getD b default)) else none
theorem gM_yes {m : CM} {b : Nat} (h : m.there.getD b false = true) : gM m b = some (toR (m.ents.getD b default)) := if_pos h
theorem gM_no {m : CM} {b : Nat} (h : m.there.getD b false = false) : gM m b = none := if_neg (by rw [h]; decide)
theorem lst_gM (m : CM) (n : Nat) : (lstP m n).map toR = (List.range n).filterMap (gM m) := by
  induction n with
  | zero => rfl
  | succ n ih =>
    rw [List.range_succ, List.filterMap_append, ← ih]
    cases h : m.there.getD n false with
    | true => rw [lstP_yes h, List.map_append, List.filterMap_cons, gM_yes h]; rfl
    | false => rw [lstP_no h, List.filterMap_cons, gM_no h]; simp
theorem fm_congr {β : Type} {f g : Nat → Option β} : ∀ {l : List Nat}, (∀ x ∈ l, f x = g x) → l.filterMap f = l.filterMap g
  | [], _ => rfl
  | x :: l, h => by rw [List.filterMap_cons, List.filterMap_cons, h x (.head _), fm_congr fun y hy => h y (.tail _ hy)]
theorem fm_split {β : Type} (g : Nat → Option β) {n b : Nat} (hb : b < n) : (List.range n).filterMap g = (List.range b).filterMap g ++ ((g b).toList ++ (List.range (n - b - 1)).filterMap (fun k => g (b + 1 + k))) := by
  have e : List.range n = List.range b ++ ([b] ++ (List.range (n - b - 1)).map (b + 1 + ·)) := by
    rw [← List.append_assoc, ← List.range_succ, ← List.range_add]
    congr 1
    omega
  rw [e, List.filterMap_append, List.filterMap_append, List.filterMap_map]
  rfl
theorem fm_none {β : Type} {g : Nat → Option β} {l : List Nat} (h : ∀ k ∈ l, g k = none) : l.filterMap g = [] := List.filterMap_eq_nil_iff.2 h
theorem ins_fm {g g' : Nat → Option RE} {n b : Nat} {x : RE} (hb : b < n) (hx : x.Block = (b : Int)) (hblk : ∀ k e, g k = some e → e.Block = (k : Int)) (h1 : g' b = some x) (h2 : ∀ k, k ≠ b → g' k = g k) :
    insE ((List.range n).filterMap g) x = (List.range n).filterMap g' := by
  show List.filter _ _ ++ [x] ++ List.filter _ _ = _
  rw [List.filter_filterMap, List.filter_filterMap, fm_split _ hb, fm_split _ hb, fm_split g' hb, h1]
  have lo : ∀ k e, g k = some e → (e.Block < x.Block ↔ k < b) ∧ (x.Block < e.Block ↔ b < k) := fun k e he => by
    have := hblk k e he
    constructor <;> omega
  have a1 : (List.range b).filterMap (fun k => (g k).filter fun e => decide (e.Block < x.Block)) = (List.range b).filterMap g' := by
    refine fm_congr fun k hk => ?_
    have hkb : k < b := by simpa using hk
    rw [h2 k (by omega)]
    cases hg : g k with
    | none => rfl
    | some e => simp [Option.filter, (lo k e hg).1, hkb]
  have a2 : ((g b).filter fun e => decide (e.Block < x.Block)) = none := by
    cases hg : g b with
    | none => rfl
    | some e => simp [Option.filter, (lo b e hg).1]
  have a3 : (List.range (n - b - 1)).filterMap (fun k => (g (b + 1 + k)).filter fun e => decide (e.Block < x.Block)) = [] := by
    refine fm_none fun k _ => ?_
    cases hg : g (b + 1 + k) with
    | none => rfl
    | some e => simp only [Option.filter, (lo _ e hg).1]; rw [if_neg]; simp; omega
  have b1 : (List.range b).filterMap (fun k => (g k).filter fun e => decide (x.Block < e.Block)) = [] := by
    refine fm_none fun k hk => ?_
    have hkb : k < b := by simpa using hk
    cases hg : g k with
    | none => rfl
    | some e => simp only [Option.filter, (lo _ e hg).2]; rw [if_neg]; simp; omega
  have b2 : ((g b).filter fun e => decide (x.Block < e.Block)) = none := by
    cases hg : g b with
    | none => rfl
    | some e => simp [Option.filter, (lo b e hg).2]
  have b3 : (List.range (n - b - 1)).filterMap (fun k => (g (b + 1 + k)).filter fun e => decide (x.Block < e.Block)) = (List.range (n - b - 1)).filterMap (fun k => g' (b + 1 + k)) := by
    refine fm_congr fun k _ => ?_
    rw [h2 (b + 1 + k) (by omega)]
    cases hg : g (b + 1 + k) with
    | none => rfl
    | some e => simp only [Option.filter, (lo _ e hg).2]; rw [if_pos]; simp; omega
  rw [a1, a2, a3, b1, b2, b3]
  simp
structure RelL (m : CM) (ls : List RE) : Prop where
  len : m.there.length = m.ents.length
  le : m.ents.length ≤ 64
  blk : ∀ k e, gM m k = some e → e.Block = (k : Int)
  list : ls = (List.range m.ents.length).filterMap (gM m)
theorem RelL.lst {m : CM} {ls : List RE} (h : RelL m ls) : ls = (lst m).map toR := by rw [h.list, lst_gM]
theorem RelL.length {m : CM} {ls : List RE} (h : RelL m ls) : ls.length = (Go.Proofs.YtmnokpffpadgoaaDoor.lst m).length ∧ ls.length ≤ 64 := by
  have h1 : ls.length = (Go.Proofs.YtmnokpffpadgoaaDoor.lst m).length := by rw [h.lst, List.length_map]
  have h2 := lstP_len (m := m) m.ents.length
  have h3 := h.le
  refine ⟨h1, ?_⟩
  rw [h1]
  exact Nat.le_trans h2 h3
theorem rel_put1 {m : CM} {ls : List RE} {x : S_api_Image} {pos la : Int} {an : Bool} (h : RelL m ls) (hin : inB m x) :
    RelL ⟨m.ents.set x.Block.toNat ⟨x.Block, x.Value, pos⟩, m.there.set x.Block.toNat true, la, an⟩ (insE ls ⟨x.Block, x.Value, pos⟩) := by
  have hb : x.Block.toNat < m.ents.length := by have := hin.1; have := hin.2; omega
  have hbi : ((x.Block.toNat : Nat) : Int) = x.Block := by have := hin.1; omega
  have hbt : x.Block.toNat < m.there.length := by rw [h.len]; exact hb
  have g1 : gM ⟨m.ents.set x.Block.toNat ⟨x.Block, x.Value, pos⟩, m.there.set x.Block.toNat true, la, an⟩ x.Block.toNat = some ⟨x.Block, x.Value, pos⟩ := by
    rw [gM_yes (getD_set_eq hbt)]
    simp only
    rw [getD_set_eq hb]
  have g2 : ∀ k, k ≠ x.Block.toNat → gM ⟨m.ents.set x.Block.toNat ⟨x.Block, x.Value, pos⟩, m.there.set x.Block.toNat true, la, an⟩ k = gM m k := fun k hk => by
    unfold gM
    simp only
    rw [getD_set_ne (Ne.symm hk), getD_set_ne (Ne.symm hk)]
  refine ⟨by simp [h.len], by simpa using h.le, fun k e he => ?_, ?_⟩
  · by_cases hk : k = x.Block.toNat
    · subst hk
      rw [g1] at he
      cases he
      exact hbi.symm
    · rw [g2 k hk] at he
      exact h.blk k e he
  · have hl : (m.ents.set x.Block.toNat (⟨x.Block, x.Value, pos⟩ : S_cache_Entry)).length = m.ents.length := by simp
    show _ = (List.range (m.ents.set x.Block.toNat (⟨x.Block, x.Value, pos⟩ : S_cache_Entry)).length).filterMap _
    rw [hl, h.list]
    exact ins_fm hb hbi.symm h.blk g1 g2
theorem rel_putL {pos : Int} : ∀ {l : List S_api_Image} {m : CM} {ls : List RE} (_ : RelL m ls) (_ : ∀ x ∈ l, inB m x) (la : Int) (an : Bool), RelL ⟨putE m.ents l pos, putT m.there l, la, an⟩ (refPutL l pos ls)
  | [], m, ls, h, _, la, an => ⟨h.len, h.le, h.blk, h.list⟩
  | x :: l, m, ls, h, hin, la, an => by
    have h1 := rel_put1 (pos := pos) (la := la) (an := an) h (hin x (.head _))
    exact rel_putL h1 (fun y hy => by
      have := hin y (.tail _ hy)
      unfold inB at *
      simpa using this) la an
structure Rel (m : CM) (r : RM) : Prop where
  rl : RelL m r.list
  blocks : r.blocks = (m.ents.length : Int)
  some : r.some = m.any
  last : r.last = m.last
theorem rel_res {m : CM} {r : RM} (h : Rel m r) {l : List S_api_Image} {pos : Int} : refRes r l pos = putRes m l pos := by
  unfold refRes putRes inB
  rw [h.blocks, h.some, h.last]
  by_cases h1 : ∀ i, i < l.length → 0 ≤ (l.getD i default).Block ∧ (l.getD i default).Block < (m.ents.length : Int)
  · rw [if_pos h1, if_pos h1]
  · rw [if_neg h1, if_neg h1]
theorem rel_put {m : CM} {r : RM} (h : Rel m r) {l : List S_api_Image} {pos : Int} : Rel (putM m l pos) (refPutM r l pos) := by
  unfold putM refPutM
  rw [rel_res h]
  by_cases h0 : putRes m l pos = 0
  · rw [if_pos h0, if_pos h0]
    have hin : ∀ x ∈ l, inB m x := by
      intro x hx
      obtain ⟨i, hi, rfl⟩ := mem_getD hx
      unfold putRes at h0
      by_cases hc : ∀ i, i < l.length → inB m (l.getD i default)
      · exact hc i hi
      · rw [if_neg hc] at h0; simp at h0
    refine ⟨rel_putL h.rl hin pos true, ?_, rfl, rfl⟩
    show r.blocks = ((putE m.ents l pos).length : Int)
    rw [putE_len]; exact h.blocks
  · rw [if_neg h0, if_neg h0]; exact h
theorem rel_putsz {m : CM} {r : RM} (h : Rel m r) {l : List S_api_Image} {pos : Int} (h0 : refRes r l pos = 0) : l.length ≤ 64 := by
  rw [rel_res h] at h0
  unfold putRes at h0
  by_cases hc : ∀ i, i < l.length → inB m (l.getD i default)
  · rw [if_pos hc] at h0
    by_cases hr : rises l
    · have hle := h.rl.le
      have key : ∀ i, i < l.length → (i : Int) ≤ (l.getD i default).Block := by
        intro i
        induction i with
        | zero => intro hi; exact (hc 0 hi).1
        | succ i ih =>
          intro hi
          have h1 := ih (by omega)
          have h2 := hr i hi
          omega
      by_cases hl : l.length = 0
      · omega
      · have h1 := key (l.length - 1) (by omega)
        have h2 := (hc (l.length - 1) (by omega)).2
        omega
    · rw [if_neg hr] at h0; simp at h0
  · rw [if_neg hc] at h0; simp at h0
theorem rel_find {m : CM} {ls : List RE} (h : RelL m ls) (b : Int) : findE ls b = if (getM m b).2 = true then some (toR (getM m b).1) else none := by
  unfold findE
  rw [h.list]
  by_cases hb : 0 ≤ b ∧ b < m.ents.length
  · have hbn : b.toNat < m.ents.length := by omega
    have hbi : ((b.toNat : Nat) : Int) = b := by omega
    rw [fm_split _ hbn, List.find?_append, List.find?_append]
    have a1 : List.find? (fun e : RE => e.Block == b) ((List.range b.toNat).filterMap (gM m)) = none := by
      rw [List.find?_eq_none]
      intro x hx
      obtain ⟨k, hk, hg⟩ := List.mem_filterMap.1 hx
      have := h.blk k x hg
      have hkb : k < b.toNat := by simpa using hk
      simp; omega
    have a3 : List.find? (fun e : RE => e.Block == b) ((List.range (m.ents.length - b.toNat - 1)).filterMap (fun k => gM m (b.toNat + 1 + k))) = none := by
      rw [List.find?_eq_none]
      intro x hx
      obtain ⟨k, hk, hg⟩ := List.mem_filterMap.1 hx
      have := h.blk _ x hg
      simp; omega
    rw [a1, a3]
    cases ht : m.there.getD b.toNat false with
    | true =>
      have hg := gM_yes ht
      have hm : getM m b = (m.ents.getD b.toNat default, true) := if_pos ⟨hb.1, hb.2, ht⟩
      have hbk := h.blk _ _ hg
      rw [hg, hm]
      have hbk2 : (m.ents.getD b.toNat default).Block = b := by rw [← hbi]; exact hbk
      simp only [Option.toList_some, List.find?_cons, List.find?_nil, hbk2]
      simp
    | false =>
      have hm : getM m b = (S_cache_Entry.z, false) := if_neg fun hx => by rw [ht] at hx; exact absurd hx.2.2 (by decide)
      rw [gM_no ht, hm]
      simp
  · have hm : getM m b = (S_cache_Entry.z, false) := if_neg fun hx => hb ⟨hx.1, hx.2.1⟩
    rw [hm]
    simp only [Bool.false_eq_true, if_false]
    rw [List.find?_eq_none]
    intro x hx
    obtain ⟨k, hk, hg⟩ := List.mem_filterMap.1 hx
    have := h.blk k x hg
    have hkb : k < m.ents.length := by simpa using hk
    simp; omega
theorem rel_drop1 {m : CM} {ls : List RE} {n : Nat} {e : S_cache_Entry} (h : RelL m ls) : RelL (dropStep (m, n) e).1 (ls.filter (notE (toR e))) ∧ (dropStep (m, n) e).2 + (ls.filter (notE (toR e))).length = n + ls.length := by
  unfold dropStep
  by_cases hd : (getM m e.Block).2 = true ∧ (getM m e.Block).1.Position = e.Position
  · rw [if_pos hd]
    simp only
    obtain ⟨h1, h2⟩ := hd
    have hc : 0 ≤ e.Block ∧ e.Block < m.ents.length ∧ m.there.getD e.Block.toNat false = true := by
      by_cases hc : 0 ≤ e.Block ∧ e.Block < m.ents.length ∧ m.there.getD e.Block.toNat false = true
      · exact hc
      · unfold getM at h1; rw [if_neg hc] at h1; simp at h1
    have hm : getM m e.Block = (m.ents.getD e.Block.toNat default, true) := if_pos hc
    rw [hm] at h2
    simp only at h2
    have hb : e.Block.toNat < m.ents.length := by omega
    have hbt : e.Block.toNat < m.there.length := by rw [h.len]; exact hb
    have hbi : ((e.Block.toNat : Nat) : Int) = e.Block := by omega
    have hg := gM_yes hc.2.2
    have hbk := h.blk _ _ hg
    have g1 : gM ⟨m.ents, m.there.set e.Block.toNat false, m.last, m.any⟩ e.Block.toNat = none := gM_no (getD_set_eq hbt)
    have g2 : ∀ k, k ≠ e.Block.toNat → gM ⟨m.ents, m.there.set e.Block.toNat false, m.last, m.any⟩ k = gM m k := fun k hk => by
      unfold gM
      simp only
      rw [getD_set_ne (Ne.symm hk)]
    have key : ls.filter (notE (toR e)) = (List.range m.ents.length).filterMap (gM ⟨m.ents, m.there.set e.Block.toNat false, m.last, m.any⟩) := by
      rw [h.list, List.filter_filterMap]
      refine fm_congr fun k _ => ?_
      by_cases hk : k = e.Block.toNat
      · subst hk
        rw [g1, hg]
        simp only [Option.filter, notE]
        rw [if_neg]
        simp only [decide_eq_true_eq]
        intro hx
        rcases hx with hx | hx
        · exact hx (hbk.trans hbi)
        · exact hx h2
      · rw [g2 k hk]
        cases hgk : gM m k with
        | none => rfl
        | some x =>
          have := h.blk k x hgk
          simp only [Option.filter, notE]
          rw [if_pos]
          simp only [decide_eq_true_eq]
          left
          show x.Block ≠ e.Block
          omega
    refine ⟨⟨by simpa using h.len, h.le, fun k x hx => ?_, key⟩, ?_⟩
    · by_cases hk : k = e.Block.toNat
      · subst hk; rw [g1] at hx; cases hx
      · rw [g2 k hk] at hx; exact h.blk k x hx
    · rw [key, h.list, fm_split _ hb, fm_split (gM m) hb, g1, hg]
      have c1 : (List.range e.Block.toNat).filterMap (gM ⟨m.ents, m.there.set e.Block.toNat false, m.last, m.any⟩) = (List.range e.Block.toNat).filterMap (gM m) :=
        fm_congr fun k hk => g2 k (Nat.ne_of_lt (by simpa using hk))
      have c2 : (List.range (m.ents.length - e.Block.toNat - 1)).filterMap (fun k => gM ⟨m.ents, m.there.set e.Block.toNat false, m.last, m.any⟩ (e.Block.toNat + 1 + k)) = (List.range (m.ents.length - e.Block.toNat - 1)).filterMap (fun k => gM m (e.Block.toNat + 1 + k)) :=
        fm_congr fun k _ => g2 _ (by omega)
      rw [c1, c2]
      simp only [List.length_append, Option.toList_none, Option.toList_some, List.length_nil, List.length_singleton]
      omega
  · rw [if_neg hd]
    have key : ls.filter (notE (toR e)) = ls := by
      rw [List.filter_eq_self]
      intro x hx
      rw [h.list] at hx
      obtain ⟨k, hk, hg⟩ := List.mem_filterMap.1 hx
      have hbk := h.blk k x hg
      have hkn : k < m.ents.length := by simpa using hk
      simp only [notE, decide_eq_true_eq, toR]
      by_cases hb : x.Block = e.Block
      · right
        intro hp
        apply hd
        have ht : m.there.getD k false = true := by
          cases ht : m.there.getD k false with
          | true => rfl
          | false => rw [gM_no ht] at hg; cases hg
        rw [gM_yes ht] at hg
        cases hg
        simp only [toR] at hbk hb hp
        have hkb : e.Block.toNat = k := by omega
        have hm : getM m e.Block = (m.ents.getD e.Block.toNat default, true) := if_pos ⟨by omega, by omega, by rw [hkb]; exact ht⟩
        rw [hm, hkb]
        exact ⟨rfl, hp⟩
      · exact .inl hb
    rw [key]
    exact ⟨h, rfl⟩
theorem rel_dropL : ∀ {l : List S_cache_Entry} {m : CM} {ls : List RE} {n : Nat} (_ : RelL m ls),
    RelL (l.foldl dropStep (m, n)).1 (refDropL ls (l.map toR)) ∧ (l.foldl dropStep (m, n)).2 + (refDropL ls (l.map toR)).length = n + ls.length
  | [], m, ls, n, h => ⟨h, rfl⟩
  | e :: l, m, ls, n, h => by
    obtain ⟨h1, h2⟩ := rel_drop1 (n := n) (e := e) h
    obtain ⟨h3, h4⟩ := rel_dropL (l := l) (m := (dropStep (m, n) e).1) (n := (dropStep (m, n) e).2) h1
    refine ⟨h3, ?_⟩
    show _ + (refDropL (ls.filter (notE (toR e))) (l.map toR)).length = _
    have h5 : (List.foldl dropStep (m, n) (e :: l)).2 = (List.foldl dropStep ((dropStep (m, n) e).1, (dropStep (m, n) e).2) l).2 := rfl
    rw [h5]
    omega
theorem drop_last {m : CM} {l : List S_cache_Entry} : (dropM m l).1.last = m.last ∧ (dropM m l).1.any = m.any := by
  have key : ∀ (l : List S_cache_Entry) (s : CM × Nat), (l.foldl dropStep s).1.last = s.1.last ∧ (l.foldl dropStep s).1.any = s.1.any := by
    intro l
    induction l with
    | nil => intro s; exact ⟨rfl, rfl⟩
    | cons x l ih =>
      intro s
      obtain ⟨h1, h2⟩ := ih (dropStep s x)
      have : (dropStep s x).1.last = s.1.last ∧ (dropStep s x).1.any = s.1.any := by unfold dropStep; split <;> exact ⟨rfl, rfl⟩
      exact ⟨h1.trans this.1, h2.trans this.2⟩
  exact key l (m, 0)
theorem rel_drop {m : CM} {r : RM} (h : Rel m r) (l : List S_cache_Entry) : Rel (dropM m l).1 ⟨r.blocks, refDropL r.list (l.map toR), r.some, r.last⟩ ∧ ((dropM m l).2 : Int) = (r.list.length : Int) - (refDropL r.list (l.map toR)).length := by
  obtain ⟨h1, h2⟩ := rel_dropL (l := l) (n := 0) h.rl
  obtain ⟨h3, h4⟩ := drop_last (m := m) (l := l)
  refine ⟨⟨h1, ?_, ?_, ?_⟩, ?_⟩
  · have := (dropM_len (m := m) (l := l)).1
    show r.blocks = ((dropM m l).1.ents.length : Int)
    rw [this]; exact h.blocks
  · rw [h4]; exact h.some
  · rw [h3]; exact h.last
  · unfold dropM; omega
theorem rel_new {n : Int} (h : 1 ≤ n ∧ n ≤ 64) : Rel ⟨List.replicate n.toNat S_cache_Entry.z, List.replicate n.toNat false, 0, false⟩ ⟨n, [], false, 0⟩ := by
  have hno : ∀ k, gM ⟨List.replicate n.toNat S_cache_Entry.z, List.replicate n.toNat false, 0, false⟩ k = none := fun k => gM_no (by
    simp only [List.getD_eq_getElem?_getD, List.getElem?_replicate]
    split <;> rfl)
  refine ⟨⟨by simp, by show (List.replicate n.toNat S_cache_Entry.z).length ≤ 64; rw [List.length_replicate]; omega, fun k e he => (by rw [hno] at he; cases he), ?_⟩, ?_, rfl, rfl⟩
  · exact (fm_none fun k _ => hno k).symm
  · show n = ((List.replicate n.toNat S_cache_Entry.z).length : Int)
    rw [List.length_replicate]; omega
end Go.Proofs.YtmnokpffpadgoaaDoor
