/- The statement CacheDrops: the plain law. -/
import Derived.Test.YtmnokpffpadgoaaCl
namespace Go.Proofs.Ytmnokpffpadgoaa
open Go.Dn
/-- Eight things, by their blocks. -/
abbrev L8 {α : Type} (f : Nat → α) : List α := (List.range 8).map f
theorem L8_get {α : Type} {f : Nat → α} {d : α} {b : Nat} (h : b < 8) : (L8 f).getD b d = f b := by
  simp [L8, h]
theorem L8_len {α : Type} {f : Nat → α} : (L8 f).length = 8 := by simp [L8]
theorem L8_ext {α : Type} {f g : Nat → α} (h : ∀ b, b < 8 → f b = g b) : L8 f = L8 g := by
  unfold L8
  exact List.map_congr_left fun b hb => h b (by simpa using hb)
theorem L8_set {α : Type} {f : Nat → α} {b : Nat} {v : α} : (L8 f).set b v = L8 fun k => if k = b then v else f k := by
  apply List.ext_getElem (by simp [L8])
  intro i h1 h2
  simp only [L8, List.getElem_set, List.getElem_map, List.getElem_range]
  by_cases hb : b = i
  · rw [if_pos hb, if_pos hb.symm]
  · rw [if_neg hb, if_neg (Ne.symm hb)]
def A8 {α : Type} (f : Nat → α) : Arr 8 α := ⟨L8 f, L8_len⟩
theorem A8_ext {α : Type} {f g : Nat → α} (h : ∀ b, b < 8 → f b = g b) : A8 f = A8 g := Arr.ext' (L8_ext h)
/-- A cache of eight blocks. -/
abbrev PC (e : Nat → S_cache_Entry) (t : Nat → Bool) (la : Int) (an : Bool) : CM := ⟨L8 e, L8 t, la, an⟩
section
variable {e e' : Nat → S_cache_Entry} {t s : Nat → Bool} {la : Int} {an : Bool}
theorem lst_pc : lst (PC e t la an) = ((List.range 8).filter t).map e := by
  show lstP (PC e t la an) (L8 e).length = _
  rw [L8_len]
  unfold lstP
  have h1 : ∀ b ∈ List.range 8, (L8 t).getD b false = t b := fun b hb => L8_get (by simpa using hb)
  have h2 : ∀ b ∈ (List.range 8).filter t, (L8 e).getD b default = e b := fun b hb => L8_get (by have := (List.mem_filter.1 hb).1; simpa using this)
  rw [List.filter_congr h1]
  exact List.map_congr_left h2
theorem getM_pc {b : Nat} (h : b < 8) : getM (PC e t la an) b = if t b = true then (e b, true) else (S_cache_Entry.z, false) := by
  unfold getM
  simp only [Int.toNat_natCast, L8_get h, L8_len]
  by_cases ht : t b = true
  · rw [if_pos ht, if_pos ⟨by omega, by omega, ht⟩]
  · rw [if_neg ht, if_neg (fun hc => ht hc.2.2)]
theorem drop_pc (hb : ∀ b, b < 8 → s b = true → (e' b).Block = (b : Int)) : ∀ n, n ≤ 8 → dropM (PC e t la an) (((List.range n).filter s).map e') =
    (PC e (fun b => t b && !(decide (b < n) && s b && decide ((e b).Position = (e' b).Position))) la an, ((List.range n).filter fun b => s b && t b && decide ((e b).Position = (e' b).Position)).length)
  | 0, _ => by simp [dropM]
  | n + 1, hn => by
    have ih := drop_pc hb n (by omega)
    rw [List.range_succ, List.filter_append, List.map_append, List.filter_append]
    unfold dropM at ih ⊢
    rw [List.foldl_append, ih]
    cases hs : s n with
    | false =>
      simp only [List.filter, hs, List.map_nil, List.foldl_nil, Bool.false_and, List.append_nil]
      congr 1
      have : L8 (fun b => t b && !(decide (b < n) && s b && decide ((e b).Position = (e' b).Position))) = L8 (fun b => t b && !(decide (b < n + 1) && s b && decide ((e b).Position = (e' b).Position))) := by
        apply L8_ext
        intro b _
        by_cases hbn : b = n
        · subst hbn; simp [hs]
        · have : decide (b < n) = decide (b < n + 1) := by simp; omega
          rw [this]
      rw [PC, this]
    | true =>
      simp only [List.filter, hs, List.map_cons, List.map_nil, List.foldl_cons, List.foldl_nil, Bool.true_and]
      unfold dropStep
      simp only [hb n (by omega) hs]
      rw [getM_pc (by omega)]
      have hnn : (t n && !(decide (n < n) && s n && decide ((e n).Position = (e' n).Position))) = t n := by simp
      simp only [hnn]
      cases ht : t n with
      | false =>
        rw [if_neg (by simp)]
        simp only [Bool.false_and, List.append_nil]
        congr 1
        have : L8 (fun b => t b && !(decide (b < n) && s b && decide ((e b).Position = (e' b).Position))) = L8 (fun b => t b && !(decide (b < n + 1) && s b && decide ((e b).Position = (e' b).Position))) := by
          apply L8_ext
          intro b _
          by_cases hbn : b = n
          · subst hbn; simp [ht]
          · have : decide (b < n) = decide (b < n + 1) := by simp; omega
            rw [this]
        rw [PC, this]
      | true =>
        by_cases hp : (e n).Position = (e' n).Position
        · rw [if_pos (by simp [hp])]
          simp only [Int.toNat_natCast, L8_set, hp, decide_true, Bool.and_true, List.length_append, List.length_singleton]
          congr 1
          have : L8 (fun k => if k = n then false else t k && !(decide (k < n) && s k && decide ((e k).Position = (e' k).Position))) = L8 (fun b => t b && !(decide (b < n + 1) && s b && decide ((e b).Position = (e' b).Position))) := by
            apply L8_ext
            intro b _
            by_cases hbn : b = n
            · subst hbn; simp [hs, hp]
            · rw [if_neg hbn]
              have : decide (b < n) = decide (b < n + 1) := by simp; omega
              rw [this]
          rw [PC, this]
        · rw [if_neg (by simp [hp])]
          simp only [hp, decide_false, Bool.and_false, List.append_nil]
          congr 1
          have : L8 (fun b => t b && !(decide (b < n) && s b && decide ((e b).Position = (e' b).Position))) = L8 (fun b => t b && !(decide (b < n + 1) && s b && decide ((e b).Position = (e' b).Position))) := by
            apply L8_ext
            intro b _
            by_cases hbn : b = n
            · subst hbn; simp [hp]
            · have : decide (b < n) = decide (b < n + 1) := by simp; omega
              rw [this]
          rw [PC, this]
end

abbrev valueA (fill b : Int) : Arr 32 Int := (((⟨List.replicate 32 0, List.length_replicate⟩ : Arr 32 Int).set 0 fill).set 1 b).set 2 1
theorem putE_pc {e : Nat → S_cache_Entry} {h : Nat → Bool} {v : Nat → Arr 32 Int} {pos : Int} : ∀ n, n ≤ 8 → putE (L8 e) (((List.range n).filter h).map fun (b : Nat) => ⟨(b : Int), v b⟩) pos = L8 fun b => if b < n ∧ h b = true then ⟨b, v b, pos⟩ else e b
  | 0, _ => by simp [putE]
  | n + 1, hn => by
    have ih := putE_pc (e := e) (h := h) (v := v) (pos := pos) n (by omega)
    rw [List.range_succ, List.filter_append, List.map_append]
    unfold putE at ih ⊢
    rw [List.foldl_append, ih]
    cases hs : h n with
    | false =>
      simp only [List.filter, hs, List.map_nil, List.foldl_nil]
      apply L8_ext
      intro b _
      by_cases hbn : b = n
      · subst hbn; rw [if_neg (by simp [hs]), if_neg (by simp [hs])]
      · have : (b < n ∧ h b = true) = (b < n + 1 ∧ h b = true) := by rw [show (b < n) = (b < n + 1) from propext (by omega)]
        simp only [this]
    | true =>
      simp only [List.filter, hs, List.map_cons, List.map_nil, List.foldl_cons, List.foldl_nil, Int.toNat_natCast, L8_set]
      apply L8_ext
      intro b _
      by_cases hbn : b = n
      · subst hbn; rw [if_pos rfl, if_pos ⟨by omega, hs⟩]
      · have : (b < n ∧ h b = true) = (b < n + 1 ∧ h b = true) := by rw [show (b < n) = (b < n + 1) from propext (by omega)]
        rw [if_neg hbn]; simp only [this]
theorem putT_pc {t : Nat → Bool} {h : Nat → Bool} {v : Nat → Arr 32 Int} : ∀ n, n ≤ 8 → putT (L8 t) (((List.range n).filter h).map fun (b : Nat) => ⟨(b : Int), v b⟩) = L8 fun b => if b < n ∧ h b = true then true else t b
  | 0, _ => by simp [putT]
  | n + 1, hn => by
    have ih := putT_pc (t := t) (h := h) (v := v) n (by omega)
    rw [List.range_succ, List.filter_append, List.map_append]
    unfold putT at ih ⊢
    rw [List.foldl_append, ih]
    cases hs : h n with
    | false =>
      simp only [List.filter, hs, List.map_nil, List.foldl_nil]
      apply L8_ext
      intro b _
      by_cases hbn : b = n
      · subst hbn; rw [if_neg (by simp [hs]), if_neg (by simp [hs])]
      · have : (b < n ∧ h b = true) = (b < n + 1 ∧ h b = true) := by rw [show (b < n) = (b < n + 1) from propext (by omega)]
        simp only [this]
    | true =>
      simp only [List.filter, hs, List.map_cons, List.map_nil, List.foldl_cons, List.foldl_nil, Int.toNat_natCast, L8_set]
      apply L8_ext
      intro b _
      by_cases hbn : b = n
      · subst hbn; rw [if_pos rfl, if_pos ⟨by omega, hs⟩]
      · have : (b < n ∧ h b = true) = (b < n + 1 ∧ h b = true) := by rw [show (b < n) = (b < n + 1) from propext (by omega)]
        rw [if_neg hbn]; simp only [this]
/-! ## Commits -/
section
variable (bl : Nat → List Int) (fl : Nat → Int)
open Classical in
noncomputable def hit (i b : Nat) : Bool := decide (∃ x ∈ bl i, x.emod 8 = (b : Int))
noncomputable def newest : Nat → Nat → Nat
  | 0, _ => 0
  | i + 1, b => if hit bl i b = true then i + 1 else newest i b
def entA (fl : Nat → Int) (N b : Nat) : S_cache_Entry := if N = 0 then S_cache_Entry.z else ⟨b, valueA (fl (N - 1)) b, 3 * N - 1⟩
noncomputable abbrev cacheOf (i : Nat) : CM := PC (fun b => entA fl (newest bl i b) b) (fun b => decide (newest bl i b ≠ 0)) (if i = 0 then 0 else 3 * i - 1) (decide (i ≠ 0))
noncomputable def imgs (i : Nat) : List S_api_Image := ((List.range 8).filter (hit bl i)).map fun (b : Nat) => ⟨(b : Int), valueA (fl i) b⟩
theorem risesL_hit (i : Nat) : risesL (bl i) 8 = ((List.range 8).filter (hit bl i)).map fun (k : Nat) => (k : Int) := rfl
theorem newest_succ {i b : Nat} : newest bl (i + 1) b = if hit bl i b = true then i + 1 else newest bl i b := rfl
theorem newest_le : ∀ i b, newest bl i b ≤ i
  | 0, _ => Nat.le_refl _
  | i + 1, b => by
    unfold newest
    split
    · exact Nat.le_refl _
    · exact Nat.le_succ_of_le (newest_le i b)
theorem newest_old {a : Nat} {b : Nat} : ∀ {n}, a ≤ n → newest bl n b ≤ a → newest bl n b = newest bl a b
  | 0, h, _ => by have : a = 0 := by omega
                  subst this; rfl
  | n + 1, h, hle => by
    by_cases ha : a = n + 1
    · subst ha; rfl
    · rw [newest_succ] at hle ⊢
      split at hle
      · omega
      · rename_i hh
        rw [if_neg hh]
        exact newest_old (by omega) hle
theorem newest_mono {a : Nat} {b : Nat} : ∀ {n}, a ≤ n → newest bl a b ≤ newest bl n b
  | 0, h => by have : a = 0 := by omega
               subst this; exact Nat.le_refl _
  | n + 1, h => by
    by_cases ha : a = n + 1
    · subst ha; exact Nat.le_refl _
    · have ih := newest_mono (a := a) (b := b) (n := n) (by omega)
      have h2 := newest_le bl n b
      show _ ≤ (if hit bl n b = true then n + 1 else newest bl n b)
      split <;> omega
theorem imgs_mem {i k : Nat} (h : k < (imgs bl fl i).length) : ∃ b : Nat, b < 8 ∧ (imgs bl fl i).getD k default = ⟨(b : Int), valueA (fl i) b⟩ := by
  have := getD_mem h
  unfold imgs at this
  rw [List.mem_map] at this
  obtain ⟨b, hb, he⟩ := this
  exact ⟨b, by simpa using (List.mem_filter.1 hb).1, he.symm⟩
theorem imgs_rise {i : Nat} : rises (imgs bl fl i) := by
  intro k hk
  have hp : List.Pairwise (· < ·) ((List.range 8).filter (hit bl i)) := List.Pairwise.filter _ List.pairwise_lt_range
  have hk' : k + 1 < ((List.range 8).filter (hit bl i)).length := by simpa [imgs] using hk
  have := List.pairwise_iff_getElem.1 hp k (k + 1) (by omega) hk' (by omega)
  have e : ∀ j (hj : j < ((List.range 8).filter (hit bl i)).length), ((imgs bl fl i).getD j default).Block = (((List.range 8).filter (hit bl i))[j] : Nat) := by
    intro j hj
    unfold imgs
    rw [List.getD_eq_getElem?_getD, List.getElem?_map, List.getElem?_eq_getElem hj]
    rfl
  rw [e k (by omega), e (k + 1) hk']
  omega
theorem put_commit {i : Nat} (hi : i < 40) : putRes (cacheOf bl fl i) (imgs bl fl i) (3 * i + 2) = 0 ∧ putM (cacheOf bl fl i) (imgs bl fl i) (3 * i + 2) = cacheOf bl fl (i + 1) := by
  have hin : ∀ k, k < (imgs bl fl i).length → inB (cacheOf bl fl i) ((imgs bl fl i).getD k default) := by
    intro k hk
    obtain ⟨b, hb, he⟩ := imgs_mem bl fl hk
    rw [he]
    exact ⟨by show (0 : Int) ≤ (b : Int); omega, by show (b : Int) < ((L8 _).length : Nat); rw [L8_len]; omega⟩
  have hr : putRes (cacheOf bl fl i) (imgs bl fl i) (3 * i + 2) = 0 := by
    unfold putRes
    rw [if_pos hin, if_pos (imgs_rise bl fl), if_neg]
    rintro (⟨h1, h2⟩ | h1)
    · have : i ≠ 0 := by simpa using h1
      simp only [this, if_false] at h2
      omega
    · omega
  refine ⟨hr, ?_⟩
  unfold putM
  rw [if_pos hr]
  unfold imgs
  rw [putE_pc 8 (Nat.le_refl _), putT_pc 8 (Nat.le_refl _)]
  have e1 : L8 (fun b => if b < 8 ∧ hit bl i b = true then (⟨b, valueA (fl i) b, 3 * i + 2⟩ : S_cache_Entry) else entA fl (newest bl i b) b) = L8 fun b => entA fl (newest bl (i + 1) b) b := by
    apply L8_ext
    intro b hb
    by_cases hh : hit bl i b = true
    · rw [if_pos ⟨hb, hh⟩]
      show _ = entA fl (if hit bl i b = true then i + 1 else newest bl i b) b
      rw [if_pos hh]
      unfold entA
      rw [if_neg (by omega)]
      simp only [Nat.add_sub_cancel]
      congr 1
      omega
    · rw [if_neg (fun hc => hh hc.2)]
      show _ = entA fl (if hit bl i b = true then i + 1 else newest bl i b) b
      rw [if_neg hh]
  have e2 : L8 (fun b => if b < 8 ∧ hit bl i b = true then true else decide (newest bl i b ≠ 0)) = L8 fun b => decide (newest bl (i + 1) b ≠ 0) := by
    apply L8_ext
    intro b hb
    by_cases hh : hit bl i b = true
    · rw [if_pos ⟨hb, hh⟩]
      show _ = decide ((if hit bl i b = true then i + 1 else newest bl i b) ≠ 0)
      rw [if_pos hh]; simp
    · rw [if_neg (fun hc => hh hc.2)]
      show _ = decide ((if hit bl i b = true then i + 1 else newest bl i b) ≠ 0)
      rw [if_neg hh]
  rw [e1, e2]
  unfold cacheOf PC
  congr 1
  rw [if_neg (by omega)]; omega
theorem put_again {i : Nat} : putRes (cacheOf bl fl (i + 1)) (imgs bl fl i) (3 * i + 2) = 30 := by
  have hin : ∀ k, k < (imgs bl fl i).length → inB (cacheOf bl fl (i + 1)) ((imgs bl fl i).getD k default) := by
    intro k hk
    obtain ⟨b, hb, he⟩ := imgs_mem bl fl hk
    rw [he]
    exact ⟨by show (0 : Int) ≤ (b : Int); omega, by show (b : Int) < ((L8 _).length : Nat); rw [L8_len]; omega⟩
  unfold putRes
  rw [if_pos hin, if_pos (imgs_rise bl fl), if_pos]
  left
  refine ⟨by simp, ?_⟩
  show (3 * i + 2 : Int) ≤ (if i + 1 = 0 then 0 else 3 * ((i + 1 : Nat) : Int) - 1)
  rw [if_neg (by omega)]; omega
theorem putM_again {i : Nat} : putM (cacheOf bl fl (i + 1)) (imgs bl fl i) (3 * i + 2) = cacheOf bl fl (i + 1) := by
  unfold putM
  rw [if_neg]
  rw [put_again]; decide
theorem ent_block {N b : Nat} (h : decide (N ≠ 0) = true) : (entA fl N b).Block = (b : Int) := by
  unfold entA; rw [if_neg (by simpa using h)]
theorem ent_pos {N b : Nat} : (entA fl N b).Position = if N = 0 then 0 else 3 * (N : Int) - 1 := by
  unfold entA; split <;> rfl
theorem drop_told {n k : Nat} (hk : k ≤ n) : (dropM (cacheOf bl fl n) (lst (cacheOf bl fl k))).1 = PC (fun b => entA fl (newest bl n b) b) (fun b => decide (k < newest bl n b)) (if n = 0 then 0 else 3 * n - 1) (decide (n ≠ 0)) := by
  rw [lst_pc, drop_pc (fun b _ h => ent_block fl h) 8 (Nat.le_refl _)]
  show PC _ _ _ _ = PC _ _ _ _
  unfold PC
  congr 1
  apply L8_ext
  intro b hb
  simp only [ent_pos]
  have h1 := newest_le bl k b
  have h2 := newest_mono bl (a := k) (b := b) (n := n) hk
  by_cases hlt : k < newest bl n b
  · have : newest bl n b ≠ 0 := by omega
    simp [hlt, hb, this]
    by_cases hz : newest bl k b = 0
    · exact .inl hz
    · right; rw [if_neg hz]; omega
  · have he := newest_old bl hk (b := b) (by omega)
    rw [he]
    by_cases hz : newest bl k b = 0
    · simp [hz]
    · simp [hz, hb]; omega
theorem drop_all {n : Nat} : dropM (cacheOf bl fl n) (lst (cacheOf bl fl n)) = (PC (fun b => entA fl (newest bl n b) b) (fun _ => false) (if n = 0 then 0 else 3 * n - 1) (decide (n ≠ 0)), (lst (cacheOf bl fl n)).length) := by
  rw [lst_pc, drop_pc (fun b _ h => ent_block fl h) 8 (Nat.le_refl _)]
  have e1 : L8 (fun b => decide (newest bl n b ≠ 0) && !(decide (b < 8) && decide (newest bl n b ≠ 0) && decide ((entA fl (newest bl n b) b).Position = (entA fl (newest bl n b) b).Position))) = L8 fun _ => false := by
    apply L8_ext
    intro b hb
    simp [hb]
  unfold PC
  rw [e1]
  simp
end
theorem lst_none {e : Nat → S_cache_Entry} {la : Int} {an : Bool} : lst (PC e (fun _ => false) la an) = [] := by
  rw [lst_pc]; simp
end Go.Proofs.Ytmnokpffpadgoaa
