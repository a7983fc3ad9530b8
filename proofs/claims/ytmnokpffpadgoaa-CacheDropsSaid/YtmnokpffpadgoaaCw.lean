/- The statement CacheDrops: the walk. -/
import Derived.Test.YtmnokpffpadgoaaCm
namespace Go.Proofs.Ytmnokpffpadgoaa
open Go.Dn
set_option linter.unusedSectionVars false
variable [sd : Side]
theorem A8_get {α : Type} [Inhabited α] {f : Nat → α} {b : Nat} (h : b < 8) : (A8 f).get b = f b := L8_get h
theorem A8_set {α : Type} {f : Nat → α} {b : Nat} {v : α} : (A8 f).set b v = A8 fun k => if k = b then v else f k := Arr.ext' L8_set
theorem mem_rises {bl : Nat → List Int} {i c : Nat} (hc : c < 8) : (c : Int) ∈ risesL (bl i) 8 ↔ hit bl i c = true := by
  rw [risesL_hit, List.mem_map]
  constructor
  · rintro ⟨b, hb, he⟩
    have : b = c := by omega
    subst this
    exact (List.mem_filter.1 hb).2
  · intro h
    exact ⟨c, List.mem_filter.2 ⟨by simpa using hc, h⟩, rfl⟩
section
variable {h0 : Hp} {cm : List S_wicketlaw17_Commit} {bl : Nat → List Int} {F : List HProp} {sa : Sl} {at' : Int}
theorem commit_ok {p a b i : Nat} {K16 : List Value → W} {R : Value → W} {told : Value} (ho : HasOwn F h0) (hsa : RdB h0 sa S_wicketlaw17_Commit.c cm) (hbl : RdB h0 (cm.getD i default).Blocks (cInt .i64) (bl i))
    (hi : i < cm.length) (hi40 : i < 40) (hw : ∀ x ∈ bl i, -9223372036854775808 ≤ x ∧ x ≤ 9223372036854775807) (hlen : (bl i).length ≤ 9223372036854775807)
    (hK : Ent (cacheAt p (cacheOf bl (fun j => (cm.getD j default).Fill) (i + 1)) :: vr a 29 (cArr 8 (cInt .i64)) (A8 fun c => (newest bl (i + 1) c : Int)) :: vr b 30 (cArr 8 cBool) (A8 fun c => decide (at' < newest bl (i + 1) c)) :: F) (K16 [told, .int .i64 (i + 1)])) :
    Ent (cacheAt p (cacheOf bl (fun j => (cm.getD j default).Fill) i) :: vr a 29 (cArr 8 (cInt .i64)) (A8 fun c => (newest bl i c : Int)) :: vr b 30 (cArr 8 cBool) (A8 fun c => decide (at' < newest bl i c)) :: F)
      (nf3_1 K16 R (sv sa) (.int .i64 at') (.pointer (some ⟨a, 0, none⟩)) (.pointer (some ⟨b, 0, none⟩)) (.pointer (some ⟨p, 0, none⟩)) (.int .i64 i) told) := by
  unfold nf3_1
  refine sc (by omega) ?_
  refine sc (by omega) ?_
  refine sc ⟨hi, trivial⟩ ?_
  refine rising_ok hlen hw fun s => ?_
  unfold nf3_2
  refine ent_nil S_api_Image.c 41 ?_
  have hset : ∀ k, k < (risesL (bl i) 8).length → ∃ c : Nat, c < 8 ∧ (risesL (bl i) 8).getD k default = (c : Int) := by
    intro k hk
    have := getD_mem hk
    rw [risesL_hit, List.mem_map] at this
    obtain ⟨c, hc, he⟩ := this
    exact ⟨c, by simpa using (List.mem_filter.1 hc).1, he.symm⟩
  have hsl : (risesL (bl i) 8).length ≤ 8 := risesL_len
  refine ent_loop (γ := Nat × Sl) (fun g => [sv g.2, .int .i64 g.1])
    (fun g => sl S_api_Image.c 41 g.2 (((risesL (bl i) 8).take g.1).map fun c => ⟨c, valueA (cm.getD i default).Fill c⟩) :: sl (cInt .i64) 3 s (risesL (bl i) 8) :: cacheAt p (cacheOf bl (fun j => (cm.getD j default).Fill) i) ::
      vr a 29 (cArr 8 (cInt .i64)) (A8 fun c => if (c : Int) ∈ (risesL (bl i) 8).take g.1 then (i : Int) + 1 else (newest bl i c : Int)) ::
      vr b 30 (cArr 8 cBool) (A8 fun c => if (c : Int) ∈ (risesL (bl i) 8).take g.1 then decide (at' < (i : Int) + 1) else decide (at' < newest bl i c)) :: F)
    (fun g => g.1 ≤ (risesL (bl i) 8).length) (fun g => (risesL (bl i) 8).length - g.1) (0, Sl.nil) rfl (by simp) ⟨fun _ h => by simpa using h⟩ ?_
  intro ⟨k, t⟩ hk K1 j hK1
  simp only [List.headD_cons, List.tail_cons] at *
  repeat refine st ?_
  refine cs (fun h1 => ?_) (fun h1 => ?_)
  · have hk1 : k < (risesL (bl i) 8).length := by omega
    obtain ⟨c, hc, he⟩ := hset k hk1
    repeat refine st ?_
    refine sc (by omega) ?_
    refine sc ⟨hk1, trivial⟩ ?_
    refine sc (by omega) ?_
    refine sc (by omega) ?_
    refine sc ⟨hi, trivial⟩ ?_
    refine sc (by omega) ?_
    refine sc ⟨hk1, trivial⟩ ?_
    simp only [he]
    refine value_ok (by omega) ?_
    refine sc ⟨hk1, trivial⟩ ⟨by rw [he], ?_⟩
    repeat refine st ?_
    refine sc ⟨rfl, by show 1 * 33 ≤ 16777216; decide⟩ ?_
    intro s2
    refine sc (by simp only [List.length_map, List.length_take, List.length_singleton]; omega) ?_
    intro s3
    repeat refine st ?_
    refine sc (by omega) ?_
    refine sc ⟨hk1, trivial⟩ ?_
    simp only [he]
    refine sc (by omega) ?_
    refine sc (by omega) ?_
    have htk : (risesL (bl i) 8).take (k + 1) = (risesL (bl i) 8).take k ++ [(c : Int)] := by rw [take_one hk1, he]
    have upd : ∀ {α : Type} (v : α) (g : Nat → α), (A8 fun c' => if (c' : Int) ∈ (risesL (bl i) 8).take k then v else g c').set c v = A8 fun c' => if (c' : Int) ∈ (risesL (bl i) 8).take (k + 1) then v else g c' := by
      intro α v g
      rw [A8_set]
      apply A8_ext
      intro c' _
      by_cases hcc : c' = c
      · subst hcc; rw [if_pos rfl, if_pos (by rw [htk]; simp)]
      · rw [if_neg hcc]
        have : ((c' : Int) ∈ (risesL (bl i) 8).take (k + 1)) = ((c' : Int) ∈ (risesL (bl i) 8).take k) := by
          rw [htk, List.mem_append, List.mem_singleton]
          exact propext ⟨fun h => h.elim id fun h => absurd (by omega) hcc, .inl⟩
        simp only [this]
    have fin : ∀ v : Bool, v = decide (at' < (i : Int) + 1) → Ent (sl S_api_Image.c 41 s3 (((risesL (bl i) 8).take k).map (fun c => ⟨c, valueA (cm.getD i default).Fill c⟩) ++ [⟨c, valueA (cm.getD i default).Fill c⟩]) :: sl (cInt .i64) 3 s (risesL (bl i) 8) :: cacheAt p (cacheOf bl (fun j => (cm.getD j default).Fill) i) ::
      vr a 29 (cArr 8 (cInt .i64)) ((A8 fun c => if (c : Int) ∈ (risesL (bl i) 8).take k then (i : Int) + 1 else (newest bl i c : Int)).set c ((i : Int) + 1)) ::
      vr b 30 (cArr 8 cBool) ((A8 fun c => if (c : Int) ∈ (risesL (bl i) 8).take k then decide (at' < (i : Int) + 1) else decide (at' < newest bl i c)).set c v) :: F) (K1 [sv s3, .int .i64 (k + 1)]) := by
      rintro v rfl
      rw [upd, upd]
      have := hK1 (k + 1, s3) hk1 (by simp only; omega)
      simp only [htk, List.map_append, List.map_cons, List.map_nil] at this ⊢
      exact this
    refine sc hc ?_
    refine st ?_
    refine sc (by omega) ?_
    refine sc ⟨hk1, trivial⟩ ?_
    refine sc (by omega) ?_
    refine sc ⟨hk1, trivial⟩ ?_
    simp only [he]
    refine sc (by omega) ?_
    refine sc hc ?_
    rw [A8_get hc]
    generalize hv : (if (c : Int) ∈ (risesL (bl i) 8).take k then decide (at' < (i : Int) + 1) else decide (at' < newest bl i c)) = v
    have hle := newest_le bl i c
    cases v with
    | true =>
      have hd : true = decide (at' < (i : Int) + 1) := by
        rw [← hv]
        split
        · rfl
        · rename_i hn
          rw [if_neg hn] at hv
          have : at' < newest bl i c := by simpa using hv
          simp; omega
      repeat refine st ?_
      refine sc (by omega) ?_
      refine sc hc ?_
      refine sc (by omega) ?_
      exact inc (fin true hd)
    | false =>
      repeat refine st ?_
      refine cs (fun h3 => ?_) (fun h3 => ?_)
      · repeat refine st ?_
        refine sc (by omega) ?_
        refine sc hc ?_
        refine sc (by omega) ?_
        exact inc (fin true (by simp; omega))
      · repeat refine st ?_
        refine sc (by omega) ?_
        refine sc hc ?_
        refine sc (by omega) ?_
        exact inc (fin false (by simp; omega))
  · have hkl : k = (risesL (bl i) 8).length := by omega
    subst hkl
    rw [List.take_length]
    have him : (risesL (bl i) 8).map (fun c => (⟨c, valueA (cm.getD i default).Fill c⟩ : S_api_Image)) = imgs bl (fun j => (cm.getD j default).Fill) i := by
      rw [risesL_hit, List.map_map]; rfl
    rw [him]
    obtain ⟨r1, r2⟩ := put_commit bl (fun j => (cm.getD j default).Fill) hi40
    have r3 := put_again bl (fun j => (cm.getD j default).Fill) (i := i)
    have r4 := putM_again bl (fun j => (cm.getD j default).Fill) (i := i)
    repeat refine st ?_
    refine sc (by omega) ?_
    refine sc (by omega) ?_
    refine sc (by show (0 : Int) ≤ _ ∧ _ ≤ (18446744073709551615 : Int); omega) ?_
    have hil : (imgs bl (fun j => (cm.getD j default).Fill) i).length ≤ 9223372036854775807 := by
      rw [← him, List.length_map]; omega
    refine ent_take (A := cacheAt p (cacheOf bl (fun j => (cm.getD j default).Fill) i)) (put_ok (l := imgs bl (fun j => (cm.getD j default).Fill) i) (by rw [L8_len, L8_len]) (by rw [L8_len]; omega) hil ?_)
    rw [r1, r2]
    refine ct rfl ?_
    repeat refine st ?_
    refine sc (by omega) ?_
    refine sc (by omega) ?_
    refine sc (by show (0 : Int) ≤ _ ∧ _ ≤ (18446744073709551615 : Int); omega) ?_
    refine put_ok (l := imgs bl (fun j => (cm.getD j default).Fill) i) (by rw [L8_len, L8_len]) (by rw [L8_len]; omega) hil ?_
    rw [r3, r4]
    refine ct rfl ?_
    repeat refine st ?_
    refine sc (by omega) ?_
    have eN : A8 (fun c => if (c : Int) ∈ risesL (bl i) 8 then (i : Int) + 1 else (newest bl i c : Int)) = A8 fun c => (newest bl (i + 1) c : Int) := by
      apply A8_ext
      intro c hc
      simp only [mem_rises hc, newest_succ]
      split <;> simp
    have eS : A8 (fun c => if (c : Int) ∈ risesL (bl i) 8 then decide (at' < (i : Int) + 1) else decide (at' < newest bl i c)) = A8 fun c => decide (at' < newest bl (i + 1) c) := by
      apply A8_ext
      intro c hc
      simp only [mem_rises hc, newest_succ]
      split <;> simp
    rw [eN, eS]
    exact inc hK

theorem check_ok {p a b n : Nat} {R : Value → W} {told : Value} (ho : HasOwn F h0) (hsa : RdB h0 sa S_wicketlaw17_Commit.c cm) (hn : n ≤ cm.length) (hn40 : n ≤ 40)
    (hR : ∀ q, Ent (cacheAt q (cacheOf bl (fun j => (cm.getD j default).Fill) n) :: cacheAt p (cacheOf bl (fun j => (cm.getD j default).Fill) n) :: vr a 29 (cArr 8 (cInt .i64)) (A8 fun c => (newest bl n c : Int)) :: vr b 30 (cArr 8 cBool) (A8 fun c => decide (at' < newest bl n c)) :: F)
      (callC Try.prog 12 [.pointer (some ⟨p, 0, none⟩), told] fun v110 => nf3_5 R (.pointer (some ⟨q, 0, none⟩)) (.pointer (some ⟨b, 0, none⟩)) (.pointer (some ⟨p, 0, none⟩)))) :
    Ent (cacheAt p (cacheOf bl (fun j => (cm.getD j default).Fill) n) :: vr a 29 (cArr 8 (cInt .i64)) (A8 fun c => (newest bl n c : Int)) :: vr b 30 (cArr 8 cBool) (A8 fun c => decide (at' < newest bl n c)) :: F)
      (nf3_6 R (sv sa) (.pointer (some ⟨a, 0, none⟩)) (.pointer (some ⟨b, 0, none⟩)) (.pointer (some ⟨p, 0, none⟩)) told) := by
  unfold nf3_6
  generalize hm : cacheOf bl (fun j => (cm.getD j default).Fill) n = m at *
  have hl : m.there.length = m.ents.length := by subst hm; rw [L8_len, L8_len]
  have hn8 : m.ents.length ≤ 64 := by subst hm; rw [L8_len]; omega
  refine ent_loop (γ := Nat) (fun g => [.int .i64 g]) (fun _ => cacheAt p m :: vr a 29 (cArr 8 (cInt .i64)) (A8 fun c => (newest bl n c : Int)) :: vr b 30 (cArr 8 cBool) (A8 fun c => decide (at' < newest bl n c)) :: F)
    (fun g => g ≤ 8) (fun g => 8 - g) 0 rfl (by omega) ⟨fun _ h => h⟩ ?_
  intro c hc K1 j hK
  simp only [List.headD_cons] at *
  refine cs (fun h1 => ?_) (fun h1 => ?_)
  · have hc8 : c < 8 := by omega
    repeat refine st ?_
    refine get_ok hl hn8 ?_
    have hg : getM m c = if decide (newest bl n c ≠ 0) = true then (entA (fun j => (cm.getD j default).Fill) (newest bl n c) c, true) else (S_cache_Entry.z, false) := by
      subst hm; exact getM_pc hc8
    have hle := newest_le bl n c
    by_cases hN : newest bl n c = 0
    · have hg' : getM m c = (S_cache_Entry.z, false) := by rw [hg, if_neg (by simp [hN])]
      rw [hg']
      repeat refine st ?_
      intro q
      repeat refine st ?_
      refine sc (by omega) ?_
      refine sc hc8 ?_
      rw [A8_get hc8]
      refine cf (by omega) ?_
      repeat refine st ?_
      refine ct rfl ?_
      repeat refine st ?_
      refine sc (by omega) ?_
      exact inc (hK (c + 1) (by omega) (by omega))
    · have hg' : getM m c = (⟨c, valueA (cm.getD (newest bl n c - 1) default).Fill c, 3 * newest bl n c - 1⟩, true) := by
        rw [hg, if_pos (by simp [hN])]; unfold entA; rw [if_neg hN]
      rw [hg']
      repeat refine st ?_
      intro q
      repeat refine st ?_
      refine sc (by omega) ?_
      refine sc hc8 ?_
      rw [A8_get hc8]
      refine ct (by omega) ?_
      repeat refine st ?_
      refine ct rfl ?_
      repeat refine st ?_
      refine sc (by omega) ?_
      repeat refine st ?_
      refine sc hc8 ?_
      rw [A8_get hc8]
      repeat refine st ?_
      refine sc (by omega) ?_
      repeat refine st ?_
      refine sc (by omega) ?_
      repeat refine st ?_
      refine sc (by omega) ?_
      repeat refine st ?_
      have eN : ((newest bl n c : Int) - 1).toNat = newest bl n c - 1 := by omega
      refine sc ⟨by omega, trivial⟩ ?_
      rw [eN]
      repeat refine st ?_
      refine sc (by omega) ?_
      repeat refine st ?_
      refine sc hc8 ?_
      rw [A8_get hc8]
      repeat refine st ?_
      refine sc (by omega) ?_
      repeat refine st ?_
      refine sc (by omega) ?_
      repeat refine st ?_
      refine sc (by show (0 : Int) ≤ _ ∧ _ ≤ (18446744073709551615 : Int); omega) ?_
      repeat refine st ?_
      refine value_ok (by omega) ?_
      refine sc (fun _ => hc8) ⟨fun _ => by rw [A8_get hc8], ?_⟩
      refine sc (fun _ => trivial) ⟨fun _ => rfl, ?_⟩
      repeat refine st ?_
      refine ct rfl ?_
      repeat refine st ?_
      refine sc (by omega) ?_
      exact inc (hK (c + 1) (by omega) (by omega))
  · have : c = 8 := by omega
    subst this
    repeat refine st ?_
    refine copy_ok hl hn8 fun q => ?_
    repeat refine st ?_
    exact hR q

theorem tail_ok {p q a b n k : Nat} {R : Value → W} {t : Sl} (rs : Rs F t S_cache_Entry.c (lst (cacheOf bl (fun j => (cm.getD j default).Fill) k))) (hk : k ≤ n) (hR : Ent F (R (.bool true))) :
    Ent (cacheAt q (cacheOf bl (fun j => (cm.getD j default).Fill) n) :: cacheAt p (cacheOf bl (fun j => (cm.getD j default).Fill) n) :: vr a 29 (cArr 8 (cInt .i64)) (A8 fun c => (newest bl n c : Int)) :: vr b 30 (cArr 8 cBool) (A8 fun c => decide ((k : Int) < newest bl n c)) :: F)
      (callC Try.prog 12 [.pointer (some ⟨p, 0, none⟩), sv t] fun v110 => nf3_5 R (.pointer (some ⟨q, 0, none⟩)) (.pointer (some ⟨b, 0, none⟩)) (.pointer (some ⟨p, 0, none⟩))) := by
  have hd := drop_told bl (fun j => (cm.getD j default).Fill) hk
  have hda := drop_all bl (fun j => (cm.getD j default).Fill) (n := n)
  have hlm : ∀ i, (lst (cacheOf bl (fun j => (cm.getD j default).Fill) i)).length ≤ 8 := fun i => by
    rw [lst_pc, List.length_map]; exact Nat.le_trans (List.length_filter_le _ _) (by simp)
  refine ent_take (A := cacheAt p (cacheOf bl (fun j => (cm.getD j default).Fill) n)) (drop_ok (l := lst (cacheOf bl (fun j => (cm.getD j default).Fill) k)) (by rw [L8_len, L8_len]) (by rw [L8_len]; omega) (by have := hlm k; omega) ?_)
  rw [hd]
  generalize hm : cacheOf bl (fun j => (cm.getD j default).Fill) n = m at *
  generalize hm' : PC (fun b => entA (fun j => (cm.getD j default).Fill) (newest bl n b) b) (fun b => decide (k < newest bl n b)) (if n = 0 then 0 else 3 * n - 1) (decide (n ≠ 0)) = m' at *
  have hl : m.there.length = m.ents.length := by subst hm; rw [L8_len, L8_len]
  have hn8 : m.ents.length ≤ 64 := by subst hm; rw [L8_len]; omega
  have hl' : m'.there.length = m'.ents.length := by subst hm'; rw [L8_len, L8_len]
  have hn8' : m'.ents.length ≤ 64 := by subst hm'; rw [L8_len]; omega
  have hlm' : lst m' = ((List.range 8).filter fun b => decide (k < newest bl n b)).map fun b => entA (fun j => (cm.getD j default).Fill) (newest bl n b) b := by subst hm'; exact lst_pc
  unfold nf3_5
  refine ent_loop (γ := Nat) (fun g => [.int .i64 ((List.range g).filter fun b => decide (k < newest bl n b)).length, .int .i64 g]) (fun _ => cacheAt p m' :: cacheAt q m :: vr a 29 (cArr 8 (cInt .i64)) (A8 fun c => (newest bl n c : Int)) :: vr b 30 (cArr 8 cBool) (A8 fun c => decide ((k : Int) < newest bl n c)) :: F)
    (fun g => g ≤ 8) (fun g => 8 - g) 0 rfl (by omega) ⟨fun _ h => h⟩ ?_
  intro c hc K1 j hK
  simp only [List.headD_cons, List.tail_cons] at *
  have hcl : ((List.range c).filter fun b => decide (k < newest bl n b)).length ≤ c := Nat.le_trans (List.length_filter_le _ _) (by simp)
  refine cs (fun h1 => ?_) (fun h1 => ?_)
  · have hc8 : c < 8 := by omega
    repeat refine st ?_
    refine get_ok hl' hn8' ?_
    have hg : (getM m' c).2 = decide (k < newest bl n c) := by
      subst hm'
      rw [getM_pc hc8]
      split
      · rename_i h; exact h.symm
      · rename_i h; simp at h ⊢; exact h
    rw [hg]
    have hk1 := hK (c + 1) (by omega) (by omega)
    rw [List.range_succ, List.filter_append, List.length_append] at hk1
    repeat refine st ?_
    intro q2
    repeat refine st ?_
    refine sc (by omega) ?_
    refine sc hc8 ?_
    rw [A8_get hc8]
    refine ct (by simp) ?_
    repeat refine st ?_
    cases hd : decide (k < newest bl n c) with
    | true =>
      repeat refine st ?_
      refine sc (by omega) ?_
      unfold nf3_4
      refine sc (by omega) ?_
      simp only [List.filter, hd] at hk1
      exact inc hk1
    | false =>
      repeat refine st ?_
      unfold nf3_4
      refine sc (by omega) ?_
      simp only [List.filter, hd] at hk1
      exact inc hk1
  · have : c = 8 := by omega
    subst this
    repeat refine st ?_
    obtain ⟨mz, hz1, hz2, hz3, hz4⟩ : ∃ mz : CM, dropM m (lst m) = (mz, (lst m).length) ∧ mz.there.length = mz.ents.length ∧ mz.ents.length ≤ 64 ∧ lst mz = [] := ⟨_, hda, by rw [L8_len, L8_len], by rw [L8_len]; omega, lst_none⟩
    refine ent_take (A := cacheAt q m) (entries_ok hl hn8 fun s2 => ?_)
    refine ent_take (A := cacheAt q m) (drop_ok (l := lst m) hl hn8 (by have := hlm n; rw [hm] at this; omega) ?_)
    rw [hz1]
    refine ent_take (A := cacheAt p m') (len_ok hl' hn8' ?_)
    rw [hlm', List.length_map]
    repeat refine st ?_
    refine ct rfl ?_
    repeat refine st ?_
    refine ct rfl ?_
    repeat refine st ?_
    refine ent_take (A := cacheAt q mz) (len_ok hz2 hz3 ?_)
    rw [hz4]
    repeat refine st ?_
    refine ct rfl ?_
    repeat refine st ?_
    refine entries_ok hz2 hz3 fun s3 => ?_
    rw [hz4]
    repeat refine st ?_
    refine ct rfl ?_
    repeat refine st ?_
    exact inc hR

theorem main_ok {at0 : Int} {K : Value → W} (hsa : RdB h0 sa S_wicketlaw17_Commit.c cm) (hcl : cm.length ≤ 9223372036854775807) (hbl : ∀ i, RdB h0 (cm.getD i default).Blocks (cInt .i64) (bl i))
    (hw : ∀ i, ∀ x ∈ bl i, -9223372036854775808 ≤ x ∧ x ≤ 9223372036854775807) (hlen : ∀ i, (bl i).length ≤ 9223372036854775807) (h : Ent [own h0] (K (.bool true))) :
    Ent [own h0] (callC Try.prog 3 [sv sa, .int .i64 at0] K) := by
  refine ent_mono ?_ fun w => nf3_ok
  unfold nf3
  refine fixed_ok ?_
  repeat refine st ?_
  refine new_ok (fun _ p => ?_) (fun hc => absurd hc (by decide))
  change Ent (cacheAt p (cacheOf bl (fun j => (cm.getD j default).Fill) 0) :: [own h0]) _
  repeat refine st ?_
  refine ct rfl ?_
  repeat refine st ?_
  obtain ⟨n, hn⟩ : ∃ n, n = min cm.length 40 := ⟨_, rfl⟩
  obtain ⟨k, hk⟩ : ∃ k : Nat, k = (min (max at0 0) n).toNat := ⟨_, rfl⟩
  have e1 : min (cm.length : Int) 40 = (n : Int) := by omega
  have e2 : min (max at0 0) (n : Int) = (k : Int) := by omega
  have hkn : k ≤ n := by omega
  simp only [e1, e2]
  intro a
  refine st ?_
  intro b
  have eA : (⟨List.replicate 8 0, List.length_replicate⟩ : Arr 8 Int) = A8 fun c => (newest bl 0 c : Int) := rfl
  have eB : (⟨List.replicate 8 false, List.length_replicate⟩ : Arr 8 Bool) = A8 fun c => decide ((k : Int) < newest bl 0 c) := by
    rw [show (⟨List.replicate 8 false, List.length_replicate⟩ : Arr 8 Bool) = A8 fun _ => false from rfl]
    apply A8_ext
    intro c _
    show false = decide ((k : Int) < ((0 : Nat) : Int))
    simp
  rw [eA, eB]
  refine ent_nil S_cache_Entry.c 45 ?_
  refine inc (M := sl S_cache_Entry.c 45 Sl.nil [] :: cacheAt p (cacheOf bl (fun j => (cm.getD j default).Fill) 0) :: vr a 29 (cArr 8 (cInt .i64)) (A8 fun c => (newest bl 0 c : Int)) :: vr b 30 (cArr 8 cBool) (A8 fun c => decide ((k : Int) < newest bl 0 c)) :: [own h0]) ?_
  refine ent_loop (γ := Nat × Sl) (fun g => [sv g.2, .int .i64 g.1]) (fun g => sl S_cache_Entry.c 45 g.2 (if k < g.1 then lst (cacheOf bl (fun j => (cm.getD j default).Fill) k) else []) :: cacheAt p (cacheOf bl (fun j => (cm.getD j default).Fill) g.1) ::
      vr a 29 (cArr 8 (cInt .i64)) (A8 fun c => (newest bl g.1 c : Int)) :: vr b 30 (cArr 8 cBool) (A8 fun c => decide ((k : Int) < newest bl g.1 c)) :: [own h0])
    (fun g => g.1 ≤ n) (fun g => n - g.1) (0, Sl.nil) rfl (by simp) (by simp only [Nat.not_lt_zero, if_false]; exact ⟨fun _ h => h⟩) ?_
  intro ⟨i, t⟩ hi K1 j hK
  simp only [List.headD_cons, List.tail_cons] at *
  refine cs (fun h1 => ?_) (fun h1 => ?_)
  · repeat refine st ?_
    refine cs (fun h2 => ?_) (fun h2 => ?_)
    · have hik : i = k := by omega
      subst hik
      repeat refine st ?_
      refine ent_take (A := cacheAt p (cacheOf bl (fun j => (cm.getD j default).Fill) i)) (entries_ok (by rw [L8_len, L8_len]) (by rw [L8_len]; omega) fun s2 => ?_)
      refine inc (M := cacheAt p (cacheOf bl (fun j => (cm.getD j default).Fill) i) :: vr a 29 (cArr 8 (cInt .i64)) (A8 fun c => (newest bl i c : Int)) :: vr b 30 (cArr 8 cBool) (A8 fun c => decide ((i : Int) < newest bl i c)) :: sl S_cache_Entry.c 45 s2 (lst (cacheOf bl (fun j => (cm.getD j default).Fill) i)) :: [own h0]) ?_
      refine commit_ok inferInstance hsa (hbl i) (by omega) (by omega) (hw i) (hlen i) ?_
      have := hK (i + 1, s2) (by simp only; omega) (by simp only; omega)
      rw [if_pos (by simp only; omega)] at this
      exact inc this
    · repeat refine st ?_
      refine inc (M := cacheAt p (cacheOf bl (fun j => (cm.getD j default).Fill) i) :: vr a 29 (cArr 8 (cInt .i64)) (A8 fun c => (newest bl i c : Int)) :: vr b 30 (cArr 8 cBool) (A8 fun c => decide ((k : Int) < newest bl i c)) :: sl S_cache_Entry.c 45 t (if k < i then lst (cacheOf bl (fun j => (cm.getD j default).Fill) k) else []) :: [own h0]) ?_
      refine commit_ok inferInstance hsa (hbl i) (by omega) (by omega) (hw i) (hlen i) ?_
      have := hK (i + 1, t) (by simp only; omega) (by simp only; omega)
      have e3 : (k < i + 1) = (k < i) := propext (by omega)
      simp only [e3] at this
      exact inc this
  · have hin : i = n := by omega
    subst hin
    repeat refine st ?_
    have fin : ∀ s2, Ent (sl S_cache_Entry.c 45 s2 (lst (cacheOf bl (fun j => (cm.getD j default).Fill) k)) :: cacheAt p (cacheOf bl (fun j => (cm.getD j default).Fill) i) :: vr a 29 (cArr 8 (cInt .i64)) (A8 fun c => (newest bl i c : Int)) :: vr b 30 (cArr 8 cBool) (A8 fun c => decide ((k : Int) < newest bl i c)) :: [own h0])
        (nf3_3 K (sv sa) (.pointer (some ⟨a, 0, none⟩)) (.pointer (some ⟨b, 0, none⟩)) (.pointer (some ⟨p, 0, none⟩)) (sv s2)) := by
      intro s2
      unfold nf3_3
      refine inc (M := cacheAt p (cacheOf bl (fun j => (cm.getD j default).Fill) i) :: vr a 29 (cArr 8 (cInt .i64)) (A8 fun c => (newest bl i c : Int)) :: vr b 30 (cArr 8 cBool) (A8 fun c => decide ((k : Int) < newest bl i c)) :: sl S_cache_Entry.c 45 s2 (lst (cacheOf bl (fun j => (cm.getD j default).Fill) k)) :: [own h0]) ?_
      refine check_ok inferInstance hsa (by omega) (by omega) fun q => ?_
      exact tail_ok inferInstance hkn (inc h)
    refine cs (fun h2 => ?_) (fun h2 => ?_)
    · have hik : k = i := by omega
      subst hik
      repeat refine st ?_
      refine ent_take (A := cacheAt p (cacheOf bl (fun j => (cm.getD j default).Fill) k)) (entries_ok (by rw [L8_len, L8_len]) (by rw [L8_len]; omega) fun s2 => ?_)
      exact inc (fin s2)
    · repeat refine st ?_
      rw [if_pos (by omega)]
      exact fin t
end
end Go.Proofs.Ytmnokpffpadgoaa
