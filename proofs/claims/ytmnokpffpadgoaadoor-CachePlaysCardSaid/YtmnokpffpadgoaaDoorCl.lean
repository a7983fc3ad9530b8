/- The statement CacheDrops: its parts. -/
import Derived.Test.YtmnokpffpadgoaaDoorCs
namespace Go.Proofs.YtmnokpffpadgoaaDoor
set_option linter.unusedSimpArgs false
set_option linter.unusedVariables false
open Go.Dn
set_option linter.unusedSectionVars false
set_option synthInstance.maxSize 10000
set_option synthInstance.maxHeartbeats 400000
set_option maxHeartbeats 2000000
variable [sd : Side]
theorem tmod_pos {a b : Int} (hb : 0 < b) : (a.tmod b + b).tmod b = a.emod b := by
  have h1 : -b < a.tmod b := by
    have := Int.lt_tmod_of_pos a hb
    omega
  have h2 : a.tmod b < b := Int.tmod_lt_of_pos a hb
  rw [Int.tmod_eq_emod_of_nonneg (by omega)]
  have h3 : (a.tmod b) % b = a % b := by
    have e : a.tmod b + b * a.tdiv b = a := Int.tmod_add_mul_tdiv a b
    have e2 : (a.tmod b + b * a.tdiv b) % b = a.tmod b % b := Int.add_mul_emod_self_left _ _ _
    rw [e] at e2
    exact e2.symm
  rw [Int.add_emod_right, h3]
  rfl
open Classical in
noncomputable def risesL (l : List Int) (n : Nat) : List Int := ((List.range n).filter fun (k : Nat) => ∃ x ∈ l, x.emod 8 = (k : Int)).map fun (k : Nat) => (k : Int)
open Classical in
theorem risesL_yes {l : List Int} {n : Nat} (h : ∃ x ∈ l, x.emod 8 = (n : Int)) : risesL l (n + 1) = risesL l n ++ [(n : Int)] := by
  unfold risesL
  rw [List.range_succ, List.filter_append, List.map_append]
  simp only [List.filter, decide_eq_true h]; rfl
open Classical in
theorem risesL_no {l : List Int} {n : Nat} (h : ¬ ∃ x ∈ l, x.emod 8 = (n : Int)) : risesL l (n + 1) = risesL l n := by
  unfold risesL
  rw [List.range_succ, List.filter_append, List.map_append]
  simp only [List.filter, decide_eq_false h]; simp
theorem risesL_len {l : List Int} {n : Nat} : (risesL l n).length ≤ n := by
  unfold risesL
  rw [List.length_map]
  exact Nat.le_trans (List.length_filter_le _ _) (by simp)
theorem getD_mem {α : Type} [Inhabited α] {l : List α} {i : Nat} (h : i < l.length) : l.getD i default ∈ l := by
  rw [List.getD_eq_getElem?_getD, List.getElem?_eq_getElem h]; exact List.getElem_mem h
theorem mem_getD {α : Type} [Inhabited α] {l : List α} {x : α} (h : x ∈ l) : ∃ i, i < l.length ∧ l.getD i default = x := by
  obtain ⟨i, hi, rfl⟩ := List.getElem_of_mem h
  exact ⟨i, hi, by rw [List.getD_eq_getElem?_getD, List.getElem?_eq_getElem hi]; rfl⟩
/-! ## fixed -/
abbrev m0 : CM := ⟨List.replicate 3 S_cache_Entry.z, List.replicate 3 false, 0, false⟩
theorem fixed_ok {K : Value → W} {F : List HProp} (h : Ent F (K (.bool true))) : Ent F (callC Tryd.prog 4 [] K) := by
  refine ent_mono ?_ fun w => nf4_ok
  unfold nf4
  refine new_ok (fun _ p => ?_) (fun hc => absurd hc (by decide))
  change Ent (cacheAt p m0 :: F) _
  repeat refine st ?_
  refine new_ok (fun hc => absurd hc (by decide)) (fun _ => ?_)
  repeat refine st ?_
  refine ct rfl ?_
  repeat refine st ?_
  refine ct rfl ?_
  repeat refine st ?_
  refine sc (by decide) ?_
  refine st ?_
  intro q
  generalize (Arr.set _ 0 (9 : Int) : Arr 32 Int) = V
  repeat refine st ?_
  refine sc ⟨rfl, by show 1 * 33 ≤ 16777216; decide⟩ ?_
  intro s
  have pr : putRes m0 [⟨2, V⟩] 7 = 0 := by
    unfold putRes
    rw [if_pos, if_pos, if_neg]
    · simp [m0]
    · intro i hi; simp at hi
    · intro i hi
      have : i = 0 := by simpa using hi
      subst this
      exact ⟨by show (0 : Int) ≤ 2; decide, by show (2 : Int) < 3; decide⟩
  have pm : putM m0 [⟨2, V⟩] 7 = ⟨[S_cache_Entry.z, S_cache_Entry.z, ⟨2, V, 7⟩], [false, false, true], 7, true⟩ := if_pos pr
  refine ent_take (A := cacheAt p m0) (put_ok (l := [⟨2, V⟩]) rfl (by decide) (by show 1 ≤ 9223372036854775807; decide) ?_)
  rw [pr, pm]
  generalize hm : (⟨[S_cache_Entry.z, S_cache_Entry.z, ⟨2, V, 7⟩], [false, false, true], 7, true⟩ : CM) = m
  have hl : m.there.length = m.ents.length := by subst hm; rfl
  have hn : m.ents.length ≤ 64 := by subst hm; show 3 ≤ 64; decide
  have hg : getM m 2 = (⟨2, V, 7⟩, true) := by subst hm; exact if_pos ⟨by decide, by show (2 : Int) < 3; decide, rfl⟩
  have hls : lst m = [⟨2, V, 7⟩] := by subst hm; rfl
  have hla : m.last = 7 ∧ m.any = true := by subst hm; exact ⟨rfl, rfl⟩
  refine get_ok hl hn ?_
  rw [hg]
  repeat refine st ?_
  intro q2
  repeat refine st ?_
  refine ent_take (A := cacheAt p m) (entries_ok hl hn fun s2 => ?_)
  rw [hls]
  refine ent_take (A := cacheAt p m) (last_ok ?_)
  rw [hla.1, hla.2]
  repeat refine st ?_
  refine given_ok hl hn fun s3 => ?_
  rw [hls]
  repeat refine st ?_
  refine ct rfl ?_
  repeat refine st ?_
  refine ct rfl ?_
  repeat refine st ?_
  refine ct rfl ?_
  repeat refine st ?_
  refine sc ⟨by decide, by show (0 : Int) < 1; decide⟩ ?_
  repeat refine st ?_
  refine sc ⟨by show 0 < 1; decide, trivial⟩ ?_
  repeat refine st ?_
  refine ct rfl ?_
  repeat refine st ?_
  refine ct rfl ?_
  repeat refine st ?_
  refine ent_take (A := cacheAt p m) (len_ok hl hn ?_)
  rw [hls]
  repeat refine st ?_
  refine ct rfl ?_
  repeat refine st ?_
  refine ct rfl ?_
  repeat refine st ?_
  refine copy_ok hl hn fun q3 => ?_
  repeat refine st ?_
  have hd : dropM m [⟨2, V, 7⟩] = (⟨m.ents, [false, false, false], 7, true⟩, 1) := by
    show dropStep (m, 0) ⟨2, V, 7⟩ = _
    unfold dropStep
    rw [if_pos ⟨by simp only [hg], by simp only [hg]⟩]
    subst hm
    rfl
  refine ent_take (A := cacheAt p m) (drop_ok (l := [⟨2, V, 7⟩]) hl hn (by show 1 ≤ 9223372036854775807; decide) ?_)
  rw [hd]
  repeat refine st ?_
  refine ct rfl ?_
  repeat refine st ?_
  refine len_ok (by rw [← hl]; subst hm; rfl) hn ?_
  have hz : lst ⟨m.ents, [false, false, false], 7, true⟩ = [] := by subst hm; rfl
  rw [hz]
  repeat refine st ?_
  refine ct rfl ?_
  repeat refine st ?_
  exact inc h
end Go.Proofs.YtmnokpffpadgoaaDoor
