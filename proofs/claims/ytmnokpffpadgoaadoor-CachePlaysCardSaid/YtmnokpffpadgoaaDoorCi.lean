/- Lists with a mark behind them. -/
import Derived.Test.YtmnokpffpadgoaaDoorCu
namespace Go.Proofs.YtmnokpffpadgoaaDoor
set_option linter.unusedSimpArgs false
set_option linter.unusedVariables false
open Go.Dn
set_option linter.unusedSectionVars false
set_option synthInstance.maxSize 10000
set_option synthInstance.maxHeartbeats 400000
set_option maxHeartbeats 2000000
variable [sd : Side]
abbrev markI : S_api_Image := ⟨-7, ⟨List.replicate 32 0, List.length_replicate⟩⟩
theorem images_ok {sa : Sl} {l : List S_api_Image} {K : Value → W} {F : List HProp} [rs : Rs F sa S_api_Image.c l] (hlen : (l.length + 1) * 40 ≤ 140737488355328)
    (h : ∀ s s', Cut S_api_Image.c.n s s' 0 l.length → s.len = l.length + 1 → Ent (sl S_api_Image.c 55 s (l ++ [markI]) :: F) (K (sv s'))) : Ent F (callC Tryd.prog 19 [sv sa] K) := by
  refine ent_mono ?_ fun w => nf19_ok
  unfold nf19
  refine sc ⟨rfl, by decide⟩ ?_
  intro s1
  refine sc (by simp only [List.length_nil]; omega) ?_
  intro s2
  repeat refine st ?_
  refine sc ⟨rfl, by show 1 * 33 ≤ 16777216; decide⟩ ?_
  intro s3
  simp only [List.nil_append]
  refine sc (by simp only [List.length_singleton]; omega) ?_
  intro s4
  refine ent_slen fun h1 h2 => ?_
  simp only [List.length_append, List.length_singleton] at h1 h2
  repeat refine st ?_
  refine sc (by omega) ?_
  intro s5 hc
  exact inc (h s4 s5 hc h1)
theorem sameImages_ok {sa s s' : Sl} {l : List S_api_Image} {K : Value → W} {F : List HProp} [rs : Rs F sa S_api_Image.c l] (hlen : (l.length + 1) * 40 ≤ 140737488355328) (hc : Cut S_api_Image.c.n s s' 0 l.length) (hs : s.len = l.length + 1)
    (h : Ent (sl S_api_Image.c 55 s (l ++ [markI]) :: F) (K (.bool true))) : Ent (sl S_api_Image.c 55 s (l ++ [markI]) :: F) (callC Tryd.prog 21 [sv s', sv sa] K) := by
  refine ent_mono ?_ fun w => nf21_ok
  unfold nf21
  have vw : VwOf s' S_api_Image.c s 0 l.length := ⟨hc, by omega⟩
  have e : ((l ++ [markI]).drop 0).take (l.length - 0) = l := by simp
  refine ent_slen fun h1 h2 => ?_
  simp only [List.length_append, List.length_singleton] at h1 h2
  have hcap := hc.cap
  repeat refine st ?_
  rw [e]
  refine ct rfl ?_
  repeat refine st ?_
  refine sc (by omega) ?_
  repeat refine st ?_
  refine sc (by omega) ?_
  intro s7 hc7
  have e7 : ((l.length : Int) + 1).toNat = l.length + 1 := by omega
  rw [e7] at hc7
  have vw7 : VwOf s7 S_api_Image.c s 0 (l.length + 1) := ⟨⟨by rw [hc7.len], by rw [hc7.cap, hc.cap]; rfl, fun _ => by rw [hc7.a0, hc.a0]; exact map_add0 _ _⟩, by omega⟩
  have e8 : ((l ++ [markI]).drop 0).take (l.length + 1 - 0) = l ++ [markI] := by rw [List.drop_zero]; exact List.take_of_length_le (by simp)
  have e9 : (l ++ [markI]).getD l.length default = markI := by simp
  repeat refine st ?_
  refine sc (by rw [e8, List.length_append, List.length_singleton]; omega) ?_
  repeat refine st ?_
  refine sc (by rw [e8, List.length_append, List.length_singleton]; omega) ?_
  repeat refine st ?_
  refine sc ⟨by rw [e8, List.length_append, List.length_singleton]; omega, trivial⟩ ?_
  rw [e8, e9]
  repeat refine st ?_
  refine ct rfl ?_
  repeat refine st ?_
  refine ent_loop (γ := Nat) (fun i => [.int .i64 i]) (fun _ => sl S_api_Image.c 55 s (l ++ [markI]) :: F) (fun i => i ≤ l.length) (fun i => l.length - i) 0 rfl (by omega) inferInstance ?_
  intro i hi K1 j hK
  simp only [List.headD_cons] at *
  refine cs (fun h3 => ?_) (fun h3 => ?_)
  · have hi1 : i < l.length := by omega
    repeat refine st ?_
    refine sc (by rw [e]; omega) ?_
    refine sc ⟨by rw [e]; omega, trivial⟩ ?_
    rw [e]
    refine sc (by omega) ?_
    refine sc ⟨hi1, trivial⟩ ?_
    refine ct rfl ?_
    repeat refine st ?_
    refine sc (by omega) ?_
    exact hK (i + 1) hi1 (by omega)
  · repeat refine st ?_
    exact h
abbrev toE (e : S_wicketref17_Entry) : S_cache_Entry := ⟨e.Block, e.Value, e.Position⟩
abbrev markE : S_cache_Entry := ⟨-7, ⟨List.replicate 32 0, List.length_replicate⟩, 0⟩
theorem roomy_ok {h0 : Hp} {sa : Sl} {l : List S_wicketref17_Entry} {K : Value → W} {F : List HProp} [ho : HasOwn F h0] [vb : VrB h0 0 S_cache_Entry.c markE] [rs : Rs F sa S_wicketref17_Entry.c l] (hlen : (l.length + 1) * 48 ≤ 140737488355328)
    (h : ∀ s s', Cut S_cache_Entry.c.n s s' 0 l.length → s.len = l.length + 1 → Ent (sl S_cache_Entry.c 57 s (l.map toE ++ [markE]) :: F) (K (sv s'))) : Ent F (callC Tryd.prog 23 [sv sa] K) := by
  refine ent_mono ?_ fun w => nf23_ok
  unfold nf23
  refine ent_nil S_cache_Entry.c 57 ?_
  refine ent_loop (γ := Nat × Sl) (fun g => [sv g.2, .int .i64 g.1]) (fun g => sl S_cache_Entry.c 57 g.2 ((l.take g.1).map toE) :: F)
    (fun g => g.1 ≤ l.length) (fun g => l.length - g.1) (0, Sl.nil) rfl (by simp) ⟨fun _ h => h⟩ ?_
  intro ⟨i, t⟩ hi K1 j hK
  simp only [List.headD_cons, List.tail_cons] at *
  repeat refine st ?_
  refine cs (fun h1 => ?_) (fun h1 => ?_)
  · have hi1 : i < l.length := by omega
    repeat refine st ?_
    refine sc (by omega) ?_
    refine sc (by omega) ?_
    refine sc ⟨hi1, trivial⟩ ?_
    refine sc (by omega) ?_
    refine sc (by omega) ?_
    refine sc ⟨hi1, trivial⟩ ?_
    refine sc (by omega) ?_
    refine sc (by omega) ?_
    refine sc ⟨hi1, trivial⟩ ?_
    repeat refine st ?_
    refine sc ⟨rfl, by show 1 * 34 ≤ 16777216; decide⟩ ?_
    intro s2
    refine sc (by simp only [List.length_map, List.length_take, List.length_singleton]; omega) ?_
    intro s3
    repeat refine st ?_
    refine sc (by omega) ?_
    have := hK (i + 1, s3) hi1 (by simp only; omega)
    simp only [take_one hi1, List.map_append, List.map_cons, List.map_nil] at this
    exact inc this
  · have hil : i = l.length := by omega
    subst hil
    rw [List.take_length]
    repeat refine st ?_
    refine sc ⟨rfl, by show 1 * 34 ≤ 16777216; decide⟩ ?_
    intro s2
    refine sc (by simp only [List.length_map, List.length_singleton]; omega) ?_
    intro s4
    refine ent_slen fun h1 h2 => ?_
    simp only [List.length_append, List.length_map, List.length_singleton] at h1 h2
    repeat refine st ?_
    refine sc (by omega) ?_
    intro s5 hc
    exact inc (h s4 s5 hc h1)
end Go.Proofs.YtmnokpffpadgoaaDoor
