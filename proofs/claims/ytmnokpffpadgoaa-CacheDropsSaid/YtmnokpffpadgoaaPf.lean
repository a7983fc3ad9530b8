/- Proved here: whatever the input, the statement CacheDrops returns true and its arguments read behind the call as before. Conditions: none. -/
import Derived.Test.YtmnokpffpadgoaaRows
import Derived.Test.YtmnokpffpadgoaaRd
import Derived.Test.YtmnokpffpadgoaaCw
import Derived.ProofKit
namespace Go.Proofs.Ytmnokpffpadgoaa
open Go.ChangeShapes Go.WideShapes Go.ChangeAt Go.RowKit
open Go.Dn
theorem Try.own : ownKnob Try.prog.godebug = none := by kernel_rfl
theorem Try.laidOut : laidOutB Try.prog = true := by kernel_rfl
theorem f3_any (W : World) (s : Sl) (at' : Int) (hs : GSl S_wicketlaw17_Commit.c S_wicketlaw17_Commit.G (hof W) s) (sd : Side) (K : Value → Go.Dn.W) (h : Ent [Go.Dn.own (hof W)] (K (.bool true))) :
    Ent [Go.Dn.own (hof W)] (callC Try.prog 3 [sv s, .int .i64 at'] K) := by
  obtain ⟨cm, hr, hl, hx⟩ := hs
  have each : ∀ i, ∃ xs : List Int, RdOk (hof W) (cm.getD i default).Blocks (cInt .i64) xs ∧ xs.length ≤ 9223372036854775807 ∧ ∀ x ∈ xs, GInt .i64 (hof W) x := by
    intro i
    by_cases hi : i < cm.length
    · exact (hx _ (getD_mem hi)).1
    · have e : cm.getD i default = S_wicketlaw17_Commit.z := by rw [List.getD_eq_getElem?_getD, List.getElem?_eq_none (by omega)]; rfl
      rw [e]
      exact ⟨[], ⟨rfl, fun h => absurd rfl h⟩, by simp, fun x hx => by simp at hx⟩
  exact main_ok (bl := fun i => Classical.choose (each i)) ⟨hr⟩ hl (fun i => ⟨(Classical.choose_spec (each i)).1⟩) (fun i => (Classical.choose_spec (each i)).2.2) (fun i => (Classical.choose_spec (each i)).2.1) h
set_option maxRecDepth 100000 in
theorem f_lifted (os : Os) (started : os.Started) (H : Type) (enc : TypeId × Value → H) :
    ReturnsInHanded {} Try.checked os 3 .any (Rows.cacheDropsSpec.pre6 enc Try.prog Try.f3 Rows.cacheDropsRow.domain false) (Rows.cacheDropsSpec.post enc Try.prog Try.f3 false true false false) := by
  refine returnsInHanded_of_change (C := Try.checked) Try.own started (by kernel_rfl) Try.func3
    (ChangeSpec.witness6 (enc := enc) (C := Try.checked) false ⟨#[], #[.slice none 0 0, .int .i64 0], []⟩ 8 (by kernel_rfl) (by kernel_rfl) (by kernel_rfl) (by kernel_rfl)) ?_
  intro W base args ds gs before hval0 hW _ _
  have hval : ∀ (j : Nat) t v, Try.f3.params[j]? = some t → args[j]? = some v → Value.okWide Try.prog W .any base t v := hval0
  have hW' := hW
  obtain ⟨p, q, hA0, hV, _, _, _⟩ := hW
  have hA : DataW.TrodAll enc Try.prog W 0 (fun _ => true) true [22, 3] args.toList ds p := hA0
  obtain ⟨v0, v1, d0, d1, p0, p1, rfl, rfl, _, h0, h1⟩ := trodAll_two hA
  obtain ⟨rfl, _⟩ := trodVars_none hV
  obtain ⟨a, rfl, ga⟩ := rd_arg (c := cSl) (hval 0 22 v0 rfl rfl) h0
  obtain ⟨b, rfl, gb⟩ := rd_arg (c := cInt .i64) (hval 1 3 v1 rfl rfl) h1
  refine (outer_calls (P := Try.prog) (Q := fun v => v = .bool true) fun sd K h => f3_any W a b ga sd K (h _ rfl)).mono fun e W' ⟨v, he, hv, hb⟩ => ⟨v, he, ?_⟩
  subst hv
  exact post_true Try.laidOut hW' rfl (tb := 4) rfl Try.underlying4 (by decide +kernel) rfl hb
theorem f_holds : Rows.CacheDropsSaid :=
  OpenClaim.holds_of_wide 3 Try.f3 rfl rfl rfl rfl rfl rfl rfl ⟨rfl, rfl, rfl, rfl, rfl⟩ rfl rfl rfl rfl rfl (by kernel_rfl) Try.func3 (by kernel_rfl)
    (of_decide_eq_true (by kernel_rfl)) (by unfold Func.isWrapper; first | (rw [if_pos (by decide +kernel)]; kernel_rfl) | (rw [if_neg (by decide +kernel)]; exact ⟨rfl, rfl⟩))
    (fun os started H enc _ => f_lifted os started H enc)
end Go.Proofs.Ytmnokpffpadgoaa
