/- Proved here: whatever the input, the statement LockHands returns true and its arguments read behind the call as before. Conditions: none. -/
import Derived.Test.YtipjamgjgijeeaaRows
import Derived.Test.YtipjamgjgijeeaaRd
import Derived.Test.YtipjamgjgijeeaaLi
import Derived.ProofKit
import Derived.SizedLaws
namespace Go.Proofs.Ytipjamgjgijeeaa
set_option linter.unusedSimpArgs false
set_option linter.unusedVariables false
open Go.ChangeShapes Go.WideShapes Go.ChangeAt Go.RowKit
open Go.Dn
theorem Try.own : ownKnob Try.prog.godebug = none := by kernel_rfl
theorem Try.laidOut : laidOutB Try.prog = true := by kernel_rfl
theorem f3_any (W : World) (n : Int) (s : Sl) (_ : GInt .i64 (hof W) n) (gs : GSz (cInt .u64) (GInt .u64) 8 (hof W) s) (sd : Side) (K : Value → Go.Dn.W) (h : Ent [Go.Dn.own (hof W)] (K (.bool true))) :
    Ent [Go.Dn.own (hof W)] (callC Try.prog 3 [.int .i64 n, sv s] K) := by
  obtain ⟨l1, r1, m1, n1, g1⟩ := gs
  have i1 : RdB (hof W) s (cInt .u64) l1 := ⟨r1⟩
  exact main3_ok (by omega) g1 h

set_option maxRecDepth 100000 in
theorem f_lifted (os : Os) (started : os.Started) (H : Type) (enc : TypeId × Value → H) :
    ReturnsInHanded {} Try.checked os 3 .any (Rows.lockHandsSpec.pre6 enc Try.prog Try.f3 Rows.lockHandsRow.domain false) (Rows.lockHandsSpec.post enc Try.prog Try.f3 false true false false) := by
  refine returnsInHanded_of_change_sized (C := Try.checked) Try.own started (by kernel_rfl) Try.func3
    (ChangeSpec.witness6 (enc := enc) (C := Try.checked) false ⟨#[], #[.int .i64 0, .slice none 0 0], []⟩ 8 (by kernel_rfl) (by kernel_rfl) (by kernel_rfl) (by kernel_rfl)) ?_
  intro W base args ds gs before hval0 hW _ hsz _
  have hval : ∀ (j : Nat) t v, Try.f3.params[j]? = some t → args[j]? = some v → Value.okWide Try.prog W .any base t v := hval0
  have hW' := hW
  obtain ⟨p, q, hA0, hV, _, _, _⟩ := hW
  have hA : DataW.TrodAll enc Try.prog W 0 (fun _ => true) true [3, 22] args.toList ds p := hA0
  obtain ⟨v0, v1, d0, d1, p0, p1, rfl, rfl, _, h0, h1⟩ := trodAll_two hA
  obtain ⟨rfl, _⟩ := trodVars_none hV
  obtain ⟨n, rfl, g0⟩ := rds_arg (c := (cInt .i64)) (hval 0 3 v0 rfl rfl) h0 (small_arg hsz (j := 0) rfl rfl)
  obtain ⟨s, rfl, g1⟩ := rds_arg (c := cSl) (hval 1 22 v1 rfl rfl) h1 (small_arg hsz (j := 1) rfl rfl)
  refine (outer_calls (P := Try.prog) (Q := fun v => v = .bool true) (by kernel_rfl) fun sd K h => f3_any W n s g0 g1 sd K (h _ rfl)).mono fun e W' ⟨v, he, hv, hb⟩ => ⟨v, he, ?_⟩
  subst hv
  exact post_true Try.laidOut hW' rfl (tb := 4) rfl Try.underlying4 (by decide +kernel) rfl hb
theorem f_holds : Rows.LockHandsSaid :=
  OpenClaim.holds_of_wide 3 Try.f3 rfl rfl rfl rfl rfl rfl rfl ⟨rfl, rfl, rfl, rfl, rfl⟩ rfl rfl rfl rfl rfl (by kernel_rfl) Try.func3 (by kernel_rfl)
    (of_decide_eq_true (by kernel_rfl)) (by unfold Func.isWrapper; first | (rw [if_pos (by decide +kernel)]; kernel_rfl) | (rw [if_neg (by decide +kernel)]; exact ⟨rfl, rfl⟩))
    (fun os started H enc _ => f_lifted os started H enc)
end Go.Proofs.Ytipjamgjgijeeaa
