/- Proved here: whatever the input, the statement BufferPlays returns true and its arguments read behind the call as before. Conditions: none. -/
import Derived.Test.YtlohgchklicmhaaRows
import Derived.Test.YtlohgchklicmhaaRd
import Derived.Test.YtlohgchklicmhaaBz
import Derived.ProofKit
import Derived.SizedLaws
namespace Go.Proofs.Ytlohgchklicmhaa
set_option linter.unusedSimpArgs false
set_option linter.unusedVariables false
open Go.ChangeShapes Go.WideShapes Go.ChangeAt Go.RowKit
open Go.Dn
theorem Try.own : ownKnob Try.prog.godebug = none := by kernel_rfl
theorem Try.laidOut : laidOutB Try.prog = true := by kernel_rfl
theorem f3_any (W : World) (a : Sl) (b : Sl) (s : Sl) (ga : GSz (cInt .i64) (GInt .i64) 8 (hof W) a) (gb : GSz (cInt .i64) (GInt .i64) 8 (hof W) b) (gs : GSz S_wicketlaw16_Op.c S_wicketlaw16_Op.G 56 (hof W) s) (sd : Side) (K : Value → Go.Dn.W) (h : Ent [Go.Dn.own (hof W)] (K (.bool true))) :
    Ent [Go.Dn.own (hof W)] (callC Try.prog 3 [sv a, sv b, sv s] K) := by
  obtain ⟨l1, r1, m1, n1, _⟩ := ga
  obtain ⟨l2, r2, m2, n2, _⟩ := gb
  obtain ⟨ops, r3, m3, n3, _⟩ := gs
  have i1 : RdB (hof W) a (cInt .i64) l1 := ⟨r1⟩
  have i2 : RdB (hof W) b (cInt .i64) l2 := ⟨r2⟩
  have i3 : RdB (hof W) s S_wicketlaw16_Op.c ops := ⟨r3⟩
  exact main_ok (by omega) (by omega) n3 h

set_option maxRecDepth 100000 in
theorem f_lifted (os : Os) (started : os.Started) (H : Type) (enc : TypeId × Value → H) :
    ReturnsInHanded {} Try.checked os 3 .any (Rows.bufferPlaysSpec.pre6 enc Try.prog Try.f3 Rows.bufferPlaysRow.domain false) (Rows.bufferPlaysSpec.post enc Try.prog Try.f3 false true false false) := by
  refine returnsInHanded_of_change_sized (C := Try.checked) Try.own started (by kernel_rfl) Try.func3
    (ChangeSpec.witness6 (enc := enc) (C := Try.checked) false ⟨#[], #[.slice none 0 0, .slice none 0 0, .slice none 0 0], []⟩ 8 (by kernel_rfl) (by kernel_rfl) (by kernel_rfl) (by kernel_rfl)) ?_
  intro W base args ds gs before hval0 hW _ hsz _
  have hval : ∀ (j : Nat) t v, Try.f3.params[j]? = some t → args[j]? = some v → Value.okWide Try.prog W .any base t v := hval0
  have hW' := hW
  obtain ⟨p, q, hA0, hV, _, _, _⟩ := hW
  have hA : DataW.TrodAll enc Try.prog W 0 (fun _ => true) true [22, 22, 23] args.toList ds p := hA0
  obtain ⟨v0, v1, v2, d0, d1, d2, p0, p1, p2, rfl, rfl, _, h0, h1, h2⟩ := trodAll_three hA
  obtain ⟨rfl, _⟩ := trodVars_none hV
  obtain ⟨a, rfl, g0⟩ := rds_arg (c := cSl) (hval 0 22 v0 rfl rfl) h0 (small_arg hsz (j := 0) rfl rfl)
  obtain ⟨b, rfl, g1⟩ := rds_arg (c := cSl) (hval 1 22 v1 rfl rfl) h1 (small_arg hsz (j := 1) rfl rfl)
  obtain ⟨s, rfl, g2⟩ := rds_arg (c := cSl) (hval 2 23 v2 rfl rfl) h2 (small_arg hsz (j := 2) rfl rfl)
  refine (outer_calls (P := Try.prog) (Q := fun v => v = .bool true) (by kernel_rfl) fun sd K h => f3_any W a b s g0 g1 g2 sd K (h _ rfl)).mono fun e W' ⟨v, he, hv, hb⟩ => ⟨v, he, ?_⟩
  subst hv
  exact post_true Try.laidOut hW' rfl (tb := 4) rfl Try.underlying4 (by decide +kernel) rfl hb
theorem f_holds : Rows.BufferPlaysSaid :=
  OpenClaim.holds_of_wide 3 Try.f3 rfl rfl rfl rfl rfl rfl rfl ⟨rfl, rfl, rfl, rfl, rfl⟩ rfl rfl rfl rfl rfl (by kernel_rfl) Try.func3 (by kernel_rfl)
    (of_decide_eq_true (by kernel_rfl)) (by unfold Func.isWrapper; first | (rw [if_pos (by decide +kernel)]; kernel_rfl) | (rw [if_neg (by decide +kernel)]; exact ⟨rfl, rfl⟩))
    (fun os started H enc _ => f_lifted os started H enc)
end Go.Proofs.Ytlohgchklicmhaa
