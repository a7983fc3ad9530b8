/-
  What an argument of a seat reads as, printed by tygen.py.
-/
import Derived.Test.YtlohgchklicmhaaTy
import Derived.Test.YtlohgchklicmhaaDnY
namespace Go.Proofs.Ytlohgchklicmhaa
set_option linter.unusedSimpArgs false
set_option linter.unusedVariables false
open Go.Dn
set_option linter.unusedVariables false
instance : BoT Try.prog 4 := ⟨Try.underlying4⟩
instance : NPos ((cArr 2 cPtr)).n := ⟨by decide⟩
instance : NPos ((cArr 32 (cInt .u8))).n := ⟨by decide⟩
def S_wicketlaw16_Op.G : Hp → S_wicketlaw16_Op → Prop := fun h x => (GInt .i64) h x.Kind ∧ (GInt .i64) h x.Which ∧ (GInt .i64) h x.Block ∧ (GArr (GInt .u8)) h x.Value
instance : NPos S_wicketlaw16_Op.c.n := ⟨by decide⟩
instance : RdS Try.prog 45 S_wicketlaw16_Op.c S_wicketlaw16_Op.G := ⟨fun {H enc w sp held fuel cs x} h hw => by
  obtain ⟨xs, m, _, hd, hl, hx, hf⟩ := DataW.trod_struct Try.underlying45 h
  subst hd
  obtain ⟨a0, e0, g0⟩ := rds_field (i := 0) (t := 3) (c := (cInt .i64)) (off := 0) Try.underlying45 hw hx hf rfl rfl rfl
  obtain ⟨a1, e1, g1⟩ := rds_field (i := 1) (t := 3) (c := (cInt .i64)) (off := 1) Try.underlying45 hw hx hf rfl rfl rfl
  obtain ⟨a2, e2, g2⟩ := rds_field (i := 2) (t := 3) (c := (cInt .i64)) (off := 2) Try.underlying45 hw hx hf rfl rfl rfl
  obtain ⟨a3, e3, g3⟩ := rds_field (i := 3) (t := 43) (c := (cArr 32 (cInt .u8))) (off := 3) Try.underlying45 hw hx hf rfl rfl rfl
  refine ⟨⟨a0, a1, a2, a3⟩, ?_, g0, g1, g2, g3⟩
  show cs = (cInt .i64).cells a0 ++ ((cInt .i64).cells a1 ++ ((cInt .i64).cells a2 ++ ((cArr 32 (cInt .u8)).cells a3 ++ ([]))))
  have c0 := cut_next (off' := 1) e0 rfl
  have c1 := cut_next (off' := 2) e1 rfl
  have c2 := cut_next (off' := 3) e2 rfl
  have c3 := cut_next (off' := 35) e3 rfl
  have hz : cs.drop 35 = [] := List.drop_eq_nil_of_le (by rw [hl, cellsOf_ty (P := Try.prog) (t := 45) (c := S_wicketlaw16_Op.c)]; exact Nat.le_refl _)
  rw [List.drop_zero] at c0
  rw [c0, c1, c2, c3, hz]⟩
def S_api_Image.G : Hp → S_api_Image → Prop := fun h x => (GInt .i64) h x.Block ∧ (GArr (GInt .u8)) h x.Value
instance : NPos S_api_Image.c.n := ⟨by decide⟩
instance : RdS Try.prog 58 S_api_Image.c S_api_Image.G := ⟨fun {H enc w sp held fuel cs x} h hw => by
  obtain ⟨xs, m, _, hd, hl, hx, hf⟩ := DataW.trod_struct Try.underlying58 h
  subst hd
  obtain ⟨a0, e0, g0⟩ := rds_field (i := 0) (t := 3) (c := (cInt .i64)) (off := 0) Try.underlying58 hw hx hf rfl rfl rfl
  obtain ⟨a1, e1, g1⟩ := rds_field (i := 1) (t := 43) (c := (cArr 32 (cInt .u8))) (off := 1) Try.underlying58 hw hx hf rfl rfl rfl
  refine ⟨⟨a0, a1⟩, ?_, g0, g1⟩
  show cs = (cInt .i64).cells a0 ++ ((cArr 32 (cInt .u8)).cells a1 ++ ([]))
  have c0 := cut_next (off' := 1) e0 rfl
  have c1 := cut_next (off' := 33) e1 rfl
  have hz : cs.drop 33 = [] := List.drop_eq_nil_of_le (by rw [hl, cellsOf_ty (P := Try.prog) (t := 58) (c := S_api_Image.c)]; exact Nat.le_refl _)
  rw [List.drop_zero] at c0
  rw [c0, c1, hz]⟩
end Go.Proofs.Ytlohgchklicmhaa
