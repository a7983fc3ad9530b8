/-
  What an argument of a seat reads as, printed by tygen.py.
-/
import Derived.Test.YtkopggalogppcaaTy
import Derived.Test.YtkopggalogppcaaDnY
namespace Go.Proofs.Ytkopggalogppcaa
set_option linter.unusedSimpArgs false
set_option linter.unusedVariables false
open Go.Dn
set_option linter.unusedVariables false
instance : BoT Try.prog 4 := ⟨Try.underlying4⟩
instance : NPos ((cArr 2 cPtr)).n := ⟨by decide⟩
instance : NPos ((cArr 64 cU8)).n := ⟨by decide⟩
def S_wicketlaw04_Op.G : Hp → S_wicketlaw04_Op → Prop := fun h x => (GInt .i64) h x.Kind ∧ (GInt .i64) h x.Which ∧ (GInt .i64) h x.N ∧ (GSz cU8 GTrue 1) h x.Data ∧ (GSz (cInt .i64) (GInt .i64) 8) h x.Keep
instance : NPos S_wicketlaw04_Op.c.n := ⟨by decide⟩
instance : RdS Try.prog 43 S_wicketlaw04_Op.c S_wicketlaw04_Op.G := ⟨fun {H enc w sp held fuel cs x} h hw => by
  obtain ⟨xs, m, _, hd, hl, hx, hf⟩ := DataW.trod_struct Try.underlying43 h
  subst hd
  obtain ⟨a0, e0, g0⟩ := rds_field (i := 0) (t := 3) (c := (cInt .i64)) (off := 0) Try.underlying43 hw hx hf rfl rfl rfl
  obtain ⟨a1, e1, g1⟩ := rds_field (i := 1) (t := 3) (c := (cInt .i64)) (off := 1) Try.underlying43 hw hx hf rfl rfl rfl
  obtain ⟨a2, e2, g2⟩ := rds_field (i := 2) (t := 3) (c := (cInt .i64)) (off := 2) Try.underlying43 hw hx hf rfl rfl rfl
  obtain ⟨a3, e3, g3⟩ := rds_field (i := 3) (t := 40) (c := cSl) (off := 3) Try.underlying43 hw hx hf rfl rfl rfl
  obtain ⟨a4, e4, g4⟩ := rds_field (i := 4) (t := 41) (c := cSl) (off := 4) Try.underlying43 hw hx hf rfl rfl rfl
  refine ⟨⟨a0, a1, a2, a3, a4⟩, ?_, g0, g1, g2, g3, g4⟩
  show cs = (cInt .i64).cells a0 ++ ((cInt .i64).cells a1 ++ ((cInt .i64).cells a2 ++ (cSl.cells a3 ++ (cSl.cells a4 ++ ([])))))
  have c0 := cut_next (off' := 1) e0 rfl
  have c1 := cut_next (off' := 2) e1 rfl
  have c2 := cut_next (off' := 3) e2 rfl
  have c3 := cut_next (off' := 4) e3 rfl
  have c4 := cut_next (off' := 5) e4 rfl
  have hz : cs.drop 5 = [] := List.drop_eq_nil_of_le (by rw [hl, cellsOf_ty (P := Try.prog) (t := 43) (c := S_wicketlaw04_Op.c)]; exact Nat.le_refl _)
  rw [List.drop_zero] at c0
  rw [c0, c1, c2, c3, c4, hz]⟩
def S_wicketref04_Write.G : Hp → S_wicketref04_Write → Prop := fun h x => (GInt .i64) h x.Sector ∧ (GSz cU8 GTrue 1) h x.Data
instance : NPos S_wicketref04_Write.c.n := ⟨by decide⟩
instance : RdS Try.prog 69 S_wicketref04_Write.c S_wicketref04_Write.G := ⟨fun {H enc w sp held fuel cs x} h hw => by
  obtain ⟨xs, m, _, hd, hl, hx, hf⟩ := DataW.trod_struct Try.underlying69 h
  subst hd
  obtain ⟨a0, e0, g0⟩ := rds_field (i := 0) (t := 3) (c := (cInt .i64)) (off := 0) Try.underlying69 hw hx hf rfl rfl rfl
  obtain ⟨a1, e1, g1⟩ := rds_field (i := 1) (t := 40) (c := cSl) (off := 1) Try.underlying69 hw hx hf rfl rfl rfl
  refine ⟨⟨a0, a1⟩, ?_, g0, g1⟩
  show cs = (cInt .i64).cells a0 ++ (cSl.cells a1 ++ ([]))
  have c0 := cut_next (off' := 1) e0 rfl
  have c1 := cut_next (off' := 2) e1 rfl
  have hz : cs.drop 2 = [] := List.drop_eq_nil_of_le (by rw [hl, cellsOf_ty (P := Try.prog) (t := 69) (c := S_wicketref04_Write.c)]; exact Nat.le_refl _)
  rw [List.drop_zero] at c0
  rw [c0, c1, hz]⟩
def S_sector_Write.G : Hp → S_sector_Write → Prop := fun h x => (GInt .i64) h x.Sector ∧ (GSz cU8 GTrue 1) h x.Data
instance : NPos S_sector_Write.c.n := ⟨by decide⟩
instance : RdS Try.prog 81 S_sector_Write.c S_sector_Write.G := ⟨fun {H enc w sp held fuel cs x} h hw => by
  obtain ⟨xs, m, _, hd, hl, hx, hf⟩ := DataW.trod_struct Try.underlying81 h
  subst hd
  obtain ⟨a0, e0, g0⟩ := rds_field (i := 0) (t := 3) (c := (cInt .i64)) (off := 0) Try.underlying81 hw hx hf rfl rfl rfl
  obtain ⟨a1, e1, g1⟩ := rds_field (i := 1) (t := 40) (c := cSl) (off := 1) Try.underlying81 hw hx hf rfl rfl rfl
  refine ⟨⟨a0, a1⟩, ?_, g0, g1⟩
  show cs = (cInt .i64).cells a0 ++ (cSl.cells a1 ++ ([]))
  have c0 := cut_next (off' := 1) e0 rfl
  have c1 := cut_next (off' := 2) e1 rfl
  have hz : cs.drop 2 = [] := List.drop_eq_nil_of_le (by rw [hl, cellsOf_ty (P := Try.prog) (t := 81) (c := S_sector_Write.c)]; exact Nat.le_refl _)
  rw [List.drop_zero] at c0
  rw [c0, c1, hz]⟩
end Go.Proofs.Ytkopggalogppcaa
