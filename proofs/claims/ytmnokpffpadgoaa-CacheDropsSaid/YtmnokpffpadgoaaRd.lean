/-
  What an argument of a seat reads as, printed by tygen.py.
-/
import Derived.Test.YtmnokpffpadgoaaTy
import Derived.Test.YtmnokpffpadgoaaDnZ
namespace Go.Proofs.Ytmnokpffpadgoaa
open Go.Dn
set_option linter.unusedVariables false
instance : BoT Try.prog 4 := ⟨Try.underlying4⟩
instance : NPos ((cArr 8 (cInt .i64))).n := ⟨by decide⟩
instance : NPos ((cArr 8 cBool)).n := ⟨by decide⟩
instance : NPos ((cArr 32 (cInt .u8))).n := ⟨by decide⟩
def S_wicketlaw17_Commit.G : Hp → S_wicketlaw17_Commit → Prop := fun h x => (GSl (cInt .i64) (GInt .i64)) h x.Blocks ∧ (GInt .u8) h x.Fill
instance : NPos S_wicketlaw17_Commit.c.n := ⟨by decide⟩
instance : RdT Try.prog 36 S_wicketlaw17_Commit.c S_wicketlaw17_Commit.G := ⟨fun {H enc w sp held fuel cs x} h => by
  obtain ⟨xs, m, _, _, hl, hx, hf⟩ := DataW.trod_struct Try.underlying36 h
  obtain ⟨a0, e0, g0⟩ := rd_field (i := 0) (t := 33) (c := cSl) (off := 0) hx hf rfl rfl rfl
  obtain ⟨a1, e1, g1⟩ := rd_field (i := 1) (t := 5) (c := (cInt .u8)) (off := 1) hx hf rfl rfl rfl
  refine ⟨⟨a0, a1⟩, ?_, g0, g1⟩
  show cs = cSl.cells a0 ++ ((cInt .u8).cells a1 ++ ([]))
  have c0 := cut_next (off' := 1) e0 rfl
  have c1 := cut_next (off' := 2) e1 rfl
  have hz : cs.drop 2 = [] := List.drop_eq_nil_of_le (by rw [hl, cellsOf_ty (P := Try.prog) (t := 36) (c := S_wicketlaw17_Commit.c)]; exact Nat.le_refl _)
  rw [List.drop_zero] at c0
  rw [c0, c1, hz]⟩
def S_cache_Entry.G : Hp → S_cache_Entry → Prop := fun h x => (GInt .i64) h x.Block ∧ (GArr (GInt .u8)) h x.Value ∧ (GInt .u64) h x.Position
instance : NPos S_cache_Entry.c.n := ⟨by decide⟩
instance : RdT Try.prog 45 S_cache_Entry.c S_cache_Entry.G := ⟨fun {H enc w sp held fuel cs x} h => by
  obtain ⟨xs, m, _, _, hl, hx, hf⟩ := DataW.trod_struct Try.underlying45 h
  obtain ⟨a0, e0, g0⟩ := rd_field (i := 0) (t := 3) (c := (cInt .i64)) (off := 0) hx hf rfl rfl rfl
  obtain ⟨a1, e1, g1⟩ := rd_field (i := 1) (t := 38) (c := (cArr 32 (cInt .u8))) (off := 1) hx hf rfl rfl rfl
  obtain ⟨a2, e2, g2⟩ := rd_field (i := 2) (t := 43) (c := (cInt .u64)) (off := 33) hx hf rfl rfl rfl
  refine ⟨⟨a0, a1, a2⟩, ?_, g0, g1, g2⟩
  show cs = (cInt .i64).cells a0 ++ ((cArr 32 (cInt .u8)).cells a1 ++ ((cInt .u64).cells a2 ++ ([])))
  have c0 := cut_next (off' := 1) e0 rfl
  have c1 := cut_next (off' := 33) e1 rfl
  have c2 := cut_next (off' := 34) e2 rfl
  have hz : cs.drop 34 = [] := List.drop_eq_nil_of_le (by rw [hl, cellsOf_ty (P := Try.prog) (t := 45) (c := S_cache_Entry.c)]; exact Nat.le_refl _)
  rw [List.drop_zero] at c0
  rw [c0, c1, c2, hz]⟩
end Go.Proofs.Ytmnokpffpadgoaa
