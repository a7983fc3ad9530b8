/-
  What an argument of a seat reads as, printed by tygen.py.
-/
import Derived.Test.YtmnokpffpadgoaaDoorTy
import Derived.Test.YtmnokpffpadgoaaDoorDnY
namespace Go.Proofs.YtmnokpffpadgoaaDoor
set_option linter.unusedSimpArgs false
set_option linter.unusedVariables false
open Go.Dn
set_option linter.unusedVariables false
instance : BoT Tryd.prog 4 := ⟨Tryd.underlying4⟩
instance : NPos ((cArr 2 cPtr)).n := ⟨by decide⟩
instance : NPos ((cArr 2 (cInt .i64))).n := ⟨by decide⟩
instance : NPos ((cArr 32 (cInt .u8))).n := ⟨by decide⟩
def S_api_Image.G : Hp → S_api_Image → Prop := fun h x => (GInt .i64) h x.Block ∧ (GArr (GInt .u8)) h x.Value
instance : NPos S_api_Image.c.n := ⟨by decide⟩
instance : RdS Tryd.prog 55 S_api_Image.c S_api_Image.G := ⟨fun {H enc w sp held fuel cs x} h hw => by
  obtain ⟨xs, m, _, hd, hl, hx, hf⟩ := DataW.trod_struct Tryd.underlying55 h
  subst hd
  obtain ⟨a0, e0, g0⟩ := rds_field (i := 0) (t := 3) (c := (cInt .i64)) (off := 0) Tryd.underlying55 hw hx hf rfl rfl rfl
  obtain ⟨a1, e1, g1⟩ := rds_field (i := 1) (t := 52) (c := (cArr 32 (cInt .u8))) (off := 1) Tryd.underlying55 hw hx hf rfl rfl rfl
  refine ⟨⟨a0, a1⟩, ?_, g0, g1⟩
  show cs = (cInt .i64).cells a0 ++ ((cArr 32 (cInt .u8)).cells a1 ++ ([]))
  have c0 := cut_next (off' := 1) e0 rfl
  have c1 := cut_next (off' := 33) e1 rfl
  have hz : cs.drop 33 = [] := List.drop_eq_nil_of_le (by rw [hl, cellsOf_ty (P := Tryd.prog) (t := 55) (c := S_api_Image.c)]; exact Nat.le_refl _)
  rw [List.drop_zero] at c0
  rw [c0, c1, hz]⟩
def S_wicketref17_Entry.G : Hp → S_wicketref17_Entry → Prop := fun h x => (GInt .i64) h x.Block ∧ (GArr (GInt .u8)) h x.Value ∧ (GInt .u64) h x.Position
instance : NPos S_wicketref17_Entry.c.n := ⟨by decide⟩
instance : RdS Tryd.prog 76 S_wicketref17_Entry.c S_wicketref17_Entry.G := ⟨fun {H enc w sp held fuel cs x} h hw => by
  obtain ⟨xs, m, _, hd, hl, hx, hf⟩ := DataW.trod_struct Tryd.underlying76 h
  subst hd
  obtain ⟨a0, e0, g0⟩ := rds_field (i := 0) (t := 3) (c := (cInt .i64)) (off := 0) Tryd.underlying76 hw hx hf rfl rfl rfl
  obtain ⟨a1, e1, g1⟩ := rds_field (i := 1) (t := 52) (c := (cArr 32 (cInt .u8))) (off := 1) Tryd.underlying76 hw hx hf rfl rfl rfl
  obtain ⟨a2, e2, g2⟩ := rds_field (i := 2) (t := 44) (c := (cInt .u64)) (off := 33) Tryd.underlying76 hw hx hf rfl rfl rfl
  refine ⟨⟨a0, a1, a2⟩, ?_, g0, g1, g2⟩
  show cs = (cInt .i64).cells a0 ++ ((cArr 32 (cInt .u8)).cells a1 ++ ((cInt .u64).cells a2 ++ ([])))
  have c0 := cut_next (off' := 1) e0 rfl
  have c1 := cut_next (off' := 33) e1 rfl
  have c2 := cut_next (off' := 34) e2 rfl
  have hz : cs.drop 34 = [] := List.drop_eq_nil_of_le (by rw [hl, cellsOf_ty (P := Tryd.prog) (t := 76) (c := S_wicketref17_Entry.c)]; exact Nat.le_refl _)
  rw [List.drop_zero] at c0
  rw [c0, c1, c2, hz]⟩
def S_wicketlaw17_Op.G : Hp → S_wicketlaw17_Op → Prop := fun h x => (GInt .i64) h x.Kind ∧ (GInt .i64) h x.Which ∧ (GInt .i64) h x.Block ∧ (GInt .u64) h x.Position ∧ (GSz S_api_Image.c S_api_Image.G 40) h x.Images ∧ (GSz S_wicketref17_Entry.c S_wicketref17_Entry.G 48) h x.List
instance : NPos S_wicketlaw17_Op.c.n := ⟨by decide⟩
instance : RdS Tryd.prog 48 S_wicketlaw17_Op.c S_wicketlaw17_Op.G := ⟨fun {H enc w sp held fuel cs x} h hw => by
  obtain ⟨xs, m, _, hd, hl, hx, hf⟩ := DataW.trod_struct Tryd.underlying48 h
  subst hd
  obtain ⟨a0, e0, g0⟩ := rds_field (i := 0) (t := 3) (c := (cInt .i64)) (off := 0) Tryd.underlying48 hw hx hf rfl rfl rfl
  obtain ⟨a1, e1, g1⟩ := rds_field (i := 1) (t := 3) (c := (cInt .i64)) (off := 1) Tryd.underlying48 hw hx hf rfl rfl rfl
  obtain ⟨a2, e2, g2⟩ := rds_field (i := 2) (t := 3) (c := (cInt .i64)) (off := 2) Tryd.underlying48 hw hx hf rfl rfl rfl
  obtain ⟨a3, e3, g3⟩ := rds_field (i := 3) (t := 44) (c := (cInt .u64)) (off := 3) Tryd.underlying48 hw hx hf rfl rfl rfl
  obtain ⟨a4, e4, g4⟩ := rds_field (i := 4) (t := 45) (c := cSl) (off := 4) Tryd.underlying48 hw hx hf rfl rfl rfl
  obtain ⟨a5, e5, g5⟩ := rds_field (i := 5) (t := 46) (c := cSl) (off := 5) Tryd.underlying48 hw hx hf rfl rfl rfl
  refine ⟨⟨a0, a1, a2, a3, a4, a5⟩, ?_, g0, g1, g2, g3, g4, g5⟩
  show cs = (cInt .i64).cells a0 ++ ((cInt .i64).cells a1 ++ ((cInt .i64).cells a2 ++ ((cInt .u64).cells a3 ++ (cSl.cells a4 ++ (cSl.cells a5 ++ ([]))))))
  have c0 := cut_next (off' := 1) e0 rfl
  have c1 := cut_next (off' := 2) e1 rfl
  have c2 := cut_next (off' := 3) e2 rfl
  have c3 := cut_next (off' := 4) e3 rfl
  have c4 := cut_next (off' := 5) e4 rfl
  have c5 := cut_next (off' := 6) e5 rfl
  have hz : cs.drop 6 = [] := List.drop_eq_nil_of_le (by rw [hl, cellsOf_ty (P := Tryd.prog) (t := 48) (c := S_wicketlaw17_Op.c)]; exact Nat.le_refl _)
  rw [List.drop_zero] at c0
  rw [c0, c1, c2, c3, c4, c5, hz]⟩
def S_cache_Entry.G : Hp → S_cache_Entry → Prop := fun h x => (GInt .i64) h x.Block ∧ (GArr (GInt .u8)) h x.Value ∧ (GInt .u64) h x.Position
instance : NPos S_cache_Entry.c.n := ⟨by decide⟩
instance : RdS Tryd.prog 57 S_cache_Entry.c S_cache_Entry.G := ⟨fun {H enc w sp held fuel cs x} h hw => by
  obtain ⟨xs, m, _, hd, hl, hx, hf⟩ := DataW.trod_struct Tryd.underlying57 h
  subst hd
  obtain ⟨a0, e0, g0⟩ := rds_field (i := 0) (t := 3) (c := (cInt .i64)) (off := 0) Tryd.underlying57 hw hx hf rfl rfl rfl
  obtain ⟨a1, e1, g1⟩ := rds_field (i := 1) (t := 52) (c := (cArr 32 (cInt .u8))) (off := 1) Tryd.underlying57 hw hx hf rfl rfl rfl
  obtain ⟨a2, e2, g2⟩ := rds_field (i := 2) (t := 44) (c := (cInt .u64)) (off := 33) Tryd.underlying57 hw hx hf rfl rfl rfl
  refine ⟨⟨a0, a1, a2⟩, ?_, g0, g1, g2⟩
  show cs = (cInt .i64).cells a0 ++ ((cArr 32 (cInt .u8)).cells a1 ++ ((cInt .u64).cells a2 ++ ([])))
  have c0 := cut_next (off' := 1) e0 rfl
  have c1 := cut_next (off' := 33) e1 rfl
  have c2 := cut_next (off' := 34) e2 rfl
  have hz : cs.drop 34 = [] := List.drop_eq_nil_of_le (by rw [hl, cellsOf_ty (P := Tryd.prog) (t := 57) (c := S_cache_Entry.c)]; exact Nat.le_refl _)
  rw [List.drop_zero] at c0
  rw [c0, c1, c2, hz]⟩
end Go.Proofs.YtmnokpffpadgoaaDoor
