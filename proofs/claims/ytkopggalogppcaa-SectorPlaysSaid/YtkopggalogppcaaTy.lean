/-
  The types of a seat, printed by tygen.py.
-/
import Derived.Test.YtkopggalogppcaaDnW
import Derived.Test.YtkopggalogppcaaProg
import Derived.KernelRfl
namespace Go.Proofs.Ytkopggalogppcaa
set_option linter.unusedSimpArgs false
set_option linter.unusedVariables false
open Go.Dn
set_option linter.unusedVariables false
set_option linter.unusedSimpArgs false
structure S_wicketlaw04_pair where
  d : (Arr 2 (Option Addr))
  r : (Arr 2 (Option Addr))
  told : Sl
  want : Sl
def S_wicketlaw04_pair.c : Cd S_wicketlaw04_pair := aggCd 6 (fun x => (cArr 2 cPtr).cells x.d ++ ((cArr 2 cPtr).cells x.r ++ (cSl.cells x.told ++ (cSl.cells x.want ++ ([]))))) (fun x => by simp only [List.length_append, Cd.len, List.length_nil]; rfl) (fun x v hv => by
  simp only [List.mem_append, List.not_mem_nil, or_false] at hv
  rcases hv with h | h | h | h
  · exact Cd.one _ _ _ h
  · exact Cd.one _ _ _ h
  · exact Cd.one _ _ _ h
  · exact Cd.one _ _ _ h)
abbrev S_wicketlaw04_pair.z : S_wicketlaw04_pair := ⟨⟨List.replicate 2 none, List.length_replicate⟩, ⟨List.replicate 2 none, List.length_replicate⟩, Sl.nil, Sl.nil⟩
instance : Inhabited S_wicketlaw04_pair := ⟨S_wicketlaw04_pair.z⟩
instance : SubC S_wicketlaw04_pair.c 0 (cArr 2 cPtr) (fun x => x.d) (fun x y => { x with d := y }) True :=
  sub_intro (fun x => []) (fun x => (cArr 2 cPtr).cells x.r ++ (cSl.cells x.told ++ (cSl.cells x.want ++ ([])))) (fun x => by simp only [S_wicketlaw04_pair.c, aggCd, List.append_assoc, List.nil_append]) (fun _ => rfl) (fun x y => by simp only [S_wicketlaw04_pair.c, aggCd, List.append_assoc, List.nil_append])
instance : SubC S_wicketlaw04_pair.c 2 (cArr 2 cPtr) (fun x => x.r) (fun x y => { x with r := y }) True :=
  sub_intro (fun x => (cArr 2 cPtr).cells x.d ++ ([])) (fun x => cSl.cells x.told ++ (cSl.cells x.want ++ ([]))) (fun x => by simp only [S_wicketlaw04_pair.c, aggCd, List.append_assoc, List.nil_append]) (fun x => by simp only [List.length_append, Cd.len, List.length_nil]; rfl) (fun x y => by simp only [S_wicketlaw04_pair.c, aggCd, List.append_assoc, List.nil_append])
instance : SubC S_wicketlaw04_pair.c 4 cSl (fun x => x.told) (fun x y => { x with told := y }) True :=
  sub_intro (fun x => (cArr 2 cPtr).cells x.d ++ ((cArr 2 cPtr).cells x.r ++ ([]))) (fun x => cSl.cells x.want ++ ([])) (fun x => by simp only [S_wicketlaw04_pair.c, aggCd, List.append_assoc, List.nil_append]) (fun x => by simp only [List.length_append, Cd.len, List.length_nil]; rfl) (fun x y => by simp only [S_wicketlaw04_pair.c, aggCd, List.append_assoc, List.nil_append])
instance : SubC S_wicketlaw04_pair.c 5 cSl (fun x => x.want) (fun x y => { x with want := y }) True :=
  sub_intro (fun x => (cArr 2 cPtr).cells x.d ++ ((cArr 2 cPtr).cells x.r ++ (cSl.cells x.told ++ ([])))) (fun x => []) (fun x => by simp only [S_wicketlaw04_pair.c, aggCd, List.append_assoc, List.nil_append]) (fun x => by simp only [List.length_append, Cd.len, List.length_nil]; rfl) (fun x y => by simp only [S_wicketlaw04_pair.c, aggCd, List.append_assoc, List.nil_append])
instance : SubC S_wicketlaw04_pair.c 0 cPtr (fun x => x.d.get 0) (fun x y => { x with d := x.d.set 0 y }) True :=
  ((SubC.comp (inferInstance : SubC S_wicketlaw04_pair.c 0 (cArr 2 cPtr) (fun x => x.d) (fun x y => { x with d := y }) True) (sub_arr (c := cPtr) (j := 0) (n := 2))).weak ⟨trivial, by decide⟩).at_ rfl
instance : SubC S_wicketlaw04_pair.c 1 cPtr (fun x => x.d.get 1) (fun x y => { x with d := x.d.set 1 y }) True :=
  ((SubC.comp (inferInstance : SubC S_wicketlaw04_pair.c 0 (cArr 2 cPtr) (fun x => x.d) (fun x y => { x with d := y }) True) (sub_arr (c := cPtr) (j := 1) (n := 2))).weak ⟨trivial, by decide⟩).at_ rfl
instance : SubC S_wicketlaw04_pair.c 2 cPtr (fun x => x.r.get 0) (fun x y => { x with r := x.r.set 0 y }) True :=
  ((SubC.comp (inferInstance : SubC S_wicketlaw04_pair.c 2 (cArr 2 cPtr) (fun x => x.r) (fun x y => { x with r := y }) True) (sub_arr (c := cPtr) (j := 0) (n := 2))).weak ⟨trivial, by decide⟩).at_ rfl
instance : SubC S_wicketlaw04_pair.c (2 + 1) cPtr (fun x => x.r.get 1) (fun x y => { x with r := x.r.set 1 y }) True :=
  ((SubC.comp (inferInstance : SubC S_wicketlaw04_pair.c 2 (cArr 2 cPtr) (fun x => x.r) (fun x y => { x with r := y }) True) (sub_arr (c := cPtr) (j := 1) (n := 2))).weak ⟨trivial, by decide⟩).at_ rfl
structure S_wicketlaw04_Op where
  Kind : Int
  Which : Int
  N : Int
  Data : Sl
  Keep : Sl
def S_wicketlaw04_Op.c : Cd S_wicketlaw04_Op := aggCd 5 (fun x => (cInt .i64).cells x.Kind ++ ((cInt .i64).cells x.Which ++ ((cInt .i64).cells x.N ++ (cSl.cells x.Data ++ (cSl.cells x.Keep ++ ([])))))) (fun x => by simp only [List.length_append, Cd.len, List.length_nil]; rfl) (fun x v hv => by
  simp only [List.mem_append, List.not_mem_nil, or_false] at hv
  rcases hv with h | h | h | h | h
  · exact Cd.one _ _ _ h
  · exact Cd.one _ _ _ h
  · exact Cd.one _ _ _ h
  · exact Cd.one _ _ _ h
  · exact Cd.one _ _ _ h)
abbrev S_wicketlaw04_Op.z : S_wicketlaw04_Op := ⟨0, 0, 0, Sl.nil, Sl.nil⟩
instance : Inhabited S_wicketlaw04_Op := ⟨S_wicketlaw04_Op.z⟩
instance : SubC S_wicketlaw04_Op.c 0 (cInt .i64) (fun x => x.Kind) (fun x y => { x with Kind := y }) True :=
  sub_intro (fun x => []) (fun x => (cInt .i64).cells x.Which ++ ((cInt .i64).cells x.N ++ (cSl.cells x.Data ++ (cSl.cells x.Keep ++ ([]))))) (fun x => by simp only [S_wicketlaw04_Op.c, aggCd, List.append_assoc, List.nil_append]) (fun _ => rfl) (fun x y => by simp only [S_wicketlaw04_Op.c, aggCd, List.append_assoc, List.nil_append])
instance : SubC S_wicketlaw04_Op.c 1 (cInt .i64) (fun x => x.Which) (fun x y => { x with Which := y }) True :=
  sub_intro (fun x => (cInt .i64).cells x.Kind ++ ([])) (fun x => (cInt .i64).cells x.N ++ (cSl.cells x.Data ++ (cSl.cells x.Keep ++ ([])))) (fun x => by simp only [S_wicketlaw04_Op.c, aggCd, List.append_assoc, List.nil_append]) (fun x => by simp only [List.length_append, Cd.len, List.length_nil]; rfl) (fun x y => by simp only [S_wicketlaw04_Op.c, aggCd, List.append_assoc, List.nil_append])
instance : SubC S_wicketlaw04_Op.c 2 (cInt .i64) (fun x => x.N) (fun x y => { x with N := y }) True :=
  sub_intro (fun x => (cInt .i64).cells x.Kind ++ ((cInt .i64).cells x.Which ++ ([]))) (fun x => cSl.cells x.Data ++ (cSl.cells x.Keep ++ ([]))) (fun x => by simp only [S_wicketlaw04_Op.c, aggCd, List.append_assoc, List.nil_append]) (fun x => by simp only [List.length_append, Cd.len, List.length_nil]; rfl) (fun x y => by simp only [S_wicketlaw04_Op.c, aggCd, List.append_assoc, List.nil_append])
instance : SubC S_wicketlaw04_Op.c 3 cSl (fun x => x.Data) (fun x y => { x with Data := y }) True :=
  sub_intro (fun x => (cInt .i64).cells x.Kind ++ ((cInt .i64).cells x.Which ++ ((cInt .i64).cells x.N ++ ([])))) (fun x => cSl.cells x.Keep ++ ([])) (fun x => by simp only [S_wicketlaw04_Op.c, aggCd, List.append_assoc, List.nil_append]) (fun x => by simp only [List.length_append, Cd.len, List.length_nil]; rfl) (fun x y => by simp only [S_wicketlaw04_Op.c, aggCd, List.append_assoc, List.nil_append])
instance : SubC S_wicketlaw04_Op.c 4 cSl (fun x => x.Keep) (fun x y => { x with Keep := y }) True :=
  sub_intro (fun x => (cInt .i64).cells x.Kind ++ ((cInt .i64).cells x.Which ++ ((cInt .i64).cells x.N ++ (cSl.cells x.Data ++ ([]))))) (fun x => []) (fun x => by simp only [S_wicketlaw04_Op.c, aggCd, List.append_assoc, List.nil_append]) (fun x => by simp only [List.length_append, Cd.len, List.length_nil]; rfl) (fun x y => by simp only [S_wicketlaw04_Op.c, aggCd, List.append_assoc, List.nil_append])
structure S_wicketref04_Disk where
  Durable : Sl
  Writes : Sl
def S_wicketref04_Disk.c : Cd S_wicketref04_Disk := aggCd 2 (fun x => cSl.cells x.Durable ++ (cSl.cells x.Writes ++ ([]))) (fun x => by simp only [List.length_append, Cd.len, List.length_nil]; rfl) (fun x v hv => by
  simp only [List.mem_append, List.not_mem_nil, or_false] at hv
  rcases hv with h | h
  · exact Cd.one _ _ _ h
  · exact Cd.one _ _ _ h)
abbrev S_wicketref04_Disk.z : S_wicketref04_Disk := ⟨Sl.nil, Sl.nil⟩
instance : Inhabited S_wicketref04_Disk := ⟨S_wicketref04_Disk.z⟩
instance : SubC S_wicketref04_Disk.c 0 cSl (fun x => x.Durable) (fun x y => { x with Durable := y }) True :=
  sub_intro (fun x => []) (fun x => cSl.cells x.Writes ++ ([])) (fun x => by simp only [S_wicketref04_Disk.c, aggCd, List.append_assoc, List.nil_append]) (fun _ => rfl) (fun x y => by simp only [S_wicketref04_Disk.c, aggCd, List.append_assoc, List.nil_append])
instance : SubC S_wicketref04_Disk.c 1 cSl (fun x => x.Writes) (fun x y => { x with Writes := y }) True :=
  sub_intro (fun x => cSl.cells x.Durable ++ ([])) (fun x => []) (fun x => by simp only [S_wicketref04_Disk.c, aggCd, List.append_assoc, List.nil_append]) (fun x => by simp only [List.length_append, Cd.len, List.length_nil]; rfl) (fun x y => by simp only [S_wicketref04_Disk.c, aggCd, List.append_assoc, List.nil_append])
structure S_sector_Disk where
  durable : Sl
  writes : Sl
def S_sector_Disk.c : Cd S_sector_Disk := aggCd 2 (fun x => cSl.cells x.durable ++ (cSl.cells x.writes ++ ([]))) (fun x => by simp only [List.length_append, Cd.len, List.length_nil]; rfl) (fun x v hv => by
  simp only [List.mem_append, List.not_mem_nil, or_false] at hv
  rcases hv with h | h
  · exact Cd.one _ _ _ h
  · exact Cd.one _ _ _ h)
abbrev S_sector_Disk.z : S_sector_Disk := ⟨Sl.nil, Sl.nil⟩
instance : Inhabited S_sector_Disk := ⟨S_sector_Disk.z⟩
instance : SubC S_sector_Disk.c 0 cSl (fun x => x.durable) (fun x y => { x with durable := y }) True :=
  sub_intro (fun x => []) (fun x => cSl.cells x.writes ++ ([])) (fun x => by simp only [S_sector_Disk.c, aggCd, List.append_assoc, List.nil_append]) (fun _ => rfl) (fun x y => by simp only [S_sector_Disk.c, aggCd, List.append_assoc, List.nil_append])
instance : SubC S_sector_Disk.c 1 cSl (fun x => x.writes) (fun x y => { x with writes := y }) True :=
  sub_intro (fun x => cSl.cells x.durable ++ ([])) (fun x => []) (fun x => by simp only [S_sector_Disk.c, aggCd, List.append_assoc, List.nil_append]) (fun x => by simp only [List.length_append, Cd.len, List.length_nil]; rfl) (fun x y => by simp only [S_sector_Disk.c, aggCd, List.append_assoc, List.nil_append])
structure S_sector_waiting where
  sector : Int
  bytes : (Arr 64 UInt8)
def S_sector_waiting.c : Cd S_sector_waiting := aggCd 65 (fun x => (cInt .i64).cells x.sector ++ ((cArr 64 cU8).cells x.bytes ++ ([]))) (fun x => by simp only [List.length_append, Cd.len, List.length_nil]; rfl) (fun x v hv => by
  simp only [List.mem_append, List.not_mem_nil, or_false] at hv
  rcases hv with h | h
  · exact Cd.one _ _ _ h
  · exact Cd.one _ _ _ h)
abbrev S_sector_waiting.z : S_sector_waiting := ⟨0, ⟨List.replicate 64 0, List.length_replicate⟩⟩
instance : Inhabited S_sector_waiting := ⟨S_sector_waiting.z⟩
instance : SubC S_sector_waiting.c 0 (cInt .i64) (fun x => x.sector) (fun x y => { x with sector := y }) True :=
  sub_intro (fun x => []) (fun x => (cArr 64 cU8).cells x.bytes ++ ([])) (fun x => by simp only [S_sector_waiting.c, aggCd, List.append_assoc, List.nil_append]) (fun _ => rfl) (fun x y => by simp only [S_sector_waiting.c, aggCd, List.append_assoc, List.nil_append])
instance : SubC S_sector_waiting.c 1 (cArr 64 cU8) (fun x => x.bytes) (fun x y => { x with bytes := y }) True :=
  sub_intro (fun x => (cInt .i64).cells x.sector ++ ([])) (fun x => []) (fun x => by simp only [S_sector_waiting.c, aggCd, List.append_assoc, List.nil_append]) (fun x => by simp only [List.length_append, Cd.len, List.length_nil]; rfl) (fun x y => by simp only [S_sector_waiting.c, aggCd, List.append_assoc, List.nil_append])
structure S_wicketref04_Write where
  Sector : Int
  Data : Sl
def S_wicketref04_Write.c : Cd S_wicketref04_Write := aggCd 2 (fun x => (cInt .i64).cells x.Sector ++ (cSl.cells x.Data ++ ([]))) (fun x => by simp only [List.length_append, Cd.len, List.length_nil]; rfl) (fun x v hv => by
  simp only [List.mem_append, List.not_mem_nil, or_false] at hv
  rcases hv with h | h
  · exact Cd.one _ _ _ h
  · exact Cd.one _ _ _ h)
abbrev S_wicketref04_Write.z : S_wicketref04_Write := ⟨0, Sl.nil⟩
instance : Inhabited S_wicketref04_Write := ⟨S_wicketref04_Write.z⟩
instance : SubC S_wicketref04_Write.c 0 (cInt .i64) (fun x => x.Sector) (fun x y => { x with Sector := y }) True :=
  sub_intro (fun x => []) (fun x => cSl.cells x.Data ++ ([])) (fun x => by simp only [S_wicketref04_Write.c, aggCd, List.append_assoc, List.nil_append]) (fun _ => rfl) (fun x y => by simp only [S_wicketref04_Write.c, aggCd, List.append_assoc, List.nil_append])
instance : SubC S_wicketref04_Write.c 1 cSl (fun x => x.Data) (fun x y => { x with Data := y }) True :=
  sub_intro (fun x => (cInt .i64).cells x.Sector ++ ([])) (fun x => []) (fun x => by simp only [S_wicketref04_Write.c, aggCd, List.append_assoc, List.nil_append]) (fun x => by simp only [List.length_append, Cd.len, List.length_nil]; rfl) (fun x y => by simp only [S_wicketref04_Write.c, aggCd, List.append_assoc, List.nil_append])
structure S_sector_Write where
  Sector : Int
  Data : Sl
def S_sector_Write.c : Cd S_sector_Write := aggCd 2 (fun x => (cInt .i64).cells x.Sector ++ (cSl.cells x.Data ++ ([]))) (fun x => by simp only [List.length_append, Cd.len, List.length_nil]; rfl) (fun x v hv => by
  simp only [List.mem_append, List.not_mem_nil, or_false] at hv
  rcases hv with h | h
  · exact Cd.one _ _ _ h
  · exact Cd.one _ _ _ h)
abbrev S_sector_Write.z : S_sector_Write := ⟨0, Sl.nil⟩
instance : Inhabited S_sector_Write := ⟨S_sector_Write.z⟩
instance : SubC S_sector_Write.c 0 (cInt .i64) (fun x => x.Sector) (fun x y => { x with Sector := y }) True :=
  sub_intro (fun x => []) (fun x => cSl.cells x.Data ++ ([])) (fun x => by simp only [S_sector_Write.c, aggCd, List.append_assoc, List.nil_append]) (fun _ => rfl) (fun x y => by simp only [S_sector_Write.c, aggCd, List.append_assoc, List.nil_append])
instance : SubC S_sector_Write.c 1 cSl (fun x => x.Data) (fun x y => { x with Data := y }) True :=
  sub_intro (fun x => (cInt .i64).cells x.Sector ++ ([])) (fun x => []) (fun x => by simp only [S_sector_Write.c, aggCd, List.append_assoc, List.nil_append]) (fun x => by simp only [List.length_append, Cd.len, List.length_nil]; rfl) (fun x y => by simp only [S_sector_Write.c, aggCd, List.append_assoc, List.nil_append])
instance : Ty Try.prog 3 (cInt .i64) 0 8 := ⟨⟨_, Try.underlying3, rfl⟩, ⟨Try.t3, by kernel_rfl, by kernel_rfl, by kernel_rfl, by kernel_rfl⟩, by decide⟩
instance : InT Try.prog 3 .i64 := ⟨Try.underlying3⟩
instance : NotIf Try.prog 3 := ⟨⟨_, Try.underlying3, rfl⟩⟩
instance : Ty Try.prog 4 cBool false 1 := ⟨⟨_, Try.underlying4, rfl⟩, ⟨Try.t4, by kernel_rfl, by kernel_rfl, by kernel_rfl, by kernel_rfl⟩, by decide⟩
instance : BlT Try.prog 4 := ⟨Try.underlying4⟩
instance : NotIf Try.prog 4 := ⟨⟨_, Try.underlying4, rfl⟩⟩
instance : Ty Try.prog 5 cU8 0 1 := ⟨⟨_, Try.underlying5, rfl⟩, ⟨Try.t5, by kernel_rfl, by kernel_rfl, by kernel_rfl, by kernel_rfl⟩, by decide⟩
instance : InT Try.prog 5 .u8 := ⟨Try.underlying5⟩
instance : NotIf Try.prog 5 := ⟨⟨_, Try.underlying5, rfl⟩⟩
instance : Ty Try.prog 9 cStr ⟨#[]⟩ 16 := ⟨⟨_, Try.underlying9, rfl⟩, ⟨Try.t9, by kernel_rfl, by kernel_rfl, by kernel_rfl, by kernel_rfl⟩, by decide⟩
instance : StgT Try.prog 9 := ⟨Try.underlying9⟩
instance : Ty Try.prog 22 cSl Sl.nil 24 := ⟨⟨_, Try.underlying22, rfl⟩, ⟨Try.t22, by kernel_rfl, by kernel_rfl, by kernel_rfl, by kernel_rfl⟩, by decide⟩
instance : SlT Try.prog 22 43 := ⟨Try.underlying22⟩
instance : NotIf Try.prog 22 := ⟨⟨_, Try.underlying22, rfl⟩⟩
instance : Ty Try.prog 24 cPtr none 8 := ⟨⟨_, Try.underlying24, rfl⟩, ⟨Try.t24, by kernel_rfl, by kernel_rfl, by kernel_rfl, by kernel_rfl⟩, by decide⟩
instance : PtT Try.prog 24 := ⟨⟨_, Try.underlying24⟩⟩
instance : NotIf Try.prog 24 := ⟨⟨_, Try.underlying24, rfl⟩⟩
instance : Ty Try.prog 25 (cInt .i64) 0 8 := ⟨⟨_, Try.underlying25, rfl⟩, ⟨Try.t25, by kernel_rfl, by kernel_rfl, by kernel_rfl, by kernel_rfl⟩, by decide⟩
instance : InT Try.prog 25 .i64 := ⟨Try.underlying25⟩
instance : NotIf Try.prog 25 := ⟨⟨_, Try.underlying25, rfl⟩⟩
instance : Ty Try.prog 28 cPtr none 8 := ⟨⟨_, Try.underlying28, rfl⟩, ⟨Try.t28, by kernel_rfl, by kernel_rfl, by kernel_rfl, by kernel_rfl⟩, by decide⟩
instance : PtT Try.prog 28 := ⟨⟨_, Try.underlying28⟩⟩
instance : NotIf Try.prog 28 := ⟨⟨_, Try.underlying28, rfl⟩⟩
instance : Ty Try.prog 31 cPtr none 8 := ⟨⟨_, Try.underlying31, rfl⟩, ⟨Try.t31, by kernel_rfl, by kernel_rfl, by kernel_rfl, by kernel_rfl⟩, by decide⟩
instance : PtT Try.prog 31 := ⟨⟨_, Try.underlying31⟩⟩
instance : NotIf Try.prog 31 := ⟨⟨_, Try.underlying31, rfl⟩⟩
instance : Ty Try.prog 33 (cArr 2 cPtr) ⟨List.replicate 2 none, List.length_replicate⟩ 16 := ⟨⟨_, Try.underlying33, rfl⟩, ⟨Try.t33, by kernel_rfl, by kernel_rfl, by kernel_rfl, by kernel_rfl⟩, by decide⟩
instance : ArT Try.prog 33 2 24 := ⟨Try.underlying33⟩
instance : Ty Try.prog 35 (cArr 2 cPtr) ⟨List.replicate 2 none, List.length_replicate⟩ 16 := ⟨⟨_, Try.underlying35, rfl⟩, ⟨Try.t35, by kernel_rfl, by kernel_rfl, by kernel_rfl, by kernel_rfl⟩, by decide⟩
instance : ArT Try.prog 35 2 28 := ⟨Try.underlying35⟩
instance : Ty Try.prog 36 cSl Sl.nil 24 := ⟨⟨_, Try.underlying36, rfl⟩, ⟨Try.t36, by kernel_rfl, by kernel_rfl, by kernel_rfl, by kernel_rfl⟩, by decide⟩
instance : SlT Try.prog 36 40 := ⟨Try.underlying36⟩
instance : NotIf Try.prog 36 := ⟨⟨_, Try.underlying36, rfl⟩⟩
instance : Ty Try.prog 38 S_wicketlaw04_pair.c S_wicketlaw04_pair.z 80 := ⟨⟨_, Try.underlying38, rfl⟩, ⟨Try.t38, by kernel_rfl, by kernel_rfl, by kernel_rfl, by kernel_rfl⟩, by decide⟩
instance : NotIf Try.prog 38 := ⟨⟨_, Try.underlying38, rfl⟩⟩
instance : FldC Try.prog 38 0 0 (cArr 2 cPtr) := ⟨_, _, Try.t33, Try.underlying38, rfl, by kernel_rfl, by kernel_rfl, rfl⟩
instance : FldT Try.prog 38 0 0 := ⟨_, _, Try.t33, Try.underlying38, rfl, by kernel_rfl, by decide, rfl⟩
instance : FldC Try.prog 38 1 2 (cArr 2 cPtr) := ⟨_, _, Try.t35, Try.underlying38, rfl, by kernel_rfl, by kernel_rfl, rfl⟩
instance : FldT Try.prog 38 1 2 := ⟨_, _, Try.t35, Try.underlying38, rfl, by kernel_rfl, by decide, rfl⟩
instance : FldC Try.prog 38 2 4 cSl := ⟨_, _, Try.t36, Try.underlying38, rfl, by kernel_rfl, by kernel_rfl, rfl⟩
instance : FldT Try.prog 38 2 4 := ⟨_, _, Try.t36, Try.underlying38, rfl, by kernel_rfl, by decide, rfl⟩
instance : FldC Try.prog 38 3 5 cSl := ⟨_, _, Try.t36, Try.underlying38, rfl, by kernel_rfl, by kernel_rfl, rfl⟩
instance : FldT Try.prog 38 3 5 := ⟨_, _, Try.t36, Try.underlying38, rfl, by kernel_rfl, by decide, rfl⟩
instance : StrT Try.prog 38 := ⟨⟨_, Try.underlying38, fun k f h => match k, f, h with
  | 0, f, h => by simp at h; subst h; exact ⟨Try.t33, by kernel_rfl⟩
  | 1, f, h => by simp at h; subst h; exact ⟨Try.t35, by kernel_rfl⟩
  | 2, f, h => by simp at h; subst h; exact ⟨Try.t36, by kernel_rfl⟩
  | 3, f, h => by simp at h; subst h; exact ⟨Try.t36, by kernel_rfl⟩
  | k + 4, f, h => by simp at h⟩⟩
instance : Ty Try.prog 40 cSl Sl.nil 24 := ⟨⟨_, Try.underlying40, rfl⟩, ⟨Try.t40, by kernel_rfl, by kernel_rfl, by kernel_rfl, by kernel_rfl⟩, by decide⟩
instance : SlT Try.prog 40 5 := ⟨Try.underlying40⟩
instance : NotIf Try.prog 40 := ⟨⟨_, Try.underlying40, rfl⟩⟩
instance : Ty Try.prog 41 cSl Sl.nil 24 := ⟨⟨_, Try.underlying41, rfl⟩, ⟨Try.t41, by kernel_rfl, by kernel_rfl, by kernel_rfl, by kernel_rfl⟩, by decide⟩
instance : SlT Try.prog 41 3 := ⟨Try.underlying41⟩
instance : NotIf Try.prog 41 := ⟨⟨_, Try.underlying41, rfl⟩⟩
instance : Ty Try.prog 43 S_wicketlaw04_Op.c S_wicketlaw04_Op.z 72 := ⟨⟨_, Try.underlying43, rfl⟩, ⟨Try.t43, by kernel_rfl, by kernel_rfl, by kernel_rfl, by kernel_rfl⟩, by decide⟩
instance : NotIf Try.prog 43 := ⟨⟨_, Try.underlying43, rfl⟩⟩
instance : FldC Try.prog 43 0 0 (cInt .i64) := ⟨_, _, Try.t3, Try.underlying43, rfl, by kernel_rfl, by kernel_rfl, rfl⟩
instance : FldT Try.prog 43 0 0 := ⟨_, _, Try.t3, Try.underlying43, rfl, by kernel_rfl, by decide, rfl⟩
instance : FldC Try.prog 43 1 1 (cInt .i64) := ⟨_, _, Try.t3, Try.underlying43, rfl, by kernel_rfl, by kernel_rfl, rfl⟩
instance : FldT Try.prog 43 1 1 := ⟨_, _, Try.t3, Try.underlying43, rfl, by kernel_rfl, by decide, rfl⟩
instance : FldC Try.prog 43 2 2 (cInt .i64) := ⟨_, _, Try.t3, Try.underlying43, rfl, by kernel_rfl, by kernel_rfl, rfl⟩
instance : FldT Try.prog 43 2 2 := ⟨_, _, Try.t3, Try.underlying43, rfl, by kernel_rfl, by decide, rfl⟩
instance : FldC Try.prog 43 3 3 cSl := ⟨_, _, Try.t40, Try.underlying43, rfl, by kernel_rfl, by kernel_rfl, rfl⟩
instance : FldT Try.prog 43 3 3 := ⟨_, _, Try.t40, Try.underlying43, rfl, by kernel_rfl, by decide, rfl⟩
instance : FldC Try.prog 43 4 4 cSl := ⟨_, _, Try.t41, Try.underlying43, rfl, by kernel_rfl, by kernel_rfl, rfl⟩
instance : FldT Try.prog 43 4 4 := ⟨_, _, Try.t41, Try.underlying43, rfl, by kernel_rfl, by decide, rfl⟩
instance : StrT Try.prog 43 := ⟨⟨_, Try.underlying43, fun k f h => match k, f, h with
  | 0, f, h => by simp at h; subst h; exact ⟨Try.t3, by kernel_rfl⟩
  | 1, f, h => by simp at h; subst h; exact ⟨Try.t3, by kernel_rfl⟩
  | 2, f, h => by simp at h; subst h; exact ⟨Try.t3, by kernel_rfl⟩
  | 3, f, h => by simp at h; subst h; exact ⟨Try.t40, by kernel_rfl⟩
  | 4, f, h => by simp at h; subst h; exact ⟨Try.t41, by kernel_rfl⟩
  | k + 5, f, h => by simp at h⟩⟩
instance : Ty Try.prog 45 cSl Sl.nil 24 := ⟨⟨_, Try.underlying45, rfl⟩, ⟨Try.t45, by kernel_rfl, by kernel_rfl, by kernel_rfl, by kernel_rfl⟩, by decide⟩
instance : SlT Try.prog 45 69 := ⟨Try.underlying45⟩
instance : NotIf Try.prog 45 := ⟨⟨_, Try.underlying45, rfl⟩⟩
instance : Ty Try.prog 47 S_wicketref04_Disk.c S_wicketref04_Disk.z 48 := ⟨⟨_, Try.underlying47, rfl⟩, ⟨Try.t47, by kernel_rfl, by kernel_rfl, by kernel_rfl, by kernel_rfl⟩, by decide⟩
instance : NotIf Try.prog 47 := ⟨⟨_, Try.underlying47, rfl⟩⟩
instance : FldC Try.prog 47 0 0 cSl := ⟨_, _, Try.t40, Try.underlying47, rfl, by kernel_rfl, by kernel_rfl, rfl⟩
instance : FldT Try.prog 47 0 0 := ⟨_, _, Try.t40, Try.underlying47, rfl, by kernel_rfl, by decide, rfl⟩
instance : FldC Try.prog 47 1 1 cSl := ⟨_, _, Try.t45, Try.underlying47, rfl, by kernel_rfl, by kernel_rfl, rfl⟩
instance : FldT Try.prog 47 1 1 := ⟨_, _, Try.t45, Try.underlying47, rfl, by kernel_rfl, by decide, rfl⟩
instance : StrT Try.prog 47 := ⟨⟨_, Try.underlying47, fun k f h => match k, f, h with
  | 0, f, h => by simp at h; subst h; exact ⟨Try.t40, by kernel_rfl⟩
  | 1, f, h => by simp at h; subst h; exact ⟨Try.t45, by kernel_rfl⟩
  | k + 2, f, h => by simp at h⟩⟩
instance : Ty Try.prog 49 cSl Sl.nil 24 := ⟨⟨_, Try.underlying49, rfl⟩, ⟨Try.t49, by kernel_rfl, by kernel_rfl, by kernel_rfl, by kernel_rfl⟩, by decide⟩
instance : SlT Try.prog 49 81 := ⟨Try.underlying49⟩
instance : NotIf Try.prog 49 := ⟨⟨_, Try.underlying49, rfl⟩⟩
instance : Ty Try.prog 58 cSl Sl.nil 24 := ⟨⟨_, Try.underlying58, rfl⟩, ⟨Try.t58, by kernel_rfl, by kernel_rfl, by kernel_rfl, by kernel_rfl⟩, by decide⟩
instance : SlT Try.prog 58 64 := ⟨Try.underlying58⟩
instance : NotIf Try.prog 58 := ⟨⟨_, Try.underlying58, rfl⟩⟩
instance : Ty Try.prog 59 cSl Sl.nil 24 := ⟨⟨_, Try.underlying59, rfl⟩, ⟨Try.t59, by kernel_rfl, by kernel_rfl, by kernel_rfl, by kernel_rfl⟩, by decide⟩
instance : SlT Try.prog 59 67 := ⟨Try.underlying59⟩
instance : NotIf Try.prog 59 := ⟨⟨_, Try.underlying59, rfl⟩⟩
instance : Ty Try.prog 61 S_sector_Disk.c S_sector_Disk.z 48 := ⟨⟨_, Try.underlying61, rfl⟩, ⟨Try.t61, by kernel_rfl, by kernel_rfl, by kernel_rfl, by kernel_rfl⟩, by decide⟩
instance : NotIf Try.prog 61 := ⟨⟨_, Try.underlying61, rfl⟩⟩
instance : FldC Try.prog 61 0 0 cSl := ⟨_, _, Try.t58, Try.underlying61, rfl, by kernel_rfl, by kernel_rfl, rfl⟩
instance : FldT Try.prog 61 0 0 := ⟨_, _, Try.t58, Try.underlying61, rfl, by kernel_rfl, by decide, rfl⟩
instance : FldC Try.prog 61 1 1 cSl := ⟨_, _, Try.t59, Try.underlying61, rfl, by kernel_rfl, by kernel_rfl, rfl⟩
instance : FldT Try.prog 61 1 1 := ⟨_, _, Try.t59, Try.underlying61, rfl, by kernel_rfl, by decide, rfl⟩
instance : StrT Try.prog 61 := ⟨⟨_, Try.underlying61, fun k f h => match k, f, h with
  | 0, f, h => by simp at h; subst h; exact ⟨Try.t58, by kernel_rfl⟩
  | 1, f, h => by simp at h; subst h; exact ⟨Try.t59, by kernel_rfl⟩
  | k + 2, f, h => by simp at h⟩⟩
instance : Ty Try.prog 64 (cArr 64 cU8) ⟨List.replicate 64 0, List.length_replicate⟩ 64 := ⟨⟨_, Try.underlying64, rfl⟩, ⟨Try.t64, by kernel_rfl, by kernel_rfl, by kernel_rfl, by kernel_rfl⟩, by decide⟩
instance : ArT Try.prog 64 64 5 := ⟨Try.underlying64⟩
instance : Ty Try.prog 67 S_sector_waiting.c S_sector_waiting.z 72 := ⟨⟨_, Try.underlying67, rfl⟩, ⟨Try.t67, by kernel_rfl, by kernel_rfl, by kernel_rfl, by kernel_rfl⟩, by decide⟩
instance : NotIf Try.prog 67 := ⟨⟨_, Try.underlying67, rfl⟩⟩
instance : FldC Try.prog 67 0 0 (cInt .i64) := ⟨_, _, Try.t3, Try.underlying67, rfl, by kernel_rfl, by kernel_rfl, rfl⟩
instance : FldT Try.prog 67 0 0 := ⟨_, _, Try.t3, Try.underlying67, rfl, by kernel_rfl, by decide, rfl⟩
instance : FldC Try.prog 67 1 1 (cArr 64 cU8) := ⟨_, _, Try.t64, Try.underlying67, rfl, by kernel_rfl, by kernel_rfl, rfl⟩
instance : FldT Try.prog 67 1 1 := ⟨_, _, Try.t64, Try.underlying67, rfl, by kernel_rfl, by decide, rfl⟩
instance : StrT Try.prog 67 := ⟨⟨_, Try.underlying67, fun k f h => match k, f, h with
  | 0, f, h => by simp at h; subst h; exact ⟨Try.t3, by kernel_rfl⟩
  | 1, f, h => by simp at h; subst h; exact ⟨Try.t64, by kernel_rfl⟩
  | k + 2, f, h => by simp at h⟩⟩
instance : Ty Try.prog 69 S_wicketref04_Write.c S_wicketref04_Write.z 32 := ⟨⟨_, Try.underlying69, rfl⟩, ⟨Try.t69, by kernel_rfl, by kernel_rfl, by kernel_rfl, by kernel_rfl⟩, by decide⟩
instance : NotIf Try.prog 69 := ⟨⟨_, Try.underlying69, rfl⟩⟩
instance : FldC Try.prog 69 0 0 (cInt .i64) := ⟨_, _, Try.t3, Try.underlying69, rfl, by kernel_rfl, by kernel_rfl, rfl⟩
instance : FldT Try.prog 69 0 0 := ⟨_, _, Try.t3, Try.underlying69, rfl, by kernel_rfl, by decide, rfl⟩
instance : FldC Try.prog 69 1 1 cSl := ⟨_, _, Try.t40, Try.underlying69, rfl, by kernel_rfl, by kernel_rfl, rfl⟩
instance : FldT Try.prog 69 1 1 := ⟨_, _, Try.t40, Try.underlying69, rfl, by kernel_rfl, by decide, rfl⟩
instance : StrT Try.prog 69 := ⟨⟨_, Try.underlying69, fun k f h => match k, f, h with
  | 0, f, h => by simp at h; subst h; exact ⟨Try.t3, by kernel_rfl⟩
  | 1, f, h => by simp at h; subst h; exact ⟨Try.t40, by kernel_rfl⟩
  | k + 2, f, h => by simp at h⟩⟩
instance : Ty Try.prog 81 S_sector_Write.c S_sector_Write.z 32 := ⟨⟨_, Try.underlying81, rfl⟩, ⟨Try.t81, by kernel_rfl, by kernel_rfl, by kernel_rfl, by kernel_rfl⟩, by decide⟩
instance : NotIf Try.prog 81 := ⟨⟨_, Try.underlying81, rfl⟩⟩
instance : FldC Try.prog 81 0 0 (cInt .i64) := ⟨_, _, Try.t3, Try.underlying81, rfl, by kernel_rfl, by kernel_rfl, rfl⟩
instance : FldT Try.prog 81 0 0 := ⟨_, _, Try.t3, Try.underlying81, rfl, by kernel_rfl, by decide, rfl⟩
instance : FldC Try.prog 81 1 1 cSl := ⟨_, _, Try.t40, Try.underlying81, rfl, by kernel_rfl, by kernel_rfl, rfl⟩
instance : FldT Try.prog 81 1 1 := ⟨_, _, Try.t40, Try.underlying81, rfl, by kernel_rfl, by decide, rfl⟩
instance : StrT Try.prog 81 := ⟨⟨_, Try.underlying81, fun k f h => match k, f, h with
  | 0, f, h => by simp at h; subst h; exact ⟨Try.t3, by kernel_rfl⟩
  | 1, f, h => by simp at h; subst h; exact ⟨Try.t40, by kernel_rfl⟩
  | k + 2, f, h => by simp at h⟩⟩
instance : Ty Try.prog 83 cFn fnil 8 := ⟨⟨_, Try.underlying83, rfl⟩, ⟨Try.t83, by kernel_rfl, by kernel_rfl, by kernel_rfl, by kernel_rfl⟩, by decide⟩
instance : FnT Try.prog 83 := ⟨⟨_, _, _, Try.underlying83⟩⟩
instance : Ty Try.prog 84 cFn fnil 8 := ⟨⟨_, Try.underlying84, rfl⟩, ⟨Try.t84, by kernel_rfl, by kernel_rfl, by kernel_rfl, by kernel_rfl⟩, by decide⟩
instance : FnT Try.prog 84 := ⟨⟨_, _, _, Try.underlying84⟩⟩
instance : Ty Try.prog 86 cFn fnil 8 := ⟨⟨_, Try.underlying86, rfl⟩, ⟨Try.t86, by kernel_rfl, by kernel_rfl, by kernel_rfl, by kernel_rfl⟩, by decide⟩
instance : FnT Try.prog 86 := ⟨⟨_, _, _, Try.underlying86⟩⟩
instance : VOf cU8 (.int .u8 0) 0 := ⟨rfl⟩
instance : VOf cU8 (.int .u8 1) 1 := ⟨rfl⟩
instance : VOf cU8 (.int .u8 2) 2 := ⟨rfl⟩
instance : VOf cU8 (.int .u8 3) 3 := ⟨rfl⟩
instance : VOf cU8 (.int .u8 68) 68 := ⟨rfl⟩
instance : VOf cU8 (.int .u8 69) 69 := ⟨rfl⟩
instance : VOf cU8 (.int .u8 70) 70 := ⟨rfl⟩
instance : VOf cU8 (.int .u8 71) 71 := ⟨rfl⟩
instance : VOf cU8 (.int .u8 90) 90 := ⟨rfl⟩
instance : EqG Try.prog 64 (cArr 64 cU8) := eqG_mk (k := 2) (inferInstanceAs (EqT Try.prog 64 (cArr 64 cU8) _)) (by decide) (by kernel_rfl) rfl
instance : EqT Try.prog 67 S_sector_waiting.c 3 := eqT_struct (P := Try.prog) (c := S_sector_waiting.c) (k := 2) (Q := fun x y : S_sector_waiting => x.sector = y.sector ∧ x.bytes = y.bytes ∧ True) Try.underlying67 (by kernel_rfl) rfl rfl (by exact (EqFs.cons (c' := (cInt .i64)) (get := (fun x : S_sector_waiting => x.sector)) (set := (fun (x : S_sector_waiting) y => { x with sector := y })) (by decide) (inferInstance : Ty Try.prog 3 (cInt .i64) 0 8) (by decide) (inferInstance : SubC S_sector_waiting.c 0 (cInt .i64) (fun x : S_sector_waiting => x.sector) (fun (x : S_sector_waiting) y => { x with sector := y }) True) (inferInstance : EqT Try.prog 3 (cInt .i64) 1) (EqFs.cons (c' := (cArr 64 cU8)) (get := (fun x : S_sector_waiting => x.bytes)) (set := (fun (x : S_sector_waiting) y => { x with bytes := y })) (by decide) (inferInstance : Ty Try.prog 64 (cArr 64 cU8) ⟨List.replicate 64 0, List.length_replicate⟩ 64) (by decide) (inferInstance : SubC S_sector_waiting.c 1 (cArr 64 cU8) (fun x : S_sector_waiting => x.bytes) (fun (x : S_sector_waiting) y => { x with bytes := y }) True) (inferInstance : EqT Try.prog 64 (cArr 64 cU8) 2) EqFs.nil))) (fun x y => by cases x; cases y; simp)
instance : EqG Try.prog 67 S_sector_waiting.c := eqG_mk (k := 3) (inferInstanceAs (EqT Try.prog 67 S_sector_waiting.c _)) (by decide) (by kernel_rfl) rfl
end Go.Proofs.Ytkopggalogppcaa
