/-
  The types of a seat, printed by tygen.py.
-/
import Derived.Test.YtmnokpffpadgoaaDnR
import Derived.Test.YtmnokpffpadgoaaProg
import Derived.KernelRfl
namespace Go.Proofs.Ytmnokpffpadgoaa
open Go.Dn
set_option linter.unusedVariables false
set_option linter.unusedSimpArgs false
structure S_wicketlaw17_Commit where
  Blocks : Sl
  Fill : Int
def S_wicketlaw17_Commit.c : Cd S_wicketlaw17_Commit := aggCd 2 (fun x => cSl.cells x.Blocks ++ ((cInt .u8).cells x.Fill ++ ([]))) (fun x => by simp only [List.length_append, Cd.len, List.length_nil]; rfl) (fun x v hv => by
  simp only [List.mem_append, List.not_mem_nil, or_false] at hv
  rcases hv with h | h
  · exact Cd.one _ _ _ h
  · exact Cd.one _ _ _ h)
abbrev S_wicketlaw17_Commit.z : S_wicketlaw17_Commit := ⟨Sl.nil, 0⟩
instance : Inhabited S_wicketlaw17_Commit := ⟨S_wicketlaw17_Commit.z⟩
instance : SubC S_wicketlaw17_Commit.c 0 cSl (fun x => x.Blocks) (fun x y => { x with Blocks := y }) True :=
  sub_intro (fun x => []) (fun x => (cInt .u8).cells x.Fill ++ ([])) (fun x => by simp only [S_wicketlaw17_Commit.c, aggCd, List.append_assoc, List.nil_append]) (fun _ => rfl) (fun x y => by simp only [S_wicketlaw17_Commit.c, aggCd, List.append_assoc, List.nil_append])
instance : SubC S_wicketlaw17_Commit.c 1 (cInt .u8) (fun x => x.Fill) (fun x y => { x with Fill := y }) True :=
  sub_intro (fun x => cSl.cells x.Blocks ++ ([])) (fun x => []) (fun x => by simp only [S_wicketlaw17_Commit.c, aggCd, List.append_assoc, List.nil_append]) (fun x => by simp only [List.length_append, Cd.len, List.length_nil]; rfl) (fun x y => by simp only [S_wicketlaw17_Commit.c, aggCd, List.append_assoc, List.nil_append])
structure S_api_Image where
  Block : Int
  Value : (Arr 32 Int)
def S_api_Image.c : Cd S_api_Image := aggCd 33 (fun x => (cInt .i64).cells x.Block ++ ((cArr 32 (cInt .u8)).cells x.Value ++ ([]))) (fun x => by simp only [List.length_append, Cd.len, List.length_nil]; rfl) (fun x v hv => by
  simp only [List.mem_append, List.not_mem_nil, or_false] at hv
  rcases hv with h | h
  · exact Cd.one _ _ _ h
  · exact Cd.one _ _ _ h)
abbrev S_api_Image.z : S_api_Image := ⟨0, ⟨List.replicate 32 0, List.length_replicate⟩⟩
instance : Inhabited S_api_Image := ⟨S_api_Image.z⟩
instance : SubC S_api_Image.c 0 (cInt .i64) (fun x => x.Block) (fun x y => { x with Block := y }) True :=
  sub_intro (fun x => []) (fun x => (cArr 32 (cInt .u8)).cells x.Value ++ ([])) (fun x => by simp only [S_api_Image.c, aggCd, List.append_assoc, List.nil_append]) (fun _ => rfl) (fun x y => by simp only [S_api_Image.c, aggCd, List.append_assoc, List.nil_append])
instance : SubC S_api_Image.c 1 (cArr 32 (cInt .u8)) (fun x => x.Value) (fun x y => { x with Value := y }) True :=
  sub_intro (fun x => (cInt .i64).cells x.Block ++ ([])) (fun x => []) (fun x => by simp only [S_api_Image.c, aggCd, List.append_assoc, List.nil_append]) (fun x => by simp only [List.length_append, Cd.len, List.length_nil]; rfl) (fun x y => by simp only [S_api_Image.c, aggCd, List.append_assoc, List.nil_append])
structure S_cache_Entry where
  Block : Int
  Value : (Arr 32 Int)
  Position : Int
def S_cache_Entry.c : Cd S_cache_Entry := aggCd 34 (fun x => (cInt .i64).cells x.Block ++ ((cArr 32 (cInt .u8)).cells x.Value ++ ((cInt .u64).cells x.Position ++ ([])))) (fun x => by simp only [List.length_append, Cd.len, List.length_nil]; rfl) (fun x v hv => by
  simp only [List.mem_append, List.not_mem_nil, or_false] at hv
  rcases hv with h | h | h
  · exact Cd.one _ _ _ h
  · exact Cd.one _ _ _ h
  · exact Cd.one _ _ _ h)
abbrev S_cache_Entry.z : S_cache_Entry := ⟨0, ⟨List.replicate 32 0, List.length_replicate⟩, 0⟩
instance : Inhabited S_cache_Entry := ⟨S_cache_Entry.z⟩
instance : SubC S_cache_Entry.c 0 (cInt .i64) (fun x => x.Block) (fun x y => { x with Block := y }) True :=
  sub_intro (fun x => []) (fun x => (cArr 32 (cInt .u8)).cells x.Value ++ ((cInt .u64).cells x.Position ++ ([]))) (fun x => by simp only [S_cache_Entry.c, aggCd, List.append_assoc, List.nil_append]) (fun _ => rfl) (fun x y => by simp only [S_cache_Entry.c, aggCd, List.append_assoc, List.nil_append])
instance : SubC S_cache_Entry.c 1 (cArr 32 (cInt .u8)) (fun x => x.Value) (fun x y => { x with Value := y }) True :=
  sub_intro (fun x => (cInt .i64).cells x.Block ++ ([])) (fun x => (cInt .u64).cells x.Position ++ ([])) (fun x => by simp only [S_cache_Entry.c, aggCd, List.append_assoc, List.nil_append]) (fun x => by simp only [List.length_append, Cd.len, List.length_nil]; rfl) (fun x y => by simp only [S_cache_Entry.c, aggCd, List.append_assoc, List.nil_append])
instance : SubC S_cache_Entry.c 33 (cInt .u64) (fun x => x.Position) (fun x y => { x with Position := y }) True :=
  sub_intro (fun x => (cInt .i64).cells x.Block ++ ((cArr 32 (cInt .u8)).cells x.Value ++ ([]))) (fun x => []) (fun x => by simp only [S_cache_Entry.c, aggCd, List.append_assoc, List.nil_append]) (fun x => by simp only [List.length_append, Cd.len, List.length_nil]; rfl) (fun x y => by simp only [S_cache_Entry.c, aggCd, List.append_assoc, List.nil_append])
structure S_cache_Cache where
  entries : Sl
  there : Sl
  last : Int
  any : Bool
def S_cache_Cache.c : Cd S_cache_Cache := aggCd 4 (fun x => cSl.cells x.entries ++ (cSl.cells x.there ++ ((cInt .u64).cells x.last ++ (cBool.cells x.any ++ ([]))))) (fun x => by simp only [List.length_append, Cd.len, List.length_nil]; rfl) (fun x v hv => by
  simp only [List.mem_append, List.not_mem_nil, or_false] at hv
  rcases hv with h | h | h | h
  · exact Cd.one _ _ _ h
  · exact Cd.one _ _ _ h
  · exact Cd.one _ _ _ h
  · exact Cd.one _ _ _ h)
abbrev S_cache_Cache.z : S_cache_Cache := ⟨Sl.nil, Sl.nil, 0, false⟩
instance : Inhabited S_cache_Cache := ⟨S_cache_Cache.z⟩
instance : SubC S_cache_Cache.c 0 cSl (fun x => x.entries) (fun x y => { x with entries := y }) True :=
  sub_intro (fun x => []) (fun x => cSl.cells x.there ++ ((cInt .u64).cells x.last ++ (cBool.cells x.any ++ ([])))) (fun x => by simp only [S_cache_Cache.c, aggCd, List.append_assoc, List.nil_append]) (fun _ => rfl) (fun x y => by simp only [S_cache_Cache.c, aggCd, List.append_assoc, List.nil_append])
instance : SubC S_cache_Cache.c 1 cSl (fun x => x.there) (fun x y => { x with there := y }) True :=
  sub_intro (fun x => cSl.cells x.entries ++ ([])) (fun x => (cInt .u64).cells x.last ++ (cBool.cells x.any ++ ([]))) (fun x => by simp only [S_cache_Cache.c, aggCd, List.append_assoc, List.nil_append]) (fun x => by simp only [List.length_append, Cd.len, List.length_nil]; rfl) (fun x y => by simp only [S_cache_Cache.c, aggCd, List.append_assoc, List.nil_append])
instance : SubC S_cache_Cache.c 2 (cInt .u64) (fun x => x.last) (fun x y => { x with last := y }) True :=
  sub_intro (fun x => cSl.cells x.entries ++ (cSl.cells x.there ++ ([]))) (fun x => cBool.cells x.any ++ ([])) (fun x => by simp only [S_cache_Cache.c, aggCd, List.append_assoc, List.nil_append]) (fun x => by simp only [List.length_append, Cd.len, List.length_nil]; rfl) (fun x y => by simp only [S_cache_Cache.c, aggCd, List.append_assoc, List.nil_append])
instance : SubC S_cache_Cache.c 3 cBool (fun x => x.any) (fun x y => { x with any := y }) True :=
  sub_intro (fun x => cSl.cells x.entries ++ (cSl.cells x.there ++ ((cInt .u64).cells x.last ++ ([])))) (fun x => []) (fun x => by simp only [S_cache_Cache.c, aggCd, List.append_assoc, List.nil_append]) (fun x => by simp only [List.length_append, Cd.len, List.length_nil]; rfl) (fun x y => by simp only [S_cache_Cache.c, aggCd, List.append_assoc, List.nil_append])
structure S_wicketref17_Entry where
  Block : Int
  Value : (Arr 32 Int)
  Position : Int
def S_wicketref17_Entry.c : Cd S_wicketref17_Entry := aggCd 34 (fun x => (cInt .i64).cells x.Block ++ ((cArr 32 (cInt .u8)).cells x.Value ++ ((cInt .u64).cells x.Position ++ ([])))) (fun x => by simp only [List.length_append, Cd.len, List.length_nil]; rfl) (fun x v hv => by
  simp only [List.mem_append, List.not_mem_nil, or_false] at hv
  rcases hv with h | h | h
  · exact Cd.one _ _ _ h
  · exact Cd.one _ _ _ h
  · exact Cd.one _ _ _ h)
abbrev S_wicketref17_Entry.z : S_wicketref17_Entry := ⟨0, ⟨List.replicate 32 0, List.length_replicate⟩, 0⟩
instance : Inhabited S_wicketref17_Entry := ⟨S_wicketref17_Entry.z⟩
instance : SubC S_wicketref17_Entry.c 0 (cInt .i64) (fun x => x.Block) (fun x y => { x with Block := y }) True :=
  sub_intro (fun x => []) (fun x => (cArr 32 (cInt .u8)).cells x.Value ++ ((cInt .u64).cells x.Position ++ ([]))) (fun x => by simp only [S_wicketref17_Entry.c, aggCd, List.append_assoc, List.nil_append]) (fun _ => rfl) (fun x y => by simp only [S_wicketref17_Entry.c, aggCd, List.append_assoc, List.nil_append])
instance : SubC S_wicketref17_Entry.c 1 (cArr 32 (cInt .u8)) (fun x => x.Value) (fun x y => { x with Value := y }) True :=
  sub_intro (fun x => (cInt .i64).cells x.Block ++ ([])) (fun x => (cInt .u64).cells x.Position ++ ([])) (fun x => by simp only [S_wicketref17_Entry.c, aggCd, List.append_assoc, List.nil_append]) (fun x => by simp only [List.length_append, Cd.len, List.length_nil]; rfl) (fun x y => by simp only [S_wicketref17_Entry.c, aggCd, List.append_assoc, List.nil_append])
instance : SubC S_wicketref17_Entry.c 33 (cInt .u64) (fun x => x.Position) (fun x y => { x with Position := y }) True :=
  sub_intro (fun x => (cInt .i64).cells x.Block ++ ((cArr 32 (cInt .u8)).cells x.Value ++ ([]))) (fun x => []) (fun x => by simp only [S_wicketref17_Entry.c, aggCd, List.append_assoc, List.nil_append]) (fun x => by simp only [List.length_append, Cd.len, List.length_nil]; rfl) (fun x y => by simp only [S_wicketref17_Entry.c, aggCd, List.append_assoc, List.nil_append])
instance : Ty Try.prog 3 (cInt .i64) 0 8 := ⟨⟨_, Try.underlying3, rfl⟩, ⟨Try.t3, by kernel_rfl, by kernel_rfl, by kernel_rfl, by kernel_rfl⟩, by decide⟩
instance : InT Try.prog 3 .i64 := ⟨Try.underlying3⟩
instance : Ty Try.prog 4 cBool false 1 := ⟨⟨_, Try.underlying4, rfl⟩, ⟨Try.t4, by kernel_rfl, by kernel_rfl, by kernel_rfl, by kernel_rfl⟩, by decide⟩
instance : BlT Try.prog 4 := ⟨Try.underlying4⟩
instance : Ty Try.prog 5 (cInt .u8) 0 1 := ⟨⟨_, Try.underlying5, rfl⟩, ⟨Try.t5, by kernel_rfl, by kernel_rfl, by kernel_rfl, by kernel_rfl⟩, by decide⟩
instance : InT Try.prog 5 .u8 := ⟨Try.underlying5⟩
instance : Ty Try.prog 22 cSl Sl.nil 24 := ⟨⟨_, Try.underlying22, rfl⟩, ⟨Try.t22, by kernel_rfl, by kernel_rfl, by kernel_rfl, by kernel_rfl⟩, by decide⟩
instance : SlT Try.prog 22 36 := ⟨Try.underlying22⟩
instance : Ty Try.prog 24 cPtr none 8 := ⟨⟨_, Try.underlying24, rfl⟩, ⟨Try.t24, by kernel_rfl, by kernel_rfl, by kernel_rfl, by kernel_rfl⟩, by decide⟩
instance : PtT Try.prog 24 := ⟨⟨_, Try.underlying24⟩⟩
instance : Ty Try.prog 25 (cInt .i64) 0 8 := ⟨⟨_, Try.underlying25, rfl⟩, ⟨Try.t25, by kernel_rfl, by kernel_rfl, by kernel_rfl, by kernel_rfl⟩, by decide⟩
instance : InT Try.prog 25 .i64 := ⟨Try.underlying25⟩
instance : Ty Try.prog 28 cSl Sl.nil 24 := ⟨⟨_, Try.underlying28, rfl⟩, ⟨Try.t28, by kernel_rfl, by kernel_rfl, by kernel_rfl, by kernel_rfl⟩, by decide⟩
instance : SlT Try.prog 28 45 := ⟨Try.underlying28⟩
instance : Ty Try.prog 29 (cArr 8 (cInt .i64)) ⟨List.replicate 8 0, List.length_replicate⟩ 64 := ⟨⟨_, Try.underlying29, rfl⟩, ⟨Try.t29, by kernel_rfl, by kernel_rfl, by kernel_rfl, by kernel_rfl⟩, by decide⟩
instance : ArT Try.prog 29 8 3 := ⟨Try.underlying29⟩
instance : Ty Try.prog 30 (cArr 8 cBool) ⟨List.replicate 8 false, List.length_replicate⟩ 8 := ⟨⟨_, Try.underlying30, rfl⟩, ⟨Try.t30, by kernel_rfl, by kernel_rfl, by kernel_rfl, by kernel_rfl⟩, by decide⟩
instance : ArT Try.prog 30 8 4 := ⟨Try.underlying30⟩
instance : Ty Try.prog 32 cSl Sl.nil 24 := ⟨⟨_, Try.underlying32, rfl⟩, ⟨Try.t32, by kernel_rfl, by kernel_rfl, by kernel_rfl, by kernel_rfl⟩, by decide⟩
instance : SlT Try.prog 32 41 := ⟨Try.underlying32⟩
instance : Ty Try.prog 33 cSl Sl.nil 24 := ⟨⟨_, Try.underlying33, rfl⟩, ⟨Try.t33, by kernel_rfl, by kernel_rfl, by kernel_rfl, by kernel_rfl⟩, by decide⟩
instance : SlT Try.prog 33 3 := ⟨Try.underlying33⟩
instance : Ty Try.prog 36 S_wicketlaw17_Commit.c S_wicketlaw17_Commit.z 32 := ⟨⟨_, Try.underlying36, rfl⟩, ⟨Try.t36, by kernel_rfl, by kernel_rfl, by kernel_rfl, by kernel_rfl⟩, by decide⟩
instance : FldC Try.prog 36 0 0 cSl := ⟨_, _, Try.t33, Try.underlying36, rfl, by kernel_rfl, by kernel_rfl, rfl⟩
instance : FldT Try.prog 36 0 0 := ⟨_, _, Try.t33, Try.underlying36, rfl, by kernel_rfl, by decide, rfl⟩
instance : FldC Try.prog 36 1 1 (cInt .u8) := ⟨_, _, Try.t5, Try.underlying36, rfl, by kernel_rfl, by kernel_rfl, rfl⟩
instance : FldT Try.prog 36 1 1 := ⟨_, _, Try.t5, Try.underlying36, rfl, by kernel_rfl, by decide, rfl⟩
instance : StrT Try.prog 36 := ⟨⟨_, Try.underlying36, fun k f h => match k, f, h with
  | 0, f, h => by simp at h; subst h; exact ⟨Try.t33, by kernel_rfl⟩
  | 1, f, h => by simp at h; subst h; exact ⟨Try.t5, by kernel_rfl⟩
  | k + 2, f, h => by simp at h⟩⟩
instance : Ty Try.prog 38 (cArr 32 (cInt .u8)) ⟨List.replicate 32 0, List.length_replicate⟩ 32 := ⟨⟨_, Try.underlying38, rfl⟩, ⟨Try.t38, by kernel_rfl, by kernel_rfl, by kernel_rfl, by kernel_rfl⟩, by decide⟩
instance : ArT Try.prog 38 32 5 := ⟨Try.underlying38⟩
instance : Ty Try.prog 41 S_api_Image.c S_api_Image.z 40 := ⟨⟨_, Try.underlying41, rfl⟩, ⟨Try.t41, by kernel_rfl, by kernel_rfl, by kernel_rfl, by kernel_rfl⟩, by decide⟩
instance : FldC Try.prog 41 0 0 (cInt .i64) := ⟨_, _, Try.t3, Try.underlying41, rfl, by kernel_rfl, by kernel_rfl, rfl⟩
instance : FldT Try.prog 41 0 0 := ⟨_, _, Try.t3, Try.underlying41, rfl, by kernel_rfl, by decide, rfl⟩
instance : FldC Try.prog 41 1 1 (cArr 32 (cInt .u8)) := ⟨_, _, Try.t38, Try.underlying41, rfl, by kernel_rfl, by kernel_rfl, rfl⟩
instance : FldT Try.prog 41 1 1 := ⟨_, _, Try.t38, Try.underlying41, rfl, by kernel_rfl, by decide, rfl⟩
instance : StrT Try.prog 41 := ⟨⟨_, Try.underlying41, fun k f h => match k, f, h with
  | 0, f, h => by simp at h; subst h; exact ⟨Try.t3, by kernel_rfl⟩
  | 1, f, h => by simp at h; subst h; exact ⟨Try.t38, by kernel_rfl⟩
  | k + 2, f, h => by simp at h⟩⟩
instance : Ty Try.prog 43 (cInt .u64) 0 8 := ⟨⟨_, Try.underlying43, rfl⟩, ⟨Try.t43, by kernel_rfl, by kernel_rfl, by kernel_rfl, by kernel_rfl⟩, by decide⟩
instance : InT Try.prog 43 .u64 := ⟨Try.underlying43⟩
instance : Ty Try.prog 45 S_cache_Entry.c S_cache_Entry.z 48 := ⟨⟨_, Try.underlying45, rfl⟩, ⟨Try.t45, by kernel_rfl, by kernel_rfl, by kernel_rfl, by kernel_rfl⟩, by decide⟩
instance : FldC Try.prog 45 0 0 (cInt .i64) := ⟨_, _, Try.t3, Try.underlying45, rfl, by kernel_rfl, by kernel_rfl, rfl⟩
instance : FldT Try.prog 45 0 0 := ⟨_, _, Try.t3, Try.underlying45, rfl, by kernel_rfl, by decide, rfl⟩
instance : FldC Try.prog 45 1 1 (cArr 32 (cInt .u8)) := ⟨_, _, Try.t38, Try.underlying45, rfl, by kernel_rfl, by kernel_rfl, rfl⟩
instance : FldT Try.prog 45 1 1 := ⟨_, _, Try.t38, Try.underlying45, rfl, by kernel_rfl, by decide, rfl⟩
instance : FldC Try.prog 45 2 33 (cInt .u64) := ⟨_, _, Try.t43, Try.underlying45, rfl, by kernel_rfl, by kernel_rfl, rfl⟩
instance : FldT Try.prog 45 2 33 := ⟨_, _, Try.t43, Try.underlying45, rfl, by kernel_rfl, by decide, rfl⟩
instance : StrT Try.prog 45 := ⟨⟨_, Try.underlying45, fun k f h => match k, f, h with
  | 0, f, h => by simp at h; subst h; exact ⟨Try.t3, by kernel_rfl⟩
  | 1, f, h => by simp at h; subst h; exact ⟨Try.t38, by kernel_rfl⟩
  | 2, f, h => by simp at h; subst h; exact ⟨Try.t43, by kernel_rfl⟩
  | k + 3, f, h => by simp at h⟩⟩
instance : Ty Try.prog 54 cSl Sl.nil 24 := ⟨⟨_, Try.underlying54, rfl⟩, ⟨Try.t54, by kernel_rfl, by kernel_rfl, by kernel_rfl, by kernel_rfl⟩, by decide⟩
instance : SlT Try.prog 54 65 := ⟨Try.underlying54⟩
instance : Ty Try.prog 57 cSl Sl.nil 24 := ⟨⟨_, Try.underlying57, rfl⟩, ⟨Try.t57, by kernel_rfl, by kernel_rfl, by kernel_rfl, by kernel_rfl⟩, by decide⟩
instance : SlT Try.prog 57 4 := ⟨Try.underlying57⟩
instance : Ty Try.prog 59 S_cache_Cache.c S_cache_Cache.z 64 := ⟨⟨_, Try.underlying59, rfl⟩, ⟨Try.t59, by kernel_rfl, by kernel_rfl, by kernel_rfl, by kernel_rfl⟩, by decide⟩
instance : FldC Try.prog 59 0 0 cSl := ⟨_, _, Try.t28, Try.underlying59, rfl, by kernel_rfl, by kernel_rfl, rfl⟩
instance : FldT Try.prog 59 0 0 := ⟨_, _, Try.t28, Try.underlying59, rfl, by kernel_rfl, by decide, rfl⟩
instance : FldC Try.prog 59 1 1 cSl := ⟨_, _, Try.t57, Try.underlying59, rfl, by kernel_rfl, by kernel_rfl, rfl⟩
instance : FldT Try.prog 59 1 1 := ⟨_, _, Try.t57, Try.underlying59, rfl, by kernel_rfl, by decide, rfl⟩
instance : FldC Try.prog 59 2 2 (cInt .u64) := ⟨_, _, Try.t43, Try.underlying59, rfl, by kernel_rfl, by kernel_rfl, rfl⟩
instance : FldT Try.prog 59 2 2 := ⟨_, _, Try.t43, Try.underlying59, rfl, by kernel_rfl, by decide, rfl⟩
instance : FldC Try.prog 59 3 3 cBool := ⟨_, _, Try.t4, Try.underlying59, rfl, by kernel_rfl, by kernel_rfl, rfl⟩
instance : FldT Try.prog 59 3 3 := ⟨_, _, Try.t4, Try.underlying59, rfl, by kernel_rfl, by decide, rfl⟩
instance : StrT Try.prog 59 := ⟨⟨_, Try.underlying59, fun k f h => match k, f, h with
  | 0, f, h => by simp at h; subst h; exact ⟨Try.t28, by kernel_rfl⟩
  | 1, f, h => by simp at h; subst h; exact ⟨Try.t57, by kernel_rfl⟩
  | 2, f, h => by simp at h; subst h; exact ⟨Try.t43, by kernel_rfl⟩
  | 3, f, h => by simp at h; subst h; exact ⟨Try.t4, by kernel_rfl⟩
  | k + 4, f, h => by simp at h⟩⟩
instance : Ty Try.prog 60 cFn ⟨.nilFunc, rfl⟩ 8 := ⟨⟨_, Try.underlying60, rfl⟩, ⟨Try.t60, by kernel_rfl, by kernel_rfl, by kernel_rfl, by kernel_rfl⟩, by decide⟩
instance : FnT Try.prog 60 := ⟨⟨_, _, _, Try.underlying60⟩⟩
instance : Ty Try.prog 61 cFn ⟨.nilFunc, rfl⟩ 8 := ⟨⟨_, Try.underlying61, rfl⟩, ⟨Try.t61, by kernel_rfl, by kernel_rfl, by kernel_rfl, by kernel_rfl⟩, by decide⟩
instance : FnT Try.prog 61 := ⟨⟨_, _, _, Try.underlying61⟩⟩
instance : Ty Try.prog 64 cFn ⟨.nilFunc, rfl⟩ 8 := ⟨⟨_, Try.underlying64, rfl⟩, ⟨Try.t64, by kernel_rfl, by kernel_rfl, by kernel_rfl, by kernel_rfl⟩, by decide⟩
instance : FnT Try.prog 64 := ⟨⟨_, _, _, Try.underlying64⟩⟩
instance : Ty Try.prog 65 S_wicketref17_Entry.c S_wicketref17_Entry.z 48 := ⟨⟨_, Try.underlying65, rfl⟩, ⟨Try.t65, by kernel_rfl, by kernel_rfl, by kernel_rfl, by kernel_rfl⟩, by decide⟩
instance : FldC Try.prog 65 0 0 (cInt .i64) := ⟨_, _, Try.t3, Try.underlying65, rfl, by kernel_rfl, by kernel_rfl, rfl⟩
instance : FldT Try.prog 65 0 0 := ⟨_, _, Try.t3, Try.underlying65, rfl, by kernel_rfl, by decide, rfl⟩
instance : FldC Try.prog 65 1 1 (cArr 32 (cInt .u8)) := ⟨_, _, Try.t38, Try.underlying65, rfl, by kernel_rfl, by kernel_rfl, rfl⟩
instance : FldT Try.prog 65 1 1 := ⟨_, _, Try.t38, Try.underlying65, rfl, by kernel_rfl, by decide, rfl⟩
instance : FldC Try.prog 65 2 33 (cInt .u64) := ⟨_, _, Try.t43, Try.underlying65, rfl, by kernel_rfl, by kernel_rfl, rfl⟩
instance : FldT Try.prog 65 2 33 := ⟨_, _, Try.t43, Try.underlying65, rfl, by kernel_rfl, by decide, rfl⟩
instance : StrT Try.prog 65 := ⟨⟨_, Try.underlying65, fun k f h => match k, f, h with
  | 0, f, h => by simp at h; subst h; exact ⟨Try.t3, by kernel_rfl⟩
  | 1, f, h => by simp at h; subst h; exact ⟨Try.t38, by kernel_rfl⟩
  | 2, f, h => by simp at h; subst h; exact ⟨Try.t43, by kernel_rfl⟩
  | k + 3, f, h => by simp at h⟩⟩
instance : EqG Try.prog 29 (cArr 8 (cInt .i64)) := eqG_mk (k := 2) (inferInstanceAs (EqT Try.prog 29 (cArr 8 (cInt .i64)) _)) (by decide) (by kernel_rfl) rfl
instance : EqG Try.prog 30 (cArr 8 cBool) := eqG_mk (k := 2) (inferInstanceAs (EqT Try.prog 30 (cArr 8 cBool) _)) (by decide) (by kernel_rfl) rfl
instance : EqG Try.prog 38 (cArr 32 (cInt .u8)) := eqG_mk (k := 2) (inferInstanceAs (EqT Try.prog 38 (cArr 32 (cInt .u8)) _)) (by decide) (by kernel_rfl) rfl
instance : EqT Try.prog 41 S_api_Image.c 3 := eqT_struct (P := Try.prog) (c := S_api_Image.c) (k := 2) (Q := fun x y : S_api_Image => x.Block = y.Block ∧ x.Value = y.Value ∧ True) Try.underlying41 (by kernel_rfl) rfl rfl (by exact (EqFs.cons (c' := (cInt .i64)) (get := (fun x : S_api_Image => x.Block)) (set := (fun (x : S_api_Image) y => { x with Block := y })) (by decide) (inferInstance : Ty Try.prog 3 (cInt .i64) 0 8) (by decide) (inferInstance : SubC S_api_Image.c 0 (cInt .i64) (fun x : S_api_Image => x.Block) (fun (x : S_api_Image) y => { x with Block := y }) True) (inferInstance : EqT Try.prog 3 (cInt .i64) 1) (EqFs.cons (c' := (cArr 32 (cInt .u8))) (get := (fun x : S_api_Image => x.Value)) (set := (fun (x : S_api_Image) y => { x with Value := y })) (by decide) (inferInstance : Ty Try.prog 38 (cArr 32 (cInt .u8)) ⟨List.replicate 32 0, List.length_replicate⟩ 32) (by decide) (inferInstance : SubC S_api_Image.c 1 (cArr 32 (cInt .u8)) (fun x : S_api_Image => x.Value) (fun (x : S_api_Image) y => { x with Value := y }) True) (inferInstance : EqT Try.prog 38 (cArr 32 (cInt .u8)) 2) EqFs.nil))) (fun x y => by cases x; cases y; simp)
instance : EqG Try.prog 41 S_api_Image.c := eqG_mk (k := 3) (inferInstanceAs (EqT Try.prog 41 S_api_Image.c _)) (by decide) (by kernel_rfl) rfl
instance : EqT Try.prog 45 S_cache_Entry.c 3 := eqT_struct (P := Try.prog) (c := S_cache_Entry.c) (k := 2) (Q := fun x y : S_cache_Entry => x.Block = y.Block ∧ x.Value = y.Value ∧ x.Position = y.Position ∧ True) Try.underlying45 (by kernel_rfl) rfl rfl (by exact (EqFs.cons (c' := (cInt .i64)) (get := (fun x : S_cache_Entry => x.Block)) (set := (fun (x : S_cache_Entry) y => { x with Block := y })) (by decide) (inferInstance : Ty Try.prog 3 (cInt .i64) 0 8) (by decide) (inferInstance : SubC S_cache_Entry.c 0 (cInt .i64) (fun x : S_cache_Entry => x.Block) (fun (x : S_cache_Entry) y => { x with Block := y }) True) (inferInstance : EqT Try.prog 3 (cInt .i64) 1) (EqFs.cons (c' := (cArr 32 (cInt .u8))) (get := (fun x : S_cache_Entry => x.Value)) (set := (fun (x : S_cache_Entry) y => { x with Value := y })) (by decide) (inferInstance : Ty Try.prog 38 (cArr 32 (cInt .u8)) ⟨List.replicate 32 0, List.length_replicate⟩ 32) (by decide) (inferInstance : SubC S_cache_Entry.c 1 (cArr 32 (cInt .u8)) (fun x : S_cache_Entry => x.Value) (fun (x : S_cache_Entry) y => { x with Value := y }) True) (inferInstance : EqT Try.prog 38 (cArr 32 (cInt .u8)) 2) (EqFs.cons (c' := (cInt .u64)) (get := (fun x : S_cache_Entry => x.Position)) (set := (fun (x : S_cache_Entry) y => { x with Position := y })) (by decide) (inferInstance : Ty Try.prog 43 (cInt .u64) 0 8) (by decide) (inferInstance : SubC S_cache_Entry.c 33 (cInt .u64) (fun x : S_cache_Entry => x.Position) (fun (x : S_cache_Entry) y => { x with Position := y }) True) (inferInstance : EqT Try.prog 43 (cInt .u64) 1) EqFs.nil)))) (fun x y => by cases x; cases y; simp)
instance : EqG Try.prog 45 S_cache_Entry.c := eqG_mk (k := 3) (inferInstanceAs (EqT Try.prog 45 S_cache_Entry.c _)) (by decide) (by kernel_rfl) rfl
instance : EqT Try.prog 65 S_wicketref17_Entry.c 3 := eqT_struct (P := Try.prog) (c := S_wicketref17_Entry.c) (k := 2) (Q := fun x y : S_wicketref17_Entry => x.Block = y.Block ∧ x.Value = y.Value ∧ x.Position = y.Position ∧ True) Try.underlying65 (by kernel_rfl) rfl rfl (by exact (EqFs.cons (c' := (cInt .i64)) (get := (fun x : S_wicketref17_Entry => x.Block)) (set := (fun (x : S_wicketref17_Entry) y => { x with Block := y })) (by decide) (inferInstance : Ty Try.prog 3 (cInt .i64) 0 8) (by decide) (inferInstance : SubC S_wicketref17_Entry.c 0 (cInt .i64) (fun x : S_wicketref17_Entry => x.Block) (fun (x : S_wicketref17_Entry) y => { x with Block := y }) True) (inferInstance : EqT Try.prog 3 (cInt .i64) 1) (EqFs.cons (c' := (cArr 32 (cInt .u8))) (get := (fun x : S_wicketref17_Entry => x.Value)) (set := (fun (x : S_wicketref17_Entry) y => { x with Value := y })) (by decide) (inferInstance : Ty Try.prog 38 (cArr 32 (cInt .u8)) ⟨List.replicate 32 0, List.length_replicate⟩ 32) (by decide) (inferInstance : SubC S_wicketref17_Entry.c 1 (cArr 32 (cInt .u8)) (fun x : S_wicketref17_Entry => x.Value) (fun (x : S_wicketref17_Entry) y => { x with Value := y }) True) (inferInstance : EqT Try.prog 38 (cArr 32 (cInt .u8)) 2) (EqFs.cons (c' := (cInt .u64)) (get := (fun x : S_wicketref17_Entry => x.Position)) (set := (fun (x : S_wicketref17_Entry) y => { x with Position := y })) (by decide) (inferInstance : Ty Try.prog 43 (cInt .u64) 0 8) (by decide) (inferInstance : SubC S_wicketref17_Entry.c 33 (cInt .u64) (fun x : S_wicketref17_Entry => x.Position) (fun (x : S_wicketref17_Entry) y => { x with Position := y }) True) (inferInstance : EqT Try.prog 43 (cInt .u64) 1) EqFs.nil)))) (fun x y => by cases x; cases y; simp)
instance : EqG Try.prog 65 S_wicketref17_Entry.c := eqG_mk (k := 3) (inferInstanceAs (EqT Try.prog 65 S_wicketref17_Entry.c _)) (by decide) (by kernel_rfl) rfl
end Go.Proofs.Ytmnokpffpadgoaa
