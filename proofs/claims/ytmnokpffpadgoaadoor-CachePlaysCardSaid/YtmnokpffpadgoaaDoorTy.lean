/-
  The types of a seat, printed by tygen.py.
-/
import Derived.Test.YtmnokpffpadgoaaDoorDnT
import Derived.Test.YtmnokpffpadgoaaDoorProg
import Derived.KernelRfl
namespace Go.Proofs.YtmnokpffpadgoaaDoor
set_option linter.unusedSimpArgs false
set_option linter.unusedVariables false
open Go.Dn
set_option linter.unusedVariables false
set_option linter.unusedSimpArgs false
structure S_wicketlaw17_world where
  c_ : (Arr 2 (Option Addr))
  r : (Arr 2 (Option Addr))
  lists : Sl
  were : Sl
  seqs : Sl
  of : Sl
  gen : (Arr 2 Int)
  born : Sl
def S_wicketlaw17_world.c : Cd S_wicketlaw17_world := aggCd 11 (fun x => (cArr 2 cPtr).cells x.c_ ++ ((cArr 2 cPtr).cells x.r ++ (cSl.cells x.lists ++ (cSl.cells x.were ++ (cSl.cells x.seqs ++ (cSl.cells x.of ++ ((cArr 2 (cInt .i64)).cells x.gen ++ (cSl.cells x.born ++ ([]))))))))) (fun x => by simp only [List.length_append, Cd.len, List.length_nil]; rfl) (fun x v hv => by
  simp only [List.mem_append, List.not_mem_nil, or_false] at hv
  rcases hv with h | h | h | h | h | h | h | h
  · exact Cd.one _ _ _ h
  · exact Cd.one _ _ _ h
  · exact Cd.one _ _ _ h
  · exact Cd.one _ _ _ h
  · exact Cd.one _ _ _ h
  · exact Cd.one _ _ _ h
  · exact Cd.one _ _ _ h
  · exact Cd.one _ _ _ h)
abbrev S_wicketlaw17_world.z : S_wicketlaw17_world := ⟨⟨List.replicate 2 none, List.length_replicate⟩, ⟨List.replicate 2 none, List.length_replicate⟩, Sl.nil, Sl.nil, Sl.nil, Sl.nil, ⟨List.replicate 2 0, List.length_replicate⟩, Sl.nil⟩
instance : Inhabited S_wicketlaw17_world := ⟨S_wicketlaw17_world.z⟩
instance : SubC S_wicketlaw17_world.c 0 (cArr 2 cPtr) (fun x => x.c_) (fun x y => { x with c_ := y }) True :=
  sub_intro (fun x => []) (fun x => (cArr 2 cPtr).cells x.r ++ (cSl.cells x.lists ++ (cSl.cells x.were ++ (cSl.cells x.seqs ++ (cSl.cells x.of ++ ((cArr 2 (cInt .i64)).cells x.gen ++ (cSl.cells x.born ++ ([])))))))) (fun x => by simp only [S_wicketlaw17_world.c, aggCd, List.append_assoc, List.nil_append]) (fun _ => rfl) (fun x y => by simp only [S_wicketlaw17_world.c, aggCd, List.append_assoc, List.nil_append])
instance : SubC S_wicketlaw17_world.c 2 (cArr 2 cPtr) (fun x => x.r) (fun x y => { x with r := y }) True :=
  sub_intro (fun x => (cArr 2 cPtr).cells x.c_ ++ ([])) (fun x => cSl.cells x.lists ++ (cSl.cells x.were ++ (cSl.cells x.seqs ++ (cSl.cells x.of ++ ((cArr 2 (cInt .i64)).cells x.gen ++ (cSl.cells x.born ++ ([]))))))) (fun x => by simp only [S_wicketlaw17_world.c, aggCd, List.append_assoc, List.nil_append]) (fun x => by simp only [List.length_append, Cd.len, List.length_nil]; rfl) (fun x y => by simp only [S_wicketlaw17_world.c, aggCd, List.append_assoc, List.nil_append])
instance : SubC S_wicketlaw17_world.c 4 cSl (fun x => x.lists) (fun x y => { x with lists := y }) True :=
  sub_intro (fun x => (cArr 2 cPtr).cells x.c_ ++ ((cArr 2 cPtr).cells x.r ++ ([]))) (fun x => cSl.cells x.were ++ (cSl.cells x.seqs ++ (cSl.cells x.of ++ ((cArr 2 (cInt .i64)).cells x.gen ++ (cSl.cells x.born ++ ([])))))) (fun x => by simp only [S_wicketlaw17_world.c, aggCd, List.append_assoc, List.nil_append]) (fun x => by simp only [List.length_append, Cd.len, List.length_nil]; rfl) (fun x y => by simp only [S_wicketlaw17_world.c, aggCd, List.append_assoc, List.nil_append])
instance : SubC S_wicketlaw17_world.c 5 cSl (fun x => x.were) (fun x y => { x with were := y }) True :=
  sub_intro (fun x => (cArr 2 cPtr).cells x.c_ ++ ((cArr 2 cPtr).cells x.r ++ (cSl.cells x.lists ++ ([])))) (fun x => cSl.cells x.seqs ++ (cSl.cells x.of ++ ((cArr 2 (cInt .i64)).cells x.gen ++ (cSl.cells x.born ++ ([]))))) (fun x => by simp only [S_wicketlaw17_world.c, aggCd, List.append_assoc, List.nil_append]) (fun x => by simp only [List.length_append, Cd.len, List.length_nil]; rfl) (fun x y => by simp only [S_wicketlaw17_world.c, aggCd, List.append_assoc, List.nil_append])
instance : SubC S_wicketlaw17_world.c 6 cSl (fun x => x.seqs) (fun x y => { x with seqs := y }) True :=
  sub_intro (fun x => (cArr 2 cPtr).cells x.c_ ++ ((cArr 2 cPtr).cells x.r ++ (cSl.cells x.lists ++ (cSl.cells x.were ++ ([]))))) (fun x => cSl.cells x.of ++ ((cArr 2 (cInt .i64)).cells x.gen ++ (cSl.cells x.born ++ ([])))) (fun x => by simp only [S_wicketlaw17_world.c, aggCd, List.append_assoc, List.nil_append]) (fun x => by simp only [List.length_append, Cd.len, List.length_nil]; rfl) (fun x y => by simp only [S_wicketlaw17_world.c, aggCd, List.append_assoc, List.nil_append])
instance : SubC S_wicketlaw17_world.c 7 cSl (fun x => x.of) (fun x y => { x with of := y }) True :=
  sub_intro (fun x => (cArr 2 cPtr).cells x.c_ ++ ((cArr 2 cPtr).cells x.r ++ (cSl.cells x.lists ++ (cSl.cells x.were ++ (cSl.cells x.seqs ++ ([])))))) (fun x => (cArr 2 (cInt .i64)).cells x.gen ++ (cSl.cells x.born ++ ([]))) (fun x => by simp only [S_wicketlaw17_world.c, aggCd, List.append_assoc, List.nil_append]) (fun x => by simp only [List.length_append, Cd.len, List.length_nil]; rfl) (fun x y => by simp only [S_wicketlaw17_world.c, aggCd, List.append_assoc, List.nil_append])
instance : SubC S_wicketlaw17_world.c 8 (cArr 2 (cInt .i64)) (fun x => x.gen) (fun x y => { x with gen := y }) True :=
  sub_intro (fun x => (cArr 2 cPtr).cells x.c_ ++ ((cArr 2 cPtr).cells x.r ++ (cSl.cells x.lists ++ (cSl.cells x.were ++ (cSl.cells x.seqs ++ (cSl.cells x.of ++ ([]))))))) (fun x => cSl.cells x.born ++ ([])) (fun x => by simp only [S_wicketlaw17_world.c, aggCd, List.append_assoc, List.nil_append]) (fun x => by simp only [List.length_append, Cd.len, List.length_nil]; rfl) (fun x y => by simp only [S_wicketlaw17_world.c, aggCd, List.append_assoc, List.nil_append])
instance : SubC S_wicketlaw17_world.c 10 cSl (fun x => x.born) (fun x y => { x with born := y }) True :=
  sub_intro (fun x => (cArr 2 cPtr).cells x.c_ ++ ((cArr 2 cPtr).cells x.r ++ (cSl.cells x.lists ++ (cSl.cells x.were ++ (cSl.cells x.seqs ++ (cSl.cells x.of ++ ((cArr 2 (cInt .i64)).cells x.gen ++ ([])))))))) (fun x => []) (fun x => by simp only [S_wicketlaw17_world.c, aggCd, List.append_assoc, List.nil_append]) (fun x => by simp only [List.length_append, Cd.len, List.length_nil]; rfl) (fun x y => by simp only [S_wicketlaw17_world.c, aggCd, List.append_assoc, List.nil_append])
instance : SubC S_wicketlaw17_world.c 0 cPtr (fun x => x.c_.get 0) (fun x y => { x with c_ := x.c_.set 0 y }) True :=
  ((SubC.comp (inferInstance : SubC S_wicketlaw17_world.c 0 (cArr 2 cPtr) (fun x => x.c_) (fun x y => { x with c_ := y }) True) (sub_arr (c := cPtr) (j := 0) (n := 2))).weak ⟨trivial, by decide⟩).at_ rfl
instance : SubC S_wicketlaw17_world.c 1 cPtr (fun x => x.c_.get 1) (fun x y => { x with c_ := x.c_.set 1 y }) True :=
  ((SubC.comp (inferInstance : SubC S_wicketlaw17_world.c 0 (cArr 2 cPtr) (fun x => x.c_) (fun x y => { x with c_ := y }) True) (sub_arr (c := cPtr) (j := 1) (n := 2))).weak ⟨trivial, by decide⟩).at_ rfl
instance : SubC S_wicketlaw17_world.c 2 cPtr (fun x => x.r.get 0) (fun x y => { x with r := x.r.set 0 y }) True :=
  ((SubC.comp (inferInstance : SubC S_wicketlaw17_world.c 2 (cArr 2 cPtr) (fun x => x.r) (fun x y => { x with r := y }) True) (sub_arr (c := cPtr) (j := 0) (n := 2))).weak ⟨trivial, by decide⟩).at_ rfl
instance : SubC S_wicketlaw17_world.c (2 + 1) cPtr (fun x => x.r.get 1) (fun x y => { x with r := x.r.set 1 y }) True :=
  ((SubC.comp (inferInstance : SubC S_wicketlaw17_world.c 2 (cArr 2 cPtr) (fun x => x.r) (fun x y => { x with r := y }) True) (sub_arr (c := cPtr) (j := 1) (n := 2))).weak ⟨trivial, by decide⟩).at_ rfl
instance : SubC S_wicketlaw17_world.c 8 (cInt .i64) (fun x => x.gen.get 0) (fun x y => { x with gen := x.gen.set 0 y }) True :=
  ((SubC.comp (inferInstance : SubC S_wicketlaw17_world.c 8 (cArr 2 (cInt .i64)) (fun x => x.gen) (fun x y => { x with gen := y }) True) (sub_arr (c := (cInt .i64)) (j := 0) (n := 2))).weak ⟨trivial, by decide⟩).at_ rfl
instance : SubC S_wicketlaw17_world.c (8 + 1) (cInt .i64) (fun x => x.gen.get 1) (fun x y => { x with gen := x.gen.set 1 y }) True :=
  ((SubC.comp (inferInstance : SubC S_wicketlaw17_world.c 8 (cArr 2 (cInt .i64)) (fun x => x.gen) (fun x y => { x with gen := y }) True) (sub_arr (c := (cInt .i64)) (j := 1) (n := 2))).weak ⟨trivial, by decide⟩).at_ rfl
structure S_wicketlaw17_Op where
  Kind : Int
  Which : Int
  Block : Int
  Position : Int
  Images : Sl
  List : Sl
def S_wicketlaw17_Op.c : Cd S_wicketlaw17_Op := aggCd 6 (fun x => (cInt .i64).cells x.Kind ++ ((cInt .i64).cells x.Which ++ ((cInt .i64).cells x.Block ++ ((cInt .u64).cells x.Position ++ (cSl.cells x.Images ++ (cSl.cells x.List ++ ([]))))))) (fun x => by simp only [List.length_append, Cd.len, List.length_nil]; rfl) (fun x v hv => by
  simp only [List.mem_append, List.not_mem_nil, or_false] at hv
  rcases hv with h | h | h | h | h | h
  · exact Cd.one _ _ _ h
  · exact Cd.one _ _ _ h
  · exact Cd.one _ _ _ h
  · exact Cd.one _ _ _ h
  · exact Cd.one _ _ _ h
  · exact Cd.one _ _ _ h)
abbrev S_wicketlaw17_Op.z : S_wicketlaw17_Op := ⟨0, 0, 0, 0, Sl.nil, Sl.nil⟩
instance : Inhabited S_wicketlaw17_Op := ⟨S_wicketlaw17_Op.z⟩
instance : SubC S_wicketlaw17_Op.c 0 (cInt .i64) (fun x => x.Kind) (fun x y => { x with Kind := y }) True :=
  sub_intro (fun x => []) (fun x => (cInt .i64).cells x.Which ++ ((cInt .i64).cells x.Block ++ ((cInt .u64).cells x.Position ++ (cSl.cells x.Images ++ (cSl.cells x.List ++ ([])))))) (fun x => by simp only [S_wicketlaw17_Op.c, aggCd, List.append_assoc, List.nil_append]) (fun _ => rfl) (fun x y => by simp only [S_wicketlaw17_Op.c, aggCd, List.append_assoc, List.nil_append])
instance : SubC S_wicketlaw17_Op.c 1 (cInt .i64) (fun x => x.Which) (fun x y => { x with Which := y }) True :=
  sub_intro (fun x => (cInt .i64).cells x.Kind ++ ([])) (fun x => (cInt .i64).cells x.Block ++ ((cInt .u64).cells x.Position ++ (cSl.cells x.Images ++ (cSl.cells x.List ++ ([]))))) (fun x => by simp only [S_wicketlaw17_Op.c, aggCd, List.append_assoc, List.nil_append]) (fun x => by simp only [List.length_append, Cd.len, List.length_nil]; rfl) (fun x y => by simp only [S_wicketlaw17_Op.c, aggCd, List.append_assoc, List.nil_append])
instance : SubC S_wicketlaw17_Op.c 2 (cInt .i64) (fun x => x.Block) (fun x y => { x with Block := y }) True :=
  sub_intro (fun x => (cInt .i64).cells x.Kind ++ ((cInt .i64).cells x.Which ++ ([]))) (fun x => (cInt .u64).cells x.Position ++ (cSl.cells x.Images ++ (cSl.cells x.List ++ ([])))) (fun x => by simp only [S_wicketlaw17_Op.c, aggCd, List.append_assoc, List.nil_append]) (fun x => by simp only [List.length_append, Cd.len, List.length_nil]; rfl) (fun x y => by simp only [S_wicketlaw17_Op.c, aggCd, List.append_assoc, List.nil_append])
instance : SubC S_wicketlaw17_Op.c 3 (cInt .u64) (fun x => x.Position) (fun x y => { x with Position := y }) True :=
  sub_intro (fun x => (cInt .i64).cells x.Kind ++ ((cInt .i64).cells x.Which ++ ((cInt .i64).cells x.Block ++ ([])))) (fun x => cSl.cells x.Images ++ (cSl.cells x.List ++ ([]))) (fun x => by simp only [S_wicketlaw17_Op.c, aggCd, List.append_assoc, List.nil_append]) (fun x => by simp only [List.length_append, Cd.len, List.length_nil]; rfl) (fun x y => by simp only [S_wicketlaw17_Op.c, aggCd, List.append_assoc, List.nil_append])
instance : SubC S_wicketlaw17_Op.c 4 cSl (fun x => x.Images) (fun x y => { x with Images := y }) True :=
  sub_intro (fun x => (cInt .i64).cells x.Kind ++ ((cInt .i64).cells x.Which ++ ((cInt .i64).cells x.Block ++ ((cInt .u64).cells x.Position ++ ([]))))) (fun x => cSl.cells x.List ++ ([])) (fun x => by simp only [S_wicketlaw17_Op.c, aggCd, List.append_assoc, List.nil_append]) (fun x => by simp only [List.length_append, Cd.len, List.length_nil]; rfl) (fun x y => by simp only [S_wicketlaw17_Op.c, aggCd, List.append_assoc, List.nil_append])
instance : SubC S_wicketlaw17_Op.c 5 cSl (fun x => x.List) (fun x y => { x with List := y }) True :=
  sub_intro (fun x => (cInt .i64).cells x.Kind ++ ((cInt .i64).cells x.Which ++ ((cInt .i64).cells x.Block ++ ((cInt .u64).cells x.Position ++ (cSl.cells x.Images ++ ([])))))) (fun x => []) (fun x => by simp only [S_wicketlaw17_Op.c, aggCd, List.append_assoc, List.nil_append]) (fun x => by simp only [List.length_append, Cd.len, List.length_nil]; rfl) (fun x y => by simp only [S_wicketlaw17_Op.c, aggCd, List.append_assoc, List.nil_append])
structure S_api_Image where
  Block : Int
  Value : (Arr 32 Int)
def S_api_Image.c : Cd S_api_Image := aggCd 33 (fun x => (cInt .i64).cells x.Block ++ ((cArr 32 (cInt .u8)).cells x.Value ++ ([]))) (fun x => by simp only [List.length_append, Cd.len, List.length_nil]; rfl) (fun x v hv => by
  simp only [List.mem_append, List.not_mem_nil, or_false] at hv
  rcases hv with h | h
  · exact Cd.one _ _ _ h
  · exact Cd.one _ _ _ h)
abbrev S_api_Image.z : S_api_Image := ⟨0, ⟨List.replicate 32 0, List.length_replicate⟩⟩
instance : Inhabited S_api_Image := ⟨S_api_Image.z⟩
instance : SubC S_api_Image.c 0 (cInt .i64) (fun x => x.Block) (fun x y => { x with Block := y }) True :=
  sub_intro (fun x => []) (fun x => (cArr 32 (cInt .u8)).cells x.Value ++ ([])) (fun x => by simp only [S_api_Image.c, aggCd, List.append_assoc, List.nil_append]) (fun _ => rfl) (fun x y => by simp only [S_api_Image.c, aggCd, List.append_assoc, List.nil_append])
instance : SubC S_api_Image.c 1 (cArr 32 (cInt .u8)) (fun x => x.Value) (fun x y => { x with Value := y }) True :=
  sub_intro (fun x => (cInt .i64).cells x.Block ++ ([])) (fun x => []) (fun x => by simp only [S_api_Image.c, aggCd, List.append_assoc, List.nil_append]) (fun x => by simp only [List.length_append, Cd.len, List.length_nil]; rfl) (fun x y => by simp only [S_api_Image.c, aggCd, List.append_assoc, List.nil_append])
structure S_cache_Entry where
  Block : Int
  Value : (Arr 32 Int)
  Position : Int
def S_cache_Entry.c : Cd S_cache_Entry := aggCd 34 (fun x => (cInt .i64).cells x.Block ++ ((cArr 32 (cInt .u8)).cells x.Value ++ ((cInt .u64).cells x.Position ++ ([])))) (fun x => by simp only [List.length_append, Cd.len, List.length_nil]; rfl) (fun x v hv => by
  simp only [List.mem_append, List.not_mem_nil, or_false] at hv
  rcases hv with h | h | h
  · exact Cd.one _ _ _ h
  · exact Cd.one _ _ _ h
  · exact Cd.one _ _ _ h)
abbrev S_cache_Entry.z : S_cache_Entry := ⟨0, ⟨List.replicate 32 0, List.length_replicate⟩, 0⟩
instance : Inhabited S_cache_Entry := ⟨S_cache_Entry.z⟩
instance : SubC S_cache_Entry.c 0 (cInt .i64) (fun x => x.Block) (fun x y => { x with Block := y }) True :=
  sub_intro (fun x => []) (fun x => (cArr 32 (cInt .u8)).cells x.Value ++ ((cInt .u64).cells x.Position ++ ([]))) (fun x => by simp only [S_cache_Entry.c, aggCd, List.append_assoc, List.nil_append]) (fun _ => rfl) (fun x y => by simp only [S_cache_Entry.c, aggCd, List.append_assoc, List.nil_append])
instance : SubC S_cache_Entry.c 1 (cArr 32 (cInt .u8)) (fun x => x.Value) (fun x y => { x with Value := y }) True :=
  sub_intro (fun x => (cInt .i64).cells x.Block ++ ([])) (fun x => (cInt .u64).cells x.Position ++ ([])) (fun x => by simp only [S_cache_Entry.c, aggCd, List.append_assoc, List.nil_append]) (fun x => by simp only [List.length_append, Cd.len, List.length_nil]; rfl) (fun x y => by simp only [S_cache_Entry.c, aggCd, List.append_assoc, List.nil_append])
instance : SubC S_cache_Entry.c 33 (cInt .u64) (fun x => x.Position) (fun x y => { x with Position := y }) True :=
  sub_intro (fun x => (cInt .i64).cells x.Block ++ ((cArr 32 (cInt .u8)).cells x.Value ++ ([]))) (fun x => []) (fun x => by simp only [S_cache_Entry.c, aggCd, List.append_assoc, List.nil_append]) (fun x => by simp only [List.length_append, Cd.len, List.length_nil]; rfl) (fun x y => by simp only [S_cache_Entry.c, aggCd, List.append_assoc, List.nil_append])
structure S_cache_Cache where
  entries : Sl
  there : Sl
  last : Int
  any : Bool
def S_cache_Cache.c : Cd S_cache_Cache := aggCd 4 (fun x => cSl.cells x.entries ++ (cSl.cells x.there ++ ((cInt .u64).cells x.last ++ (cBool.cells x.any ++ ([]))))) (fun x => by simp only [List.length_append, Cd.len, List.length_nil]; rfl) (fun x v hv => by
  simp only [List.mem_append, List.not_mem_nil, or_false] at hv
  rcases hv with h | h | h | h
  · exact Cd.one _ _ _ h
  · exact Cd.one _ _ _ h
  · exact Cd.one _ _ _ h
  · exact Cd.one _ _ _ h)
abbrev S_cache_Cache.z : S_cache_Cache := ⟨Sl.nil, Sl.nil, 0, false⟩
instance : Inhabited S_cache_Cache := ⟨S_cache_Cache.z⟩
instance : SubC S_cache_Cache.c 0 cSl (fun x => x.entries) (fun x y => { x with entries := y }) True :=
  sub_intro (fun x => []) (fun x => cSl.cells x.there ++ ((cInt .u64).cells x.last ++ (cBool.cells x.any ++ ([])))) (fun x => by simp only [S_cache_Cache.c, aggCd, List.append_assoc, List.nil_append]) (fun _ => rfl) (fun x y => by simp only [S_cache_Cache.c, aggCd, List.append_assoc, List.nil_append])
instance : SubC S_cache_Cache.c 1 cSl (fun x => x.there) (fun x y => { x with there := y }) True :=
  sub_intro (fun x => cSl.cells x.entries ++ ([])) (fun x => (cInt .u64).cells x.last ++ (cBool.cells x.any ++ ([]))) (fun x => by simp only [S_cache_Cache.c, aggCd, List.append_assoc, List.nil_append]) (fun x => by simp only [List.length_append, Cd.len, List.length_nil]; rfl) (fun x y => by simp only [S_cache_Cache.c, aggCd, List.append_assoc, List.nil_append])
instance : SubC S_cache_Cache.c 2 (cInt .u64) (fun x => x.last) (fun x y => { x with last := y }) True :=
  sub_intro (fun x => cSl.cells x.entries ++ (cSl.cells x.there ++ ([]))) (fun x => cBool.cells x.any ++ ([])) (fun x => by simp only [S_cache_Cache.c, aggCd, List.append_assoc, List.nil_append]) (fun x => by simp only [List.length_append, Cd.len, List.length_nil]; rfl) (fun x y => by simp only [S_cache_Cache.c, aggCd, List.append_assoc, List.nil_append])
instance : SubC S_cache_Cache.c 3 cBool (fun x => x.any) (fun x y => { x with any := y }) True :=
  sub_intro (fun x => cSl.cells x.entries ++ (cSl.cells x.there ++ ((cInt .u64).cells x.last ++ ([])))) (fun x => []) (fun x => by simp only [S_cache_Cache.c, aggCd, List.append_assoc, List.nil_append]) (fun x => by simp only [List.length_append, Cd.len, List.length_nil]; rfl) (fun x y => by simp only [S_cache_Cache.c, aggCd, List.append_assoc, List.nil_append])
structure S_wicketref17_Cache where
  Blocks : Int
  List : Sl
  Some : Bool
  Last : Int
def S_wicketref17_Cache.c : Cd S_wicketref17_Cache := aggCd 4 (fun x => (cInt .i64).cells x.Blocks ++ (cSl.cells x.List ++ (cBool.cells x.Some ++ ((cInt .u64).cells x.Last ++ ([]))))) (fun x => by simp only [List.length_append, Cd.len, List.length_nil]; rfl) (fun x v hv => by
  simp only [List.mem_append, List.not_mem_nil, or_false] at hv
  rcases hv with h | h | h | h
  · exact Cd.one _ _ _ h
  · exact Cd.one _ _ _ h
  · exact Cd.one _ _ _ h
  · exact Cd.one _ _ _ h)
abbrev S_wicketref17_Cache.z : S_wicketref17_Cache := ⟨0, Sl.nil, false, 0⟩
instance : Inhabited S_wicketref17_Cache := ⟨S_wicketref17_Cache.z⟩
instance : SubC S_wicketref17_Cache.c 0 (cInt .i64) (fun x => x.Blocks) (fun x y => { x with Blocks := y }) True :=
  sub_intro (fun x => []) (fun x => cSl.cells x.List ++ (cBool.cells x.Some ++ ((cInt .u64).cells x.Last ++ ([])))) (fun x => by simp only [S_wicketref17_Cache.c, aggCd, List.append_assoc, List.nil_append]) (fun _ => rfl) (fun x y => by simp only [S_wicketref17_Cache.c, aggCd, List.append_assoc, List.nil_append])
instance : SubC S_wicketref17_Cache.c 1 cSl (fun x => x.List) (fun x y => { x with List := y }) True :=
  sub_intro (fun x => (cInt .i64).cells x.Blocks ++ ([])) (fun x => cBool.cells x.Some ++ ((cInt .u64).cells x.Last ++ ([]))) (fun x => by simp only [S_wicketref17_Cache.c, aggCd, List.append_assoc, List.nil_append]) (fun x => by simp only [List.length_append, Cd.len, List.length_nil]; rfl) (fun x y => by simp only [S_wicketref17_Cache.c, aggCd, List.append_assoc, List.nil_append])
instance : SubC S_wicketref17_Cache.c 2 cBool (fun x => x.Some) (fun x y => { x with Some := y }) True :=
  sub_intro (fun x => (cInt .i64).cells x.Blocks ++ (cSl.cells x.List ++ ([]))) (fun x => (cInt .u64).cells x.Last ++ ([])) (fun x => by simp only [S_wicketref17_Cache.c, aggCd, List.append_assoc, List.nil_append]) (fun x => by simp only [List.length_append, Cd.len, List.length_nil]; rfl) (fun x y => by simp only [S_wicketref17_Cache.c, aggCd, List.append_assoc, List.nil_append])
instance : SubC S_wicketref17_Cache.c 3 (cInt .u64) (fun x => x.Last) (fun x y => { x with Last := y }) True :=
  sub_intro (fun x => (cInt .i64).cells x.Blocks ++ (cSl.cells x.List ++ (cBool.cells x.Some ++ ([])))) (fun x => []) (fun x => by simp only [S_wicketref17_Cache.c, aggCd, List.append_assoc, List.nil_append]) (fun x => by simp only [List.length_append, Cd.len, List.length_nil]; rfl) (fun x y => by simp only [S_wicketref17_Cache.c, aggCd, List.append_assoc, List.nil_append])
structure S_wicketref17_Entry where
  Block : Int
  Value : (Arr 32 Int)
  Position : Int
def S_wicketref17_Entry.c : Cd S_wicketref17_Entry := aggCd 34 (fun x => (cInt .i64).cells x.Block ++ ((cArr 32 (cInt .u8)).cells x.Value ++ ((cInt .u64).cells x.Position ++ ([])))) (fun x => by simp only [List.length_append, Cd.len, List.length_nil]; rfl) (fun x v hv => by
  simp only [List.mem_append, List.not_mem_nil, or_false] at hv
  rcases hv with h | h | h
  · exact Cd.one _ _ _ h
  · exact Cd.one _ _ _ h
  · exact Cd.one _ _ _ h)
abbrev S_wicketref17_Entry.z : S_wicketref17_Entry := ⟨0, ⟨List.replicate 32 0, List.length_replicate⟩, 0⟩
instance : Inhabited S_wicketref17_Entry := ⟨S_wicketref17_Entry.z⟩
instance : SubC S_wicketref17_Entry.c 0 (cInt .i64) (fun x => x.Block) (fun x y => { x with Block := y }) True :=
  sub_intro (fun x => []) (fun x => (cArr 32 (cInt .u8)).cells x.Value ++ ((cInt .u64).cells x.Position ++ ([]))) (fun x => by simp only [S_wicketref17_Entry.c, aggCd, List.append_assoc, List.nil_append]) (fun _ => rfl) (fun x y => by simp only [S_wicketref17_Entry.c, aggCd, List.append_assoc, List.nil_append])
instance : SubC S_wicketref17_Entry.c 1 (cArr 32 (cInt .u8)) (fun x => x.Value) (fun x y => { x with Value := y }) True :=
  sub_intro (fun x => (cInt .i64).cells x.Block ++ ([])) (fun x => (cInt .u64).cells x.Position ++ ([])) (fun x => by simp only [S_wicketref17_Entry.c, aggCd, List.append_assoc, List.nil_append]) (fun x => by simp only [List.length_append, Cd.len, List.length_nil]; rfl) (fun x y => by simp only [S_wicketref17_Entry.c, aggCd, List.append_assoc, List.nil_append])
instance : SubC S_wicketref17_Entry.c 33 (cInt .u64) (fun x => x.Position) (fun x y => { x with Position := y }) True :=
  sub_intro (fun x => (cInt .i64).cells x.Block ++ ((cArr 32 (cInt .u8)).cells x.Value ++ ([]))) (fun x => []) (fun x => by simp only [S_wicketref17_Entry.c, aggCd, List.append_assoc, List.nil_append]) (fun x => by simp only [List.length_append, Cd.len, List.length_nil]; rfl) (fun x y => by simp only [S_wicketref17_Entry.c, aggCd, List.append_assoc, List.nil_append])
instance : Ty Tryd.prog 3 (cInt .i64) 0 8 := ⟨⟨_, Tryd.underlying3, rfl⟩, ⟨Tryd.t3, by kernel_rfl, by kernel_rfl, by kernel_rfl, by kernel_rfl⟩, by decide⟩
instance : InT Tryd.prog 3 .i64 := ⟨Tryd.underlying3⟩
instance : Ty Tryd.prog 4 cBool false 1 := ⟨⟨_, Tryd.underlying4, rfl⟩, ⟨Tryd.t4, by kernel_rfl, by kernel_rfl, by kernel_rfl, by kernel_rfl⟩, by decide⟩
instance : BlT Tryd.prog 4 := ⟨Tryd.underlying4⟩
instance : Ty Tryd.prog 5 (cInt .u8) 0 1 := ⟨⟨_, Tryd.underlying5, rfl⟩, ⟨Tryd.t5, by kernel_rfl, by kernel_rfl, by kernel_rfl, by kernel_rfl⟩, by decide⟩
instance : InT Tryd.prog 5 .u8 := ⟨Tryd.underlying5⟩
instance : Ty Tryd.prog 22 cSl Sl.nil 24 := ⟨⟨_, Tryd.underlying22, rfl⟩, ⟨Tryd.t22, by kernel_rfl, by kernel_rfl, by kernel_rfl, by kernel_rfl⟩, by decide⟩
instance : SlT Tryd.prog 22 48 := ⟨Tryd.underlying22⟩
instance : Ty Tryd.prog 24 cPtr none 8 := ⟨⟨_, Tryd.underlying24, rfl⟩, ⟨Tryd.t24, by kernel_rfl, by kernel_rfl, by kernel_rfl, by kernel_rfl⟩, by decide⟩
instance : PtT Tryd.prog 24 := ⟨⟨_, Tryd.underlying24⟩⟩
instance : Ty Tryd.prog 25 (cInt .i64) 0 8 := ⟨⟨_, Tryd.underlying25, rfl⟩, ⟨Tryd.t25, by kernel_rfl, by kernel_rfl, by kernel_rfl, by kernel_rfl⟩, by decide⟩
instance : InT Tryd.prog 25 .i64 := ⟨Tryd.underlying25⟩
instance : Ty Tryd.prog 28 cPtr none 8 := ⟨⟨_, Tryd.underlying28, rfl⟩, ⟨Tryd.t28, by kernel_rfl, by kernel_rfl, by kernel_rfl, by kernel_rfl⟩, by decide⟩
instance : PtT Tryd.prog 28 := ⟨⟨_, Tryd.underlying28⟩⟩
instance : Ty Tryd.prog 31 cPtr none 8 := ⟨⟨_, Tryd.underlying31, rfl⟩, ⟨Tryd.t31, by kernel_rfl, by kernel_rfl, by kernel_rfl, by kernel_rfl⟩, by decide⟩
instance : PtT Tryd.prog 31 := ⟨⟨_, Tryd.underlying31⟩⟩
instance : Ty Tryd.prog 33 (cArr 2 cPtr) ⟨List.replicate 2 none, List.length_replicate⟩ 16 := ⟨⟨_, Tryd.underlying33, rfl⟩, ⟨Tryd.t33, by kernel_rfl, by kernel_rfl, by kernel_rfl, by kernel_rfl⟩, by decide⟩
instance : ArT Tryd.prog 33 2 24 := ⟨Tryd.underlying33⟩
instance : Ty Tryd.prog 35 (cArr 2 cPtr) ⟨List.replicate 2 none, List.length_replicate⟩ 16 := ⟨⟨_, Tryd.underlying35, rfl⟩, ⟨Tryd.t35, by kernel_rfl, by kernel_rfl, by kernel_rfl, by kernel_rfl⟩, by decide⟩
instance : ArT Tryd.prog 35 2 28 := ⟨Tryd.underlying35⟩
instance : Ty Tryd.prog 36 cSl Sl.nil 24 := ⟨⟨_, Tryd.underlying36, rfl⟩, ⟨Tryd.t36, by kernel_rfl, by kernel_rfl, by kernel_rfl, by kernel_rfl⟩, by decide⟩
instance : SlT Tryd.prog 36 60 := ⟨Tryd.underlying36⟩
instance : Ty Tryd.prog 37 cSl Sl.nil 24 := ⟨⟨_, Tryd.underlying37, rfl⟩, ⟨Tryd.t37, by kernel_rfl, by kernel_rfl, by kernel_rfl, by kernel_rfl⟩, by decide⟩
instance : SlT Tryd.prog 37 46 := ⟨Tryd.underlying37⟩
instance : Ty Tryd.prog 38 cSl Sl.nil 24 := ⟨⟨_, Tryd.underlying38, rfl⟩, ⟨Tryd.t38, by kernel_rfl, by kernel_rfl, by kernel_rfl, by kernel_rfl⟩, by decide⟩
instance : SlT Tryd.prog 38 84 := ⟨Tryd.underlying38⟩
instance : Ty Tryd.prog 39 cSl Sl.nil 24 := ⟨⟨_, Tryd.underlying39, rfl⟩, ⟨Tryd.t39, by kernel_rfl, by kernel_rfl, by kernel_rfl, by kernel_rfl⟩, by decide⟩
instance : SlT Tryd.prog 39 3 := ⟨Tryd.underlying39⟩
instance : Ty Tryd.prog 40 (cArr 2 (cInt .i64)) ⟨List.replicate 2 0, List.length_replicate⟩ 16 := ⟨⟨_, Tryd.underlying40, rfl⟩, ⟨Tryd.t40, by kernel_rfl, by kernel_rfl, by kernel_rfl, by kernel_rfl⟩, by decide⟩
instance : ArT Tryd.prog 40 2 3 := ⟨Tryd.underlying40⟩
instance : Ty Tryd.prog 42 S_wicketlaw17_world.c S_wicketlaw17_world.z 168 := ⟨⟨_, Tryd.underlying42, rfl⟩, ⟨Tryd.t42, by kernel_rfl, by kernel_rfl, by kernel_rfl, by kernel_rfl⟩, by decide⟩
instance : FldC Tryd.prog 42 0 0 (cArr 2 cPtr) := ⟨_, _, Tryd.t33, Tryd.underlying42, rfl, by kernel_rfl, by kernel_rfl, rfl⟩
instance : FldT Tryd.prog 42 0 0 := ⟨_, _, Tryd.t33, Tryd.underlying42, rfl, by kernel_rfl, by decide, rfl⟩
instance : FldC Tryd.prog 42 1 2 (cArr 2 cPtr) := ⟨_, _, Tryd.t35, Tryd.underlying42, rfl, by kernel_rfl, by kernel_rfl, rfl⟩
instance : FldT Tryd.prog 42 1 2 := ⟨_, _, Tryd.t35, Tryd.underlying42, rfl, by kernel_rfl, by decide, rfl⟩
instance : FldC Tryd.prog 42 2 4 cSl := ⟨_, _, Tryd.t36, Tryd.underlying42, rfl, by kernel_rfl, by kernel_rfl, rfl⟩
instance : FldT Tryd.prog 42 2 4 := ⟨_, _, Tryd.t36, Tryd.underlying42, rfl, by kernel_rfl, by decide, rfl⟩
instance : FldC Tryd.prog 42 3 5 cSl := ⟨_, _, Tryd.t37, Tryd.underlying42, rfl, by kernel_rfl, by kernel_rfl, rfl⟩
instance : FldT Tryd.prog 42 3 5 := ⟨_, _, Tryd.t37, Tryd.underlying42, rfl, by kernel_rfl, by decide, rfl⟩
instance : FldC Tryd.prog 42 4 6 cSl := ⟨_, _, Tryd.t38, Tryd.underlying42, rfl, by kernel_rfl, by kernel_rfl, rfl⟩
instance : FldT Tryd.prog 42 4 6 := ⟨_, _, Tryd.t38, Tryd.underlying42, rfl, by kernel_rfl, by decide, rfl⟩
instance : FldC Tryd.prog 42 5 7 cSl := ⟨_, _, Tryd.t39, Tryd.underlying42, rfl, by kernel_rfl, by kernel_rfl, rfl⟩
instance : FldT Tryd.prog 42 5 7 := ⟨_, _, Tryd.t39, Tryd.underlying42, rfl, by kernel_rfl, by decide, rfl⟩
instance : FldC Tryd.prog 42 6 8 (cArr 2 (cInt .i64)) := ⟨_, _, Tryd.t40, Tryd.underlying42, rfl, by kernel_rfl, by kernel_rfl, rfl⟩
instance : FldT Tryd.prog 42 6 8 := ⟨_, _, Tryd.t40, Tryd.underlying42, rfl, by kernel_rfl, by decide, rfl⟩
instance : FldC Tryd.prog 42 7 10 cSl := ⟨_, _, Tryd.t39, Tryd.underlying42, rfl, by kernel_rfl, by kernel_rfl, rfl⟩
instance : FldT Tryd.prog 42 7 10 := ⟨_, _, Tryd.t39, Tryd.underlying42, rfl, by kernel_rfl, by decide, rfl⟩
instance : StrT Tryd.prog 42 := ⟨⟨_, Tryd.underlying42, fun k f h => match k, f, h with
  | 0, f, h => by simp at h; subst h; exact ⟨Tryd.t33, by kernel_rfl⟩
  | 1, f, h => by simp at h; subst h; exact ⟨Tryd.t35, by kernel_rfl⟩
  | 2, f, h => by simp at h; subst h; exact ⟨Tryd.t36, by kernel_rfl⟩
  | 3, f, h => by simp at h; subst h; exact ⟨Tryd.t37, by kernel_rfl⟩
  | 4, f, h => by simp at h; subst h; exact ⟨Tryd.t38, by kernel_rfl⟩
  | 5, f, h => by simp at h; subst h; exact ⟨Tryd.t39, by kernel_rfl⟩
  | 6, f, h => by simp at h; subst h; exact ⟨Tryd.t40, by kernel_rfl⟩
  | 7, f, h => by simp at h; subst h; exact ⟨Tryd.t39, by kernel_rfl⟩
  | k + 8, f, h => by simp at h⟩⟩
instance : Ty Tryd.prog 44 (cInt .u64) 0 8 := ⟨⟨_, Tryd.underlying44, rfl⟩, ⟨Tryd.t44, by kernel_rfl, by kernel_rfl, by kernel_rfl, by kernel_rfl⟩, by decide⟩
instance : InT Tryd.prog 44 .u64 := ⟨Tryd.underlying44⟩
instance : Ty Tryd.prog 45 cSl Sl.nil 24 := ⟨⟨_, Tryd.underlying45, rfl⟩, ⟨Tryd.t45, by kernel_rfl, by kernel_rfl, by kernel_rfl, by kernel_rfl⟩, by decide⟩
instance : SlT Tryd.prog 45 55 := ⟨Tryd.underlying45⟩
instance : Ty Tryd.prog 46 cSl Sl.nil 24 := ⟨⟨_, Tryd.underlying46, rfl⟩, ⟨Tryd.t46, by kernel_rfl, by kernel_rfl, by kernel_rfl, by kernel_rfl⟩, by decide⟩
instance : SlT Tryd.prog 46 76 := ⟨Tryd.underlying46⟩
instance : Ty Tryd.prog 48 S_wicketlaw17_Op.c S_wicketlaw17_Op.z 80 := ⟨⟨_, Tryd.underlying48, rfl⟩, ⟨Tryd.t48, by kernel_rfl, by kernel_rfl, by kernel_rfl, by kernel_rfl⟩, by decide⟩
instance : FldC Tryd.prog 48 0 0 (cInt .i64) := ⟨_, _, Tryd.t3, Tryd.underlying48, rfl, by kernel_rfl, by kernel_rfl, rfl⟩
instance : FldT Tryd.prog 48 0 0 := ⟨_, _, Tryd.t3, Tryd.underlying48, rfl, by kernel_rfl, by decide, rfl⟩
instance : FldC Tryd.prog 48 1 1 (cInt .i64) := ⟨_, _, Tryd.t3, Tryd.underlying48, rfl, by kernel_rfl, by kernel_rfl, rfl⟩
instance : FldT Tryd.prog 48 1 1 := ⟨_, _, Tryd.t3, Tryd.underlying48, rfl, by kernel_rfl, by decide, rfl⟩
instance : FldC Tryd.prog 48 2 2 (cInt .i64) := ⟨_, _, Tryd.t3, Tryd.underlying48, rfl, by kernel_rfl, by kernel_rfl, rfl⟩
instance : FldT Tryd.prog 48 2 2 := ⟨_, _, Tryd.t3, Tryd.underlying48, rfl, by kernel_rfl, by decide, rfl⟩
instance : FldC Tryd.prog 48 3 3 (cInt .u64) := ⟨_, _, Tryd.t44, Tryd.underlying48, rfl, by kernel_rfl, by kernel_rfl, rfl⟩
instance : FldT Tryd.prog 48 3 3 := ⟨_, _, Tryd.t44, Tryd.underlying48, rfl, by kernel_rfl, by decide, rfl⟩
instance : FldC Tryd.prog 48 4 4 cSl := ⟨_, _, Tryd.t45, Tryd.underlying48, rfl, by kernel_rfl, by kernel_rfl, rfl⟩
instance : FldT Tryd.prog 48 4 4 := ⟨_, _, Tryd.t45, Tryd.underlying48, rfl, by kernel_rfl, by decide, rfl⟩
instance : FldC Tryd.prog 48 5 5 cSl := ⟨_, _, Tryd.t46, Tryd.underlying48, rfl, by kernel_rfl, by kernel_rfl, rfl⟩
instance : FldT Tryd.prog 48 5 5 := ⟨_, _, Tryd.t46, Tryd.underlying48, rfl, by kernel_rfl, by decide, rfl⟩
instance : StrT Tryd.prog 48 := ⟨⟨_, Tryd.underlying48, fun k f h => match k, f, h with
  | 0, f, h => by simp at h; subst h; exact ⟨Tryd.t3, by kernel_rfl⟩
  | 1, f, h => by simp at h; subst h; exact ⟨Tryd.t3, by kernel_rfl⟩
  | 2, f, h => by simp at h; subst h; exact ⟨Tryd.t3, by kernel_rfl⟩
  | 3, f, h => by simp at h; subst h; exact ⟨Tryd.t44, by kernel_rfl⟩
  | 4, f, h => by simp at h; subst h; exact ⟨Tryd.t45, by kernel_rfl⟩
  | 5, f, h => by simp at h; subst h; exact ⟨Tryd.t46, by kernel_rfl⟩
  | k + 6, f, h => by simp at h⟩⟩
instance : Ty Tryd.prog 52 (cArr 32 (cInt .u8)) ⟨List.replicate 32 0, List.length_replicate⟩ 32 := ⟨⟨_, Tryd.underlying52, rfl⟩, ⟨Tryd.t52, by kernel_rfl, by kernel_rfl, by kernel_rfl, by kernel_rfl⟩, by decide⟩
instance : ArT Tryd.prog 52 32 5 := ⟨Tryd.underlying52⟩
instance : Ty Tryd.prog 55 S_api_Image.c S_api_Image.z 40 := ⟨⟨_, Tryd.underlying55, rfl⟩, ⟨Tryd.t55, by kernel_rfl, by kernel_rfl, by kernel_rfl, by kernel_rfl⟩, by decide⟩
instance : FldC Tryd.prog 55 0 0 (cInt .i64) := ⟨_, _, Tryd.t3, Tryd.underlying55, rfl, by kernel_rfl, by kernel_rfl, rfl⟩
instance : FldT Tryd.prog 55 0 0 := ⟨_, _, Tryd.t3, Tryd.underlying55, rfl, by kernel_rfl, by decide, rfl⟩
instance : FldC Tryd.prog 55 1 1 (cArr 32 (cInt .u8)) := ⟨_, _, Tryd.t52, Tryd.underlying55, rfl, by kernel_rfl, by kernel_rfl, rfl⟩
instance : FldT Tryd.prog 55 1 1 := ⟨_, _, Tryd.t52, Tryd.underlying55, rfl, by kernel_rfl, by decide, rfl⟩
instance : StrT Tryd.prog 55 := ⟨⟨_, Tryd.underlying55, fun k f h => match k, f, h with
  | 0, f, h => by simp at h; subst h; exact ⟨Tryd.t3, by kernel_rfl⟩
  | 1, f, h => by simp at h; subst h; exact ⟨Tryd.t52, by kernel_rfl⟩
  | k + 2, f, h => by simp at h⟩⟩
instance : Ty Tryd.prog 57 S_cache_Entry.c S_cache_Entry.z 48 := ⟨⟨_, Tryd.underlying57, rfl⟩, ⟨Tryd.t57, by kernel_rfl, by kernel_rfl, by kernel_rfl, by kernel_rfl⟩, by decide⟩
instance : FldC Tryd.prog 57 0 0 (cInt .i64) := ⟨_, _, Tryd.t3, Tryd.underlying57, rfl, by kernel_rfl, by kernel_rfl, rfl⟩
instance : FldT Tryd.prog 57 0 0 := ⟨_, _, Tryd.t3, Tryd.underlying57, rfl, by kernel_rfl, by decide, rfl⟩
instance : FldC Tryd.prog 57 1 1 (cArr 32 (cInt .u8)) := ⟨_, _, Tryd.t52, Tryd.underlying57, rfl, by kernel_rfl, by kernel_rfl, rfl⟩
instance : FldT Tryd.prog 57 1 1 := ⟨_, _, Tryd.t52, Tryd.underlying57, rfl, by kernel_rfl, by decide, rfl⟩
instance : FldC Tryd.prog 57 2 33 (cInt .u64) := ⟨_, _, Tryd.t44, Tryd.underlying57, rfl, by kernel_rfl, by kernel_rfl, rfl⟩
instance : FldT Tryd.prog 57 2 33 := ⟨_, _, Tryd.t44, Tryd.underlying57, rfl, by kernel_rfl, by decide, rfl⟩
instance : StrT Tryd.prog 57 := ⟨⟨_, Tryd.underlying57, fun k f h => match k, f, h with
  | 0, f, h => by simp at h; subst h; exact ⟨Tryd.t3, by kernel_rfl⟩
  | 1, f, h => by simp at h; subst h; exact ⟨Tryd.t52, by kernel_rfl⟩
  | 2, f, h => by simp at h; subst h; exact ⟨Tryd.t44, by kernel_rfl⟩
  | k + 3, f, h => by simp at h⟩⟩
instance : Ty Tryd.prog 60 cSl Sl.nil 24 := ⟨⟨_, Tryd.underlying60, rfl⟩, ⟨Tryd.t60, by kernel_rfl, by kernel_rfl, by kernel_rfl, by kernel_rfl⟩, by decide⟩
instance : SlT Tryd.prog 60 57 := ⟨Tryd.underlying60⟩
instance : Ty Tryd.prog 68 cSl Sl.nil 24 := ⟨⟨_, Tryd.underlying68, rfl⟩, ⟨Tryd.t68, by kernel_rfl, by kernel_rfl, by kernel_rfl, by kernel_rfl⟩, by decide⟩
instance : SlT Tryd.prog 68 4 := ⟨Tryd.underlying68⟩
instance : Ty Tryd.prog 70 S_cache_Cache.c S_cache_Cache.z 64 := ⟨⟨_, Tryd.underlying70, rfl⟩, ⟨Tryd.t70, by kernel_rfl, by kernel_rfl, by kernel_rfl, by kernel_rfl⟩, by decide⟩
instance : FldC Tryd.prog 70 0 0 cSl := ⟨_, _, Tryd.t60, Tryd.underlying70, rfl, by kernel_rfl, by kernel_rfl, rfl⟩
instance : FldT Tryd.prog 70 0 0 := ⟨_, _, Tryd.t60, Tryd.underlying70, rfl, by kernel_rfl, by decide, rfl⟩
instance : FldC Tryd.prog 70 1 1 cSl := ⟨_, _, Tryd.t68, Tryd.underlying70, rfl, by kernel_rfl, by kernel_rfl, rfl⟩
instance : FldT Tryd.prog 70 1 1 := ⟨_, _, Tryd.t68, Tryd.underlying70, rfl, by kernel_rfl, by decide, rfl⟩
instance : FldC Tryd.prog 70 2 2 (cInt .u64) := ⟨_, _, Tryd.t44, Tryd.underlying70, rfl, by kernel_rfl, by kernel_rfl, rfl⟩
instance : FldT Tryd.prog 70 2 2 := ⟨_, _, Tryd.t44, Tryd.underlying70, rfl, by kernel_rfl, by decide, rfl⟩
instance : FldC Tryd.prog 70 3 3 cBool := ⟨_, _, Tryd.t4, Tryd.underlying70, rfl, by kernel_rfl, by kernel_rfl, rfl⟩
instance : FldT Tryd.prog 70 3 3 := ⟨_, _, Tryd.t4, Tryd.underlying70, rfl, by kernel_rfl, by decide, rfl⟩
instance : StrT Tryd.prog 70 := ⟨⟨_, Tryd.underlying70, fun k f h => match k, f, h with
  | 0, f, h => by simp at h; subst h; exact ⟨Tryd.t60, by kernel_rfl⟩
  | 1, f, h => by simp at h; subst h; exact ⟨Tryd.t68, by kernel_rfl⟩
  | 2, f, h => by simp at h; subst h; exact ⟨Tryd.t44, by kernel_rfl⟩
  | 3, f, h => by simp at h; subst h; exact ⟨Tryd.t4, by kernel_rfl⟩
  | k + 4, f, h => by simp at h⟩⟩
instance : Ty Tryd.prog 72 S_wicketref17_Cache.c S_wicketref17_Cache.z 48 := ⟨⟨_, Tryd.underlying72, rfl⟩, ⟨Tryd.t72, by kernel_rfl, by kernel_rfl, by kernel_rfl, by kernel_rfl⟩, by decide⟩
instance : FldC Tryd.prog 72 0 0 (cInt .i64) := ⟨_, _, Tryd.t3, Tryd.underlying72, rfl, by kernel_rfl, by kernel_rfl, rfl⟩
instance : FldT Tryd.prog 72 0 0 := ⟨_, _, Tryd.t3, Tryd.underlying72, rfl, by kernel_rfl, by decide, rfl⟩
instance : FldC Tryd.prog 72 1 1 cSl := ⟨_, _, Tryd.t46, Tryd.underlying72, rfl, by kernel_rfl, by kernel_rfl, rfl⟩
instance : FldT Tryd.prog 72 1 1 := ⟨_, _, Tryd.t46, Tryd.underlying72, rfl, by kernel_rfl, by decide, rfl⟩
instance : FldC Tryd.prog 72 2 2 cBool := ⟨_, _, Tryd.t4, Tryd.underlying72, rfl, by kernel_rfl, by kernel_rfl, rfl⟩
instance : FldT Tryd.prog 72 2 2 := ⟨_, _, Tryd.t4, Tryd.underlying72, rfl, by kernel_rfl, by decide, rfl⟩
instance : FldC Tryd.prog 72 3 3 (cInt .u64) := ⟨_, _, Tryd.t44, Tryd.underlying72, rfl, by kernel_rfl, by kernel_rfl, rfl⟩
instance : FldT Tryd.prog 72 3 3 := ⟨_, _, Tryd.t44, Tryd.underlying72, rfl, by kernel_rfl, by decide, rfl⟩
instance : StrT Tryd.prog 72 := ⟨⟨_, Tryd.underlying72, fun k f h => match k, f, h with
  | 0, f, h => by simp at h; subst h; exact ⟨Tryd.t3, by kernel_rfl⟩
  | 1, f, h => by simp at h; subst h; exact ⟨Tryd.t46, by kernel_rfl⟩
  | 2, f, h => by simp at h; subst h; exact ⟨Tryd.t4, by kernel_rfl⟩
  | 3, f, h => by simp at h; subst h; exact ⟨Tryd.t44, by kernel_rfl⟩
  | k + 4, f, h => by simp at h⟩⟩
instance : Ty Tryd.prog 76 S_wicketref17_Entry.c S_wicketref17_Entry.z 48 := ⟨⟨_, Tryd.underlying76, rfl⟩, ⟨Tryd.t76, by kernel_rfl, by kernel_rfl, by kernel_rfl, by kernel_rfl⟩, by decide⟩
instance : FldC Tryd.prog 76 0 0 (cInt .i64) := ⟨_, _, Tryd.t3, Tryd.underlying76, rfl, by kernel_rfl, by kernel_rfl, rfl⟩
instance : FldT Tryd.prog 76 0 0 := ⟨_, _, Tryd.t3, Tryd.underlying76, rfl, by kernel_rfl, by decide, rfl⟩
instance : FldC Tryd.prog 76 1 1 (cArr 32 (cInt .u8)) := ⟨_, _, Tryd.t52, Tryd.underlying76, rfl, by kernel_rfl, by kernel_rfl, rfl⟩
instance : FldT Tryd.prog 76 1 1 := ⟨_, _, Tryd.t52, Tryd.underlying76, rfl, by kernel_rfl, by decide, rfl⟩
instance : FldC Tryd.prog 76 2 33 (cInt .u64) := ⟨_, _, Tryd.t44, Tryd.underlying76, rfl, by kernel_rfl, by kernel_rfl, rfl⟩
instance : FldT Tryd.prog 76 2 33 := ⟨_, _, Tryd.t44, Tryd.underlying76, rfl, by kernel_rfl, by decide, rfl⟩
instance : StrT Tryd.prog 76 := ⟨⟨_, Tryd.underlying76, fun k f h => match k, f, h with
  | 0, f, h => by simp at h; subst h; exact ⟨Tryd.t3, by kernel_rfl⟩
  | 1, f, h => by simp at h; subst h; exact ⟨Tryd.t52, by kernel_rfl⟩
  | 2, f, h => by simp at h; subst h; exact ⟨Tryd.t44, by kernel_rfl⟩
  | k + 3, f, h => by simp at h⟩⟩
instance : Ty Tryd.prog 84 cFn fnil 8 := ⟨⟨_, Tryd.underlying84, rfl⟩, ⟨Tryd.t84, by kernel_rfl, by kernel_rfl, by kernel_rfl, by kernel_rfl⟩, by decide⟩
instance : FnT Tryd.prog 84 := ⟨⟨_, _, _, Tryd.underlying84⟩⟩
instance : Ty Tryd.prog 85 cFn fnil 8 := ⟨⟨_, Tryd.underlying85, rfl⟩, ⟨Tryd.t85, by kernel_rfl, by kernel_rfl, by kernel_rfl, by kernel_rfl⟩, by decide⟩
instance : FnT Tryd.prog 85 := ⟨⟨_, _, _, Tryd.underlying85⟩⟩
instance : Ty Tryd.prog 87 cFn fnil 8 := ⟨⟨_, Tryd.underlying87, rfl⟩, ⟨Tryd.t87, by kernel_rfl, by kernel_rfl, by kernel_rfl, by kernel_rfl⟩, by decide⟩
instance : FnT Tryd.prog 87 := ⟨⟨_, _, _, Tryd.underlying87⟩⟩
instance : EqG Tryd.prog 40 (cArr 2 (cInt .i64)) := eqG_mk (k := 2) (inferInstanceAs (EqT Tryd.prog 40 (cArr 2 (cInt .i64)) _)) (by decide) (by kernel_rfl) rfl
instance : EqG Tryd.prog 52 (cArr 32 (cInt .u8)) := eqG_mk (k := 2) (inferInstanceAs (EqT Tryd.prog 52 (cArr 32 (cInt .u8)) _)) (by decide) (by kernel_rfl) rfl
instance : EqT Tryd.prog 55 S_api_Image.c 3 := eqT_struct (P := Tryd.prog) (c := S_api_Image.c) (k := 2) (Q := fun x y : S_api_Image => x.Block = y.Block ∧ x.Value = y.Value ∧ True) Tryd.underlying55 (by kernel_rfl) rfl rfl (by exact (EqFs.cons (c' := (cInt .i64)) (get := (fun x : S_api_Image => x.Block)) (set := (fun (x : S_api_Image) y => { x with Block := y })) (by decide) (inferInstance : Ty Tryd.prog 3 (cInt .i64) 0 8) (by decide) (inferInstance : SubC S_api_Image.c 0 (cInt .i64) (fun x : S_api_Image => x.Block) (fun (x : S_api_Image) y => { x with Block := y }) True) (inferInstance : EqT Tryd.prog 3 (cInt .i64) 1) (EqFs.cons (c' := (cArr 32 (cInt .u8))) (get := (fun x : S_api_Image => x.Value)) (set := (fun (x : S_api_Image) y => { x with Value := y })) (by decide) (inferInstance : Ty Tryd.prog 52 (cArr 32 (cInt .u8)) ⟨List.replicate 32 0, List.length_replicate⟩ 32) (by decide) (inferInstance : SubC S_api_Image.c 1 (cArr 32 (cInt .u8)) (fun x : S_api_Image => x.Value) (fun (x : S_api_Image) y => { x with Value := y }) True) (inferInstance : EqT Tryd.prog 52 (cArr 32 (cInt .u8)) 2) EqFs.nil))) (fun x y => by cases x; cases y; simp)
instance : EqG Tryd.prog 55 S_api_Image.c := eqG_mk (k := 3) (inferInstanceAs (EqT Tryd.prog 55 S_api_Image.c _)) (by decide) (by kernel_rfl) rfl
instance : EqT Tryd.prog 57 S_cache_Entry.c 3 := eqT_struct (P := Tryd.prog) (c := S_cache_Entry.c) (k := 2) (Q := fun x y : S_cache_Entry => x.Block = y.Block ∧ x.Value = y.Value ∧ x.Position = y.Position ∧ True) Tryd.underlying57 (by kernel_rfl) rfl rfl (by exact (EqFs.cons (c' := (cInt .i64)) (get := (fun x : S_cache_Entry => x.Block)) (set := (fun (x : S_cache_Entry) y => { x with Block := y })) (by decide) (inferInstance : Ty Tryd.prog 3 (cInt .i64) 0 8) (by decide) (inferInstance : SubC S_cache_Entry.c 0 (cInt .i64) (fun x : S_cache_Entry => x.Block) (fun (x : S_cache_Entry) y => { x with Block := y }) True) (inferInstance : EqT Tryd.prog 3 (cInt .i64) 1) (EqFs.cons (c' := (cArr 32 (cInt .u8))) (get := (fun x : S_cache_Entry => x.Value)) (set := (fun (x : S_cache_Entry) y => { x with Value := y })) (by decide) (inferInstance : Ty Tryd.prog 52 (cArr 32 (cInt .u8)) ⟨List.replicate 32 0, List.length_replicate⟩ 32) (by decide) (inferInstance : SubC S_cache_Entry.c 1 (cArr 32 (cInt .u8)) (fun x : S_cache_Entry => x.Value) (fun (x : S_cache_Entry) y => { x with Value := y }) True) (inferInstance : EqT Tryd.prog 52 (cArr 32 (cInt .u8)) 2) (EqFs.cons (c' := (cInt .u64)) (get := (fun x : S_cache_Entry => x.Position)) (set := (fun (x : S_cache_Entry) y => { x with Position := y })) (by decide) (inferInstance : Ty Tryd.prog 44 (cInt .u64) 0 8) (by decide) (inferInstance : SubC S_cache_Entry.c 33 (cInt .u64) (fun x : S_cache_Entry => x.Position) (fun (x : S_cache_Entry) y => { x with Position := y }) True) (inferInstance : EqT Tryd.prog 44 (cInt .u64) 1) EqFs.nil)))) (fun x y => by cases x; cases y; simp)
instance : EqG Tryd.prog 57 S_cache_Entry.c := eqG_mk (k := 3) (inferInstanceAs (EqT Tryd.prog 57 S_cache_Entry.c _)) (by decide) (by kernel_rfl) rfl
instance : EqT Tryd.prog 76 S_wicketref17_Entry.c 3 := eqT_struct (P := Tryd.prog) (c := S_wicketref17_Entry.c) (k := 2) (Q := fun x y : S_wicketref17_Entry => x.Block = y.Block ∧ x.Value = y.Value ∧ x.Position = y.Position ∧ True) Tryd.underlying76 (by kernel_rfl) rfl rfl (by exact (EqFs.cons (c' := (cInt .i64)) (get := (fun x : S_wicketref17_Entry => x.Block)) (set := (fun (x : S_wicketref17_Entry) y => { x with Block := y })) (by decide) (inferInstance : Ty Tryd.prog 3 (cInt .i64) 0 8) (by decide) (inferInstance : SubC S_wicketref17_Entry.c 0 (cInt .i64) (fun x : S_wicketref17_Entry => x.Block) (fun (x : S_wicketref17_Entry) y => { x with Block := y }) True) (inferInstance : EqT Tryd.prog 3 (cInt .i64) 1) (EqFs.cons (c' := (cArr 32 (cInt .u8))) (get := (fun x : S_wicketref17_Entry => x.Value)) (set := (fun (x : S_wicketref17_Entry) y => { x with Value := y })) (by decide) (inferInstance : Ty Tryd.prog 52 (cArr 32 (cInt .u8)) ⟨List.replicate 32 0, List.length_replicate⟩ 32) (by decide) (inferInstance : SubC S_wicketref17_Entry.c 1 (cArr 32 (cInt .u8)) (fun x : S_wicketref17_Entry => x.Value) (fun (x : S_wicketref17_Entry) y => { x with Value := y }) True) (inferInstance : EqT Tryd.prog 52 (cArr 32 (cInt .u8)) 2) (EqFs.cons (c' := (cInt .u64)) (get := (fun x : S_wicketref17_Entry => x.Position)) (set := (fun (x : S_wicketref17_Entry) y => { x with Position := y })) (by decide) (inferInstance : Ty Tryd.prog 44 (cInt .u64) 0 8) (by decide) (inferInstance : SubC S_wicketref17_Entry.c 33 (cInt .u64) (fun x : S_wicketref17_Entry => x.Position) (fun (x : S_wicketref17_Entry) y => { x with Position := y }) True) (inferInstance : EqT Tryd.prog 44 (cInt .u64) 1) EqFs.nil)))) (fun x y => by cases x; cases y; simp)
instance : EqG Tryd.prog 76 S_wicketref17_Entry.c := eqG_mk (k := 3) (inferInstanceAs (EqT Tryd.prog 76 S_wicketref17_Entry.c _)) (by decide) (by kernel_rfl) rfl
end Go.Proofs.YtmnokpffpadgoaaDoor
