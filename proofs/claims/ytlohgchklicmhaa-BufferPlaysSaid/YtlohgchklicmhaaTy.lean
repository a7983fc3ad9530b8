/-
  The types of a seat, printed by tygen.py.
-/
import Derived.Test.YtlohgchklicmhaaDnV
import Derived.Test.YtlohgchklicmhaaProg
import Derived.KernelRfl
namespace Go.Proofs.Ytlohgchklicmhaa
set_option linter.unusedSimpArgs false
set_option linter.unusedVariables false
open Go.Dn
set_option linter.unusedVariables false
set_option linter.unusedSimpArgs false
structure S_wicketlaw16_pair where
  b : (Arr 2 (Option Addr))
  r : (Arr 2 (Option Addr))
  images : Sl
  kept : Sl
  forms : Sl
def S_wicketlaw16_pair.c : Cd S_wicketlaw16_pair := aggCd 7 (fun x => (cArr 2 cPtr).cells x.b ++ ((cArr 2 cPtr).cells x.r ++ (cSl.cells x.images ++ (cSl.cells x.kept ++ (cSl.cells x.forms ++ ([])))))) (fun x => by simp only [List.length_append, Cd.len, List.length_nil]; rfl) (fun x v hv => by
  simp only [List.mem_append, List.not_mem_nil, or_false] at hv
  rcases hv with h | h | h | h | h
  · exact Cd.one _ _ _ h
  · exact Cd.one _ _ _ h
  · exact Cd.one _ _ _ h
  · exact Cd.one _ _ _ h
  · exact Cd.one _ _ _ h)
abbrev S_wicketlaw16_pair.z : S_wicketlaw16_pair := ⟨⟨List.replicate 2 none, List.length_replicate⟩, ⟨List.replicate 2 none, List.length_replicate⟩, Sl.nil, Sl.nil, Sl.nil⟩
instance : Inhabited S_wicketlaw16_pair := ⟨S_wicketlaw16_pair.z⟩
instance : SubC S_wicketlaw16_pair.c 0 (cArr 2 cPtr) (fun x => x.b) (fun x y => { x with b := y }) True :=
  sub_intro (fun x => []) (fun x => (cArr 2 cPtr).cells x.r ++ (cSl.cells x.images ++ (cSl.cells x.kept ++ (cSl.cells x.forms ++ ([]))))) (fun x => by simp only [S_wicketlaw16_pair.c, aggCd, List.append_assoc, List.nil_append]) (fun _ => rfl) (fun x y => by simp only [S_wicketlaw16_pair.c, aggCd, List.append_assoc, List.nil_append])
instance : SubC S_wicketlaw16_pair.c 2 (cArr 2 cPtr) (fun x => x.r) (fun x y => { x with r := y }) True :=
  sub_intro (fun x => (cArr 2 cPtr).cells x.b ++ ([])) (fun x => cSl.cells x.images ++ (cSl.cells x.kept ++ (cSl.cells x.forms ++ ([])))) (fun x => by simp only [S_wicketlaw16_pair.c, aggCd, List.append_assoc, List.nil_append]) (fun x => by simp only [List.length_append, Cd.len, List.length_nil]; rfl) (fun x y => by simp only [S_wicketlaw16_pair.c, aggCd, List.append_assoc, List.nil_append])
instance : SubC S_wicketlaw16_pair.c 4 cSl (fun x => x.images) (fun x y => { x with images := y }) True :=
  sub_intro (fun x => (cArr 2 cPtr).cells x.b ++ ((cArr 2 cPtr).cells x.r ++ ([]))) (fun x => cSl.cells x.kept ++ (cSl.cells x.forms ++ ([]))) (fun x => by simp only [S_wicketlaw16_pair.c, aggCd, List.append_assoc, List.nil_append]) (fun x => by simp only [List.length_append, Cd.len, List.length_nil]; rfl) (fun x y => by simp only [S_wicketlaw16_pair.c, aggCd, List.append_assoc, List.nil_append])
instance : SubC S_wicketlaw16_pair.c 5 cSl (fun x => x.kept) (fun x y => { x with kept := y }) True :=
  sub_intro (fun x => (cArr 2 cPtr).cells x.b ++ ((cArr 2 cPtr).cells x.r ++ (cSl.cells x.images ++ ([])))) (fun x => cSl.cells x.forms ++ ([])) (fun x => by simp only [S_wicketlaw16_pair.c, aggCd, List.append_assoc, List.nil_append]) (fun x => by simp only [List.length_append, Cd.len, List.length_nil]; rfl) (fun x y => by simp only [S_wicketlaw16_pair.c, aggCd, List.append_assoc, List.nil_append])
instance : SubC S_wicketlaw16_pair.c 6 cSl (fun x => x.forms) (fun x y => { x with forms := y }) True :=
  sub_intro (fun x => (cArr 2 cPtr).cells x.b ++ ((cArr 2 cPtr).cells x.r ++ (cSl.cells x.images ++ (cSl.cells x.kept ++ ([]))))) (fun x => []) (fun x => by simp only [S_wicketlaw16_pair.c, aggCd, List.append_assoc, List.nil_append]) (fun x => by simp only [List.length_append, Cd.len, List.length_nil]; rfl) (fun x y => by simp only [S_wicketlaw16_pair.c, aggCd, List.append_assoc, List.nil_append])
instance : SubC S_wicketlaw16_pair.c 0 cPtr (fun x => x.b.get 0) (fun x y => { x with b := x.b.set 0 y }) True :=
  ((SubC.comp (inferInstance : SubC S_wicketlaw16_pair.c 0 (cArr 2 cPtr) (fun x => x.b) (fun x y => { x with b := y }) True) (sub_arr (c := cPtr) (j := 0) (n := 2))).weak ⟨trivial, by decide⟩).at_ rfl
instance : SubC S_wicketlaw16_pair.c 1 cPtr (fun x => x.b.get 1) (fun x y => { x with b := x.b.set 1 y }) True :=
  ((SubC.comp (inferInstance : SubC S_wicketlaw16_pair.c 0 (cArr 2 cPtr) (fun x => x.b) (fun x y => { x with b := y }) True) (sub_arr (c := cPtr) (j := 1) (n := 2))).weak ⟨trivial, by decide⟩).at_ rfl
instance : SubC S_wicketlaw16_pair.c 2 cPtr (fun x => x.r.get 0) (fun x y => { x with r := x.r.set 0 y }) True :=
  ((SubC.comp (inferInstance : SubC S_wicketlaw16_pair.c 2 (cArr 2 cPtr) (fun x => x.r) (fun x y => { x with r := y }) True) (sub_arr (c := cPtr) (j := 0) (n := 2))).weak ⟨trivial, by decide⟩).at_ rfl
instance : SubC S_wicketlaw16_pair.c (2 + 1) cPtr (fun x => x.r.get 1) (fun x y => { x with r := x.r.set 1 y }) True :=
  ((SubC.comp (inferInstance : SubC S_wicketlaw16_pair.c 2 (cArr 2 cPtr) (fun x => x.r) (fun x y => { x with r := y }) True) (sub_arr (c := cPtr) (j := 1) (n := 2))).weak ⟨trivial, by decide⟩).at_ rfl
structure S_wicketlaw16_Op where
  Kind : Int
  Which : Int
  Block : Int
  Value : (Arr 32 Int)
def S_wicketlaw16_Op.c : Cd S_wicketlaw16_Op := aggCd 35 (fun x => (cInt .i64).cells x.Kind ++ ((cInt .i64).cells x.Which ++ ((cInt .i64).cells x.Block ++ ((cArr 32 (cInt .u8)).cells x.Value ++ ([]))))) (fun x => by simp only [List.length_append, Cd.len, List.length_nil]; rfl) (fun x v hv => by
  simp only [List.mem_append, List.not_mem_nil, or_false] at hv
  rcases hv with h | h | h | h
  · exact Cd.one _ _ _ h
  · exact Cd.one _ _ _ h
  · exact Cd.one _ _ _ h
  · exact Cd.one _ _ _ h)
abbrev S_wicketlaw16_Op.z : S_wicketlaw16_Op := ⟨0, 0, 0, ⟨List.replicate 32 0, List.length_replicate⟩⟩
instance : Inhabited S_wicketlaw16_Op := ⟨S_wicketlaw16_Op.z⟩
instance : SubC S_wicketlaw16_Op.c 0 (cInt .i64) (fun x => x.Kind) (fun x y => { x with Kind := y }) True :=
  sub_intro (fun x => []) (fun x => (cInt .i64).cells x.Which ++ ((cInt .i64).cells x.Block ++ ((cArr 32 (cInt .u8)).cells x.Value ++ ([])))) (fun x => by simp only [S_wicketlaw16_Op.c, aggCd, List.append_assoc, List.nil_append]) (fun _ => rfl) (fun x y => by simp only [S_wicketlaw16_Op.c, aggCd, List.append_assoc, List.nil_append])
instance : SubC S_wicketlaw16_Op.c 1 (cInt .i64) (fun x => x.Which) (fun x y => { x with Which := y }) True :=
  sub_intro (fun x => (cInt .i64).cells x.Kind ++ ([])) (fun x => (cInt .i64).cells x.Block ++ ((cArr 32 (cInt .u8)).cells x.Value ++ ([]))) (fun x => by simp only [S_wicketlaw16_Op.c, aggCd, List.append_assoc, List.nil_append]) (fun x => by simp only [List.length_append, Cd.len, List.length_nil]; rfl) (fun x y => by simp only [S_wicketlaw16_Op.c, aggCd, List.append_assoc, List.nil_append])
instance : SubC S_wicketlaw16_Op.c 2 (cInt .i64) (fun x => x.Block) (fun x y => { x with Block := y }) True :=
  sub_intro (fun x => (cInt .i64).cells x.Kind ++ ((cInt .i64).cells x.Which ++ ([]))) (fun x => (cArr 32 (cInt .u8)).cells x.Value ++ ([])) (fun x => by simp only [S_wicketlaw16_Op.c, aggCd, List.append_assoc, List.nil_append]) (fun x => by simp only [List.length_append, Cd.len, List.length_nil]; rfl) (fun x y => by simp only [S_wicketlaw16_Op.c, aggCd, List.append_assoc, List.nil_append])
instance : SubC S_wicketlaw16_Op.c 3 (cArr 32 (cInt .u8)) (fun x => x.Value) (fun x y => { x with Value := y }) True :=
  sub_intro (fun x => (cInt .i64).cells x.Kind ++ ((cInt .i64).cells x.Which ++ ((cInt .i64).cells x.Block ++ ([])))) (fun x => []) (fun x => by simp only [S_wicketlaw16_Op.c, aggCd, List.append_assoc, List.nil_append]) (fun x => by simp only [List.length_append, Cd.len, List.length_nil]; rfl) (fun x y => by simp only [S_wicketlaw16_Op.c, aggCd, List.append_assoc, List.nil_append])
structure S_api_Image where
  Block : Int
  Value : (Arr 32 Int)
def S_api_Image.c : Cd S_api_Image := aggCd 33 (fun x => (cInt .i64).cells x.Block ++ ((cArr 32 (cInt .u8)).cells x.Value ++ ([]))) (fun x => by simp only [List.length_append, Cd.len, List.length_nil]; rfl) (fun x v hv => by
  simp only [List.mem_append, List.not_mem_nil, or_false] at hv
  rcases hv with h | h
  · exact Cd.one _ _ _ h
  · exact Cd.one _ _ _ h)
abbrev S_api_Image.z : S_api_Image := ⟨0, ⟨List.replicate 32 0, List.length_replicate⟩⟩
instance : Inhabited S_api_Image := ⟨S_api_Image.z⟩
instance : SubC S_api_Image.c 0 (cInt .i64) (fun x => x.Block) (fun x y => { x with Block := y }) True :=
  sub_intro (fun x => []) (fun x => (cArr 32 (cInt .u8)).cells x.Value ++ ([])) (fun x => by simp only [S_api_Image.c, aggCd, List.append_assoc, List.nil_append]) (fun _ => rfl) (fun x y => by simp only [S_api_Image.c, aggCd, List.append_assoc, List.nil_append])
instance : SubC S_api_Image.c 1 (cArr 32 (cInt .u8)) (fun x => x.Value) (fun x y => { x with Value := y }) True :=
  sub_intro (fun x => (cInt .i64).cells x.Block ++ ([])) (fun x => []) (fun x => by simp only [S_api_Image.c, aggCd, List.append_assoc, List.nil_append]) (fun x => by simp only [List.length_append, Cd.len, List.length_nil]; rfl) (fun x y => by simp only [S_api_Image.c, aggCd, List.append_assoc, List.nil_append])
structure S_buffer_Buffer where
  form : Sl
  values : (Option Nat)
def S_buffer_Buffer.c : Cd S_buffer_Buffer := aggCd 2 (fun x => cSl.cells x.form ++ (cMap.cells x.values ++ ([]))) (fun x => by simp only [List.length_append, Cd.len, List.length_nil]; rfl) (fun x v hv => by
  simp only [List.mem_append, List.not_mem_nil, or_false] at hv
  rcases hv with h | h
  · exact Cd.one _ _ _ h
  · exact Cd.one _ _ _ h)
abbrev S_buffer_Buffer.z : S_buffer_Buffer := ⟨Sl.nil, none⟩
instance : Inhabited S_buffer_Buffer := ⟨S_buffer_Buffer.z⟩
instance : SubC S_buffer_Buffer.c 0 cSl (fun x => x.form) (fun x y => { x with form := y }) True :=
  sub_intro (fun x => []) (fun x => cMap.cells x.values ++ ([])) (fun x => by simp only [S_buffer_Buffer.c, aggCd, List.append_assoc, List.nil_append]) (fun _ => rfl) (fun x y => by simp only [S_buffer_Buffer.c, aggCd, List.append_assoc, List.nil_append])
instance : SubC S_buffer_Buffer.c 1 cMap (fun x => x.values) (fun x y => { x with values := y }) True :=
  sub_intro (fun x => cSl.cells x.form ++ ([])) (fun x => []) (fun x => by simp only [S_buffer_Buffer.c, aggCd, List.append_assoc, List.nil_append]) (fun x => by simp only [List.length_append, Cd.len, List.length_nil]; rfl) (fun x y => by simp only [S_buffer_Buffer.c, aggCd, List.append_assoc, List.nil_append])
structure S_wicketref16_Buffer where
  Set : Sl
  Writes : Sl
def S_wicketref16_Buffer.c : Cd S_wicketref16_Buffer := aggCd 2 (fun x => cSl.cells x.Set ++ (cSl.cells x.Writes ++ ([]))) (fun x => by simp only [List.length_append, Cd.len, List.length_nil]; rfl) (fun x v hv => by
  simp only [List.mem_append, List.not_mem_nil, or_false] at hv
  rcases hv with h | h
  · exact Cd.one _ _ _ h
  · exact Cd.one _ _ _ h)
abbrev S_wicketref16_Buffer.z : S_wicketref16_Buffer := ⟨Sl.nil, Sl.nil⟩
instance : Inhabited S_wicketref16_Buffer := ⟨S_wicketref16_Buffer.z⟩
instance : SubC S_wicketref16_Buffer.c 0 cSl (fun x => x.Set) (fun x y => { x with Set := y }) True :=
  sub_intro (fun x => []) (fun x => cSl.cells x.Writes ++ ([])) (fun x => by simp only [S_wicketref16_Buffer.c, aggCd, List.append_assoc, List.nil_append]) (fun _ => rfl) (fun x y => by simp only [S_wicketref16_Buffer.c, aggCd, List.append_assoc, List.nil_append])
instance : SubC S_wicketref16_Buffer.c 1 cSl (fun x => x.Writes) (fun x y => { x with Writes := y }) True :=
  sub_intro (fun x => cSl.cells x.Set ++ ([])) (fun x => []) (fun x => by simp only [S_wicketref16_Buffer.c, aggCd, List.append_assoc, List.nil_append]) (fun x => by simp only [List.length_append, Cd.len, List.length_nil]; rfl) (fun x y => by simp only [S_wicketref16_Buffer.c, aggCd, List.append_assoc, List.nil_append])
instance : Ty Try.prog 3 (cInt .i64) 0 8 := ⟨⟨_, Try.underlying3, rfl⟩, ⟨Try.t3, by kernel_rfl, by kernel_rfl, by kernel_rfl, by kernel_rfl⟩, by decide⟩
instance : InT Try.prog 3 .i64 := ⟨Try.underlying3⟩
instance : NotIf Try.prog 3 := ⟨⟨_, Try.underlying3, rfl⟩⟩
instance : Ty Try.prog 4 cBool false 1 := ⟨⟨_, Try.underlying4, rfl⟩, ⟨Try.t4, by kernel_rfl, by kernel_rfl, by kernel_rfl, by kernel_rfl⟩, by decide⟩
instance : BlT Try.prog 4 := ⟨Try.underlying4⟩
instance : NotIf Try.prog 4 := ⟨⟨_, Try.underlying4, rfl⟩⟩
instance : Ty Try.prog 5 (cInt .u8) 0 1 := ⟨⟨_, Try.underlying5, rfl⟩, ⟨Try.t5, by kernel_rfl, by kernel_rfl, by kernel_rfl, by kernel_rfl⟩, by decide⟩
instance : InT Try.prog 5 .u8 := ⟨Try.underlying5⟩
instance : NotIf Try.prog 5 := ⟨⟨_, Try.underlying5, rfl⟩⟩
instance : Ty Try.prog 22 cSl Sl.nil 24 := ⟨⟨_, Try.underlying22, rfl⟩, ⟨Try.t22, by kernel_rfl, by kernel_rfl, by kernel_rfl, by kernel_rfl⟩, by decide⟩
instance : SlT Try.prog 22 3 := ⟨Try.underlying22⟩
instance : NotIf Try.prog 22 := ⟨⟨_, Try.underlying22, rfl⟩⟩
instance : Ty Try.prog 23 cSl Sl.nil 24 := ⟨⟨_, Try.underlying23, rfl⟩, ⟨Try.t23, by kernel_rfl, by kernel_rfl, by kernel_rfl, by kernel_rfl⟩, by decide⟩
instance : SlT Try.prog 23 45 := ⟨Try.underlying23⟩
instance : NotIf Try.prog 23 := ⟨⟨_, Try.underlying23, rfl⟩⟩
instance : Ty Try.prog 25 cPtr none 8 := ⟨⟨_, Try.underlying25, rfl⟩, ⟨Try.t25, by kernel_rfl, by kernel_rfl, by kernel_rfl, by kernel_rfl⟩, by decide⟩
instance : PtT Try.prog 25 := ⟨⟨_, Try.underlying25⟩⟩
instance : NotIf Try.prog 25 := ⟨⟨_, Try.underlying25, rfl⟩⟩
instance : Ty Try.prog 26 cPtr none 8 := ⟨⟨_, Try.underlying26, rfl⟩, ⟨Try.t26, by kernel_rfl, by kernel_rfl, by kernel_rfl, by kernel_rfl⟩, by decide⟩
instance : PtT Try.prog 26 := ⟨⟨_, Try.underlying26⟩⟩
instance : NotIf Try.prog 26 := ⟨⟨_, Try.underlying26, rfl⟩⟩
instance : Ty Try.prog 27 (cArr 2 cPtr) ⟨List.replicate 2 none, List.length_replicate⟩ 16 := ⟨⟨_, Try.underlying27, rfl⟩, ⟨Try.t27, by kernel_rfl, by kernel_rfl, by kernel_rfl, by kernel_rfl⟩, by decide⟩
instance : ArT Try.prog 27 2 26 := ⟨Try.underlying27⟩
instance : Ty Try.prog 28 cPtr none 8 := ⟨⟨_, Try.underlying28, rfl⟩, ⟨Try.t28, by kernel_rfl, by kernel_rfl, by kernel_rfl, by kernel_rfl⟩, by decide⟩
instance : PtT Try.prog 28 := ⟨⟨_, Try.underlying28⟩⟩
instance : NotIf Try.prog 28 := ⟨⟨_, Try.underlying28, rfl⟩⟩
instance : Ty Try.prog 29 (cArr 2 cPtr) ⟨List.replicate 2 none, List.length_replicate⟩ 16 := ⟨⟨_, Try.underlying29, rfl⟩, ⟨Try.t29, by kernel_rfl, by kernel_rfl, by kernel_rfl, by kernel_rfl⟩, by decide⟩
instance : ArT Try.prog 29 2 28 := ⟨Try.underlying29⟩
instance : Ty Try.prog 30 cSl Sl.nil 24 := ⟨⟨_, Try.underlying30, rfl⟩, ⟨Try.t30, by kernel_rfl, by kernel_rfl, by kernel_rfl, by kernel_rfl⟩, by decide⟩
instance : SlT Try.prog 30 48 := ⟨Try.underlying30⟩
instance : NotIf Try.prog 30 := ⟨⟨_, Try.underlying30, rfl⟩⟩
instance : Ty Try.prog 31 cSl Sl.nil 24 := ⟨⟨_, Try.underlying31, rfl⟩, ⟨Try.t31, by kernel_rfl, by kernel_rfl, by kernel_rfl, by kernel_rfl⟩, by decide⟩
instance : SlT Try.prog 31 22 := ⟨Try.underlying31⟩
instance : NotIf Try.prog 31 := ⟨⟨_, Try.underlying31, rfl⟩⟩
instance : Ty Try.prog 33 S_wicketlaw16_pair.c S_wicketlaw16_pair.z 104 := ⟨⟨_, Try.underlying33, rfl⟩, ⟨Try.t33, by kernel_rfl, by kernel_rfl, by kernel_rfl, by kernel_rfl⟩, by decide⟩
instance : NotIf Try.prog 33 := ⟨⟨_, Try.underlying33, rfl⟩⟩
instance : FldC Try.prog 33 0 0 (cArr 2 cPtr) := ⟨_, _, Try.t27, Try.underlying33, rfl, by kernel_rfl, by kernel_rfl, rfl⟩
instance : FldT Try.prog 33 0 0 := ⟨_, _, Try.t27, Try.underlying33, rfl, by kernel_rfl, by decide, rfl⟩
instance : FldC Try.prog 33 1 2 (cArr 2 cPtr) := ⟨_, _, Try.t29, Try.underlying33, rfl, by kernel_rfl, by kernel_rfl, rfl⟩
instance : FldT Try.prog 33 1 2 := ⟨_, _, Try.t29, Try.underlying33, rfl, by kernel_rfl, by decide, rfl⟩
instance : FldC Try.prog 33 2 4 cSl := ⟨_, _, Try.t30, Try.underlying33, rfl, by kernel_rfl, by kernel_rfl, rfl⟩
instance : FldT Try.prog 33 2 4 := ⟨_, _, Try.t30, Try.underlying33, rfl, by kernel_rfl, by decide, rfl⟩
instance : FldC Try.prog 33 3 5 cSl := ⟨_, _, Try.t30, Try.underlying33, rfl, by kernel_rfl, by kernel_rfl, rfl⟩
instance : FldT Try.prog 33 3 5 := ⟨_, _, Try.t30, Try.underlying33, rfl, by kernel_rfl, by decide, rfl⟩
instance : FldC Try.prog 33 4 6 cSl := ⟨_, _, Try.t31, Try.underlying33, rfl, by kernel_rfl, by kernel_rfl, rfl⟩
instance : FldT Try.prog 33 4 6 := ⟨_, _, Try.t31, Try.underlying33, rfl, by kernel_rfl, by decide, rfl⟩
instance : StrT Try.prog 33 := ⟨⟨_, Try.underlying33, fun k f h => match k, f, h with
  | 0, f, h => by simp at h; subst h; exact ⟨Try.t27, by kernel_rfl⟩
  | 1, f, h => by simp at h; subst h; exact ⟨Try.t29, by kernel_rfl⟩
  | 2, f, h => by simp at h; subst h; exact ⟨Try.t30, by kernel_rfl⟩
  | 3, f, h => by simp at h; subst h; exact ⟨Try.t30, by kernel_rfl⟩
  | 4, f, h => by simp at h; subst h; exact ⟨Try.t31, by kernel_rfl⟩
  | k + 5, f, h => by simp at h⟩⟩
instance : Ty Try.prog 35 (cInt .i64) 0 8 := ⟨⟨_, Try.underlying35, rfl⟩, ⟨Try.t35, by kernel_rfl, by kernel_rfl, by kernel_rfl, by kernel_rfl⟩, by decide⟩
instance : InT Try.prog 35 .i64 := ⟨Try.underlying35⟩
instance : NotIf Try.prog 35 := ⟨⟨_, Try.underlying35, rfl⟩⟩
instance : Ty Try.prog 43 (cArr 32 (cInt .u8)) ⟨List.replicate 32 0, List.length_replicate⟩ 32 := ⟨⟨_, Try.underlying43, rfl⟩, ⟨Try.t43, by kernel_rfl, by kernel_rfl, by kernel_rfl, by kernel_rfl⟩, by decide⟩
instance : ArT Try.prog 43 32 5 := ⟨Try.underlying43⟩
instance : Ty Try.prog 45 S_wicketlaw16_Op.c S_wicketlaw16_Op.z 56 := ⟨⟨_, Try.underlying45, rfl⟩, ⟨Try.t45, by kernel_rfl, by kernel_rfl, by kernel_rfl, by kernel_rfl⟩, by decide⟩
instance : NotIf Try.prog 45 := ⟨⟨_, Try.underlying45, rfl⟩⟩
instance : FldC Try.prog 45 0 0 (cInt .i64) := ⟨_, _, Try.t3, Try.underlying45, rfl, by kernel_rfl, by kernel_rfl, rfl⟩
instance : FldT Try.prog 45 0 0 := ⟨_, _, Try.t3, Try.underlying45, rfl, by kernel_rfl, by decide, rfl⟩
instance : FldC Try.prog 45 1 1 (cInt .i64) := ⟨_, _, Try.t3, Try.underlying45, rfl, by kernel_rfl, by kernel_rfl, rfl⟩
instance : FldT Try.prog 45 1 1 := ⟨_, _, Try.t3, Try.underlying45, rfl, by kernel_rfl, by decide, rfl⟩
instance : FldC Try.prog 45 2 2 (cInt .i64) := ⟨_, _, Try.t3, Try.underlying45, rfl, by kernel_rfl, by kernel_rfl, rfl⟩
instance : FldT Try.prog 45 2 2 := ⟨_, _, Try.t3, Try.underlying45, rfl, by kernel_rfl, by decide, rfl⟩
instance : FldC Try.prog 45 3 3 (cArr 32 (cInt .u8)) := ⟨_, _, Try.t43, Try.underlying45, rfl, by kernel_rfl, by kernel_rfl, rfl⟩
instance : FldT Try.prog 45 3 3 := ⟨_, _, Try.t43, Try.underlying45, rfl, by kernel_rfl, by decide, rfl⟩
instance : StrT Try.prog 45 := ⟨⟨_, Try.underlying45, fun k f h => match k, f, h with
  | 0, f, h => by simp at h; subst h; exact ⟨Try.t3, by kernel_rfl⟩
  | 1, f, h => by simp at h; subst h; exact ⟨Try.t3, by kernel_rfl⟩
  | 2, f, h => by simp at h; subst h; exact ⟨Try.t3, by kernel_rfl⟩
  | 3, f, h => by simp at h; subst h; exact ⟨Try.t43, by kernel_rfl⟩
  | k + 4, f, h => by simp at h⟩⟩
instance : Ty Try.prog 48 cSl Sl.nil 24 := ⟨⟨_, Try.underlying48, rfl⟩, ⟨Try.t48, by kernel_rfl, by kernel_rfl, by kernel_rfl, by kernel_rfl⟩, by decide⟩
instance : SlT Try.prog 48 58 := ⟨Try.underlying48⟩
instance : NotIf Try.prog 48 := ⟨⟨_, Try.underlying48, rfl⟩⟩
instance : Ty Try.prog 58 S_api_Image.c S_api_Image.z 40 := ⟨⟨_, Try.underlying58, rfl⟩, ⟨Try.t58, by kernel_rfl, by kernel_rfl, by kernel_rfl, by kernel_rfl⟩, by decide⟩
instance : NotIf Try.prog 58 := ⟨⟨_, Try.underlying58, rfl⟩⟩
instance : FldC Try.prog 58 0 0 (cInt .i64) := ⟨_, _, Try.t3, Try.underlying58, rfl, by kernel_rfl, by kernel_rfl, rfl⟩
instance : FldT Try.prog 58 0 0 := ⟨_, _, Try.t3, Try.underlying58, rfl, by kernel_rfl, by decide, rfl⟩
instance : FldC Try.prog 58 1 1 (cArr 32 (cInt .u8)) := ⟨_, _, Try.t43, Try.underlying58, rfl, by kernel_rfl, by kernel_rfl, rfl⟩
instance : FldT Try.prog 58 1 1 := ⟨_, _, Try.t43, Try.underlying58, rfl, by kernel_rfl, by decide, rfl⟩
instance : StrT Try.prog 58 := ⟨⟨_, Try.underlying58, fun k f h => match k, f, h with
  | 0, f, h => by simp at h; subst h; exact ⟨Try.t3, by kernel_rfl⟩
  | 1, f, h => by simp at h; subst h; exact ⟨Try.t43, by kernel_rfl⟩
  | k + 2, f, h => by simp at h⟩⟩
instance : Ty Try.prog 60 cMap none 8 := ⟨⟨_, Try.underlying60, rfl⟩, ⟨Try.t60, by kernel_rfl, by kernel_rfl, by kernel_rfl, by kernel_rfl⟩, by decide⟩
instance : NotIf Try.prog 60 := ⟨⟨_, Try.underlying60, rfl⟩⟩
instance : MpT Try.prog 60 3 43 := ⟨Try.underlying60⟩
instance : Ty Try.prog 62 S_buffer_Buffer.c S_buffer_Buffer.z 32 := ⟨⟨_, Try.underlying62, rfl⟩, ⟨Try.t62, by kernel_rfl, by kernel_rfl, by kernel_rfl, by kernel_rfl⟩, by decide⟩
instance : NotIf Try.prog 62 := ⟨⟨_, Try.underlying62, rfl⟩⟩
instance : FldC Try.prog 62 0 0 cSl := ⟨_, _, Try.t22, Try.underlying62, rfl, by kernel_rfl, by kernel_rfl, rfl⟩
instance : FldT Try.prog 62 0 0 := ⟨_, _, Try.t22, Try.underlying62, rfl, by kernel_rfl, by decide, rfl⟩
instance : FldC Try.prog 62 1 1 cMap := ⟨_, _, Try.t60, Try.underlying62, rfl, by kernel_rfl, by kernel_rfl, rfl⟩
instance : FldT Try.prog 62 1 1 := ⟨_, _, Try.t60, Try.underlying62, rfl, by kernel_rfl, by decide, rfl⟩
instance : StrT Try.prog 62 := ⟨⟨_, Try.underlying62, fun k f h => match k, f, h with
  | 0, f, h => by simp at h; subst h; exact ⟨Try.t22, by kernel_rfl⟩
  | 1, f, h => by simp at h; subst h; exact ⟨Try.t60, by kernel_rfl⟩
  | k + 2, f, h => by simp at h⟩⟩
instance : Ty Try.prog 64 S_wicketref16_Buffer.c S_wicketref16_Buffer.z 48 := ⟨⟨_, Try.underlying64, rfl⟩, ⟨Try.t64, by kernel_rfl, by kernel_rfl, by kernel_rfl, by kernel_rfl⟩, by decide⟩
instance : NotIf Try.prog 64 := ⟨⟨_, Try.underlying64, rfl⟩⟩
instance : FldC Try.prog 64 0 0 cSl := ⟨_, _, Try.t22, Try.underlying64, rfl, by kernel_rfl, by kernel_rfl, rfl⟩
instance : FldT Try.prog 64 0 0 := ⟨_, _, Try.t22, Try.underlying64, rfl, by kernel_rfl, by decide, rfl⟩
instance : FldC Try.prog 64 1 1 cSl := ⟨_, _, Try.t48, Try.underlying64, rfl, by kernel_rfl, by kernel_rfl, rfl⟩
instance : FldT Try.prog 64 1 1 := ⟨_, _, Try.t48, Try.underlying64, rfl, by kernel_rfl, by decide, rfl⟩
instance : StrT Try.prog 64 := ⟨⟨_, Try.underlying64, fun k f h => match k, f, h with
  | 0, f, h => by simp at h; subst h; exact ⟨Try.t22, by kernel_rfl⟩
  | 1, f, h => by simp at h; subst h; exact ⟨Try.t48, by kernel_rfl⟩
  | k + 2, f, h => by simp at h⟩⟩
instance : EqG Try.prog 43 (cArr 32 (cInt .u8)) := eqG_mk (k := 2) (inferInstanceAs (EqT Try.prog 43 (cArr 32 (cInt .u8)) _)) (by decide) (by kernel_rfl) rfl
instance : EqT Try.prog 45 S_wicketlaw16_Op.c 3 := eqT_struct (P := Try.prog) (c := S_wicketlaw16_Op.c) (k := 2) (Q := fun x y : S_wicketlaw16_Op => x.Kind = y.Kind ∧ x.Which = y.Which ∧ x.Block = y.Block ∧ x.Value = y.Value ∧ True) Try.underlying45 (by kernel_rfl) rfl rfl (by exact (EqFs.cons (c' := (cInt .i64)) (get := (fun x : S_wicketlaw16_Op => x.Kind)) (set := (fun (x : S_wicketlaw16_Op) y => { x with Kind := y })) (by decide) (inferInstance : Ty Try.prog 3 (cInt .i64) 0 8) (by decide) (inferInstance : SubC S_wicketlaw16_Op.c 0 (cInt .i64) (fun x : S_wicketlaw16_Op => x.Kind) (fun (x : S_wicketlaw16_Op) y => { x with Kind := y }) True) (inferInstance : EqT Try.prog 3 (cInt .i64) 1) (EqFs.cons (c' := (cInt .i64)) (get := (fun x : S_wicketlaw16_Op => x.Which)) (set := (fun (x : S_wicketlaw16_Op) y => { x with Which := y })) (by decide) (inferInstance : Ty Try.prog 3 (cInt .i64) 0 8) (by decide) (inferInstance : SubC S_wicketlaw16_Op.c 1 (cInt .i64) (fun x : S_wicketlaw16_Op => x.Which) (fun (x : S_wicketlaw16_Op) y => { x with Which := y }) True) (inferInstance : EqT Try.prog 3 (cInt .i64) 1) (EqFs.cons (c' := (cInt .i64)) (get := (fun x : S_wicketlaw16_Op => x.Block)) (set := (fun (x : S_wicketlaw16_Op) y => { x with Block := y })) (by decide) (inferInstance : Ty Try.prog 3 (cInt .i64) 0 8) (by decide) (inferInstance : SubC S_wicketlaw16_Op.c 2 (cInt .i64) (fun x : S_wicketlaw16_Op => x.Block) (fun (x : S_wicketlaw16_Op) y => { x with Block := y }) True) (inferInstance : EqT Try.prog 3 (cInt .i64) 1) (EqFs.cons (c' := (cArr 32 (cInt .u8))) (get := (fun x : S_wicketlaw16_Op => x.Value)) (set := (fun (x : S_wicketlaw16_Op) y => { x with Value := y })) (by decide) (inferInstance : Ty Try.prog 43 (cArr 32 (cInt .u8)) ⟨List.replicate 32 0, List.length_replicate⟩ 32) (by decide) (inferInstance : SubC S_wicketlaw16_Op.c 3 (cArr 32 (cInt .u8)) (fun x : S_wicketlaw16_Op => x.Value) (fun (x : S_wicketlaw16_Op) y => { x with Value := y }) True) (inferInstance : EqT Try.prog 43 (cArr 32 (cInt .u8)) 2) EqFs.nil))))) (fun x y => by cases x; cases y; simp)
instance : EqG Try.prog 45 S_wicketlaw16_Op.c := eqG_mk (k := 3) (inferInstanceAs (EqT Try.prog 45 S_wicketlaw16_Op.c _)) (by decide) (by kernel_rfl) rfl
instance : EqT Try.prog 58 S_api_Image.c 3 := eqT_struct (P := Try.prog) (c := S_api_Image.c) (k := 2) (Q := fun x y : S_api_Image => x.Block = y.Block ∧ x.Value = y.Value ∧ True) Try.underlying58 (by kernel_rfl) rfl rfl (by exact (EqFs.cons (c' := (cInt .i64)) (get := (fun x : S_api_Image => x.Block)) (set := (fun (x : S_api_Image) y => { x with Block := y })) (by decide) (inferInstance : Ty Try.prog 3 (cInt .i64) 0 8) (by decide) (inferInstance : SubC S_api_Image.c 0 (cInt .i64) (fun x : S_api_Image => x.Block) (fun (x : S_api_Image) y => { x with Block := y }) True) (inferInstance : EqT Try.prog 3 (cInt .i64) 1) (EqFs.cons (c' := (cArr 32 (cInt .u8))) (get := (fun x : S_api_Image => x.Value)) (set := (fun (x : S_api_Image) y => { x with Value := y })) (by decide) (inferInstance : Ty Try.prog 43 (cArr 32 (cInt .u8)) ⟨List.replicate 32 0, List.length_replicate⟩ 32) (by decide) (inferInstance : SubC S_api_Image.c 1 (cArr 32 (cInt .u8)) (fun x : S_api_Image => x.Value) (fun (x : S_api_Image) y => { x with Value := y }) True) (inferInstance : EqT Try.prog 43 (cArr 32 (cInt .u8)) 2) EqFs.nil))) (fun x y => by cases x; cases y; simp)
instance : EqG Try.prog 58 S_api_Image.c := eqG_mk (k := 3) (inferInstanceAs (EqT Try.prog 58 S_api_Image.c _)) (by decide) (by kernel_rfl) rfl
end Go.Proofs.Ytlohgchklicmhaa
