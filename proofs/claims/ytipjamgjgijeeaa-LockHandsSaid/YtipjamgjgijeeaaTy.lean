/-
  The types of a seat, printed by tygen.py.
-/
import Derived.Test.YtipjamgjgijeeaaDnW
import Derived.Test.YtipjamgjgijeeaaProg
import Derived.KernelRfl
namespace Go.Proofs.Ytipjamgjgijeeaa
set_option linter.unusedSimpArgs false
set_option linter.unusedVariables false
open Go.Dn
set_option linter.unusedVariables false
set_option linter.unusedSimpArgs false
structure S_lock_Locks where
  queues : Sl
  last : Int
  holders : (Option Nat)
def S_lock_Locks.c : Cd S_lock_Locks := aggCd 3 (fun x => cSl.cells x.queues ++ ((cInt .u64).cells x.last ++ (cMap.cells x.holders ++ ([])))) (fun x => by simp only [List.length_append, Cd.len, List.length_nil]; rfl) (fun x v hv => by
  simp only [List.mem_append, List.not_mem_nil, or_false] at hv
  rcases hv with h | h | h
  · exact Cd.one _ _ _ h
  · exact Cd.one _ _ _ h
  · exact Cd.one _ _ _ h)
abbrev S_lock_Locks.z : S_lock_Locks := ⟨Sl.nil, 0, none⟩
instance : Inhabited S_lock_Locks := ⟨S_lock_Locks.z⟩
instance : SubC S_lock_Locks.c 0 cSl (fun x => x.queues) (fun x y => { x with queues := y }) True :=
  sub_intro (fun x => []) (fun x => (cInt .u64).cells x.last ++ (cMap.cells x.holders ++ ([]))) (fun x => by simp only [S_lock_Locks.c, aggCd, List.append_assoc, List.nil_append]) (fun _ => rfl) (fun x y => by simp only [S_lock_Locks.c, aggCd, List.append_assoc, List.nil_append])
instance : SubC S_lock_Locks.c 1 (cInt .u64) (fun x => x.last) (fun x y => { x with last := y }) True :=
  sub_intro (fun x => cSl.cells x.queues ++ ([])) (fun x => cMap.cells x.holders ++ ([])) (fun x => by simp only [S_lock_Locks.c, aggCd, List.append_assoc, List.nil_append]) (fun x => by simp only [List.length_append, Cd.len, List.length_nil]; rfl) (fun x y => by simp only [S_lock_Locks.c, aggCd, List.append_assoc, List.nil_append])
instance : SubC S_lock_Locks.c 2 cMap (fun x => x.holders) (fun x y => { x with holders := y }) True :=
  sub_intro (fun x => cSl.cells x.queues ++ ((cInt .u64).cells x.last ++ ([]))) (fun x => []) (fun x => by simp only [S_lock_Locks.c, aggCd, List.append_assoc, List.nil_append]) (fun x => by simp only [List.length_append, Cd.len, List.length_nil]; rfl) (fun x y => by simp only [S_lock_Locks.c, aggCd, List.append_assoc, List.nil_append])
structure S_lock_holder where
  set_ : Sl
  held : Int
def S_lock_holder.c : Cd S_lock_holder := aggCd 2 (fun x => cSl.cells x.set_ ++ ((cInt .i64).cells x.held ++ ([]))) (fun x => by simp only [List.length_append, Cd.len, List.length_nil]; rfl) (fun x v hv => by
  simp only [List.mem_append, List.not_mem_nil, or_false] at hv
  rcases hv with h | h
  · exact Cd.one _ _ _ h
  · exact Cd.one _ _ _ h)
abbrev S_lock_holder.z : S_lock_holder := ⟨Sl.nil, 0⟩
instance : Inhabited S_lock_holder := ⟨S_lock_holder.z⟩
instance : SubC S_lock_holder.c 0 cSl (fun x => x.set_) (fun x y => { x with set_ := y }) True :=
  sub_intro (fun x => []) (fun x => (cInt .i64).cells x.held ++ ([])) (fun x => by simp only [S_lock_holder.c, aggCd, List.append_assoc, List.nil_append]) (fun _ => rfl) (fun x y => by simp only [S_lock_holder.c, aggCd, List.append_assoc, List.nil_append])
instance : SubC S_lock_holder.c 1 (cInt .i64) (fun x => x.held) (fun x y => { x with held := y }) True :=
  sub_intro (fun x => cSl.cells x.set_ ++ ([])) (fun x => []) (fun x => by simp only [S_lock_holder.c, aggCd, List.append_assoc, List.nil_append]) (fun x => by simp only [List.length_append, Cd.len, List.length_nil]; rfl) (fun x y => by simp only [S_lock_holder.c, aggCd, List.append_assoc, List.nil_append])
structure S_ticket_Queue where
  list : Sl
  last : Int
def S_ticket_Queue.c : Cd S_ticket_Queue := aggCd 2 (fun x => cSl.cells x.list ++ ((cInt .u64).cells x.last ++ ([]))) (fun x => by simp only [List.length_append, Cd.len, List.length_nil]; rfl) (fun x v hv => by
  simp only [List.mem_append, List.not_mem_nil, or_false] at hv
  rcases hv with h | h
  · exact Cd.one _ _ _ h
  · exact Cd.one _ _ _ h)
abbrev S_ticket_Queue.z : S_ticket_Queue := ⟨Sl.nil, 0⟩
instance : Inhabited S_ticket_Queue := ⟨S_ticket_Queue.z⟩
instance : SubC S_ticket_Queue.c 0 cSl (fun x => x.list) (fun x y => { x with list := y }) True :=
  sub_intro (fun x => []) (fun x => (cInt .u64).cells x.last ++ ([])) (fun x => by simp only [S_ticket_Queue.c, aggCd, List.append_assoc, List.nil_append]) (fun _ => rfl) (fun x y => by simp only [S_ticket_Queue.c, aggCd, List.append_assoc, List.nil_append])
instance : SubC S_ticket_Queue.c 1 (cInt .u64) (fun x => x.last) (fun x y => { x with last := y }) True :=
  sub_intro (fun x => cSl.cells x.list ++ ([])) (fun x => []) (fun x => by simp only [S_ticket_Queue.c, aggCd, List.append_assoc, List.nil_append]) (fun x => by simp only [List.length_append, Cd.len, List.length_nil]; rfl) (fun x y => by simp only [S_ticket_Queue.c, aggCd, List.append_assoc, List.nil_append])
instance : Ty Try.prog 3 (cInt .i64) 0 8 := ⟨⟨_, Try.underlying3, rfl⟩, ⟨Try.t3, by kernel_rfl, by kernel_rfl, by kernel_rfl, by kernel_rfl⟩, by decide⟩
instance : InT Try.prog 3 .i64 := ⟨Try.underlying3⟩
instance : NotIf Try.prog 3 := ⟨⟨_, Try.underlying3, rfl⟩⟩
instance : Ty Try.prog 4 cBool false 1 := ⟨⟨_, Try.underlying4, rfl⟩, ⟨Try.t4, by kernel_rfl, by kernel_rfl, by kernel_rfl, by kernel_rfl⟩, by decide⟩
instance : BlT Try.prog 4 := ⟨Try.underlying4⟩
instance : NotIf Try.prog 4 := ⟨⟨_, Try.underlying4, rfl⟩⟩
instance : Ty Try.prog 22 cSl Sl.nil 24 := ⟨⟨_, Try.underlying22, rfl⟩, ⟨Try.t22, by kernel_rfl, by kernel_rfl, by kernel_rfl, by kernel_rfl⟩, by decide⟩
instance : SlT Try.prog 22 30 := ⟨Try.underlying22⟩
instance : NotIf Try.prog 22 := ⟨⟨_, Try.underlying22, rfl⟩⟩
instance : Ty Try.prog 24 cPtr none 8 := ⟨⟨_, Try.underlying24, rfl⟩, ⟨Try.t24, by kernel_rfl, by kernel_rfl, by kernel_rfl, by kernel_rfl⟩, by decide⟩
instance : PtT Try.prog 24 := ⟨⟨_, Try.underlying24⟩⟩
instance : NotIf Try.prog 24 := ⟨⟨_, Try.underlying24, rfl⟩⟩
instance : Ty Try.prog 25 cSl Sl.nil 24 := ⟨⟨_, Try.underlying25, rfl⟩, ⟨Try.t25, by kernel_rfl, by kernel_rfl, by kernel_rfl, by kernel_rfl⟩, by decide⟩
instance : SlT Try.prog 25 37 := ⟨Try.underlying25⟩
instance : NotIf Try.prog 25 := ⟨⟨_, Try.underlying25, rfl⟩⟩
instance : Ty Try.prog 29 cFn fnil 8 := ⟨⟨_, Try.underlying29, rfl⟩, ⟨Try.t29, by kernel_rfl, by kernel_rfl, by kernel_rfl, by kernel_rfl⟩, by decide⟩
instance : FnT Try.prog 29 := ⟨⟨_, _, _, Try.underlying29⟩⟩
instance : Ty Try.prog 30 (cInt .u64) 0 8 := ⟨⟨_, Try.underlying30, rfl⟩, ⟨Try.t30, by kernel_rfl, by kernel_rfl, by kernel_rfl, by kernel_rfl⟩, by decide⟩
instance : InT Try.prog 30 .u64 := ⟨Try.underlying30⟩
instance : NotIf Try.prog 30 := ⟨⟨_, Try.underlying30, rfl⟩⟩
instance : Ty Try.prog 31 (cInt .i64) 0 8 := ⟨⟨_, Try.underlying31, rfl⟩, ⟨Try.t31, by kernel_rfl, by kernel_rfl, by kernel_rfl, by kernel_rfl⟩, by decide⟩
instance : InT Try.prog 31 .i64 := ⟨Try.underlying31⟩
instance : NotIf Try.prog 31 := ⟨⟨_, Try.underlying31, rfl⟩⟩
instance : Ty Try.prog 35 cSl Sl.nil 24 := ⟨⟨_, Try.underlying35, rfl⟩, ⟨Try.t35, by kernel_rfl, by kernel_rfl, by kernel_rfl, by kernel_rfl⟩, by decide⟩
instance : SlT Try.prog 35 22 := ⟨Try.underlying35⟩
instance : NotIf Try.prog 35 := ⟨⟨_, Try.underlying35, rfl⟩⟩
instance : Ty Try.prog 37 cSl Sl.nil 24 := ⟨⟨_, Try.underlying37, rfl⟩, ⟨Try.t37, by kernel_rfl, by kernel_rfl, by kernel_rfl, by kernel_rfl⟩, by decide⟩
instance : SlT Try.prog 37 3 := ⟨Try.underlying37⟩
instance : NotIf Try.prog 37 := ⟨⟨_, Try.underlying37, rfl⟩⟩
instance : Ty Try.prog 44 cSl Sl.nil 24 := ⟨⟨_, Try.underlying44, rfl⟩, ⟨Try.t44, by kernel_rfl, by kernel_rfl, by kernel_rfl, by kernel_rfl⟩, by decide⟩
instance : SlT Try.prog 44 4 := ⟨Try.underlying44⟩
instance : NotIf Try.prog 44 := ⟨⟨_, Try.underlying44, rfl⟩⟩
instance : Ty Try.prog 56 cPtr none 8 := ⟨⟨_, Try.underlying56, rfl⟩, ⟨Try.t56, by kernel_rfl, by kernel_rfl, by kernel_rfl, by kernel_rfl⟩, by decide⟩
instance : PtT Try.prog 56 := ⟨⟨_, Try.underlying56⟩⟩
instance : NotIf Try.prog 56 := ⟨⟨_, Try.underlying56, rfl⟩⟩
instance : Ty Try.prog 57 cSl Sl.nil 24 := ⟨⟨_, Try.underlying57, rfl⟩, ⟨Try.t57, by kernel_rfl, by kernel_rfl, by kernel_rfl, by kernel_rfl⟩, by decide⟩
instance : SlT Try.prog 57 56 := ⟨Try.underlying57⟩
instance : NotIf Try.prog 57 := ⟨⟨_, Try.underlying57, rfl⟩⟩
instance : Ty Try.prog 58 cMap none 8 := ⟨⟨_, Try.underlying58, rfl⟩, ⟨Try.t58, by kernel_rfl, by kernel_rfl, by kernel_rfl, by kernel_rfl⟩, by decide⟩
instance : NotIf Try.prog 58 := ⟨⟨_, Try.underlying58, rfl⟩⟩
instance : MpT Try.prog 58 30 63 := ⟨Try.underlying58⟩
instance : Ty Try.prog 60 S_lock_Locks.c S_lock_Locks.z 40 := ⟨⟨_, Try.underlying60, rfl⟩, ⟨Try.t60, by kernel_rfl, by kernel_rfl, by kernel_rfl, by kernel_rfl⟩, by decide⟩
instance : NotIf Try.prog 60 := ⟨⟨_, Try.underlying60, rfl⟩⟩
instance : FldC Try.prog 60 0 0 cSl := ⟨_, _, Try.t57, Try.underlying60, rfl, by kernel_rfl, by kernel_rfl, rfl⟩
instance : FldT Try.prog 60 0 0 := ⟨_, _, Try.t57, Try.underlying60, rfl, by kernel_rfl, by decide, rfl⟩
instance : FldC Try.prog 60 1 1 (cInt .u64) := ⟨_, _, Try.t30, Try.underlying60, rfl, by kernel_rfl, by kernel_rfl, rfl⟩
instance : FldT Try.prog 60 1 1 := ⟨_, _, Try.t30, Try.underlying60, rfl, by kernel_rfl, by decide, rfl⟩
instance : FldC Try.prog 60 2 2 cMap := ⟨_, _, Try.t58, Try.underlying60, rfl, by kernel_rfl, by kernel_rfl, rfl⟩
instance : FldT Try.prog 60 2 2 := ⟨_, _, Try.t58, Try.underlying60, rfl, by kernel_rfl, by decide, rfl⟩
instance : StrT Try.prog 60 := ⟨⟨_, Try.underlying60, fun k f h => match k, f, h with
  | 0, f, h => by simp at h; subst h; exact ⟨Try.t57, by kernel_rfl⟩
  | 1, f, h => by simp at h; subst h; exact ⟨Try.t30, by kernel_rfl⟩
  | 2, f, h => by simp at h; subst h; exact ⟨Try.t58, by kernel_rfl⟩
  | k + 3, f, h => by simp at h⟩⟩
instance : Ty Try.prog 63 S_lock_holder.c S_lock_holder.z 32 := ⟨⟨_, Try.underlying63, rfl⟩, ⟨Try.t63, by kernel_rfl, by kernel_rfl, by kernel_rfl, by kernel_rfl⟩, by decide⟩
instance : NotIf Try.prog 63 := ⟨⟨_, Try.underlying63, rfl⟩⟩
instance : FldC Try.prog 63 0 0 cSl := ⟨_, _, Try.t37, Try.underlying63, rfl, by kernel_rfl, by kernel_rfl, rfl⟩
instance : FldT Try.prog 63 0 0 := ⟨_, _, Try.t37, Try.underlying63, rfl, by kernel_rfl, by decide, rfl⟩
instance : FldC Try.prog 63 1 1 (cInt .i64) := ⟨_, _, Try.t3, Try.underlying63, rfl, by kernel_rfl, by kernel_rfl, rfl⟩
instance : FldT Try.prog 63 1 1 := ⟨_, _, Try.t3, Try.underlying63, rfl, by kernel_rfl, by decide, rfl⟩
instance : StrT Try.prog 63 := ⟨⟨_, Try.underlying63, fun k f h => match k, f, h with
  | 0, f, h => by simp at h; subst h; exact ⟨Try.t37, by kernel_rfl⟩
  | 1, f, h => by simp at h; subst h; exact ⟨Try.t3, by kernel_rfl⟩
  | k + 2, f, h => by simp at h⟩⟩
instance : Ty Try.prog 66 cFn fnil 8 := ⟨⟨_, Try.underlying66, rfl⟩, ⟨Try.t66, by kernel_rfl, by kernel_rfl, by kernel_rfl, by kernel_rfl⟩, by decide⟩
instance : FnT Try.prog 66 := ⟨⟨_, _, _, Try.underlying66⟩⟩
instance : Ty Try.prog 67 cFn fnil 8 := ⟨⟨_, Try.underlying67, rfl⟩, ⟨Try.t67, by kernel_rfl, by kernel_rfl, by kernel_rfl, by kernel_rfl⟩, by decide⟩
instance : FnT Try.prog 67 := ⟨⟨_, _, _, Try.underlying67⟩⟩
instance : Ty Try.prog 74 S_ticket_Queue.c S_ticket_Queue.z 32 := ⟨⟨_, Try.underlying74, rfl⟩, ⟨Try.t74, by kernel_rfl, by kernel_rfl, by kernel_rfl, by kernel_rfl⟩, by decide⟩
instance : NotIf Try.prog 74 := ⟨⟨_, Try.underlying74, rfl⟩⟩
instance : FldC Try.prog 74 0 0 cSl := ⟨_, _, Try.t22, Try.underlying74, rfl, by kernel_rfl, by kernel_rfl, rfl⟩
instance : FldT Try.prog 74 0 0 := ⟨_, _, Try.t22, Try.underlying74, rfl, by kernel_rfl, by decide, rfl⟩
instance : FldC Try.prog 74 1 1 (cInt .u64) := ⟨_, _, Try.t30, Try.underlying74, rfl, by kernel_rfl, by kernel_rfl, rfl⟩
instance : FldT Try.prog 74 1 1 := ⟨_, _, Try.t30, Try.underlying74, rfl, by kernel_rfl, by decide, rfl⟩
instance : StrT Try.prog 74 := ⟨⟨_, Try.underlying74, fun k f h => match k, f, h with
  | 0, f, h => by simp at h; subst h; exact ⟨Try.t22, by kernel_rfl⟩
  | 1, f, h => by simp at h; subst h; exact ⟨Try.t30, by kernel_rfl⟩
  | k + 2, f, h => by simp at h⟩⟩
end Go.Proofs.Ytipjamgjgijeeaa
