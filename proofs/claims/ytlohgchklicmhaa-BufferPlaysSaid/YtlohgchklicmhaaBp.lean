/- A pair of buffers on both sides: told, and one step of a script. -/
import Derived.Test.YtlohgchklicmhaaBb
namespace Go.Proofs.Ytlohgchklicmhaa
set_option linter.unusedSimpArgs false
set_option linter.unusedVariables false
open Go.Dn
set_option linter.unusedSectionVars false
set_option synthInstance.maxSize 10000
set_option synthInstance.maxHeartbeats 400000
set_option maxHeartbeats 2000000
variable [sd : Side]
theorem same16_ok {s1 s2 : Sl} {l1 l2 : List S_api_Image} {K : Value → W} {F : List HProp} [rs1 : Rs F s1 S_api_Image.c l1] [rs2 : Rs F s2 S_api_Image.c l2] (hlen : l1.length ≤ 9223372036854775807)
    (h1 : l1 = l2 → Ent F (K (.bool true))) (h2 : l1 ≠ l2 → Ent F (K (.bool false))) : Ent F (callC Try.prog 11 [sv s1, sv s2] K) := by
  refine ent_mono ?_ fun w => nf11_ok
  unfold nf11
  (repeat (first | refine st ?_ | refine And.intro rfl ?_ | refine sc (by omega) ?_ | refine sc (by simp only [List.length_map, List.length_append, List.length_cons, List.length_nil, List.length_set, List.length_replicate, List.length_singleton] at *; omega) ?_ | refine sc (And.intro (by omega) trivial) ?_ | refine sc (And.intro rfl (Nat.le_of_ble_eq_true rfl)) ?_ | refine sc (And.intro (by simp only [List.length_map, List.length_append, List.length_cons, List.length_nil, List.length_set, List.length_replicate, List.length_singleton] at *; omega) trivial) ?_ | refine sc (by decide) ?_ | refine sc (fun _ => trivial) ?_ | refine And.intro (fun _ => rfl) ?_ | refine sc (fun _ => And.intro (by omega) trivial) ?_))
  refine cs (fun hl => ?_) (fun hl => ?_)
  · (repeat (first | refine st ?_ | refine And.intro rfl ?_ | refine sc (by omega) ?_ | refine sc (by simp only [List.length_map, List.length_append, List.length_cons, List.length_nil, List.length_set, List.length_replicate, List.length_singleton] at *; omega) ?_ | refine sc (And.intro (by omega) trivial) ?_ | refine sc (And.intro rfl (Nat.le_of_ble_eq_true rfl)) ?_ | refine sc (And.intro (by simp only [List.length_map, List.length_append, List.length_cons, List.length_nil, List.length_set, List.length_replicate, List.length_singleton] at *; omega) trivial) ?_ | refine sc (by decide) ?_ | refine sc (fun _ => trivial) ?_ | refine And.intro (fun _ => rfl) ?_ | refine sc (fun _ => And.intro (by omega) trivial) ?_))
    have hl' : l1.length = l2.length := by omega
    refine ent_loop0 (γ := Nat) (fun i => [.int .i64 i]) (fun i => i ≤ l1.length ∧ ∀ j, j < i → l1.getD j default = l2.getD j default) (fun i => l1.length - i) 0 rfl ⟨by omega, fun j hj => by omega⟩ ?_
    intro i ⟨hi, hin⟩ K1 j hK
    simp only [List.headD_cons] at *
    (repeat (first | refine st ?_ | refine And.intro rfl ?_ | refine sc (by omega) ?_ | refine sc (by simp only [List.length_map, List.length_append, List.length_cons, List.length_nil, List.length_set, List.length_replicate, List.length_singleton] at *; omega) ?_ | refine sc (And.intro (by omega) trivial) ?_ | refine sc (And.intro rfl (Nat.le_of_ble_eq_true rfl)) ?_ | refine sc (And.intro (by simp only [List.length_map, List.length_append, List.length_cons, List.length_nil, List.length_set, List.length_replicate, List.length_singleton] at *; omega) trivial) ?_ | refine sc (by decide) ?_ | refine sc (fun _ => trivial) ?_ | refine And.intro (fun _ => rfl) ?_ | refine sc (fun _ => And.intro (by omega) trivial) ?_))
    refine cs (fun h3 => ?_) (fun h3 => ?_)
    · (repeat (first | refine st ?_ | refine And.intro rfl ?_ | refine sc (by omega) ?_ | refine sc (by simp only [List.length_map, List.length_append, List.length_cons, List.length_nil, List.length_set, List.length_replicate, List.length_singleton] at *; omega) ?_ | refine sc (And.intro (by omega) trivial) ?_ | refine sc (And.intro rfl (Nat.le_of_ble_eq_true rfl)) ?_ | refine sc (And.intro (by simp only [List.length_map, List.length_append, List.length_cons, List.length_nil, List.length_set, List.length_replicate, List.length_singleton] at *; omega) trivial) ?_ | refine sc (by decide) ?_ | refine sc (fun _ => trivial) ?_ | refine And.intro (fun _ => rfl) ?_ | refine sc (fun _ => And.intro (by omega) trivial) ?_))
      refine cs (fun h4 => ?_) (fun h4 => ?_)
      · (repeat (first | refine st ?_ | refine And.intro rfl ?_ | refine sc (by omega) ?_ | refine sc (by simp only [List.length_map, List.length_append, List.length_cons, List.length_nil, List.length_set, List.length_replicate, List.length_singleton] at *; omega) ?_ | refine sc (And.intro (by omega) trivial) ?_ | refine sc (And.intro rfl (Nat.le_of_ble_eq_true rfl)) ?_ | refine sc (And.intro (by simp only [List.length_map, List.length_append, List.length_cons, List.length_nil, List.length_set, List.length_replicate, List.length_singleton] at *; omega) trivial) ?_ | refine sc (by decide) ?_ | refine sc (fun _ => trivial) ?_ | refine And.intro (fun _ => rfl) ?_ | refine sc (fun _ => And.intro (by omega) trivial) ?_))
        refine hK (i + 1) ⟨by omega, fun j hj => ?_⟩ (by omega)
        by_cases hji : j < i
        · exact hin j hji
        · have : j = i := by omega
          subst this; exact h4
      · (repeat (first | refine st ?_ | refine And.intro rfl ?_ | refine sc (by omega) ?_ | refine sc (by simp only [List.length_map, List.length_append, List.length_cons, List.length_nil, List.length_set, List.length_replicate, List.length_singleton] at *; omega) ?_ | refine sc (And.intro (by omega) trivial) ?_ | refine sc (And.intro rfl (Nat.le_of_ble_eq_true rfl)) ?_ | refine sc (And.intro (by simp only [List.length_map, List.length_append, List.length_cons, List.length_nil, List.length_set, List.length_replicate, List.length_singleton] at *; omega) trivial) ?_ | refine sc (by decide) ?_ | refine sc (fun _ => trivial) ?_ | refine And.intro (fun _ => rfl) ?_ | refine sc (fun _ => And.intro (by omega) trivial) ?_))
        exact h2 fun hc => h4 (by rw [hc])
    · (repeat (first | refine st ?_ | refine And.intro rfl ?_ | refine sc (by omega) ?_ | refine sc (by simp only [List.length_map, List.length_append, List.length_cons, List.length_nil, List.length_set, List.length_replicate, List.length_singleton] at *; omega) ?_ | refine sc (And.intro (by omega) trivial) ?_ | refine sc (And.intro rfl (Nat.le_of_ble_eq_true rfl)) ?_ | refine sc (And.intro (by simp only [List.length_map, List.length_append, List.length_cons, List.length_nil, List.length_set, List.length_replicate, List.length_singleton] at *; omega) trivial) ?_ | refine sc (by decide) ?_ | refine sc (fun _ => trivial) ?_ | refine And.intro (fun _ => rfl) ?_ | refine sc (fun _ => And.intro (by omega) trivial) ?_))
      have : i = l1.length := by omega
      subst this
      exact h1 (list_eq_of hl' hin)
  · (repeat (first | refine st ?_ | refine And.intro rfl ?_ | refine sc (by omega) ?_ | refine sc (by simp only [List.length_map, List.length_append, List.length_cons, List.length_nil, List.length_set, List.length_replicate, List.length_singleton] at *; omega) ?_ | refine sc (And.intro (by omega) trivial) ?_ | refine sc (And.intro rfl (Nat.le_of_ble_eq_true rfl)) ?_ | refine sc (And.intro (by simp only [List.length_map, List.length_append, List.length_cons, List.length_nil, List.length_set, List.length_replicate, List.length_singleton] at *; omega) trivial) ?_ | refine sc (by decide) ?_ | refine sc (fun _ => trivial) ?_ | refine And.intro (fun _ => rfl) ?_ | refine sc (fun _ => And.intro (by omega) trivial) ?_))
    exact h2 fun hc => hl (by rw [hc])
structure SD where
  p : Nat
  m : BM
  q : Nat
  r : RB
structure IL where
  s : Sl
  w : Sl
  xs : List S_api_Image
instance : Inhabited IL := ⟨⟨Sl.nil, Sl.nil, []⟩⟩
structure FL where
  s : Sl
  xs : List Int
instance : Inhabited FL := ⟨⟨Sl.nil, []⟩⟩
def ilAt (x : IL) : HProp := fun h => stars [sl S_api_Image.c 58 x.s x.xs, sl S_api_Image.c 58 x.w x.xs] h
def flAt (x : FL) : HProp := sl (cInt .i64) 3 x.s x.xs
theorem il_open {x : IL} {F : List HProp} {φ : W} (h : Ent (sl S_api_Image.c 58 x.s x.xs :: sl S_api_Image.c 58 x.w x.xs :: F) φ) : Ent (ilAt x :: F) φ := ent_open (M := [_, _]) (fun _ h => h) h
theorem il_shut {x : IL} {F : List HProp} {φ : W} (h : Ent (ilAt x :: F) φ) : Ent (sl S_api_Image.c 58 x.s x.xs :: sl S_api_Image.c 58 x.w x.xs :: F) φ := ent_shut (M := [_, _]) (fun _ h => h) h
/-! ## The two sides -/
structure RelB (m : BM) (r : RB) (N : Nat) : Prop where
  form : m.form = r.set
  isf : IsForm m.form
  uq : uniq m.vals
  eq : ∀ b, lkp m.vals b = lastW r.writes b
  sub : ∀ x ∈ m.vals, x.1 ∈ m.form
  len : r.writes.length ≤ N
theorem RelB.mono {m : BM} {r : RB} {N N' : Nat} (h : RelB m r N) (hN : N ≤ N') : RelB m r N' := ⟨h.form, h.isf, h.uq, h.eq, h.sub, Nat.le_trans h.len hN⟩
theorem rising_nodup {l : List Int} (h : Rising l) : l.Nodup := by
  rw [List.nodup_iff_pairwise_ne, List.pairwise_iff_getElem]
  intro i j hi hj hij
  have := rising_lt h hij hj
  simp only [List.getD_eq_getElem?_getD, List.getElem?_eq_getElem hi, List.getElem?_eq_getElem hj, Option.getD_some] at this
  omega
theorem filterMap_len {α β : Type} (f : α → Option β) : ∀ l : List α, (l.filterMap f).length = (l.filter fun x => (f x).isSome).length
  | [] => rfl
  | x :: l => by
    rw [List.filterMap_cons, List.filter_cons]
    cases h : f x with
    | none => simpa [h] using filterMap_len f l
    | some y => simpa [h] using filterMap_len f l
theorem mem_keys {α : Type} {l : List (Int × α)} {x : Int} : x ∈ l.map (·.1) ↔ (lkp l x).isSome = true := by
  cases h : lkp l x with
  | none => simp [lkp_none.1 h]
  | some a =>
    simp only [Option.isSome_some, iff_true]
    apply Classical.byContradiction
    intro hn
    rw [lkp_none.2 hn] at h; cases h
theorem RelB.count {m : BM} {r : RB} {N : Nat} (h : RelB m r N) : m.vals.length = (imgs m.form (lkp m.vals)).length := by
  unfold imgs
  rw [filterMap_len]
  have e : (fun x => ((lkp m.vals x).map fun v => (⟨x, v⟩ : S_api_Image)).isSome) = fun x => (lkp m.vals x).isSome := by funext x; simp
  rw [e, ← List.length_map (f := fun x : Int × V => x.1)]
  apply List.Perm.length_eq
  rw [List.perm_ext_iff_of_nodup h.uq ((rising_nodup h.isf.rises).filter _)]
  intro x
  rw [List.mem_filter, mem_keys]
  constructor
  · intro hx
    obtain ⟨y, hy, rfl⟩ := List.mem_map.1 (mem_keys.2 hx)
    exact ⟨h.sub y hy, hx⟩
  · exact fun hx => hx.2
theorem RelB.imgs {m : BM} {r : RB} {N : Nat} (h : RelB m r N) : Go.Proofs.Ytlohgchklicmhaa.imgs m.form (lkp m.vals) = Go.Proofs.Ytlohgchklicmhaa.imgs r.set (lastW r.writes) := by
  rw [← h.form, show lkp m.vals = lastW r.writes from funext h.eq]
theorem rel_write {m : BM} {r : RB} {N : Nat} (h : RelB m r N) (b : Int) (v : V) : RelB (wrM m b v) (wrR r b v) (N + 1) := by
  unfold wrM wrR
  rw [← h.form]
  by_cases hb : b ∈ m.form
  · rw [if_pos hb, if_pos hb]
    refine ⟨rfl, h.isf, upd_uniq h.uq b v, fun x => ?_, fun x hx => ?_, by rw [List.length_append, List.length_singleton]; have := h.len; omega⟩
    · rw [lkp_upd, lastW_snoc, h.eq]
      by_cases hx : x = b
      · subst hx; simp
      · rw [if_neg hx, if_neg (Ne.symm hx)]
    · have hk : x.1 ∈ (upd m.vals b v).map (·.1) := List.mem_map_of_mem hx
      rw [upd_keys] at hk
      split at hk
      · obtain ⟨y, hy, e⟩ := List.mem_map.1 hk
        rw [← e]; exact h.sub y hy
      · rcases List.mem_append.1 hk with hk | hk
        · obtain ⟨y, hy, e⟩ := List.mem_map.1 hk
          rw [← e]; exact h.sub y hy
        · rw [List.mem_singleton.1 hk]; exact hb
  · rw [if_neg hb, if_neg hb]
    exact ⟨h.form, h.isf, h.uq, h.eq, h.sub, by have := h.len; omega⟩
theorem rel_new {l : List Int} (h : IsForm l) : RelB ⟨l, []⟩ ⟨l, []⟩ 0 := ⟨rfl, h, by simp [uniq], fun b => rfl, fun x hx => absurd hx List.not_mem_nil, Nat.le_refl _⟩
theorem p_front (p : Nat) {L M1 M2 M3 M4 : List HProp} {bb rr : Arr 2 (Option Addr)} {a b c : Sl} {xa xb xc : List Sl} {La Lb Lc : List Sl → List HProp} {φ : W}
    [fv : FrontV p L 33 S_wicketlaw16_pair.c ⟨bb, rr, a, b, c⟩ M1] [ps : PickS a M1 48 cSl xa La M2] [po : PickS b M2 48 cSl xb Lb M3] [pn : PickS c M3 22 cSl xc Lc M4]
    (h : ∀ a1 b1 c1, Ent (vr p 33 S_wicketlaw16_pair.c ⟨bb, rr, a1, b1, c1⟩ :: sl cSl 48 a1 xa :: sl cSl 48 b1 xb :: sl cSl 22 c1 xc :: M4) φ) : Ent L φ := by
  refine ent_frontV p (ent_pre (fun _ hs => sats_tail (fun _ hs => ?_) hs) (h a b c))
  refine sats_tail (fun _ hs => ?_) (ps.out.1 _ hs)
  refine sats_tail (fun _ hs => ?_) (po.out.1 _ hs)
  exact pn.out.1 _ hs
theorem told0_ok {p pk qk : Nat} {bb rr : Arr 2 (Option Addr)} {a b c : Sl} {la lb lc : List Sl} {m : BM} {r : RB} {N : Nat} {K : Value → W} {F : List HProp} (hb : bb.get 0 = pt pk) (hr : rr.get 0 = pt qk) (hR : RelB m r N) (hN : N ≤ 1000) (l1 : la.length ≤ 10000) (l2 : lb.length ≤ 10000) (l3 : lc.length ≤ 10000)
    (h : ∀ a b c (il : List IL) (fl : List FL), il.length = 2 → fl.length = 2 → (∀ x ∈ il, x.xs.length ≤ 16) → (∀ x ∈ fl, x.xs.length ≤ 16) →
      Ent (vr p 33 S_wicketlaw16_pair.c ⟨bb, rr, a, b, c⟩ :: sl cSl 48 a (la ++ il.map (·.s)) :: sl cSl 48 b (lb ++ il.map (·.w)) :: sl cSl 22 c (lc ++ fl.map (·.s)) :: bg ilAt il :: bg flAt fl :: bufAt pk m :: refAt qk r :: F) (K (.bool true))) :
    Ent (vr p 33 S_wicketlaw16_pair.c ⟨bb, rr, a, b, c⟩ :: sl cSl 48 a la :: sl cSl 48 b lb :: sl cSl 22 c lc :: bufAt pk m :: refAt qk r :: F) (callC Try.prog 10 [.pointer (pt p), .int .i64 0] K) := by
  refine ent_mono ?_ fun w => nf10_ok
  unfold nf10
  have hf := hR.isf.most
  have hf2 : r.set.length ≤ 16 := by rw [← hR.form]; exact hf
  have hwl := hR.len
  have hil := imgs_le (form := m.form) (o := lkp m.vals)
  refine bg_nil ilAt (bg_nil flAt ?_)
  refine ent_loop (γ := Nat × List IL × List FL × Sl × Sl × Sl) (fun t => [.int .i64 t.1]) (fun t => bg flAt t.2.2.1 :: bg ilAt t.2.1 :: vr p 33 S_wicketlaw16_pair.c ⟨bb, rr, t.2.2.2.1, t.2.2.2.2.1, t.2.2.2.2.2⟩ :: sl cSl 48 t.2.2.2.1 (la ++ t.2.1.map (·.s)) :: sl cSl 48 t.2.2.2.2.1 (lb ++ t.2.1.map (·.w)) :: sl cSl 22 t.2.2.2.2.2 (lc ++ t.2.2.1.map (·.s)) :: bufAt pk m :: refAt qk r :: F)
    (fun t => t.1 ≤ 2 ∧ t.2.1.length = t.1 ∧ t.2.2.1.length = t.1 ∧ (∀ x ∈ t.2.1, x.xs.length ≤ 16) ∧ (∀ x ∈ t.2.2.1, x.xs.length ≤ 16)) (fun t => 2 - t.1) (0, [], [], a, b, c) rfl ⟨by simp, rfl, rfl, fun x hx => absurd hx List.not_mem_nil, fun x hx => absurd hx List.not_mem_nil⟩ ⟨fun _ hs => by simpa using hs⟩ ?_
  intro ⟨i, il, fl, a, b, c⟩ ⟨hi, e1, e2, hx1, hx2⟩ K1 j hK
  simp only [List.headD_cons] at *
  refine cs (fun h1 => ?_) (fun h1 => ?_)
  · (repeat (first | refine st ?_ | refine And.intro rfl ?_ | refine sc (by omega) ?_ | refine sc (by simp only [List.length_map, List.length_append, List.length_cons, List.length_nil, List.length_set, List.length_replicate, List.length_singleton] at *; omega) ?_ | refine sc (And.intro (by omega) trivial) ?_ | refine sc (And.intro rfl (Nat.le_of_ble_eq_true rfl)) ?_ | refine sc (And.intro (by simp only [List.length_map, List.length_append, List.length_cons, List.length_nil, List.length_set, List.length_replicate, List.length_singleton] at *; omega) trivial) ?_ | refine sc (by decide) ?_ | refine sc (fun _ => trivial) ?_ | refine And.intro (fun _ => rfl) ?_ | refine sc (fun _ => And.intro (by omega) trivial) ?_))
    rw [hb]
    refine ent_take (A := bufAt pk m) (images_ok hf fun s1 => ?_)
    (repeat (first | refine st ?_ | refine And.intro rfl ?_ | refine sc (by omega) ?_ | refine sc (by simp only [List.length_map, List.length_append, List.length_cons, List.length_nil, List.length_set, List.length_replicate, List.length_singleton] at *; omega) ?_ | refine sc (And.intro (by omega) trivial) ?_ | refine sc (And.intro rfl (Nat.le_of_ble_eq_true rfl)) ?_ | refine sc (And.intro (by simp only [List.length_map, List.length_append, List.length_cons, List.length_nil, List.length_set, List.length_replicate, List.length_singleton] at *; omega) trivial) ?_ | refine sc (by decide) ?_ | refine sc (fun _ => trivial) ?_ | refine And.intro (fun _ => rfl) ?_ | refine sc (fun _ => And.intro (by omega) trivial) ?_))
    refine And.intro (by show Value.pointer (pt pk) = Value.pointer (bb.get 0); rw [hb]) ?_
    refine ent_take (A := bufAt pk m) (form_ok hf fun s2 => ?_)
    (repeat (first | refine st ?_ | refine And.intro rfl ?_ | refine sc (by omega) ?_ | refine sc (by simp only [List.length_map, List.length_append, List.length_cons, List.length_nil, List.length_set, List.length_replicate, List.length_singleton] at *; omega) ?_ | refine sc (And.intro (by omega) trivial) ?_ | refine sc (And.intro rfl (Nat.le_of_ble_eq_true rfl)) ?_ | refine sc (And.intro (by simp only [List.length_map, List.length_append, List.length_cons, List.length_nil, List.length_set, List.length_replicate, List.length_singleton] at *; omega) trivial) ?_ | refine sc (by decide) ?_ | refine sc (fun _ => trivial) ?_ | refine And.intro (fun _ => rfl) ?_ | refine sc (fun _ => And.intro (by omega) trivial) ?_))
    rw [hr]
    refine ent_take (A := refAt qk r) (refImages_ok hf2 (by omega) fun s3 => ?_)
    rw [← hR.imgs]
    refine same16_ok (l1 := imgs m.form (lkp m.vals)) (l2 := imgs m.form (lkp m.vals)) (by omega) (fun _ => ?_) (fun hc => absurd rfl hc)
    (repeat (first | refine st ?_ | refine And.intro rfl ?_ | refine sc (by omega) ?_ | refine sc (by simp only [List.length_map, List.length_append, List.length_cons, List.length_nil, List.length_set, List.length_replicate, List.length_singleton] at *; omega) ?_ | refine sc (And.intro (by omega) trivial) ?_ | refine sc (And.intro rfl (Nat.le_of_ble_eq_true rfl)) ?_ | refine sc (And.intro (by simp only [List.length_map, List.length_append, List.length_cons, List.length_nil, List.length_set, List.length_replicate, List.length_singleton] at *; omega) trivial) ?_ | refine sc (by decide) ?_ | refine sc (fun _ => trivial) ?_ | refine And.intro (fun _ => rfl) ?_ | refine sc (fun _ => And.intro (by omega) trivial) ?_))
    rw [hr]
    refine ent_take (A := refAt qk r) (ref_open fun rs rw_ => ?_)
    (repeat (first | refine st ?_ | refine And.intro rfl ?_ | refine sc (by omega) ?_ | refine sc (by simp only [List.length_map, List.length_append, List.length_cons, List.length_nil, List.length_set, List.length_replicate, List.length_singleton] at *; omega) ?_ | refine sc (And.intro (by omega) trivial) ?_ | refine sc (And.intro rfl (Nat.le_of_ble_eq_true rfl)) ?_ | refine sc (And.intro (by simp only [List.length_map, List.length_append, List.length_cons, List.length_nil, List.length_set, List.length_replicate, List.length_singleton] at *; omega) trivial) ?_ | refine sc (by decide) ?_ | refine sc (fun _ => trivial) ?_ | refine And.intro (fun _ => rfl) ?_ | refine sc (fun _ => And.intro (by omega) trivial) ?_))
    refine same05_ok (l1 := m.form) (l2 := r.set) (by omega) (fun _ => ?_) (fun hc => absurd hR.form hc)
    (repeat (first | refine st ?_ | refine And.intro rfl ?_ | refine sc (by omega) ?_ | refine sc (by simp only [List.length_map, List.length_append, List.length_cons, List.length_nil, List.length_set, List.length_replicate, List.length_singleton] at *; omega) ?_ | refine sc (And.intro (by omega) trivial) ?_ | refine sc (And.intro rfl (Nat.le_of_ble_eq_true rfl)) ?_ | refine sc (And.intro (by simp only [List.length_map, List.length_append, List.length_cons, List.length_nil, List.length_set, List.length_replicate, List.length_singleton] at *; omega) trivial) ?_ | refine sc (by decide) ?_ | refine sc (fun _ => trivial) ?_ | refine And.intro (fun _ => rfl) ?_ | refine sc (fun _ => And.intro (by omega) trivial) ?_))
    rw [hb]
    refine ent_take (A := bufAt pk m) (len_ok ?_)
    (repeat (first | refine st ?_ | refine And.intro rfl ?_ | refine sc (by omega) ?_ | refine sc (by simp only [List.length_map, List.length_append, List.length_cons, List.length_nil, List.length_set, List.length_replicate, List.length_singleton] at *; omega) ?_ | refine sc (And.intro (by omega) trivial) ?_ | refine sc (And.intro rfl (Nat.le_of_ble_eq_true rfl)) ?_ | refine sc (And.intro (by simp only [List.length_map, List.length_append, List.length_cons, List.length_nil, List.length_set, List.length_replicate, List.length_singleton] at *; omega) trivial) ?_ | refine sc (by decide) ?_ | refine sc (fun _ => trivial) ?_ | refine And.intro (fun _ => rfl) ?_ | refine sc (fun _ => And.intro (by omega) trivial) ?_))
    refine ct (by rw [hR.count]) ?_
    refine ent_take (A := sl S_api_Image.c 58 rw_ r.writes) (ent_take (A := sl (cInt .i64) 3 rs r.set) (ent_take (A := vr qk 64 S_wicketref16_Buffer.c ⟨rs, rw_⟩) (ref_shut ?_)))
    refine ent_take (A := sl S_api_Image.c 58 s3 (imgs m.form (lkp m.vals))) (ent_take (A := sl S_api_Image.c 58 s1 (imgs m.form (lkp m.vals))) (il_shut (x := ⟨s1, s3, imgs m.form (lkp m.vals)⟩) (ent_take (A := bg ilAt il) (bg_snoc ?_))))
    refine ent_take (A := sl (cInt .i64) 3 s2 m.form) ?_
    change Ent (flAt ⟨s2, m.form⟩ :: _) _
    refine ent_take (A := bg flAt fl) (bg_snoc ?_)
    have tail : ∀ a b c, Ent (vr p 33 S_wicketlaw16_pair.c ⟨bb, rr, a, b, c⟩ :: sl cSl 48 a (la ++ il.map (·.s) ++ [s1]) :: sl cSl 48 b (lb ++ il.map (·.w) ++ [s3]) :: sl cSl 22 c (lc ++ fl.map (·.s) ++ [s2]) :: bg ilAt (il ++ [⟨s1, s3, imgs m.form (lkp m.vals)⟩]) :: bg flAt (fl ++ [⟨s2, m.form⟩]) :: bufAt pk m :: refAt qk r :: F) (K1 [.int .i64 ((i : Int) + 1)]) := by
      intro a b c
      have h9 := hK (i + 1, il ++ [⟨s1, s3, imgs m.form (lkp m.vals)⟩], fl ++ [⟨s2, m.form⟩], a, b, c) ⟨by show i + 1 ≤ 2; omega, by rw [List.length_append, e1]; rfl, by rw [List.length_append, e2]; rfl, fun x hx => ?_, fun x hx => ?_⟩ (by show 2 - (i + 1) < 2 - i; omega)
      · simp only [List.map_append, List.map_cons, List.map_nil, ← List.append_assoc] at h9
        exact inc h9
      · rcases List.mem_append.1 hx with hx | hx
        · exact hx1 x hx
        · rw [List.mem_singleton.1 hx]; show (imgs m.form (lkp m.vals)).length ≤ 16; omega
      · rcases List.mem_append.1 hx with hx | hx
        · exact hx2 x hx
        · rw [List.mem_singleton.1 hx]; exact hf
    have b1 : la.length + il.length ≤ 10002 := by omega
    have b2 : lb.length + il.length ≤ 10002 := by omega
    have b3 : lc.length + fl.length ≤ 10002 := by omega
    (repeat' (first | refine st ?_ | refine And.intro rfl ?_ | refine sc (by omega) ?_ | refine sc (by simp only [List.length_map, List.length_append, List.length_cons, List.length_nil, List.length_set, List.length_replicate, List.length_singleton] at *; omega) ?_ | refine sc (And.intro (by omega) trivial) ?_ | refine sc (And.intro rfl (Nat.le_of_ble_eq_true rfl)) ?_ | refine sc (And.intro (by simp only [List.length_map, List.length_append, List.length_cons, List.length_nil, List.length_set, List.length_replicate, List.length_singleton] at *; omega) trivial) ?_ | refine sc (by decide) ?_ | refine sc (fun _ => trivial) ?_ | refine And.intro (fun _ => rfl) ?_ | refine sc (fun _ => And.intro (by omega) trivial) ?_ | refine And.intro ?_ ?_ | refine fun (_ : Sl) => ?_ | refine fun (_ : Nat) => ?_))
    all_goals (refine p_front p fun a1 b1 c1 => ?_; exact inc (tail a1 b1 c1))
  · have hi2 : i = 2 := by omega
    subst hi2
    (repeat (first | refine st ?_ | refine And.intro rfl ?_ | refine sc (by omega) ?_ | refine sc (by simp only [List.length_map, List.length_append, List.length_cons, List.length_nil, List.length_set, List.length_replicate, List.length_singleton] at *; omega) ?_ | refine sc (And.intro (by omega) trivial) ?_ | refine sc (And.intro rfl (Nat.le_of_ble_eq_true rfl)) ?_ | refine sc (And.intro (by simp only [List.length_map, List.length_append, List.length_cons, List.length_nil, List.length_set, List.length_replicate, List.length_singleton] at *; omega) trivial) ?_ | refine sc (by decide) ?_ | refine sc (fun _ => trivial) ?_ | refine And.intro (fun _ => rfl) ?_ | refine sc (fun _ => And.intro (by omega) trivial) ?_))
    exact inc (h a b c il fl e1 e2 hx1 hx2)
theorem told1_ok {p pk qk : Nat} {bb rr : Arr 2 (Option Addr)} {a b c : Sl} {la lb lc : List Sl} {m : BM} {r : RB} {N : Nat} {K : Value → W} {F : List HProp} (hb : bb.get 1 = pt pk) (hr : rr.get 1 = pt qk) (hR : RelB m r N) (hN : N ≤ 1000) (l1 : la.length ≤ 10000) (l2 : lb.length ≤ 10000) (l3 : lc.length ≤ 10000)
    (h : ∀ a b c (il : List IL) (fl : List FL), il.length = 2 → fl.length = 2 → (∀ x ∈ il, x.xs.length ≤ 16) → (∀ x ∈ fl, x.xs.length ≤ 16) →
      Ent (vr p 33 S_wicketlaw16_pair.c ⟨bb, rr, a, b, c⟩ :: sl cSl 48 a (la ++ il.map (·.s)) :: sl cSl 48 b (lb ++ il.map (·.w)) :: sl cSl 22 c (lc ++ fl.map (·.s)) :: bg ilAt il :: bg flAt fl :: bufAt pk m :: refAt qk r :: F) (K (.bool true))) :
    Ent (vr p 33 S_wicketlaw16_pair.c ⟨bb, rr, a, b, c⟩ :: sl cSl 48 a la :: sl cSl 48 b lb :: sl cSl 22 c lc :: bufAt pk m :: refAt qk r :: F) (callC Try.prog 10 [.pointer (pt p), .int .i64 1] K) := by
  refine ent_mono ?_ fun w => nf10_ok
  unfold nf10
  have hf := hR.isf.most
  have hf2 : r.set.length ≤ 16 := by rw [← hR.form]; exact hf
  have hwl := hR.len
  have hil := imgs_le (form := m.form) (o := lkp m.vals)
  refine bg_nil ilAt (bg_nil flAt ?_)
  refine ent_loop (γ := Nat × List IL × List FL × Sl × Sl × Sl) (fun t => [.int .i64 t.1]) (fun t => bg flAt t.2.2.1 :: bg ilAt t.2.1 :: vr p 33 S_wicketlaw16_pair.c ⟨bb, rr, t.2.2.2.1, t.2.2.2.2.1, t.2.2.2.2.2⟩ :: sl cSl 48 t.2.2.2.1 (la ++ t.2.1.map (·.s)) :: sl cSl 48 t.2.2.2.2.1 (lb ++ t.2.1.map (·.w)) :: sl cSl 22 t.2.2.2.2.2 (lc ++ t.2.2.1.map (·.s)) :: bufAt pk m :: refAt qk r :: F)
    (fun t => t.1 ≤ 2 ∧ t.2.1.length = t.1 ∧ t.2.2.1.length = t.1 ∧ (∀ x ∈ t.2.1, x.xs.length ≤ 16) ∧ (∀ x ∈ t.2.2.1, x.xs.length ≤ 16)) (fun t => 2 - t.1) (0, [], [], a, b, c) rfl ⟨by simp, rfl, rfl, fun x hx => absurd hx List.not_mem_nil, fun x hx => absurd hx List.not_mem_nil⟩ ⟨fun _ hs => by simpa using hs⟩ ?_
  intro ⟨i, il, fl, a, b, c⟩ ⟨hi, e1, e2, hx1, hx2⟩ K1 j hK
  simp only [List.headD_cons] at *
  refine cs (fun h1 => ?_) (fun h1 => ?_)
  · (repeat (first | refine st ?_ | refine And.intro rfl ?_ | refine sc (by omega) ?_ | refine sc (by simp only [List.length_map, List.length_append, List.length_cons, List.length_nil, List.length_set, List.length_replicate, List.length_singleton] at *; omega) ?_ | refine sc (And.intro (by omega) trivial) ?_ | refine sc (And.intro rfl (Nat.le_of_ble_eq_true rfl)) ?_ | refine sc (And.intro (by simp only [List.length_map, List.length_append, List.length_cons, List.length_nil, List.length_set, List.length_replicate, List.length_singleton] at *; omega) trivial) ?_ | refine sc (by decide) ?_ | refine sc (fun _ => trivial) ?_ | refine And.intro (fun _ => rfl) ?_ | refine sc (fun _ => And.intro (by omega) trivial) ?_))
    rw [hb]
    refine ent_take (A := bufAt pk m) (images_ok hf fun s1 => ?_)
    (repeat (first | refine st ?_ | refine And.intro rfl ?_ | refine sc (by omega) ?_ | refine sc (by simp only [List.length_map, List.length_append, List.length_cons, List.length_nil, List.length_set, List.length_replicate, List.length_singleton] at *; omega) ?_ | refine sc (And.intro (by omega) trivial) ?_ | refine sc (And.intro rfl (Nat.le_of_ble_eq_true rfl)) ?_ | refine sc (And.intro (by simp only [List.length_map, List.length_append, List.length_cons, List.length_nil, List.length_set, List.length_replicate, List.length_singleton] at *; omega) trivial) ?_ | refine sc (by decide) ?_ | refine sc (fun _ => trivial) ?_ | refine And.intro (fun _ => rfl) ?_ | refine sc (fun _ => And.intro (by omega) trivial) ?_))
    refine And.intro (by show Value.pointer (pt pk) = Value.pointer (bb.get 1); rw [hb]) ?_
    refine ent_take (A := bufAt pk m) (form_ok hf fun s2 => ?_)
    (repeat (first | refine st ?_ | refine And.intro rfl ?_ | refine sc (by omega) ?_ | refine sc (by simp only [List.length_map, List.length_append, List.length_cons, List.length_nil, List.length_set, List.length_replicate, List.length_singleton] at *; omega) ?_ | refine sc (And.intro (by omega) trivial) ?_ | refine sc (And.intro rfl (Nat.le_of_ble_eq_true rfl)) ?_ | refine sc (And.intro (by simp only [List.length_map, List.length_append, List.length_cons, List.length_nil, List.length_set, List.length_replicate, List.length_singleton] at *; omega) trivial) ?_ | refine sc (by decide) ?_ | refine sc (fun _ => trivial) ?_ | refine And.intro (fun _ => rfl) ?_ | refine sc (fun _ => And.intro (by omega) trivial) ?_))
    rw [hr]
    refine ent_take (A := refAt qk r) (refImages_ok hf2 (by omega) fun s3 => ?_)
    rw [← hR.imgs]
    refine same16_ok (l1 := imgs m.form (lkp m.vals)) (l2 := imgs m.form (lkp m.vals)) (by omega) (fun _ => ?_) (fun hc => absurd rfl hc)
    (repeat (first | refine st ?_ | refine And.intro rfl ?_ | refine sc (by omega) ?_ | refine sc (by simp only [List.length_map, List.length_append, List.length_cons, List.length_nil, List.length_set, List.length_replicate, List.length_singleton] at *; omega) ?_ | refine sc (And.intro (by omega) trivial) ?_ | refine sc (And.intro rfl (Nat.le_of_ble_eq_true rfl)) ?_ | refine sc (And.intro (by simp only [List.length_map, List.length_append, List.length_cons, List.length_nil, List.length_set, List.length_replicate, List.length_singleton] at *; omega) trivial) ?_ | refine sc (by decide) ?_ | refine sc (fun _ => trivial) ?_ | refine And.intro (fun _ => rfl) ?_ | refine sc (fun _ => And.intro (by omega) trivial) ?_))
    rw [hr]
    refine ent_take (A := refAt qk r) (ref_open fun rs rw_ => ?_)
    (repeat (first | refine st ?_ | refine And.intro rfl ?_ | refine sc (by omega) ?_ | refine sc (by simp only [List.length_map, List.length_append, List.length_cons, List.length_nil, List.length_set, List.length_replicate, List.length_singleton] at *; omega) ?_ | refine sc (And.intro (by omega) trivial) ?_ | refine sc (And.intro rfl (Nat.le_of_ble_eq_true rfl)) ?_ | refine sc (And.intro (by simp only [List.length_map, List.length_append, List.length_cons, List.length_nil, List.length_set, List.length_replicate, List.length_singleton] at *; omega) trivial) ?_ | refine sc (by decide) ?_ | refine sc (fun _ => trivial) ?_ | refine And.intro (fun _ => rfl) ?_ | refine sc (fun _ => And.intro (by omega) trivial) ?_))
    refine same05_ok (l1 := m.form) (l2 := r.set) (by omega) (fun _ => ?_) (fun hc => absurd hR.form hc)
    (repeat (first | refine st ?_ | refine And.intro rfl ?_ | refine sc (by omega) ?_ | refine sc (by simp only [List.length_map, List.length_append, List.length_cons, List.length_nil, List.length_set, List.length_replicate, List.length_singleton] at *; omega) ?_ | refine sc (And.intro (by omega) trivial) ?_ | refine sc (And.intro rfl (Nat.le_of_ble_eq_true rfl)) ?_ | refine sc (And.intro (by simp only [List.length_map, List.length_append, List.length_cons, List.length_nil, List.length_set, List.length_replicate, List.length_singleton] at *; omega) trivial) ?_ | refine sc (by decide) ?_ | refine sc (fun _ => trivial) ?_ | refine And.intro (fun _ => rfl) ?_ | refine sc (fun _ => And.intro (by omega) trivial) ?_))
    rw [hb]
    refine ent_take (A := bufAt pk m) (len_ok ?_)
    (repeat (first | refine st ?_ | refine And.intro rfl ?_ | refine sc (by omega) ?_ | refine sc (by simp only [List.length_map, List.length_append, List.length_cons, List.length_nil, List.length_set, List.length_replicate, List.length_singleton] at *; omega) ?_ | refine sc (And.intro (by omega) trivial) ?_ | refine sc (And.intro rfl (Nat.le_of_ble_eq_true rfl)) ?_ | refine sc (And.intro (by simp only [List.length_map, List.length_append, List.length_cons, List.length_nil, List.length_set, List.length_replicate, List.length_singleton] at *; omega) trivial) ?_ | refine sc (by decide) ?_ | refine sc (fun _ => trivial) ?_ | refine And.intro (fun _ => rfl) ?_ | refine sc (fun _ => And.intro (by omega) trivial) ?_))
    refine ct (by rw [hR.count]) ?_
    refine ent_take (A := sl S_api_Image.c 58 rw_ r.writes) (ent_take (A := sl (cInt .i64) 3 rs r.set) (ent_take (A := vr qk 64 S_wicketref16_Buffer.c ⟨rs, rw_⟩) (ref_shut ?_)))
    refine ent_take (A := sl S_api_Image.c 58 s3 (imgs m.form (lkp m.vals))) (ent_take (A := sl S_api_Image.c 58 s1 (imgs m.form (lkp m.vals))) (il_shut (x := ⟨s1, s3, imgs m.form (lkp m.vals)⟩) (ent_take (A := bg ilAt il) (bg_snoc ?_))))
    refine ent_take (A := sl (cInt .i64) 3 s2 m.form) ?_
    change Ent (flAt ⟨s2, m.form⟩ :: _) _
    refine ent_take (A := bg flAt fl) (bg_snoc ?_)
    have tail : ∀ a b c, Ent (vr p 33 S_wicketlaw16_pair.c ⟨bb, rr, a, b, c⟩ :: sl cSl 48 a (la ++ il.map (·.s) ++ [s1]) :: sl cSl 48 b (lb ++ il.map (·.w) ++ [s3]) :: sl cSl 22 c (lc ++ fl.map (·.s) ++ [s2]) :: bg ilAt (il ++ [⟨s1, s3, imgs m.form (lkp m.vals)⟩]) :: bg flAt (fl ++ [⟨s2, m.form⟩]) :: bufAt pk m :: refAt qk r :: F) (K1 [.int .i64 ((i : Int) + 1)]) := by
      intro a b c
      have h9 := hK (i + 1, il ++ [⟨s1, s3, imgs m.form (lkp m.vals)⟩], fl ++ [⟨s2, m.form⟩], a, b, c) ⟨by show i + 1 ≤ 2; omega, by rw [List.length_append, e1]; rfl, by rw [List.length_append, e2]; rfl, fun x hx => ?_, fun x hx => ?_⟩ (by show 2 - (i + 1) < 2 - i; omega)
      · simp only [List.map_append, List.map_cons, List.map_nil, ← List.append_assoc] at h9
        exact inc h9
      · rcases List.mem_append.1 hx with hx | hx
        · exact hx1 x hx
        · rw [List.mem_singleton.1 hx]; show (imgs m.form (lkp m.vals)).length ≤ 16; omega
      · rcases List.mem_append.1 hx with hx | hx
        · exact hx2 x hx
        · rw [List.mem_singleton.1 hx]; exact hf
    have b1 : la.length + il.length ≤ 10002 := by omega
    have b2 : lb.length + il.length ≤ 10002 := by omega
    have b3 : lc.length + fl.length ≤ 10002 := by omega
    (repeat' (first | refine st ?_ | refine And.intro rfl ?_ | refine sc (by omega) ?_ | refine sc (by simp only [List.length_map, List.length_append, List.length_cons, List.length_nil, List.length_set, List.length_replicate, List.length_singleton] at *; omega) ?_ | refine sc (And.intro (by omega) trivial) ?_ | refine sc (And.intro rfl (Nat.le_of_ble_eq_true rfl)) ?_ | refine sc (And.intro (by simp only [List.length_map, List.length_append, List.length_cons, List.length_nil, List.length_set, List.length_replicate, List.length_singleton] at *; omega) trivial) ?_ | refine sc (by decide) ?_ | refine sc (fun _ => trivial) ?_ | refine And.intro (fun _ => rfl) ?_ | refine sc (fun _ => And.intro (by omega) trivial) ?_ | refine And.intro ?_ ?_ | refine fun (_ : Sl) => ?_ | refine fun (_ : Nat) => ?_))
    all_goals (refine p_front p fun a1 b1 c1 => ?_; exact inc (tail a1 b1 c1))
  · have hi2 : i = 2 := by omega
    subst hi2
    (repeat (first | refine st ?_ | refine And.intro rfl ?_ | refine sc (by omega) ?_ | refine sc (by simp only [List.length_map, List.length_append, List.length_cons, List.length_nil, List.length_set, List.length_replicate, List.length_singleton] at *; omega) ?_ | refine sc (And.intro (by omega) trivial) ?_ | refine sc (And.intro rfl (Nat.le_of_ble_eq_true rfl)) ?_ | refine sc (And.intro (by simp only [List.length_map, List.length_append, List.length_cons, List.length_nil, List.length_set, List.length_replicate, List.length_singleton] at *; omega) trivial) ?_ | refine sc (by decide) ?_ | refine sc (fun _ => trivial) ?_ | refine And.intro (fun _ => rfl) ?_ | refine sc (fun _ => And.intro (by omega) trivial) ?_))
    exact inc (h a b c il fl e1 e2 hx1 hx2)
end Go.Proofs.Ytlohgchklicmhaa
