/- Lists that are told apart: marked, grown, looked at. -/
import Derived.Test.YtlohgchklicmhaaBm
namespace Go.Proofs.Ytlohgchklicmhaa
set_option linter.unusedSimpArgs false
set_option linter.unusedVariables false
open Go.Dn
set_option linter.unusedSectionVars false
set_option synthInstance.maxSize 10000
set_option synthInstance.maxHeartbeats 400000
set_option maxHeartbeats 2000000
variable [sd : Side]
abbrev mk1I (i : Int) : S_api_Image := ⟨-1 - i, ⟨List.replicate 32 0, List.length_replicate⟩⟩
abbrev mk2I (i : Int) : S_api_Image := ⟨-1001 - i, ⟨List.replicate 32 0, List.length_replicate⟩⟩
def mlI (x : Sl × List S_api_Image) : HProp := sl S_api_Image.c 58 x.1 x.2
structure CHI where
  o : Sl
  n : Nat
  cur : Sl
  ws : List (Sl × Nat)
  i : Int
instance : Inhabited CHI := ⟨⟨Sl.nil, 0, Sl.nil, [], 0⟩⟩
def ysI (n : Nat) (i : Int) (k : Nat) : List S_api_Image := List.replicate n (mk1I i) ++ List.replicate k (mk2I i)
theorem ysI_len {n : Nat} {i : Int} {k : Nat} : (ysI n i k).length = n + k := by simp [ysI]
theorem ysI_succ {n : Nat} {i : Int} {k : Nat} : ysI n i (k + 1) = ysI n i k ++ [mk2I i] := by
  unfold ysI; rw [List.replicate_succ', List.append_assoc]
theorem ysI_take {n : Nat} {i : Int} {k : Nat} : (ysI n i k).take n = List.replicate n (mk1I i) := by
  unfold ysI; rw [List.take_append_of_le_length (by simp), List.take_of_length_le (by simp)]
def chI (g : CHI) : HProp := chn S_api_Image.c 58 g.cur (ysI g.n g.i 80) ((g.o, g.n) :: g.ws)
structure WSI (n : Nat) (k : Nat) (ws : List (Sl × Nat)) : Prop where
  len : ws.length = k
  at_ : ∀ j, j < k → j < 16 → (ws.getD j (Sl.nil, 0)).2 = n + j + 1
instance : Inhabited (Sl × List S_api_Image) := ⟨(Sl.nil, [])⟩
theorem markI_ok {a : Sl} {i : Nat} {s : Sl} {ls : List Sl} {l : List S_api_Image} {K : List Value → W} {F : List HProp} (hi : i < ls.length) (hi2 : i ≤ 100000) (hs : ls.getD i default = s) (hl : l.length ≤ 100000)
    (h : Ent (sl S_api_Image.c 58 s (List.replicate l.length (mk1I i)) :: sl cSl 48 a ls :: F) (K [.int .i64 (i + 1)])) :
    Ent (sl S_api_Image.c 58 s l :: sl cSl 48 a ls :: F) (nf12_1 K (sv a) (.int .i64 i)) := by
  unfold nf12_1
  refine ent_loop1 (γ := Nat × List S_api_Image) (fun t => [.int .i64 t.1]) (fun t => sl S_api_Image.c 58 s t.2) (fun t => t.1 ≤ l.length ∧ t.2.length = l.length ∧ t.2.take t.1 = List.replicate t.1 (mk1I i)) (fun t => l.length - t.1) (0, l) rfl ⟨by simp, rfl, by simp⟩ ?_
  intro ⟨k, t⟩ ⟨hk, ht, hr⟩ K1 j hK
  simp only [List.headD_cons] at *
  (repeat (first | refine st ?_ | refine And.intro rfl ?_ | refine sc (by omega) ?_ | refine sc (by simp only [List.length_map, List.length_append, List.length_cons, List.length_nil, List.length_set, List.length_replicate, List.length_singleton] at *; omega) ?_ | refine sc (And.intro (by omega) trivial) ?_ | refine sc (And.intro rfl (Nat.le_of_ble_eq_true rfl)) ?_ | refine sc (And.intro (by simp only [List.length_map, List.length_append, List.length_cons, List.length_nil, List.length_set, List.length_replicate, List.length_singleton] at *; omega) trivial) ?_ | refine sc (by decide) ?_ | refine sc (fun _ => trivial) ?_ | refine And.intro (fun _ => rfl) ?_ | refine sc (fun _ => And.intro (by omega) trivial) ?_))
  rw [hs]
  (repeat (first | refine st ?_ | refine And.intro rfl ?_ | refine sc (by omega) ?_ | refine sc (by simp only [List.length_map, List.length_append, List.length_cons, List.length_nil, List.length_set, List.length_replicate, List.length_singleton] at *; omega) ?_ | refine sc (And.intro (by omega) trivial) ?_ | refine sc (And.intro rfl (Nat.le_of_ble_eq_true rfl)) ?_ | refine sc (And.intro (by simp only [List.length_map, List.length_append, List.length_cons, List.length_nil, List.length_set, List.length_replicate, List.length_singleton] at *; omega) trivial) ?_ | refine sc (by decide) ?_ | refine sc (fun _ => trivial) ?_ | refine And.intro (fun _ => rfl) ?_ | refine sc (fun _ => And.intro (by omega) trivial) ?_))
  refine cs (fun h1 => ?_) (fun h1 => ?_)
  · (repeat (first | refine st ?_ | refine And.intro rfl ?_ | refine sc (by omega) ?_ | refine sc (by simp only [List.length_map, List.length_append, List.length_cons, List.length_nil, List.length_set, List.length_replicate, List.length_singleton] at *; omega) ?_ | refine sc (And.intro (by omega) trivial) ?_ | refine sc (And.intro rfl (Nat.le_of_ble_eq_true rfl)) ?_ | refine sc (And.intro (by simp only [List.length_map, List.length_append, List.length_cons, List.length_nil, List.length_set, List.length_replicate, List.length_singleton] at *; omega) trivial) ?_ | refine sc (by decide) ?_ | refine sc (fun _ => trivial) ?_ | refine And.intro (fun _ => rfl) ?_ | refine sc (fun _ => And.intro (by omega) trivial) ?_))
    rw [hs]
    (repeat (first | refine st ?_ | refine And.intro rfl ?_ | refine sc (by omega) ?_ | refine sc (by simp only [List.length_map, List.length_append, List.length_cons, List.length_nil, List.length_set, List.length_replicate, List.length_singleton] at *; omega) ?_ | refine sc (And.intro (by omega) trivial) ?_ | refine sc (And.intro rfl (Nat.le_of_ble_eq_true rfl)) ?_ | refine sc (And.intro (by simp only [List.length_map, List.length_append, List.length_cons, List.length_nil, List.length_set, List.length_replicate, List.length_singleton] at *; omega) trivial) ?_ | refine sc (by decide) ?_ | refine sc (fun _ => trivial) ?_ | refine And.intro (fun _ => rfl) ?_ | refine sc (fun _ => And.intro (by omega) trivial) ?_))
    exact hK (k + 1, t.set k (mk1I i)) ⟨by show k + 1 ≤ _; omega, by rw [List.length_set]; exact ht, take_set_rep hr (by omega)⟩ (by show _ - (k + 1) < _; omega)
  · (repeat (first | refine st ?_ | refine And.intro rfl ?_ | refine sc (by omega) ?_ | refine sc (by simp only [List.length_map, List.length_append, List.length_cons, List.length_nil, List.length_set, List.length_replicate, List.length_singleton] at *; omega) ?_ | refine sc (And.intro (by omega) trivial) ?_ | refine sc (And.intro rfl (Nat.le_of_ble_eq_true rfl)) ?_ | refine sc (And.intro (by simp only [List.length_map, List.length_append, List.length_cons, List.length_nil, List.length_set, List.length_replicate, List.length_singleton] at *; omega) trivial) ?_ | refine sc (by decide) ?_ | refine sc (fun _ => trivial) ?_ | refine And.intro (fun _ => rfl) ?_ | refine sc (fun _ => And.intro (by omega) trivial) ?_))
    have hkl : k = l.length := by omega
    subst hkl
    rw [← ht, List.take_length, ht] at hr
    rw [hr]
    exact h
theorem growI_ok {i : Nat} {o lg : Sl} {n : Nat} {L0 : List Sl} {K : List Value → W} {F : List HProp} (hn : n ≤ 100000) (hi : i ≤ 100000) (hL : L0.length ≤ 2000000)
    (h : ∀ cur lg' ws, WSI n 17 ws → (ws.getD 16 (Sl.nil, 0)).2 = n + 80 → Ent (sl cSl 48 lg' (L0 ++ ws.map (·.1)) :: chI ⟨o, n, cur, ws, i⟩ :: F) (K [sv lg', .int .i64 (i + 1)])) :
    Ent (sl S_api_Image.c 58 o (List.replicate n (mk1I i)) :: sl cSl 48 lg L0 :: F) (nf12_3 K (sv o) (sv lg) (.int .i64 i)) := by
  unfold nf12_3
  refine chn_mk (chn_note ?_)
  have e0 : List.replicate n (mk1I i) = ysI n i 0 := by simp [ysI]
  rw [e0, ysI_len, List.nil_append]
  refine ent_loop (γ := Sl × Sl × Nat × List (Sl × Nat)) (fun t => [sv t.1, sv t.2.1, .int .i64 t.2.2.1]) (fun t => chn S_api_Image.c 58 t.2.1 (ysI n i t.2.2.1) ((o, n) :: t.2.2.2) :: sl cSl 48 t.1 (L0 ++ t.2.2.2.map (·.1)) :: F)
    (fun t => t.2.2.1 ≤ 80 ∧ WSI n (min t.2.2.1 16) t.2.2.2) (fun t => 80 - t.2.2.1) (lg, o, 0, []) rfl ⟨by simp, by simp, fun j hj => by simp at hj⟩ ⟨fun _ hs => by simpa using hs⟩ ?_
  intro ⟨lg', cur, k, ws⟩ ⟨hk, hw⟩ K1 j hK
  simp only [List.headD_cons, List.tail_cons] at *
  have hwl := hw.len
  have hwb : L0.length + ws.length ≤ 3000000 := by omega
  refine cs (fun h1 => ?_) (fun h1 => ?_)
  · (repeat (first | refine st ?_ | refine And.intro rfl ?_ | refine sc (by omega) ?_ | refine sc (by simp only [List.length_map, List.length_append, List.length_cons, List.length_nil, List.length_set, List.length_replicate, List.length_singleton] at *; omega) ?_ | refine sc (And.intro (by omega) trivial) ?_ | refine sc (And.intro rfl (Nat.le_of_ble_eq_true rfl)) ?_ | refine sc (And.intro (by simp only [List.length_map, List.length_append, List.length_cons, List.length_nil, List.length_set, List.length_replicate, List.length_singleton] at *; omega) trivial) ?_ | refine sc (by decide) ?_ | refine sc (fun _ => trivial) ?_ | refine And.intro (fun _ => rfl) ?_ | refine sc (fun _ => And.intro (by omega) trivial) ?_))
    intro s2
    refine ent_take (A := chn S_api_Image.c 58 cur (ysI n i k) ((o, n) :: ws)) (chn_append (zs := [mk2I i]) (by rw [ysI_len, List.length_singleton]; omega) fun s3 => ?_)
    rw [← ysI_succ]
    refine cs (fun h2 => ?_) (fun h2 => ?_)
    · (repeat (first | refine st ?_ | refine And.intro rfl ?_ | refine sc (by omega) ?_ | refine sc (by simp only [List.length_map, List.length_append, List.length_cons, List.length_nil, List.length_set, List.length_replicate, List.length_singleton] at *; omega) ?_ | refine sc (And.intro (by omega) trivial) ?_ | refine sc (And.intro rfl (Nat.le_of_ble_eq_true rfl)) ?_ | refine sc (And.intro (by simp only [List.length_map, List.length_append, List.length_cons, List.length_nil, List.length_set, List.length_replicate, List.length_singleton] at *; omega) trivial) ?_ | refine sc (by decide) ?_ | refine sc (fun _ => trivial) ?_ | refine And.intro (fun _ => rfl) ?_ | refine sc (fun _ => And.intro (by omega) trivial) ?_))
      intro s4
      refine ent_take (A := chn S_api_Image.c 58 s3 (ysI n i (k + 1)) ((o, n) :: ws)) (chn_note ?_)
      rw [ysI_len, List.cons_append]
      (repeat (first | refine st ?_ | refine And.intro rfl ?_ | refine sc (by omega) ?_ | refine sc (by simp only [List.length_map, List.length_append, List.length_cons, List.length_nil, List.length_set, List.length_replicate, List.length_singleton] at *; omega) ?_ | refine sc (And.intro (by omega) trivial) ?_ | refine sc (And.intro rfl (Nat.le_of_ble_eq_true rfl)) ?_ | refine sc (And.intro (by simp only [List.length_map, List.length_append, List.length_cons, List.length_nil, List.length_set, List.length_replicate, List.length_singleton] at *; omega) trivial) ?_ | refine sc (by decide) ?_ | refine sc (fun _ => trivial) ?_ | refine And.intro (fun _ => rfl) ?_ | refine sc (fun _ => And.intro (by omega) trivial) ?_))
      intro s5
      unfold nf12_2
      (repeat (first | refine st ?_ | refine And.intro rfl ?_ | refine sc (by omega) ?_ | refine sc (by simp only [List.length_map, List.length_append, List.length_cons, List.length_nil, List.length_set, List.length_replicate, List.length_singleton] at *; omega) ?_ | refine sc (And.intro (by omega) trivial) ?_ | refine sc (And.intro rfl (Nat.le_of_ble_eq_true rfl)) ?_ | refine sc (And.intro (by simp only [List.length_map, List.length_append, List.length_cons, List.length_nil, List.length_set, List.length_replicate, List.length_singleton] at *; omega) trivial) ?_ | refine sc (by decide) ?_ | refine sc (fun _ => trivial) ?_ | refine And.intro (fun _ => rfl) ?_ | refine sc (fun _ => And.intro (by omega) trivial) ?_))
      have h9 := hK (s5, s3, k + 1, ws ++ [(s3, n + (k + 1))]) ⟨by show k + 1 ≤ 80; omega, by rw [List.length_append, List.length_singleton, hwl]; show min k 16 + 1 = min (k + 1) 16; omega, fun j hj1 hj2 => ?_⟩ (by show 80 - (k + 1) < 80 - k; omega)
      · simp only [List.map_append, List.map_cons, List.map_nil, ← List.append_assoc] at h9
        exact inc h9
      · simp only at hj1 ⊢
        by_cases hj : j < k
        · rw [getD_app_l (by omega)]; exact hw.at_ j (by omega) hj2
        · have : j = k := by omega
          subst this
          rw [getD_app_r (by omega), hwl, show j - min j 16 = 0 from by omega]
          show n + (j + 1) = n + j + 1
          omega
    · unfold nf12_2
      (repeat (first | refine st ?_ | refine And.intro rfl ?_ | refine sc (by omega) ?_ | refine sc (by simp only [List.length_map, List.length_append, List.length_cons, List.length_nil, List.length_set, List.length_replicate, List.length_singleton] at *; omega) ?_ | refine sc (And.intro (by omega) trivial) ?_ | refine sc (And.intro rfl (Nat.le_of_ble_eq_true rfl)) ?_ | refine sc (And.intro (by simp only [List.length_map, List.length_append, List.length_cons, List.length_nil, List.length_set, List.length_replicate, List.length_singleton] at *; omega) trivial) ?_ | refine sc (by decide) ?_ | refine sc (fun _ => trivial) ?_ | refine And.intro (fun _ => rfl) ?_ | refine sc (fun _ => And.intro (by omega) trivial) ?_))
      have h9 := hK (lg', s3, k + 1, ws) ⟨by show k + 1 ≤ 80; omega, by show ws.length = min (k + 1) 16; omega, fun j hj1 hj2 => hw.at_ j (by simp only at hj1; omega) hj2⟩ (by show 80 - (k + 1) < 80 - k; omega)
      exact inc h9
  · have hk80 : k = 80 := by omega
    subst hk80
    refine chn_note ?_
    rw [ysI_len, List.cons_append]
    (repeat (first | refine st ?_ | refine And.intro rfl ?_ | refine sc (by omega) ?_ | refine sc (by simp only [List.length_map, List.length_append, List.length_cons, List.length_nil, List.length_set, List.length_replicate, List.length_singleton] at *; omega) ?_ | refine sc (And.intro (by omega) trivial) ?_ | refine sc (And.intro rfl (Nat.le_of_ble_eq_true rfl)) ?_ | refine sc (And.intro (by simp only [List.length_map, List.length_append, List.length_cons, List.length_nil, List.length_set, List.length_replicate, List.length_singleton] at *; omega) trivial) ?_ | refine sc (by decide) ?_ | refine sc (fun _ => trivial) ?_ | refine And.intro (fun _ => rfl) ?_ | refine sc (fun _ => And.intro (by omega) trivial) ?_))
    intro s4
    (repeat (first | refine st ?_ | refine And.intro rfl ?_ | refine sc (by omega) ?_ | refine sc (by simp only [List.length_map, List.length_append, List.length_cons, List.length_nil, List.length_set, List.length_replicate, List.length_singleton] at *; omega) ?_ | refine sc (And.intro (by omega) trivial) ?_ | refine sc (And.intro rfl (Nat.le_of_ble_eq_true rfl)) ?_ | refine sc (And.intro (by simp only [List.length_map, List.length_append, List.length_cons, List.length_nil, List.length_set, List.length_replicate, List.length_singleton] at *; omega) trivial) ?_ | refine sc (by decide) ?_ | refine sc (fun _ => trivial) ?_ | refine And.intro (fun _ => rfl) ?_ | refine sc (fun _ => And.intro (by omega) trivial) ?_))
    intro s5
    (repeat (first | refine st ?_ | refine And.intro rfl ?_ | refine sc (by omega) ?_ | refine sc (by simp only [List.length_map, List.length_append, List.length_cons, List.length_nil, List.length_set, List.length_replicate, List.length_singleton] at *; omega) ?_ | refine sc (And.intro (by omega) trivial) ?_ | refine sc (And.intro rfl (Nat.le_of_ble_eq_true rfl)) ?_ | refine sc (And.intro (by simp only [List.length_map, List.length_append, List.length_cons, List.length_nil, List.length_set, List.length_replicate, List.length_singleton] at *; omega) trivial) ?_ | refine sc (by decide) ?_ | refine sc (fun _ => trivial) ?_ | refine And.intro (fun _ => rfl) ?_ | refine sc (fun _ => And.intro (by omega) trivial) ?_))
    have h9 := h cur s5 (ws ++ [(cur, n + 80)]) ⟨by rw [List.length_append, hwl]; rfl, fun j hj1 hj2 => by rw [getD_app_l (by omega)]; exact hw.at_ j (by omega) hj2⟩ (by rw [getD_app_r (by omega), hwl]; rfl)
    simp only [chI, List.map_append, List.map_cons, List.map_nil, ← List.append_assoc] at h9
    exact inc h9
theorem flat17I : ∀ {gs : List CHI} {i g : Nat} (_ : ∀ x ∈ gs, x.ws.length = 17) (_ : i < gs.length) (_ : g < 17), (gs.flatMap fun x => x.ws.map (·.1)).getD (17 * i + g) default = ((gs.getD i default).ws.getD g (Sl.nil, 0)).1
  | x :: gs, 0, g, hx, _, hg => by
    rw [List.flatMap_cons, getD_app_l (by rw [List.length_map, hx x (.head _)]; omega), Nat.mul_zero, Nat.zero_add]
    show _ = (x.ws.getD g (Sl.nil, 0)).1
    have := hx x (.head _)
    simp only [List.getD_eq_getElem?_getD, List.getElem?_map]
    rw [List.getElem?_eq_getElem (by omega)]
    rfl
  | x :: gs, i + 1, g, hx, hi, hg => by
    have h1 := hx x (.head _)
    rw [List.flatMap_cons, getD_app_r (by rw [List.length_map, h1]; omega), List.length_map, h1, show 17 * (i + 1) + g - 17 = 17 * i + g from by omega]
    exact flat17I (gs := gs) (fun y hy => hx y (.tail _ hy)) (by simpa using hi) hg
theorem lookI_ok {a lg : Sl} {i : Nat} {ls ns : List Sl} {g : CHI} {K : List Value → W} {R : Value → W} {F : List HProp} (hi : i < ls.length) (hi2 : i ≤ 100000) (ho : ls.getD i default = g.o) (hns : ns.length = 17 * ls.length) (hn : ∀ q, q < 17 → ns.getD (17 * i + q) default = (g.ws.getD q (Sl.nil, 0)).1)
    (hk : g.n ≤ 100000) (hg : g.i = (i : Int)) (hw : WSI g.n 17 g.ws) (hw2 : (g.ws.getD 16 (Sl.nil, 0)).2 = g.n + 80) (h : Ent (chI g :: sl cSl 48 a ls :: sl cSl 48 lg ns :: F) (K [.int .i64 (i + 1)])) :
    Ent (chI g :: sl cSl 48 a ls :: sl cSl 48 lg ns :: F) (nf12_6 K R (sv a) (sv lg) (.int .i64 i)) := by
  obtain ⟨o, n, cur, ws, gi⟩ := g
  simp only at *
  subst hg
  change Ent (chn S_api_Image.c 58 cur (ysI n i 80) ((o, n) :: ws) :: _) _ at h
  change Ent (chn S_api_Image.c 58 cur (ysI n i 80) ((o, n) :: ws) :: _) _
  have io : ∀ L, Rs (chn S_api_Image.c 58 cur (ysI n i 80) ((o, n) :: ws) :: L) o S_api_Image.c (List.replicate n (mk1I i)) := fun L => by
    have := chn_rs (c := S_api_Image.c) (e := 58) (cur := cur) (ys := ysI n i 80) (vs := (o, n) :: ws) (L := L) (x := (o, n)) (.head _)
    rw [ysI_take] at this
    exact this
  unfold nf12_6
  refine ent_loop0 (γ := Nat) (fun t => [.int .i64 t]) (fun t => t ≤ n) (fun t => n - t) 0 rfl (by omega) ?_
  intro t ht K1 j hK
  simp only [List.headD_cons] at *
  (repeat (first | refine st ?_ | refine And.intro rfl ?_ | refine sc (by omega) ?_ | refine sc (by simp only [List.length_map, List.length_append, List.length_cons, List.length_nil, List.length_set, List.length_replicate, List.length_singleton] at *; omega) ?_ | refine sc (And.intro (by omega) trivial) ?_ | refine sc (And.intro rfl (Nat.le_of_ble_eq_true rfl)) ?_ | refine sc (And.intro (by simp only [List.length_map, List.length_append, List.length_cons, List.length_nil, List.length_set, List.length_replicate, List.length_singleton] at *; omega) trivial) ?_ | refine sc (by decide) ?_ | refine sc (fun _ => trivial) ?_ | refine And.intro (fun _ => rfl) ?_ | refine sc (fun _ => And.intro (by omega) trivial) ?_))
  rw [ho]
  (repeat (first | refine st ?_ | refine And.intro rfl ?_ | refine sc (by omega) ?_ | refine sc (by simp only [List.length_map, List.length_append, List.length_cons, List.length_nil, List.length_set, List.length_replicate, List.length_singleton] at *; omega) ?_ | refine sc (And.intro (by omega) trivial) ?_ | refine sc (And.intro rfl (Nat.le_of_ble_eq_true rfl)) ?_ | refine sc (And.intro (by simp only [List.length_map, List.length_append, List.length_cons, List.length_nil, List.length_set, List.length_replicate, List.length_singleton] at *; omega) trivial) ?_ | refine sc (by decide) ?_ | refine sc (fun _ => trivial) ?_ | refine And.intro (fun _ => rfl) ?_ | refine sc (fun _ => And.intro (by omega) trivial) ?_))
  refine cs (fun h1 => ?_) (fun h1 => ?_)
  · simp only [List.length_replicate] at h1
    (repeat (first | refine st ?_ | refine And.intro rfl ?_ | refine sc (by omega) ?_ | refine sc (by simp only [List.length_map, List.length_append, List.length_cons, List.length_nil, List.length_set, List.length_replicate, List.length_singleton] at *; omega) ?_ | refine sc (And.intro (by omega) trivial) ?_ | refine sc (And.intro rfl (Nat.le_of_ble_eq_true rfl)) ?_ | refine sc (And.intro (by simp only [List.length_map, List.length_append, List.length_cons, List.length_nil, List.length_set, List.length_replicate, List.length_singleton] at *; omega) trivial) ?_ | refine sc (by decide) ?_ | refine sc (fun _ => trivial) ?_ | refine And.intro (fun _ => rfl) ?_ | refine sc (fun _ => And.intro (by omega) trivial) ?_))
    rw [ho]
    (repeat (first | refine st ?_ | refine And.intro rfl ?_ | refine sc (by omega) ?_ | refine sc (by simp only [List.length_map, List.length_append, List.length_cons, List.length_nil, List.length_set, List.length_replicate, List.length_singleton] at *; omega) ?_ | refine sc (And.intro (by omega) trivial) ?_ | refine sc (And.intro rfl (Nat.le_of_ble_eq_true rfl)) ?_ | refine sc (And.intro (by simp only [List.length_map, List.length_append, List.length_cons, List.length_nil, List.length_set, List.length_replicate, List.length_singleton] at *; omega) trivial) ?_ | refine sc (by decide) ?_ | refine sc (fun _ => trivial) ?_ | refine And.intro (fun _ => rfl) ?_ | refine sc (fun _ => And.intro (by omega) trivial) ?_))
    rw [getD_rep (by omega)]
    (repeat (first | refine st ?_ | refine And.intro rfl ?_ | refine sc (by omega) ?_ | refine sc (by simp only [List.length_map, List.length_append, List.length_cons, List.length_nil, List.length_set, List.length_replicate, List.length_singleton] at *; omega) ?_ | refine sc (And.intro (by omega) trivial) ?_ | refine sc (And.intro rfl (Nat.le_of_ble_eq_true rfl)) ?_ | refine sc (And.intro (by simp only [List.length_map, List.length_append, List.length_cons, List.length_nil, List.length_set, List.length_replicate, List.length_singleton] at *; omega) trivial) ?_ | refine sc (by decide) ?_ | refine sc (fun _ => trivial) ?_ | refine And.intro (fun _ => rfl) ?_ | refine sc (fun _ => And.intro (by omega) trivial) ?_))
    refine ct rfl ?_
    (repeat (first | refine st ?_ | refine And.intro rfl ?_ | refine sc (by omega) ?_ | refine sc (by simp only [List.length_map, List.length_append, List.length_cons, List.length_nil, List.length_set, List.length_replicate, List.length_singleton] at *; omega) ?_ | refine sc (And.intro (by omega) trivial) ?_ | refine sc (And.intro rfl (Nat.le_of_ble_eq_true rfl)) ?_ | refine sc (And.intro (by simp only [List.length_map, List.length_append, List.length_cons, List.length_nil, List.length_set, List.length_replicate, List.length_singleton] at *; omega) trivial) ?_ | refine sc (by decide) ?_ | refine sc (fun _ => trivial) ?_ | refine And.intro (fun _ => rfl) ?_ | refine sc (fun _ => And.intro (by omega) trivial) ?_))
    exact hK (t + 1) (by omega) (by omega)
  · clear hK
    unfold nf12_5
    (repeat (first | refine st ?_ | refine And.intro rfl ?_ | refine sc (by omega) ?_ | refine sc (by simp only [List.length_map, List.length_append, List.length_cons, List.length_nil, List.length_set, List.length_replicate, List.length_singleton] at *; omega) ?_ | refine sc (And.intro (by omega) trivial) ?_ | refine sc (And.intro rfl (Nat.le_of_ble_eq_true rfl)) ?_ | refine sc (And.intro (by simp only [List.length_map, List.length_append, List.length_cons, List.length_nil, List.length_set, List.length_replicate, List.length_singleton] at *; omega) trivial) ?_ | refine sc (by decide) ?_ | refine sc (fun _ => trivial) ?_ | refine And.intro (fun _ => rfl) ?_ | refine sc (fun _ => And.intro (by omega) trivial) ?_))
    refine ent_loop0 (γ := Nat) (fun t => [.int .i64 t]) (fun t => t ≤ 17) (fun t => 17 - t) 0 rfl (by omega) ?_
    intro q hq K2 j2 hK
    simp only [List.headD_cons] at *
    refine cs (fun h2 => ?_) (fun h2 => ?_)
    · have e1 : ((17 : Int) * i + q).toNat = 17 * i + q := by omega
      (repeat (first | refine st ?_ | refine And.intro rfl ?_ | refine sc (by omega) ?_ | refine sc (by simp only [List.length_map, List.length_append, List.length_cons, List.length_nil, List.length_set, List.length_replicate, List.length_singleton] at *; omega) ?_ | refine sc (And.intro (by omega) trivial) ?_ | refine sc (And.intro rfl (Nat.le_of_ble_eq_true rfl)) ?_ | refine sc (And.intro (by simp only [List.length_map, List.length_append, List.length_cons, List.length_nil, List.length_set, List.length_replicate, List.length_singleton] at *; omega) trivial) ?_ | refine sc (by decide) ?_ | refine sc (fun _ => trivial) ?_ | refine And.intro (fun _ => rfl) ?_ | refine sc (fun _ => And.intro (by omega) trivial) ?_))
      rw [e1, hn q (by omega)]
      (repeat (first | refine st ?_ | refine And.intro rfl ?_ | refine sc (by omega) ?_ | refine sc (by simp only [List.length_map, List.length_append, List.length_cons, List.length_nil, List.length_set, List.length_replicate, List.length_singleton] at *; omega) ?_ | refine sc (And.intro (by omega) trivial) ?_ | refine sc (And.intro rfl (Nat.le_of_ble_eq_true rfl)) ?_ | refine sc (And.intro (by simp only [List.length_map, List.length_append, List.length_cons, List.length_nil, List.length_set, List.length_replicate, List.length_singleton] at *; omega) trivial) ?_ | refine sc (by decide) ?_ | refine sc (fun _ => trivial) ?_ | refine And.intro (fun _ => rfl) ?_ | refine sc (fun _ => And.intro (by omega) trivial) ?_))
      rw [ho]
      (repeat (first | refine st ?_ | refine And.intro rfl ?_ | refine sc (by omega) ?_ | refine sc (by simp only [List.length_map, List.length_append, List.length_cons, List.length_nil, List.length_set, List.length_replicate, List.length_singleton] at *; omega) ?_ | refine sc (And.intro (by omega) trivial) ?_ | refine sc (And.intro rfl (Nat.le_of_ble_eq_true rfl)) ?_ | refine sc (And.intro (by simp only [List.length_map, List.length_append, List.length_cons, List.length_nil, List.length_set, List.length_replicate, List.length_singleton] at *; omega) trivial) ?_ | refine sc (by decide) ?_ | refine sc (fun _ => trivial) ?_ | refine And.intro (fun _ => rfl) ?_ | refine sc (fun _ => And.intro (by omega) trivial) ?_))
      have hmem : ws.getD q (Sl.nil, 0) ∈ ws := by
        rw [List.getD_eq_getElem?_getD, List.getElem?_eq_getElem (by have := hw.len; omega)]
        exact List.getElem_mem _
      have hlen : n ≤ (ws.getD q (Sl.nil, 0)).2 ∧ (ws.getD q (Sl.nil, 0)).2 ≤ n + 80 := by
        by_cases hq16 : q < 16
        · rw [hw.at_ q (by omega) hq16]; omega
        · have : q = 16 := by omega
          subst this; omega
      generalize hx : ws.getD q (Sl.nil, 0) = x at *
      have ix : ∀ L, Rs (chn S_api_Image.c 58 cur (ysI n i 80) ((o, n) :: ws) :: L) x.1 S_api_Image.c ((ysI n i 80).take x.2) := fun L => chn_rs (.tail _ hmem)
      have hl2 : ((ysI n i 80).take x.2).length = x.2 := by rw [List.length_take, ysI_len]; omega
      unfold nf12_4
      refine ent_loop0 (γ := Nat) (fun t => [.int .i64 ((n + t : Nat) : Int)]) (fun t => n + t ≤ x.2) (fun t => x.2 - t) 0 (by rw [Nat.add_zero, List.length_replicate]) (by omega) ?_
      intro t ht K3 j3 hK3
      simp only [List.headD_cons] at *
      (repeat (first | refine st ?_ | refine And.intro rfl ?_ | refine sc (by omega) ?_ | refine sc (by simp only [List.length_map, List.length_append, List.length_cons, List.length_nil, List.length_set, List.length_replicate, List.length_singleton] at *; omega) ?_ | refine sc (And.intro (by omega) trivial) ?_ | refine sc (And.intro rfl (Nat.le_of_ble_eq_true rfl)) ?_ | refine sc (And.intro (by simp only [List.length_map, List.length_append, List.length_cons, List.length_nil, List.length_set, List.length_replicate, List.length_singleton] at *; omega) trivial) ?_ | refine sc (by decide) ?_ | refine sc (fun _ => trivial) ?_ | refine And.intro (fun _ => rfl) ?_ | refine sc (fun _ => And.intro (by omega) trivial) ?_))
      refine cs (fun h3 => ?_) (fun h3 => ?_) <;> rw [hl2] at h3
      · (repeat (first | refine st ?_ | refine And.intro rfl ?_ | refine sc (by omega) ?_ | refine sc (by simp only [List.length_map, List.length_append, List.length_cons, List.length_nil, List.length_set, List.length_replicate, List.length_singleton] at *; omega) ?_ | refine sc (And.intro (by omega) trivial) ?_ | refine sc (And.intro rfl (Nat.le_of_ble_eq_true rfl)) ?_ | refine sc (And.intro (by simp only [List.length_map, List.length_append, List.length_cons, List.length_nil, List.length_set, List.length_replicate, List.length_singleton] at *; omega) trivial) ?_ | refine sc (by decide) ?_ | refine sc (fun _ => trivial) ?_ | refine And.intro (fun _ => rfl) ?_ | refine sc (fun _ => And.intro (by omega) trivial) ?_))
        have e2 : ((ysI n i 80).take x.2).getD (n + t) default = mk2I i := by
          rw [getD_take (by omega)]
          unfold ysI
          rw [getD_app_r (by simp), getD_rep (by simp; omega)]
        rw [e2]
        (repeat (first | refine st ?_ | refine And.intro rfl ?_ | refine sc (by omega) ?_ | refine sc (by simp only [List.length_map, List.length_append, List.length_cons, List.length_nil, List.length_set, List.length_replicate, List.length_singleton] at *; omega) ?_ | refine sc (And.intro (by omega) trivial) ?_ | refine sc (And.intro rfl (Nat.le_of_ble_eq_true rfl)) ?_ | refine sc (And.intro (by simp only [List.length_map, List.length_append, List.length_cons, List.length_nil, List.length_set, List.length_replicate, List.length_singleton] at *; omega) trivial) ?_ | refine sc (by decide) ?_ | refine sc (fun _ => trivial) ?_ | refine And.intro (fun _ => rfl) ?_ | refine sc (fun _ => And.intro (by omega) trivial) ?_))
        refine ct rfl ?_
        (repeat (first | refine st ?_ | refine And.intro rfl ?_ | refine sc (by omega) ?_ | refine sc (by simp only [List.length_map, List.length_append, List.length_cons, List.length_nil, List.length_set, List.length_replicate, List.length_singleton] at *; omega) ?_ | refine sc (And.intro (by omega) trivial) ?_ | refine sc (And.intro rfl (Nat.le_of_ble_eq_true rfl)) ?_ | refine sc (And.intro (by simp only [List.length_map, List.length_append, List.length_cons, List.length_nil, List.length_set, List.length_replicate, List.length_singleton] at *; omega) trivial) ?_ | refine sc (by decide) ?_ | refine sc (fun _ => trivial) ?_ | refine And.intro (fun _ => rfl) ?_ | refine sc (fun _ => And.intro (by omega) trivial) ?_))
        have h9 := hK3 (t + 1) (by omega) (by omega)
        rw [show ((n + (t + 1) : Nat) : Int) = ((n + t : Nat) : Int) + 1 from by omega] at h9
        exact h9
      · (repeat (first | refine st ?_ | refine And.intro rfl ?_ | refine sc (by omega) ?_ | refine sc (by simp only [List.length_map, List.length_append, List.length_cons, List.length_nil, List.length_set, List.length_replicate, List.length_singleton] at *; omega) ?_ | refine sc (And.intro (by omega) trivial) ?_ | refine sc (And.intro rfl (Nat.le_of_ble_eq_true rfl)) ?_ | refine sc (And.intro (by simp only [List.length_map, List.length_append, List.length_cons, List.length_nil, List.length_set, List.length_replicate, List.length_singleton] at *; omega) trivial) ?_ | refine sc (by decide) ?_ | refine sc (fun _ => trivial) ?_ | refine And.intro (fun _ => rfl) ?_ | refine sc (fun _ => And.intro (by omega) trivial) ?_))
        exact hK (q + 1) (by omega) (by omega)
    · (repeat (first | refine st ?_ | refine And.intro rfl ?_ | refine sc (by omega) ?_ | refine sc (by simp only [List.length_map, List.length_append, List.length_cons, List.length_nil, List.length_set, List.length_replicate, List.length_singleton] at *; omega) ?_ | refine sc (And.intro (by omega) trivial) ?_ | refine sc (And.intro rfl (Nat.le_of_ble_eq_true rfl)) ?_ | refine sc (And.intro (by simp only [List.length_map, List.length_append, List.length_cons, List.length_nil, List.length_set, List.length_replicate, List.length_singleton] at *; omega) trivial) ?_ | refine sc (by decide) ?_ | refine sc (fun _ => trivial) ?_ | refine And.intro (fun _ => rfl) ?_ | refine sc (fun _ => And.intro (by omega) trivial) ?_))
      exact h
theorem looksI_ok {a lg : Sl} {ls ns : List Sl} {gs : List CHI} {R : Value → W} {F : List HProp} (hls : gs.map (·.o) = ls) (hns : ns = gs.flatMap fun x => x.ws.map (·.1)) (hN : gs.length ≤ 100000)
    (hv : ∀ j, j < gs.length → (gs.getD j default).n ≤ 100000 ∧ (gs.getD j default).i = (j : Int)) (hw : ∀ x ∈ gs, WSI x.n 17 x.ws ∧ (x.ws.getD 16 (Sl.nil, 0)).2 = x.n + 80)
    (h : Ent (sl cSl 48 a ls :: F) (R (.bool true))) : Ent (bg chI gs :: sl cSl 48 a ls :: sl cSl 48 lg ns :: F) (nf12_7 R (sv a) (sv lg)) := by
  unfold nf12_7
  have hll : ls.length = gs.length := by rw [← hls, List.length_map]
  have hnl : ns.length = 17 * ls.length := by
    rw [hns, hll]
    have key : ∀ gs : List CHI, (∀ x ∈ gs, WSI x.n 17 x.ws ∧ (x.ws.getD 16 (Sl.nil, 0)).2 = x.n + 80) → (gs.flatMap fun x => x.ws.map (·.1)).length = 17 * gs.length := by
      intro gs
      induction gs with
      | nil => intro _; rfl
      | cons x gs ih =>
        intro hx
        rw [List.flatMap_cons, List.length_append, List.length_map, (hx x (.head _)).1.len, ih fun y hy => hx y (.tail _ hy), List.length_cons]
        omega
    exact key gs hw
  refine ent_loop0 (γ := Nat) (fun t => [.int .i64 t]) (fun t => t ≤ gs.length) (fun t => gs.length - t) 0 rfl (by omega) ?_
  intro i hi K1 j hK
  simp only [List.headD_cons] at *
  (repeat (first | refine st ?_ | refine And.intro rfl ?_ | refine sc (by omega) ?_ | refine sc (by simp only [List.length_map, List.length_append, List.length_cons, List.length_nil, List.length_set, List.length_replicate, List.length_singleton] at *; omega) ?_ | refine sc (And.intro (by omega) trivial) ?_ | refine sc (And.intro rfl (Nat.le_of_ble_eq_true rfl)) ?_ | refine sc (And.intro (by simp only [List.length_map, List.length_append, List.length_cons, List.length_nil, List.length_set, List.length_replicate, List.length_singleton] at *; omega) trivial) ?_ | refine sc (by decide) ?_ | refine sc (fun _ => trivial) ?_ | refine And.intro (fun _ => rfl) ?_ | refine sc (fun _ => And.intro (by omega) trivial) ?_))
  refine cs (fun h1 => ?_) (fun h1 => ?_)
  · have hi1 : i < gs.length := by omega
    obtain ⟨h2, h3⟩ := hv i hi1
    obtain ⟨h4, h5⟩ := hw _ (getD_mem hi1)
    (repeat (first | refine st ?_ | refine And.intro rfl ?_ | refine sc (by omega) ?_ | refine sc (by simp only [List.length_map, List.length_append, List.length_cons, List.length_nil, List.length_set, List.length_replicate, List.length_singleton] at *; omega) ?_ | refine sc (And.intro (by omega) trivial) ?_ | refine sc (And.intro rfl (Nat.le_of_ble_eq_true rfl)) ?_ | refine sc (And.intro (by simp only [List.length_map, List.length_append, List.length_cons, List.length_nil, List.length_set, List.length_replicate, List.length_singleton] at *; omega) trivial) ?_ | refine sc (by decide) ?_ | refine sc (fun _ => trivial) ?_ | refine And.intro (fun _ => rfl) ?_ | refine sc (fun _ => And.intro (by omega) trivial) ?_))
    refine bg_at hi1 ?_
    refine inc (M := chI (gs.getD i default) :: sl cSl 48 a ls :: sl cSl 48 lg ns :: bg chI (gs.eraseIdx i) :: F) ?_
    refine lookI_ok (by omega) (by omega) (map_getD_eq hls hi1) hnl (fun q hq => by rw [hns]; exact flat17I (fun x hx => (hw x hx).1.len) hi1 hq) h2 h3 h4 h5 ?_
    refine ent_take (A := bg chI (gs.eraseIdx i)) (ent_take (A := chI (gs.getD i default)) (bg_back hi1 ?_))
    exact inc (hK (i + 1) hi1 (by omega))
  · (repeat (first | refine st ?_ | refine And.intro rfl ?_ | refine sc (by omega) ?_ | refine sc (by simp only [List.length_map, List.length_append, List.length_cons, List.length_nil, List.length_set, List.length_replicate, List.length_singleton] at *; omega) ?_ | refine sc (And.intro (by omega) trivial) ?_ | refine sc (And.intro rfl (Nat.le_of_ble_eq_true rfl)) ?_ | refine sc (And.intro (by simp only [List.length_map, List.length_append, List.length_cons, List.length_nil, List.length_set, List.length_replicate, List.length_singleton] at *; omega) trivial) ?_ | refine sc (by decide) ?_ | refine sc (fun _ => trivial) ?_ | refine And.intro (fun _ => rfl) ?_ | refine sc (fun _ => And.intro (by omega) trivial) ?_))
    exact inc h
theorem growsI_ok {a : Sl} {ls : List Sl} {l : List (Sl × List S_api_Image)} {R : Value → W} {F : List HProp} (hls : l.map (·.1) = ls) (hv : ∀ j, j < l.length → ∃ n, n ≤ 100000 ∧ (l.getD j default).2 = List.replicate n (mk1I j)) (hN : l.length ≤ 100000)
    (h : Ent (sl cSl 48 a ls :: F) (R (.bool true))) : Ent (bg mlI l :: sl cSl 48 a ls :: F) (nf12_8 R (sv a)) := by
  unfold nf12_8
  have hll : ls.length = l.length := by rw [← hls, List.length_map]
  refine bg_nil chI (ent_nil cSl 48 ?_)
  refine ent_loop (γ := Sl × Nat × List CHI) (fun t => [sv t.1, .int .i64 t.2.1]) (fun t => sl cSl 48 t.1 (t.2.2.flatMap fun x => x.ws.map (·.1)) :: bg chI t.2.2 :: bg mlI (l.drop t.2.1) :: sl cSl 48 a ls :: F)
    (fun t => t.2.1 ≤ l.length ∧ t.2.2.map (·.o) = ls.take t.2.1 ∧ (∀ j, j < t.2.1 → (t.2.2.getD j default).n ≤ 100000 ∧ (t.2.2.getD j default).i = (j : Int)) ∧ (∀ x ∈ t.2.2, WSI x.n 17 x.ws ∧ (x.ws.getD 16 (Sl.nil, 0)).2 = x.n + 80) ∧ (t.2.2.flatMap fun x => x.ws.map (·.1)).length = 17 * t.2.1)
    (fun t => l.length - t.2.1) (Sl.nil, 0, []) rfl ⟨by simp, by simp, fun j hj => by simp at hj, fun x hx => by simp at hx, rfl⟩ ⟨fun _ h => h⟩ ?_
  intro ⟨lg, i, gs⟩ ⟨hi, hgo, hgv, hgw, hgn⟩ K1 j hK
  simp only [List.headD_cons, List.tail_cons] at *
  have hgl : gs.length = i := by have := congrArg List.length hgo; simp only [List.length_map, List.length_take] at this; omega
  (repeat (first | refine st ?_ | refine And.intro rfl ?_ | refine sc (by omega) ?_ | refine sc (by simp only [List.length_map, List.length_append, List.length_cons, List.length_nil, List.length_set, List.length_replicate, List.length_singleton] at *; omega) ?_ | refine sc (And.intro (by omega) trivial) ?_ | refine sc (And.intro rfl (Nat.le_of_ble_eq_true rfl)) ?_ | refine sc (And.intro (by simp only [List.length_map, List.length_append, List.length_cons, List.length_nil, List.length_set, List.length_replicate, List.length_singleton] at *; omega) trivial) ?_ | refine sc (by decide) ?_ | refine sc (fun _ => trivial) ?_ | refine And.intro (fun _ => rfl) ?_ | refine sc (fun _ => And.intro (by omega) trivial) ?_))
  refine cs (fun h1 => ?_) (fun h1 => ?_)
  · have hi1 : i < l.length := by omega
    obtain ⟨n, hn, hx⟩ := hv i hi1
    (repeat (first | refine st ?_ | refine And.intro rfl ?_ | refine sc (by omega) ?_ | refine sc (by simp only [List.length_map, List.length_append, List.length_cons, List.length_nil, List.length_set, List.length_replicate, List.length_singleton] at *; omega) ?_ | refine sc (And.intro (by omega) trivial) ?_ | refine sc (And.intro rfl (Nat.le_of_ble_eq_true rfl)) ?_ | refine sc (And.intro (by simp only [List.length_map, List.length_append, List.length_cons, List.length_nil, List.length_set, List.length_replicate, List.length_singleton] at *; omega) trivial) ?_ | refine sc (by decide) ?_ | refine sc (fun _ => trivial) ?_ | refine And.intro (fun _ => rfl) ?_ | refine sc (fun _ => And.intro (by omega) trivial) ?_))
    rw [map_getD_eq hls hi1, drop_getD hi1]
    refine ent_take (A := bg mlI (l.getD i default :: l.drop (i + 1))) (bg_cons ?_)
    show Ent (sl S_api_Image.c 58 (l.getD i default).1 (l.getD i default).2 :: bg mlI (l.drop (i + 1)) :: _) _
    rw [hx]
    refine inc (M := sl S_api_Image.c 58 (l.getD i default).1 (List.replicate n (mk1I i)) :: sl cSl 48 lg (gs.flatMap fun x => x.ws.map (·.1)) :: bg chI gs :: bg mlI (l.drop (i + 1)) :: sl cSl 48 a ls :: F) ?_
    refine growI_ok (i := i) (L0 := gs.flatMap fun x => x.ws.map (·.1)) hn (by omega) (by omega) fun cur lg' ws hw1 hw2 => ?_
    have h9 := hK (lg', i + 1, gs ++ [⟨(l.getD i default).1, n, cur, ws, i⟩]) ⟨hi1, ?_, fun j hj => ?_, fun x hx => ?_, ?_⟩ (by show _ - (i + 1) < _; omega)
    · simp only [List.flatMap_append, List.flatMap_cons, List.flatMap_nil, List.append_nil] at h9
      refine ent_take (A := chI ⟨(l.getD i default).1, n, cur, ws, i⟩) (ent_take (A := bg chI gs) (bg_snoc (x := (⟨(l.getD i default).1, n, cur, ws, i⟩ : CHI)) (inc h9)))
    · simp only [List.map_append, List.map_cons, List.map_nil]
      rw [hgo, take_one (by omega), map_getD_eq hls hi1]
    · by_cases hj2 : j < i
      · rw [getD_app_l (by omega)]; exact hgv j hj2
      · have : j = i := by simp only at hj; omega
        subst this
        rw [getD_app_r (by omega), hgl, Nat.sub_self]
        exact ⟨hn, rfl⟩
    · rcases List.mem_append.1 hx with hx | hx
      · exact hgw x hx
      · rw [List.mem_singleton.1 hx]; exact ⟨hw1, hw2⟩
    · simp only [List.flatMap_append, List.flatMap_cons, List.flatMap_nil, List.append_nil, List.length_append, List.length_map]
      rw [hgn, hw1.len]; omega
  · have hil : i = l.length := by omega
    rw [List.take_of_length_le (by omega)] at hgo
    (repeat (first | refine st ?_ | refine And.intro rfl ?_ | refine sc (by omega) ?_ | refine sc (by simp only [List.length_map, List.length_append, List.length_cons, List.length_nil, List.length_set, List.length_replicate, List.length_singleton] at *; omega) ?_ | refine sc (And.intro (by omega) trivial) ?_ | refine sc (And.intro rfl (Nat.le_of_ble_eq_true rfl)) ?_ | refine sc (And.intro (by simp only [List.length_map, List.length_append, List.length_cons, List.length_nil, List.length_set, List.length_replicate, List.length_singleton] at *; omega) trivial) ?_ | refine sc (by decide) ?_ | refine sc (fun _ => trivial) ?_ | refine And.intro (fun _ => rfl) ?_ | refine sc (fun _ => And.intro (by omega) trivial) ?_))
    refine inc (M := bg chI gs :: sl cSl 48 a ls :: sl cSl 48 lg (gs.flatMap fun x => x.ws.map (·.1)) :: F) ?_
    exact looksI_ok hgo rfl (by omega) (fun j hj => hgv j (by omega)) hgw h
theorem apartI_ok {a : Sl} {ls : List Sl} {l : List (Sl × List S_api_Image)} {R : Value → W} {F : List HProp} (hls : l.map (·.1) = ls) (hv : ∀ x ∈ l, x.2.length ≤ 100000) (hN : l.length ≤ 100000)
    (h : Ent (sl cSl 48 a ls :: F) (R (.bool true))) : Ent (bg mlI l :: sl cSl 48 a ls :: F) (callC Try.prog 12 [sv a] R) := by
  refine ent_mono ?_ fun w => nf12_ok
  unfold nf12
  have hll : ls.length = l.length := by rw [← hls, List.length_map]
  refine ent_loop1 (γ := Nat × List (Sl × List S_api_Image)) (fun t => [.int .i64 t.1]) (fun t => bg mlI t.2) (fun t => t.1 ≤ l.length ∧ t.2.map (·.1) = ls ∧ (∀ x ∈ t.2, x.2.length ≤ 100000) ∧ ∀ j, j < t.1 → ∃ n, n ≤ 100000 ∧ (t.2.getD j default).2 = List.replicate n (mk1I j)) (fun t => l.length - t.1) (0, l) rfl ⟨by simp, hls, hv, fun j hj => by simp at hj⟩ ?_
  intro ⟨i, t⟩ ⟨hi, htl, htv, htr⟩ K1 j hK
  simp only [List.headD_cons] at *
  have htlen : t.length = l.length := by rw [← hll, ← htl, List.length_map]
  (repeat (first | refine st ?_ | refine And.intro rfl ?_ | refine sc (by omega) ?_ | refine sc (by simp only [List.length_map, List.length_append, List.length_cons, List.length_nil, List.length_set, List.length_replicate, List.length_singleton] at *; omega) ?_ | refine sc (And.intro (by omega) trivial) ?_ | refine sc (And.intro rfl (Nat.le_of_ble_eq_true rfl)) ?_ | refine sc (And.intro (by simp only [List.length_map, List.length_append, List.length_cons, List.length_nil, List.length_set, List.length_replicate, List.length_singleton] at *; omega) trivial) ?_ | refine sc (by decide) ?_ | refine sc (fun _ => trivial) ?_ | refine And.intro (fun _ => rfl) ?_ | refine sc (fun _ => And.intro (by omega) trivial) ?_))
  refine cs (fun h1 => ?_) (fun h1 => ?_)
  · have hi1 : i < t.length := by omega
    have hx := htv _ (getD_mem hi1)
    (repeat (first | refine st ?_ | refine And.intro rfl ?_ | refine sc (by omega) ?_ | refine sc (by simp only [List.length_map, List.length_append, List.length_cons, List.length_nil, List.length_set, List.length_replicate, List.length_singleton] at *; omega) ?_ | refine sc (And.intro (by omega) trivial) ?_ | refine sc (And.intro rfl (Nat.le_of_ble_eq_true rfl)) ?_ | refine sc (And.intro (by simp only [List.length_map, List.length_append, List.length_cons, List.length_nil, List.length_set, List.length_replicate, List.length_singleton] at *; omega) trivial) ?_ | refine sc (by decide) ?_ | refine sc (fun _ => trivial) ?_ | refine And.intro (fun _ => rfl) ?_ | refine sc (fun _ => And.intro (by omega) trivial) ?_))
    refine bg_at hi1 ?_
    show Ent (sl S_api_Image.c 58 (t.getD i default).1 (t.getD i default).2 :: _) _
    refine inc (M := sl S_api_Image.c 58 (t.getD i default).1 (t.getD i default).2 :: sl cSl 48 a ls :: bg mlI (t.eraseIdx i) :: F) ?_
    refine markI_ok (by omega) (by omega) (map_getD_eq htl hi1) hx ?_
    refine ent_take (A := bg mlI (t.eraseIdx i)) (ent_take (A := sl S_api_Image.c 58 (t.getD i default).1 (List.replicate (t.getD i default).2.length (mk1I i))) ?_)
    refine bg_put (f := mlI) (x := ((t.getD i default).1, List.replicate (t.getD i default).2.length (mk1I i))) hi1 ?_
    refine inc (hK (i + 1, t.set i ((t.getD i default).1, List.replicate (t.getD i default).2.length (mk1I i))) ⟨by show i + 1 ≤ _; omega, ?_, fun y hy => ?_, fun j hj => ?_⟩ (by show _ - (i + 1) < _; omega))
    · simp only
      rw [List.map_set, htl]
      apply List.ext_getElem (by simp)
      intro k h1 h2
      rw [List.getElem_set]
      split
      · rename_i hk; subst hk
        have := map_getD_eq htl hi1
        show (t.getD i default).1 = ls[i]
        rw [← this]
        simp [h2]
      · rfl
    · rcases List.mem_or_eq_of_mem_set hy with hy | hy
      · exact htv y hy
      · rw [hy]; simp only [List.length_replicate]; exact hx
    · simp only at hj ⊢
      by_cases hji : j = i
      · subst hji
        rw [List.getD_eq_getElem?_getD, List.getElem?_set_self hi1]
        exact ⟨_, hx, rfl⟩
      · rw [List.getD_eq_getElem?_getD, List.getElem?_set_ne (Ne.symm hji), ← List.getD_eq_getElem?_getD]
        exact htr j (by omega)
  · have hil : i = l.length := by omega
    subst hil
    (repeat (first | refine st ?_ | refine And.intro rfl ?_ | refine sc (by omega) ?_ | refine sc (by simp only [List.length_map, List.length_append, List.length_cons, List.length_nil, List.length_set, List.length_replicate, List.length_singleton] at *; omega) ?_ | refine sc (And.intro (by omega) trivial) ?_ | refine sc (And.intro rfl (Nat.le_of_ble_eq_true rfl)) ?_ | refine sc (And.intro (by simp only [List.length_map, List.length_append, List.length_cons, List.length_nil, List.length_set, List.length_replicate, List.length_singleton] at *; omega) trivial) ?_ | refine sc (by decide) ?_ | refine sc (fun _ => trivial) ?_ | refine And.intro (fun _ => rfl) ?_ | refine sc (fun _ => And.intro (by omega) trivial) ?_))
    exact growsI_ok htl (fun j hj => htr j (by omega)) (by omega) h
end Go.Proofs.Ytlohgchklicmhaa
