import Derived.Test.YtomknjmgcbbjlaaDoorWalkP
namespace Go.Proofs.YtomknjmgcbbjlaaDoor.WP
open Go.Proofs.YtomknjmgcbbjlaaDoor.Fan Go.Proofs.YtomknjmgcbbjlaaDoor.LK
set_option linter.unusedVariables false
set_option linter.unusedSimpArgs false
set_option maxRecDepth 100000
structure Tab (look : Int × Int → Option Nat) (tr : Nat → Tri) (n : Nat) : Prop where
  good : Fan.Good tr n
  some_ : ∀ e i, look e = some i → i < n ∧ e ∈ edges3 (tr i)
  none_ : ∀ e, look e = none → ∀ i, i < n → e ∉ edges3 (tr i)
section
variable {look : Int × Int → Option Nat} {tr : Nat → Tri} {n : Nat}
theorem Tab.is (h : Tab look tr n) {i : Nat} (hi : i < n) {e : Int × Int} (he : e ∈ edges3 (tr i)) : look e = some i := by
  cases hl : look e with
  | none => exact absurd he (h.none_ e hl i hi)
  | some j =>
    obtain ⟨h1, h2⟩ := h.some_ e j hl
    rw [h.good.one j h1 i hi e h2 he]
def cnt (k : Int) (S : List (Int × Int)) : Nat := S.countP fun s => s.1 == k
theorem cnt_snoc (k : Int) (S : List (Int × Int)) (s : Int × Int) : cnt k (S ++ [s]) = cnt k S + if s.1 = k then 1 else 0 := by
  unfold cnt
  rw [List.countP_append]
  simp [List.countP_cons]
structure Inv (look : Int × Int → Option Nat) (tr : Nat → Tri) (n : Nat) (w : Wk) : Prop where
  ond : w.O.Nodup
  olt : ∀ i, i ∈ w.O → i < n
  vnd : w.V.Nodup
  vO : ∀ v, v ∈ w.V ↔ ∃ i, i ∈ w.O ∧ has3 (tr i) v = true
  len : w.R.length = w.O.length
  rot : ∀ (k i : Nat) (t : Tri), w.O[k]? = some i → w.R[k]? = some t → Rot (tr i) t
  tm : w.T = w.R.map (map3 (fnd w.V))
  gts : ∀ g, g ∈ w.G ++ w.B → ∃ i, i ∈ w.O ∧ g ∈ edges3 (tr i)
  clo : ∀ i, i ∈ w.O → ∀ e, e ∈ edges3 (tr i) → e ∈ w.G ++ w.B ∨ ∃ j, j ∈ w.O ∧ (e.2, e.1) ∈ edges3 (tr j)
  bor : ∀ e, e ∈ w.B → look (e.2, e.1) = none
  gnd : (w.G ++ w.B).Nodup
  nB : cnt 1 w.S = w.B.length
  nT : cnt 0 w.S + cnt 2 w.S + cnt 3 w.S = w.O.length
  kind : ∀ s, s ∈ w.S → 0 ≤ s.1 ∧ s.1 ≤ 3
theorem inv_init : Inv look tr n init := ⟨by simp [init], by simp [init], by simp [init], by simp [init], rfl, by simp [init], rfl, by simp [init], by simp [init], by simp [init], by simp [init], rfl, rfl, by simp [init]⟩
theorem Inv.vR {w : Wk} (h : Inv look tr n w) {t : Tri} (ht : t ∈ w.R) {v : Int} (hv : has3 t v = true) : v ∈ w.V := by
  obtain ⟨k, hk, rfl⟩ := List.mem_iff_getElem.1 ht
  have hk2 : k < w.O.length := by rw [← h.len]; exact hk
  have := h.rot k w.O[k] w.R[k] (List.getElem?_eq_getElem hk2) (List.getElem?_eq_getElem hk)
  rw [rot_has this] at hv
  exact (h.vO v).2 ⟨_, List.getElem_mem hk2, hv⟩
theorem take_inv (hT : Tab look tr n) {w w' : Wk} (h : Inv look tr n w) {i : Nat} (hi : i < n) (hn : i ∉ w.O) {t : Tri} (ht : Rot (tr i) t) (eO : w'.O = w.O ++ [i]) (eR : w'.R = w.R ++ [t]) (eT : w'.T = w.T ++ [map3 (fnd w'.V) t]) (hV : w'.V.Nodup) (hVm : ∀ x, x ∈ w'.V ↔ x ∈ w.V ∨ has3 t x = true) (hVf : ∀ x, x ∈ w.V → fnd w'.V x = fnd w.V x)
    (eB : w'.B = w.B) {X r : List (Int × Int)} (hr : ∀ g, g ∈ w.G → g ∈ r ∨ (g.2, g.1) ∈ edges3 (tr i)) (hrs : r.Sublist w.G) (eG : w'.G = X ++ r) (hX : X.Nodup) (hXs : ∀ e, e ∈ X → e ∈ edges3 (tr i)) (hXc : ∀ e, e ∈ edges3 (tr i) → e ∈ X ∨ ∃ j, j ∈ w.O ∧ (e.2, e.1) ∈ edges3 (tr j))
    {s : Int × Int} (eS : w'.S = w.S ++ [s]) (hs : s.1 = 0 ∨ s.1 = 2 ∨ s.1 = 3) : Inv look tr n w' := by
  have hnot : ∀ g, g ∈ w.G ++ w.B → g ∉ edges3 (tr i) := by
    intro g hg hg2
    obtain ⟨j, hj, hj2⟩ := h.gts g hg
    exact hn (hT.good.one j (h.olt j hj) i hi g hj2 hg2 ▸ hj)
  refine ⟨?_, ?_, hV, ?_, ?_, ?_, ?_, ?_, ?_, ?_, ?_, ?_, ?_, ?_⟩
  · rw [eO, List.nodup_append]
    exact ⟨h.ond, by simp, fun a ha b hb e => by rw [List.mem_singleton] at hb; subst hb; subst e; exact hn ha⟩
  · intro j hj
    rw [eO, List.mem_append, List.mem_singleton] at hj
    rcases hj with hj | rfl
    · exact h.olt j hj
    · exact hi
  · intro v
    rw [hVm, h.vO, eO, rot_has ht]
    constructor
    · rintro (⟨j, h1, h2⟩ | h1)
      · exact ⟨j, List.mem_append_left _ h1, h2⟩
      · exact ⟨i, List.mem_append_right _ (List.mem_singleton.2 rfl), h1⟩
    · rintro ⟨j, h1, h2⟩
      rw [List.mem_append, List.mem_singleton] at h1
      rcases h1 with h1 | rfl
      · exact .inl ⟨j, h1, h2⟩
      · exact .inr h2
  · rw [eR, eO, List.length_append, List.length_append, h.len]; rfl
  · intro k j u h1 h2
    rw [eO] at h1
    rw [eR] at h2
    rcases Nat.lt_or_ge k w.O.length with hk | hk
    · rw [List.getElem?_append_left hk] at h1
      rw [List.getElem?_append_left (by rw [h.len]; exact hk)] at h2
      exact h.rot k j u h1 h2
    · rw [List.getElem?_append_right hk] at h1
      rw [List.getElem?_append_right (by rw [h.len]; exact hk)] at h2
      rw [h.len] at h2
      obtain ⟨m, hm⟩ : ∃ m, m = k - w.O.length := ⟨_, rfl⟩
      rw [← hm] at h1 h2
      cases m with
      | zero =>
        have e1 : i = j := by simpa using h1
        have e2 : t = u := by simpa using h2
        subst e1; subst e2
        exact ht
      | succ m => simp at h1
  · rw [eT, eR, List.map_append, h.tm]
    congr 1
    refine List.map_congr_left fun u hu => map3_congr fun v hv => (hVf v (h.vR hu hv)).symm
  · intro g hg
    rw [eG, eB, List.append_assoc, List.mem_append] at hg
    rcases hg with hg | hg
    · exact ⟨i, by rw [eO]; simp, hXs g hg⟩
    · obtain ⟨j, hj, hj2⟩ := h.gts g (by
        rw [List.mem_append] at hg ⊢
        exact hg.imp (fun x => hrs.subset x) id)
      exact ⟨j, by rw [eO]; exact List.mem_append_left _ hj, hj2⟩
  · intro j hj e he
    rw [eO, List.mem_append, List.mem_singleton] at hj
    rw [eG, eB, eO, List.append_assoc, List.mem_append, List.mem_append]
    have wid : (∃ j, j ∈ w.O ∧ (e.2, e.1) ∈ edges3 (tr j)) → ∃ j, j ∈ w.O ++ [i] ∧ (e.2, e.1) ∈ edges3 (tr j) := fun ⟨j, h1, h2⟩ => ⟨j, List.mem_append_left _ h1, h2⟩
    rcases hj with hj | rfl
    · rcases h.clo j hj e he with h1 | h1
      · rw [List.mem_append] at h1
        rcases h1 with h1 | h1
        · rcases hr e h1 with h2 | h2
          · exact .inl (.inr (.inl h2))
          · exact .inr ⟨i, by simp, h2⟩
        · exact .inl (.inr (.inr h1))
      · exact .inr (wid h1)
    · rcases hXc e he with h1 | h1
      · exact .inl (.inl h1)
      · exact .inr (wid h1)
  · rw [eB]; exact h.bor
  · rw [eG, eB, List.append_assoc, List.nodup_append]
    refine ⟨hX, h.gnd.sublist (hrs.append (List.Sublist.refl _)), fun a ha b hb e => ?_⟩
    subst e
    refine hnot a ?_ (hXs a ha)
    rw [List.mem_append] at hb ⊢
    exact hb.imp (fun x => hrs.subset x) id
  · rw [eS, eB, cnt_snoc, h.nB, if_neg (by omega)]; rfl
  · have := h.nT
    rw [eS, eO, cnt_snoc, cnt_snoc, cnt_snoc, List.length_append]
    simp only [List.length_singleton]
    rcases hs with hs | hs | hs <;> simp [hs] <;> omega
  · intro u hu
    rw [eS, List.mem_append, List.mem_singleton] at hu
    rcases hu with hu | rfl
    · exact h.kind u hu
    · omega
theorem gate_inv (hT : Tab look tr n) {w : Wk} (h : Inv look tr n w) {g : Int × Int} {r : List (Int × Int)} (hG : w.G = g :: r) : Inv look tr n (gate look tr { w with G := r } g.1 g.2) := by
  obtain ⟨p, q⟩ := g
  have hgd := h.gnd
  rw [hG] at hgd
  unfold gate
  dsimp only
  cases hl : look (q, p) with
  | none =>
    refine ⟨h.ond, h.olt, h.vnd, h.vO, h.len, h.rot, h.tm, ?_, ?_, ?_, ?_, ?_, ?_, ?_⟩
    · intro e he
      refine h.gts e ?_
      rw [hG]
      simp only [List.mem_append, List.mem_cons, List.mem_singleton, List.not_mem_nil, or_false] at he ⊢
      rcases he with he | he | he
      · exact .inl (.inr he)
      · exact .inr he
      · exact .inl (.inl he)
    · intro i hi e he
      refine (h.clo i hi e he).imp (fun h1 => ?_) id
      rw [hG] at h1
      simp only [List.mem_append, List.mem_cons, List.mem_singleton, List.not_mem_nil, or_false] at h1 ⊢
      rcases h1 with (h1 | h1) | h1
      · exact .inr (.inr h1)
      · exact .inl h1
      · exact .inr (.inl h1)
    · intro e he
      rw [List.mem_append, List.mem_singleton] at he
      rcases he with he | rfl
      · exact h.bor e he
      · exact hl
    · rw [← List.append_assoc]
      have hp : (r ++ w.B ++ [(p, q)]).Perm ((p, q) :: r ++ w.B) := List.perm_append_comm.trans (List.Perm.refl _)
      exact hp.nodup_iff.2 hgd
    · show cnt 1 (w.S ++ [(1, 0)]) = (w.B ++ [(p, q)]).length
      rw [cnt_snoc, h.nB, List.length_append]; rfl
    · show cnt 0 (w.S ++ [(1, 0)]) + cnt 2 (w.S ++ [(1, 0)]) + cnt 3 (w.S ++ [(1, 0)]) = w.O.length
      rw [cnt_snoc, cnt_snoc, cnt_snoc]
      exact h.nT
    · intro u hu
      rw [List.mem_append, List.mem_singleton] at hu
      rcases hu with hu | rfl
      · exact h.kind u hu
      · exact ⟨by decide, by decide⟩
  | some i =>
    obtain ⟨hi, he⟩ := hT.some_ _ _ hl
    dsimp only
    split
    · rename_i hO
      refine ⟨h.ond, h.olt, h.vnd, h.vO, h.len, h.rot, h.tm, ?_, ?_, h.bor, ?_, h.nB, h.nT, h.kind⟩
      · intro e he
        refine h.gts e ?_
        rw [hG]
        exact List.mem_cons_of_mem _ he
      · intro j hj e he2
        rcases h.clo j hj e he2 with h1 | h1
        · rw [hG, List.cons_append, List.mem_cons] at h1
          rcases h1 with rfl | h1
          · exact .inr ⟨i, hO, he⟩
          · exact .inl h1
        · exact .inr h1
      · exact (List.nodup_cons.1 hgd).2
    · rename_i hO
      have hpl := hT.good.pl i hi
      have hrt := rot_third_of he
      have hpt := (rot_plain hrt).2 hpl
      obtain ⟨v, hv⟩ : ∃ v, v = third (tr i) p q := ⟨_, rfl⟩
      rw [← hv] at hrt hpt ⊢
      have hqV : q ∈ w.V ∧ p ∈ w.V := by
        obtain ⟨j, hj, hj2⟩ := h.gts (p, q) (by rw [hG]; simp)
        have := edge_has hj2
        exact ⟨(h.vO q).2 ⟨j, hj, this.2⟩, (h.vO p).2 ⟨j, hj, this.1⟩⟩
      refine take_inv hT h hi hO (t := (q, p, v)) hrt rfl rfl rfl (nodup_add h.vnd _) ?_ (fun x hx => fnd_add _ hx) rfl (X := [(v, q), (p, v)]) (r := r) ?_ ?_ rfl ?_ ?_ ?_ rfl ?_
      · intro x
        rw [mem_add]
        simp only [has3, Bool.or_eq_true, beq_iff_eq]
        constructor
        · rintro (h1 | h1)
          · exact .inl h1
          · exact .inr (.inr h1.symm)
        · rintro (h1 | (rfl | rfl) | rfl)
          · exact .inl h1
          · exact .inl hqV.1
          · exact .inl hqV.2
          · exact .inr rfl
      · intro g hg
        rw [hG, List.mem_cons] at hg
        rcases hg with rfl | hg
        · exact .inr he
        · exact .inl hg
      · rw [hG]; exact List.sublist_cons_self ..
      · simp only [plain3] at hpt
        simp only [List.nodup_cons, List.mem_singleton, Prod.mk.injEq, List.not_mem_nil, not_false_iff, List.nodup_nil, and_true]
        rintro ⟨h1, h2⟩
        exact hpt.2.1 h1.symm
      · intro e he2
        rw [← rot_edges hrt]
        simp only [edges3, List.mem_cons, List.not_mem_nil, or_false] at he2 ⊢
        rcases he2 with rfl | rfl
        · exact .inr (.inr rfl)
        · exact .inr (.inl rfl)
      · intro e he2
        rw [← rot_edges hrt] at he2
        simp only [edges3, List.mem_cons, List.not_mem_nil, or_false] at he2
        rcases he2 with rfl | rfl | rfl
        · obtain ⟨j, hj, hj2⟩ := h.gts (p, q) (by rw [hG]; simp)
          exact .inr ⟨j, hj, hj2⟩
        · exact .inl (by simp)
        · exact .inl (by simp)
      · split
        · exact .inr (.inr rfl)
        · exact .inr (.inl rfl)
theorem seed_inv (hT : Tab look tr n) {w : Wk} (h : Inv look tr n w) {i : Nat} (hi : i < n) (hO : i ∉ w.O) (hG : w.G = []) : Inv look tr n (seed tr w i) := by
  have hpl := hT.good.pl i hi
  refine take_inv hT h hi hO (t := tr i) (Rot.refl _) rfl rfl rfl (nodup_add3 h.vnd _) (fun x => mem_add3) (fun x hx => fnd_add3 _ hx) rfl (X := [((tr i).2.2, (tr i).1), ((tr i).2.1, (tr i).2.2), ((tr i).1, (tr i).2.1)]) (r := []) ?_ ?_ (List.append_nil _).symm ?_ ?_ ?_ rfl (.inl rfl)
  · rw [hG]; intro g hg; cases hg
  · rw [hG]; exact List.Sublist.refl _
  · generalize tr i = q at *
    obtain ⟨a, b, c⟩ := q
    obtain ⟨h1, h2, h3⟩ := hpl
    simp only at h1 h2 h3
    simp only [List.nodup_cons, List.mem_cons, List.mem_singleton, Prod.mk.injEq, List.not_mem_nil, not_false_iff, List.nodup_nil, and_true, or_false]
    omega
  · intro e he
    simp only [edges3, List.mem_cons, List.not_mem_nil, or_false] at he ⊢
    rcases he with h | h | h
    · exact .inr (.inr h)
    · exact .inr (.inl h)
    · exact .inl h
  · intro e he
    refine .inl ?_
    simp only [edges3, List.mem_cons, List.not_mem_nil, or_false] at he ⊢
    rcases he with h | h | h
    · exact .inr (.inr h)
    · exact .inr (.inl h)
    · exact .inl h
theorem next_inv (hT : Tab look tr n) {w w' : Wk} (h : Inv look tr n w) (hn : next look tr n w = some w') : Inv look tr n w' := by
  unfold next at hn
  cases hG : w.G with
  | cons g r =>
    rw [hG] at hn
    injection hn with hn
    subst hn
    exact gate_inv hT h hG
  | nil =>
    rw [hG] at hn
    cases hf : first n w.O with
    | none => rw [hf] at hn; cases hn
    | some i =>
      rw [hf] at hn
      injection hn with hn
      subst hn
      obtain ⟨h1, h2, _⟩ := first_some hf
      exact seed_inv hT h h1 h2 hG
theorem reach_inv (hT : Tab look tr n) {w : Wk} (h : Reach look tr n w) : Inv look tr n w := by
  induction h with
  | init => exact inv_init
  | next _ hn ih => exact next_inv hT ih hn
def meas (n : Nat) (w : Wk) : Nat := 4 * (n - w.O.length) + w.G.length
theorem inv_le {w : Wk} (h : Inv look tr n w) : w.O.length ≤ n := by
  have := len_le (m := List.range n) h.ond fun x hx => List.mem_range.2 (h.olt x hx)
  simpa using this
theorem gate_meas {w : Wk} (h : w.O.length ≤ n) (h2 : ∀ i, i ∉ w.O → i < n → w.O.length < n) (hs : ∀ e i, look e = some i → i < n) {g : Int × Int} {r : List (Int × Int)} (hG : w.G = g :: r) : meas n (gate look tr { w with G := r } g.1 g.2) < meas n w := by
  unfold gate meas
  rw [hG]
  dsimp only
  cases hl : look (g.2, g.1) with
  | none => simp
  | some i =>
    dsimp only
    split
    · simp
    · rename_i hi
      have := h2 i hi (hs _ _ hl)
      simp only [List.length_append, List.length_cons, List.length_nil]
      omega
theorem more_lt {w : Wk} (h : Inv look tr n w) : ∀ i, i ∉ w.O → i < n → w.O.length < n := by
  intro i hi hlt
  have := len_le (l := i :: w.O) (m := List.range n) (List.nodup_cons.2 ⟨hi, h.ond⟩) fun x hx => by
    rcases List.mem_cons.1 hx with rfl | hx
    · exact List.mem_range.2 hlt
    · exact List.mem_range.2 (h.olt x hx)
  simp at this
  omega
theorem next_meas (hT : Tab look tr n) {w w' : Wk} (h : Inv look tr n w) (hn : next look tr n w = some w') : meas n w' < meas n w := by
  unfold next at hn
  cases hG : w.G with
  | cons g r =>
    rw [hG] at hn
    injection hn with hn
    subst hn
    exact gate_meas (inv_le h) (more_lt h) (fun e i hl => (hT.some_ e i hl).1) hG
  | nil =>
    rw [hG] at hn
    cases hf : first n w.O with
    | none => rw [hf] at hn; cases hn
    | some i =>
      rw [hf] at hn
      injection hn with hn
      subst hn
      obtain ⟨h1, h2, _⟩ := first_some hf
      have := more_lt h i h2 h1
      unfold meas seed
      rw [hG]
      simp only [List.length_append, List.length_cons, List.length_nil]
      omega
theorem reach_iter (hT : Tab look tr n) : ∀ (k : Nat) (w : Wk), Reach look tr n w → Reach look tr n (iter look tr n k w)
  | 0, w, h => h
  | k + 1, w, h => by
    unfold iter
    cases hn : next look tr n w with
    | none => exact h
    | some w' => exact reach_iter hT k w' (h.next hn)
theorem iter_end (hT : Tab look tr n) : ∀ (k : Nat) (w : Wk), Inv look tr n w → meas n w < k → next look tr n (iter look tr n k w) = none
  | 0, w, h, hk => by omega
  | k + 1, w, h, hk => by
    unfold iter
    cases hn : next look tr n w with
    | none => exact hn
    | some w' => exact iter_end hT k w' (next_inv hT h hn) (by have := next_meas hT h hn; omega)
theorem fin_end (hT : Tab look tr n) : next look tr n (fin look tr n) = none := iter_end hT _ _ inv_init (by simp [meas, init])
theorem fin_reach (hT : Tab look tr n) : Reach look tr n (fin look tr n) := reach_iter hT _ _ .init
theorem iter_stop {w : Wk} (h : next look tr n w = none) : ∀ k, iter look tr n k w = w
  | 0 => rfl
  | k + 1 => by unfold iter; rw [h]
theorem iter_succ (k : Nat) (w : Wk) : iter look tr n (k + 1) w = match next look tr n w with | none => w | some w' => iter look tr n k w' := rfl
theorem iter_add : ∀ (k m : Nat) (w : Wk), iter look tr n (k + m) w = iter look tr n m (iter look tr n k w)
  | 0, m, w => by rw [Nat.zero_add]; rfl
  | k + 1, m, w => by
    rw [show k + 1 + m = (k + m) + 1 by omega, iter_succ, iter_succ]
    cases hn : next look tr n w with
    | none => exact (iter_stop hn m).symm
    | some w' => exact iter_add k m w'
theorem reach_is {w : Wk} (h : Reach look tr n w) : ∃ k, iter look tr n k init = w := by
  induction h with
  | init => exact ⟨0, rfl⟩
  | next _ hn ih =>
    obtain ⟨k, hk⟩ := ih
    refine ⟨k + 1, ?_⟩
    rw [iter_add, hk]
    unfold iter
    rw [hn]
    rfl
theorem reach_fin (hT : Tab look tr n) {w : Wk} (h : Reach look tr n w) (he : next look tr n w = none) : w = fin look tr n := by
  obtain ⟨k, hk⟩ := reach_is h
  have h1 : iter look tr n (k + (4 * n + 1)) init = w := by rw [iter_add, hk, iter_stop he]
  have h2 : iter look tr n ((4 * n + 1) + k) init = fin look tr n := by rw [iter_add]; exact iter_stop (fin_end hT) k
  rw [← h1, ← h2, Nat.add_comm]
theorem end_iff {w : Wk} : next look tr n w = none ↔ w.G = [] ∧ ∀ i, i < n → i ∈ w.O := by
  unfold next
  cases hG : w.G with
  | cons g r => simp
  | nil =>
    cases hf : first n w.O with
    | none => exact ⟨fun _ => ⟨rfl, first_none hf⟩, fun _ => rfl⟩
    | some i =>
      refine ⟨fun h => (nomatch h), fun h => ?_⟩
      obtain ⟨h1, h2, _⟩ := first_some hf
      exact absurd (h.2 i h1) h2
end
end Go.Proofs.YtomknjmgcbbjlaaDoor.WP
