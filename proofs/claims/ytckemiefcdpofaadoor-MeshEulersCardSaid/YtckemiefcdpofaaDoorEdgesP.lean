import Derived.Test.YtckemiefcdpofaaDoorEuler
import Derived.Test.YtckemiefcdpofaaDoorBorder
namespace Go.Proofs.YtckemiefcdpofaaDoor.EP
open Go Go.RowKit Go.Sort Go.Proofs.YtckemiefcdpofaaDoor.OR Go.Proofs.YtckemiefcdpofaaDoor.PMsr Go.Proofs.YtckemiefcdpofaaDoor.ED
open Go.Proofs.YtckemiefcdpofaaDoor.MM (edgesU)
set_option linter.unusedVariables false
set_option linter.unusedSimpArgs false
set_option maxRecDepth 100000
def lt (x y : Int × Int) : Prop := x.1 < y.1 ∨ (x.1 = y.1 ∧ x.2 < y.2)
theorem lt_trans {x y z : Int × Int} (h : lt x y) (k : lt y z) : lt x z := by unfold lt at *; omega
theorem lt_irrefl {x : Int × Int} (h : lt x x) : False := by unfold lt at h; omega
def le (x y : Int × Int) : Prop := lt x y ∨ x = y
theorem le_of {x y : Int × Int} (h : ¬ lt y x) : le x y := by
  obtain ⟨a, b⟩ := x
  obtain ⟨c, d⟩ := y
  unfold le
  unfold lt at *
  simp only [Prod.mk.injEq] at *
  omega
theorem lt_le {x y z : Int × Int} (h : le x y) (k : lt y z) : lt x z := by
  rcases h with h | rfl
  · exact lt_trans h k
  · exact k
def Up (l : List (Int × Int)) : Prop := l.Pairwise lt
theorem up_ext : ∀ {a b : List (Int × Int)}, Up a → Up b → (∀ x, x ∈ a ↔ x ∈ b) → a = b := by
  intro a
  induction a with
  | nil =>
    intro b _ _ h
    cases b with
    | nil => rfl
    | cons y b => exact absurd ((h y).2 (List.mem_cons_self ..)) (by simp)
  | cons x a ih =>
    intro b ha hb h
    cases b with
    | nil => exact absurd ((h x).1 (List.mem_cons_self ..)) (by simp)
    | cons y b =>
      unfold Up at ha hb
      rw [List.pairwise_cons] at ha hb
      have hxy : x = y := by
        rcases List.mem_cons.1 ((h x).1 (List.mem_cons_self ..)) with e | e
        · exact e
        · rcases List.mem_cons.1 ((h y).2 (List.mem_cons_self ..)) with e2 | e2
          · exact e2.symm
          · exact (lt_irrefl (lt_trans (hb.1 x e) (ha.1 y e2))).elim
      subst hxy
      congr 1
      refine ih ha.2 hb.2 fun z => ⟨fun hz => ?_, fun hz => ?_⟩
      · rcases List.mem_cons.1 ((h z).1 (List.mem_cons_of_mem _ hz)) with e | e
        · subst e; exact (lt_irrefl (ha.1 z hz)).elim
        · exact e
      · rcases List.mem_cons.1 ((h z).2 (List.mem_cons_of_mem _ hz)) with e | e
        · subst e; exact (lt_irrefl (hb.1 z hz)).elim
        · exact e
theorem up_nodup {l : List (Int × Int)} (h : Up l) : l.Nodup := h.imp fun h1 h2 => by subst h2; exact lt_irrefl h1
theorem lt_iff (x y : Int × Int) : ltOf cfE x y = true ↔ lt x y := by rw [ltE, decide_eq_true_iff]; rfl
theorem sorted_le (l : List (Int × Int)) : (sorted l).Pairwise le := by
  have h := List.pairwise_mergeSort (le := fun x y => !(ltOf cfE) y x) (fun a b c h1 h2 => by
    simp only [Bool.not_eq_true', ltE, decide_eq_false_iff_not] at *
    omega) (fun a b => by
    simp only [Bool.or_eq_true, Bool.not_eq_true', ltE, decide_eq_false_iff_not]
    omega) l
  refine h.imp fun {a b} h1 => le_of fun h2 => ?_
  rw [(lt_iff b a).2 h2] at h1
  cases h1
theorem mem_sorted {l : List (Int × Int)} {x : Int × Int} : x ∈ sorted l ↔ x ∈ l := (List.mergeSort_perm l _).mem_iff
theorem sorted_up {l : List (Int × Int)} (h : l.Nodup) : Up (sorted l) := by
  have h1 := sorted_le l
  have h2 : (sorted l).Nodup := (List.mergeSort_perm l _).nodup_iff.2 h
  unfold Up
  refine (h1.and h2).imp ?_
  rintro a b ⟨h3 | h3, h4⟩
  · exact h3
  · exact absurd h3 h4
theorem getD_take {l : List (Int × Int)} {p j : Nat} (h : j < p) : (l.take p).getD j (0, 0) = l.getD j (0, 0) := by
  rw [List.getD_eq_getElem?_getD, List.getD_eq_getElem?_getD, List.getElem?_take, if_pos h]
theorem comp_up {l : List (Int × Int)} (h : l.Pairwise le) : ∀ p, p ≤ l.length → Up (comp l p) ∧ (∀ x, x ∈ comp l p ↔ x ∈ l.take p)
  | 0, _ => ⟨List.Pairwise.nil, fun x => by simp [comp]⟩
  | p + 1, hp => by
    obtain ⟨h1, h2⟩ := comp_up h p (by omega)
    have hx : l.getD p (0, 0) = l[p] := by rw [List.getD_eq_getElem?_getD, List.getElem?_eq_getElem (by omega)]; rfl
    have ht : l.take (p + 1) = l.take p ++ [l[p]] := List.take_succ_eq_append_getElem (by omega)
    unfold comp
    by_cases hc : p = 0 ∨ l.getD p (0, 0) ≠ l.getD (p - 1) (0, 0)
    · rw [if_pos hc, hx, ht]
      constructor
      · unfold Up
        rw [List.pairwise_append]
        refine ⟨h1, List.pairwise_singleton .., fun y hy z hz => ?_⟩
        rw [List.mem_singleton] at hz
        subst hz
        have hy2 := (h2 y).1 hy
        obtain ⟨j, hj, rfl⟩ := List.mem_iff_getElem.1 hy2
        rw [List.length_take] at hj
        rw [List.getElem_take]
        have hp0 : 0 < p := by omega
        have hl : l.getD (p - 1) (0, 0) = l[p - 1] := by rw [List.getD_eq_getElem?_getD, List.getElem?_eq_getElem (by omega)]; rfl
        have h5 : l[p] ≠ l[p - 1] := by
          rcases hc with hc | hc
          · omega
          · rw [hx, hl] at hc; exact hc
        have h6 : lt l[p - 1] l[p] := by
          rcases (List.pairwise_iff_getElem.1 h) (p - 1) p (by omega) (by omega) (by omega) with h7 | h7
          · exact h7
          · exact absurd h7.symm h5
        by_cases hjp : j = p - 1
        · subst hjp; exact h6
        · exact lt_le ((List.pairwise_iff_getElem.1 h) j (p - 1) (by omega) (by omega) (by omega)) h6
      · intro x
        rw [List.mem_append, List.mem_append, h2 x]
    · rw [if_neg hc, List.append_nil, ht]
      refine ⟨h1, fun x => ?_⟩
      rw [List.mem_append, List.mem_singleton, h2 x]
      refine ⟨.inl, fun h3 => ?_⟩
      rcases h3 with h3 | h3
      · exact h3
      · have hp0 : p ≠ 0 := fun h => hc (.inl h)
        have he : l.getD p (0, 0) = l.getD (p - 1) (0, 0) := Classical.byContradiction fun h => hc (.inr h)
        rw [h3, ← hx, he, ← getD_take (p := p) (by omega)]
        rw [List.getD_eq_getElem?_getD, List.getElem?_eq_getElem (by rw [List.length_take]; omega)]
        exact List.getElem_mem _
theorem edgesOf_up (T : List S36) : Up (edgesOf T) := (comp_up (sorted_le _) _ (Nat.le_refl _)).1
theorem mem_edgesOf {T : List S36} {x : Int × Int} : x ∈ edgesOf T ↔ x ∈ raw T := by
  unfold edgesOf
  rw [(comp_up (sorted_le _) _ (Nat.le_refl _)).2 x, List.take_length, mem_sorted]
theorem edgesOf_eq {T : List S36} {l : List (Int × Int)} (h : Up l) (hm : ∀ x, x ∈ l ↔ x ∈ raw T) : edgesOf T = l := up_ext (edgesOf_up T) h fun x => by rw [mem_edgesOf, hm]
theorem border_eq {P : List S55} {T : List S36} (ht : MR.Told P T 0) {L l : List (Int × Int)} (hB : Bord (MM.datE (edgesU T T.length)) (fun _ => false) L) (h : Up l) (hm : ∀ x, x ∈ l ↔ x ∈ (edgesU T T.length).map (·.1) ∧ (x.2, x.1) ∉ (edgesU T T.length).map (·.1)) : sorted L = l :=
  up_ext (sorted_up hB.1) h fun x => by rw [mem_sorted, bord_iff ht hB, hm]
end Go.Proofs.YtckemiefcdpofaaDoor.EP
