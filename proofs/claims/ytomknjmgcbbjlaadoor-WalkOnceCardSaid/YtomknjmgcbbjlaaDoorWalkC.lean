import Derived.Test.YtomknjmgcbbjlaaDoorWalkS
namespace Go.Proofs.YtomknjmgcbbjlaaDoor.WP
open Go.Proofs.YtomknjmgcbbjlaaDoor.Fan Go.Proofs.YtomknjmgcbbjlaaDoor.LK
set_option linter.unusedVariables false
set_option linter.unusedSimpArgs false
set_option maxRecDepth 100000
def zT : Tri := (0, 0, 0)
theorem idx_get {α : Type} [BEq α] [LawfulBEq α] {l : List α} {a : α} (h : a ∈ l) : l[l.idxOf a]? = some a := by
  have h1 := List.idxOf_lt_length_of_mem h
  rw [List.getElem?_eq_getElem h1, List.getElem_idxOf]
theorem idx_of_get {α : Type} [BEq α] [LawfulBEq α] {l : List α} (hn : l.Nodup) {k : Nat} {a : α} (h : l[k]? = some a) : l.idxOf a = k := by
  obtain ⟨h1, h2⟩ := List.getElem?_eq_some_iff.1 h
  have hm : a ∈ l := h2 ▸ List.getElem_mem h1
  have h3 := idx_get hm
  obtain ⟨h4, h5⟩ := List.getElem?_eq_some_iff.1 h3
  rcases Nat.lt_trichotomy (l.idxOf a) k with h6 | h6 | h6
  · exact absurd (h5.trans h2.symm) ((List.pairwise_iff_getElem.1 hn) _ _ h4 h1 h6)
  · exact h6
  · exact absurd (h2.trans h5.symm) ((List.pairwise_iff_getElem.1 hn) _ _ h1 h4 h6)
theorem fnd_mem {V : List Int} {v : Int} (h : v ∈ V) : fnd V v = (V.idxOf v : Int) := by unfold fnd; rw [if_pos h]
theorem fnd_inj {V : List Int} {a b : Int} (ha : a ∈ V) (hb : b ∈ V) (h : fnd V a = fnd V b) : a = b := by
  rw [fnd_mem ha, fnd_mem hb] at h
  have h1 := idx_get ha
  rw [show V.idxOf a = V.idxOf b by omega, idx_get hb] at h1
  exact (Option.some.inj h1).symm
theorem map_fnd {V : List Int} (h : V.Nodup) : V.map (fnd V) = (List.range V.length).map fun i : Nat => (i : Int) := by
  refine List.ext_getElem (by simp) fun k h1 h2 => ?_
  rw [List.length_map] at h1
  rw [List.getElem_map, List.getElem_map, List.getElem_range, fnd_mem (List.getElem_mem h1), idx_of_get h (List.getElem?_eq_getElem h1)]
section
variable {look : Int × Int → Option Nat} {tr : Nat → Tri} {n : Nat}
def ctr (look : Int × Int → Option Nat) (tr : Nat → Tri) (n : Nat) (k : Nat) : Tri := (fin look tr n).T.getD k zT
theorem ctr_R (hT : Tab look tr n) {k : Nat} (hk : k < n) : ∃ t, (fin look tr n).R[k]? = some t ∧ ctr look tr n k = map3 (fnd (fin look tr n).V) t := by
  have h1 : k < (fin look tr n).R.length := by rw [fin_Rlen hT]; exact hk
  refine ⟨_, List.getElem?_eq_getElem h1, ?_⟩
  unfold ctr
  rw [(fin_inv hT).tm, List.getD_eq_getElem?_getD, List.getElem?_map, List.getElem?_eq_getElem h1]
  rfl
theorem canon_like (hT : Tab look tr n) : Like (fun v => v ∈ (fin look tr n).V) (fnd (fin look tr n).V) false tr n (ctr look tr n) n (fun i => (fin look tr n).O.idxOf i) where
  lt := fun i hi => by
    have := List.idxOf_lt_length_of_mem ((fin_O hT).2 hi)
    rw [fin_Olen hT] at this
    exact this
  inj := fun i hi j hj e => by
    have h1 := idx_get ((fin_O hT).2 hi)
    rw [e, idx_get ((fin_O hT).2 hj)] at h1
    exact (Option.some.inj h1).symm
  onto := fun j hj => by
    have h1 : j < (fin look tr n).O.length := by rw [fin_Olen hT]; exact hj
    exact ⟨(fin look tr n).O[j], (fin_O hT).1 (List.getElem_mem h1), idx_of_get (fin_inv hT).ond (List.getElem?_eq_getElem h1)⟩
  tri := fun i hi => by
    have hm := (fin_O hT).2 hi
    have hlt : (fin look tr n).O.idxOf i < n := by
      have := List.idxOf_lt_length_of_mem hm
      rw [fin_Olen hT] at this
      exact this
    obtain ⟨t, h1, h2⟩ := ctr_R hT hlt
    rw [h2]
    have h3 := (fin_inv hT).rot _ i t (idx_get hm) h1
    simp only [Bool.false_eq_true, if_false]
    rcases h3 with rfl | rfl | rfl
    · exact Rot.refl _
    · exact .inr (.inl rfl)
    · exact .inr (.inr rfl)
  vinj := fun a ha b hb e => fnd_inj ha hb e
  inn := fun i hi v hv => (fin_V hT).2 ⟨i, hi, hv⟩
theorem canon_sim (hT : Tab look tr n) {look' : Int × Int → Option Nat} {tr' : Nat → Tri} (hT' : Tab look' tr' n) (he : ∀ k, k < n → tr' k = ctr look tr n k) : Rel (fnd (fin look tr n).V) (fun i => (fin look tr n).O.idxOf i) (fin look tr n) (fin look' tr' n) := by
  have hc := canon_like hT
  have hL : Like (fun v => v ∈ (fin look tr n).V) (fnd (fin look tr n).V) false tr n tr' n (fun i => (fin look tr n).O.idxOf i) :=
    ⟨hc.lt, hc.inj, hc.onto, fun i hi => by rw [he _ (hc.lt i hi)]; exact hc.tri i hi, hc.vinj, hc.inn⟩
  refine sim hT hT' hL fun w i hw hG hf => ?_
  obtain ⟨h1, h2, h3⟩ := first_some hf
  have hw1 : Reach look tr n (seed tr w i) := hw.next (by unfold next; rw [hG]; dsimp only; rw [hf])
  have hp := reach_pre hT hw1
  have hp0 := reach_pre hT hw
  have hwi := reach_inv hT hw
  have hO : (fin look tr n).O[w.O.length]? = some i := by
    obtain ⟨X, hX⟩ := hp.1
    rw [← hX]
    show ((w.O ++ [i]) ++ X)[w.O.length]? = _
    rw [List.append_assoc, List.getElem?_append_right (Nat.le_refl _), Nat.sub_self]
    rfl
  have hR : (fin look tr n).R[w.O.length]? = some (tr i) := by
    obtain ⟨X, hX⟩ := hp.2
    rw [← hX]
    show ((w.R ++ [tr i]) ++ X)[w.O.length]? = _
    rw [List.append_assoc, List.getElem?_append_right (by rw [hwi.len]; exact Nat.le_refl _), hwi.len, Nat.sub_self]
    rfl
  have hs := idx_of_get (fin_inv hT).ond hO
  have hlt := more_lt hwi i h2 h1
  have hm : w.O.map (fun i => (fin look tr n).O.idxOf i) = List.range w.O.length := by
    obtain ⟨X, hX⟩ := hp0.1
    refine List.ext_getElem (by simp) fun k h4 h5 => ?_
    rw [List.length_map] at h4
    rw [List.getElem_map, List.getElem_range]
    have h6 : (w.O ++ X)[k]? = some w.O[k] := by rw [List.getElem?_append_left h4, List.getElem?_eq_getElem h4]
    rw [hX] at h6
    exact idx_of_get (fin_inv hT).ond h6
  refine ⟨?_, ?_⟩
  · rw [hm, hs]
    exact first_is hlt (by simp) fun j hj => List.mem_range.2 hj
  · rw [hs, he _ hlt]
    obtain ⟨t, h4, h5⟩ := ctr_R hT hlt
    rw [h5]
    rw [hR] at h4
    rw [Option.some.inj h4]
end
end Go.Proofs.YtomknjmgcbbjlaaDoor.WP
