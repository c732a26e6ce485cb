import Derived.Test.YtomknjmgcbbjlaaDoorWalkI
namespace Go.Proofs.YtomknjmgcbbjlaaDoor.WP
open Go.Proofs.YtomknjmgcbbjlaaDoor.Fan Go.Proofs.YtomknjmgcbbjlaaDoor.LK
set_option linter.unusedVariables false
set_option linter.unusedSimpArgs false
set_option maxRecDepth 100000
section
variable {look : Int × Int → Option Nat} {tr : Nat → Tri} {n : Nat} {look' : Int × Int → Option Nat} {tr' : Nat → Tri} {n' : Nat} {In : Int → Prop} {ν : Int → Int} {σ : Nat → Nat}
end
section
variable {look : Int × Int → Option Nat} {tr : Nat → Tri} {n : Nat}
theorem next_pre {w w' : Wk} (h : next look tr n w = some w') : w.O <+: w'.O ∧ w.R <+: w'.R := by
  unfold next at h
  cases hG : w.G with
  | cons g r =>
    rw [hG] at h
    injection h with h
    subst h
    unfold gate
    dsimp only
    split
    · exact ⟨List.prefix_refl _, List.prefix_refl _⟩
    · split
      · exact ⟨List.prefix_refl _, List.prefix_refl _⟩
      · exact ⟨List.prefix_append .., List.prefix_append ..⟩
  | nil =>
    rw [hG] at h
    cases hf : first n w.O with
    | none => rw [hf] at h; cases h
    | some i =>
      rw [hf] at h
      injection h with h
      subst h
      exact ⟨List.prefix_append .., List.prefix_append ..⟩
theorem fin_inv (hT : Tab look tr n) : Inv look tr n (fin look tr n) := reach_inv hT (fin_reach hT)
theorem fin_G (hT : Tab look tr n) : (fin look tr n).G = [] := (end_iff.1 (fin_end hT)).1
theorem fin_O (hT : Tab look tr n) {i : Nat} : i ∈ (fin look tr n).O ↔ i < n := ⟨(fin_inv hT).olt i, (end_iff.1 (fin_end hT)).2 i⟩
theorem fin_V (hT : Tab look tr n) {v : Int} : v ∈ (fin look tr n).V ↔ ∃ i, i < n ∧ has3 (tr i) v = true := by
  rw [(fin_inv hT).vO]
  constructor
  · rintro ⟨i, h1, h2⟩; exact ⟨i, (fin_O hT).1 h1, h2⟩
  · rintro ⟨i, h1, h2⟩; exact ⟨i, (fin_O hT).2 h1, h2⟩
end
end Go.Proofs.YtomknjmgcbbjlaaDoor.WP
namespace Go.Proofs.YtomknjmgcbbjlaaDoor.WP
open Go.Proofs.YtomknjmgcbbjlaaDoor.Fan Go.Proofs.YtomknjmgcbbjlaaDoor.LK
set_option linter.unusedVariables false
set_option linter.unusedSimpArgs false
set_option maxRecDepth 100000
theorem idx_get {α : Type} [BEq α] [LawfulBEq α] {l : List α} {a : α} (h : a ∈ l) : l[l.idxOf a]? = some a := by
  have h1 := List.idxOf_lt_length_of_mem h
  rw [List.getElem?_eq_getElem h1, List.getElem_idxOf]
theorem fnd_mem {V : List Int} {v : Int} (h : v ∈ V) : fnd V v = (V.idxOf v : Int) := by unfold fnd; rw [if_pos h]
section
variable {look : Int × Int → Option Nat} {tr : Nat → Tri} {n : Nat}
end
end Go.Proofs.YtomknjmgcbbjlaaDoor.WP
