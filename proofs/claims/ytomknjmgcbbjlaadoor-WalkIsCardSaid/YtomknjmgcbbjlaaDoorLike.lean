import Derived.Test.YtomknjmgcbbjlaaDoorLikeP
import Derived.Test.YtomknjmgcbbjlaaDoorMeshRef
namespace Go.Proofs.YtomknjmgcbbjlaaDoor.LK
open Go Go.RowKit Go.Proofs.YtomknjmgcbbjlaaDoor.Fan Go.Proofs.YtomknjmgcbbjlaaDoor.MR Go.Proofs.YtomknjmgcbbjlaaDoor.PWlk Go.Proofs.YtomknjmgcbbjlaaDoor.MM
set_option linter.unusedVariables false
set_option linter.unusedSimpArgs false
set_option maxRecDepth 100000
theorem triOk_iff {n : Nat} {q : S47} : TriOk n q ↔ plain3 (trT q) ∧ ∀ v, has3 (trT q) v = true → 0 ≤ v ∧ v < n := by
  obtain ⟨a, b, c⟩ := q
  simp only [TriOk, plain3, trT, has3, Bool.or_eq_true, beq_iff_eq]
  constructor
  · rintro ⟨⟨h0, h1, h2⟩, h3, h4, h5⟩
    refine ⟨⟨h3, h4, h5⟩, ?_⟩
    rintro v ((rfl | rfl) | rfl)
    · exact h0
    · exact h1
    · exact h2
  · rintro ⟨⟨h3, h4, h5⟩, h⟩
    exact ⟨⟨h a (.inl (.inl rfl)), h b (.inl (.inr rfl)), h c (.inr rfl)⟩, h3, h4, h5⟩
section
variable {P P' : List S46} {T T' : List S47} {ν : Int → Int} {fl : Bool} {σ : Nat → Nat} {In : Int → Prop}
theorem Like.round (h : Like In ν fl (trs T) T.length (trs T') T'.length σ) (g : Fan.Good (trs T) T.length) (g' : Fan.Good (trs T') T'.length) {n n' : Nat} (hn : ∀ v : Nat, v < n → In v ∧ ∃ u : Nat, u < n' ∧ ν v = u) (hon : ∀ u : Nat, u < n' → ∃ v : Nat, v < n ∧ ν v = u) : Round n' T' g' ↔ Round n T g := by
  constructor
  · intro hr v hv
    obtain ⟨hi, u, hu, he⟩ := hn v hv
    have := hr u hu
    rw [← he] at this
    exact ⟨(h.some_ hi).1 this.1, (h.whole g g' hi).1 this.2⟩
  · intro hr u hu
    obtain ⟨v, hv, he⟩ := hon u hu
    have := hr v hv
    rw [← he]
    exact ⟨(h.some_ (hn v hv).1).2 this.1, (h.whole g g' (hn v hv).1).2 this.2⟩
end
end Go.Proofs.YtomknjmgcbbjlaaDoor.LK
