import Derived.Test.YtomknjmgcbbjlaaDoorLikeP
import Derived.Test.YtomknjmgcbbjlaaDoorMeshRef
namespace Go.Proofs.YtomknjmgcbbjlaaDoor.LK
open Go Go.RowKit Go.Proofs.YtomknjmgcbbjlaaDoor.Fan Go.Proofs.YtomknjmgcbbjlaaDoor.MR Go.Proofs.YtomknjmgcbbjlaaDoor.PWlk Go.Proofs.YtomknjmgcbbjlaaDoor.MM
set_option linter.unusedVariables false
set_option linter.unusedSimpArgs false
set_option maxRecDepth 100000
theorem triOk_iff {n : Nat} {q : S47} : TriOk n q ↔ plain3 (trT q) ∧ ∀ v, has3 (trT q) v = true → 0 ≤ v ∧ v < n := by
  obtain ⟨a, b, c⟩ := q
  simp only [TriOk, plain3, trT, has3, Bool.or_eq_true, beq_iff_eq]
  constructor
  · rintro ⟨⟨h0, h1, h2⟩, h3, h4, h5⟩
    refine ⟨⟨h3, h4, h5⟩, ?_⟩
    rintro v ((rfl | rfl) | rfl)
    · exact h0
    · exact h1
    · exact h2
  · rintro ⟨⟨h3, h4, h5⟩, h⟩
    exact ⟨⟨h a (.inl (.inl rfl)), h b (.inl (.inr rfl)), h c (.inr rfl)⟩, h3, h4, h5⟩
section
variable {P P' : List S46} {T T' : List S47} {ν : Int → Int} {fl : Bool} {σ : Nat → Nat} {In : Int → Prop}
theorem Like.round (h : Like In ν fl (trs T) T.length (trs T') T'.length σ) (g : Fan.Good (trs T) T.length) (g' : Fan.Good (trs T') T'.length) {n n' : Nat} (hn : ∀ v : Nat, v < n → In v ∧ ∃ u : Nat, u < n' ∧ ν v = u) (hon : ∀ u : Nat, u < n' → ∃ v : Nat, v < n ∧ ν v = u) : Round n' T' g' ↔ Round n T g := by
  constructor
  · intro hr v hv
    obtain ⟨hi, u, hu, he⟩ := hn v hv
    have := hr u hu
    rw [← he] at this
    exact ⟨(h.some_ hi).1 this.1, (h.whole g g' hi).1 this.2⟩
  · intro hr u hu
    obtain ⟨v, hv, he⟩ := hon u hu
    have := hr v hv
    rw [← he]
    exact ⟨(h.some_ (hn v hv).1).2 this.1, (h.whole g g' (hn v hv).1).2 this.2⟩
theorem told_like (ht : MR.Told P T 0) (h : Like (fun v => 0 ≤ v ∧ v < P.length) ν fl (trs T) T.length (trs T') T'.length σ) (hP : P'.length = P.length) (hT : T'.length = T.length) (hpt : ∀ i, i < P'.length → PtOk (P'.getD i z46)) (hν : ∀ v : Int, 0 ≤ v → v < P.length → 0 ≤ ν v ∧ ν v < P.length) (hon : ∀ u : Nat, u < P.length → ∃ v : Nat, v < P.length ∧ ν v = u) : MR.Told P' T' 0 := by
  generalize h0 : (0 : Int) = r at ht
  cases ht with
  | long h => cases h0
  | arg _ h => cases h0
  | edge _ _ h => cases h0
  | vertex _ _ _ h => cases h0
  | ok hl hp hs hr =>
    have hp' : Plain P' T' := ⟨hpt, fun j hj => by
      obtain ⟨i, hi, rfl⟩ := h.onto j hj
      rw [triOk_iff]
      have h1 := triOk_iff.1 (hp.2 i hi)
      refine ⟨(h.plain hi).2 h1.1, fun v hv => ?_⟩
      obtain ⟨u, hu, rfl⟩ := (h.has hi).1 hv
      have h2 := h1.2 u hu
      rw [hP]
      exact hν u h2.1 h2.2⟩
    have hs' : Single T' := h.single.2 hs
    rw [h0]
    refine .ok ⟨by omega, by omega⟩ hp' hs' ((h.round (good_of hp hs) (good_of hp' hs') (fun v hv => ⟨⟨by omega, by omega⟩, ?_⟩) (fun u hu => hon u (by omega))).2 hr)
    have h3 := hν v (by omega) (by omega)
    exact ⟨(ν v).toNat, by omega, by omega⟩
end
end Go.Proofs.YtomknjmgcbbjlaaDoor.LK
