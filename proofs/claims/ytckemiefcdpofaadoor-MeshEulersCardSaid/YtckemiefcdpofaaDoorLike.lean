import Derived.Test.YtckemiefcdpofaaDoorLikeP
import Derived.Test.YtckemiefcdpofaaDoorMeshRef
namespace Go.Proofs.YtckemiefcdpofaaDoor.LK
open Go Go.RowKit Go.Proofs.YtckemiefcdpofaaDoor.Fan Go.Proofs.YtckemiefcdpofaaDoor.MR Go.Proofs.YtckemiefcdpofaaDoor.PMsr Go.Proofs.YtckemiefcdpofaaDoor.MM
set_option linter.unusedVariables false
set_option linter.unusedSimpArgs false
set_option maxRecDepth 100000
theorem triOk_iff {n : Nat} {q : S36} : TriOk n q ↔ plain3 (trT q) ∧ ∀ v, has3 (trT q) v = true → 0 ≤ v ∧ v < n := by
  obtain ⟨a, b, c⟩ := q
  simp only [TriOk, plain3, trT, has3, Bool.or_eq_true, beq_iff_eq]
  constructor
  · rintro ⟨⟨h0, h1, h2⟩, h3, h4, h5⟩
    refine ⟨⟨h3, h4, h5⟩, ?_⟩
    rintro v ((rfl | rfl) | rfl)
    · exact h0
    · exact h1
    · exact h2
  · rintro ⟨⟨h3, h4, h5⟩, h⟩
    exact ⟨⟨h a (.inl (.inl rfl)), h b (.inl (.inr rfl)), h c (.inr rfl)⟩, h3, h4, h5⟩
section
variable {P P' : List S55} {T T' : List S36} {ν : Int → Int} {fl : Bool} {σ : Nat → Nat} {In : Int → Prop}
theorem Like.round (h : Like In ν fl (trs T) T.length (trs T') T'.length σ) (g : Fan.Good (trs T) T.length) (g' : Fan.Good (trs T') T'.length) {n n' : Nat} (hn : ∀ v : Nat, v < n → In v ∧ ∃ u : Nat, u < n' ∧ ν v = u) (hon : ∀ u : Nat, u < n' → ∃ v : Nat, v < n ∧ ν v = u) : Round n' T' g' ↔ Round n T g := by
  constructor
  · intro hr v hv
    obtain ⟨hi, u, hu, he⟩ := hn v hv
    have := hr u hu
    rw [← he] at this
    exact ⟨(h.some_ hi).1 this.1, (h.whole g g' hi).1 this.2⟩
  · intro hr u hu
    obtain ⟨v, hv, he⟩ := hon u hu
    have := hr v hv
    rw [← he]
    exact ⟨(h.some_ (hn v hv).1).2 this.1, (h.whole g g' (hn v hv).1).2 this.2⟩
theorem told_turned {r : Int} (ht : MR.Told P T r) (hT : T'.length = T.length) (hlt : ∀ i, i < T.length → σ i < T'.length) (hinj : ∀ i, i < T.length → ∀ j, j < T.length → σ i = σ j → i = j) (honto : ∀ j, j < T'.length → ∃ i, i < T.length ∧ σ i = j) (htri : ∀ i, i < T.length → Rot (if fl then flip3 (trs T i) else trs T i) (trs T' (σ i))) : MR.Told P T' r := by
  have h : Like (fun _ => True) (fun v => v) fl (trs T) T.length (trs T') T'.length σ := ⟨hlt, hinj, honto, htri, fun _ _ _ _ e => e, fun _ _ _ _ => trivial⟩
  have hpl : Plain P T' ↔ Plain P T := by
    constructor
    · intro hp
      refine ⟨hp.1, fun i hi => ?_⟩
      have h1 := triOk_iff.1 (hp.2 (σ i) (hlt i hi))
      exact triOk_iff.2 ⟨(h.plain hi).1 h1.1, fun v hv => h1.2 v ((h.has' hi trivial).2 hv)⟩
    · intro hp
      refine ⟨hp.1, fun j hj => ?_⟩
      obtain ⟨i, hi, rfl⟩ := honto j hj
      have h1 := triOk_iff.1 (hp.2 i hi)
      refine triOk_iff.2 ⟨(h.plain hi).2 h1.1, fun v hv => h1.2 v ((h.has' hi trivial).1 hv)⟩
  have hsi : Single T' ↔ Single T := h.single
  have hro : ∀ g g', Round P.length T' g' ↔ Round P.length T g := fun g g' => h.round g g' (fun v hv => ⟨trivial, v, hv, rfl⟩) (fun u hu => ⟨u, hu, rfl⟩)
  cases ht with
  | long h => exact .long (by omega)
  | arg hl hp => exact .arg (by omega) fun x => hp (hpl.1 x)
  | edge hl hp hs => exact .edge (by omega) (hpl.2 hp) fun x => hs (hsi.1 x)
  | vertex hl hp hs hr => exact .vertex (by omega) (hpl.2 hp) (hsi.2 hs) fun x => hr ((hro _ _).1 x)
  | ok hl hp hs hr => exact .ok (by omega) (hpl.2 hp) (hsi.2 hs) ((hro _ _).2 hr)
end
end Go.Proofs.YtckemiefcdpofaaDoor.LK
