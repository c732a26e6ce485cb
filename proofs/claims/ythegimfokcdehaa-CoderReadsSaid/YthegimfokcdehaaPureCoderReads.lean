/- Any bytes are the symbols that the document's answer has, of any models, or none, with the same error. -/
import Derived.Test.YthegimfokcdehaaPCodx21
import Derived.Test.YthegimfokcdehaaCoderLaws3
import Derived.OpenShut
namespace Go.Proofs.Ythegimfokcdehaa.Pure
open Go Go.RowKit Go.Proofs.Ythegimfokcdehaa.CM Go.Proofs.Ythegimfokcdehaa.CW Go.Proofs.Ythegimfokcdehaa.CL Go.Proofs.Ythegimfokcdehaa.PCod Go.Proofs.YthegimfokcdehaaW.PrintWords Go.Proofs.YthegimfokcdehaaW.PrintLast
set_option linter.unusedVariables false
set_option linter.unusedSimpArgs false
theorem reads_j (l0 l1 l2 : List Int) : Ev (fun k => lapidarylaw06_CoderReads.j0 k l0 l1 l2 true) true := by
  refine Ev.step (f := fun k => (lapidarylaw06_known.f k).bind fun t => some t) (fun k => ?_) (Ev.bind known_ev (Ev.now _))
  simp only [lapidarylaw06_CoderReads.j0, if_true]
theorem CoderReads : lapidarylaw06_CoderReads.Pure := by
  intro l0 l1 l2 _ _ w0 _ _ w1 _ _ w2
  have h0 := i64s_of w0
  have h1 := i64s_of w1
  have h2 := dig_of w2
  refine Ev.rounds ?_
  unfold lapidarylaw06_CoderReads.f
  by_cases h20 : (l0.length : Int) > 20
  · simp only [if_pos h20]
    exact reads_j l0 l1 l2
  · simp only [if_neg h20]
    by_cases h100 : (l1.length : Int) > 100
    · simp only [if_pos h100]
      exact reads_j l0 l1 l2
    · simp only [if_neg h100]
      by_cases h400 : (l2.length : Int) > 400
      · simp only [decide_eq_true h400]
        exact reads_j l0 l1 l2
      · simp only [decide_eq_false h400]
        have hl := dec_length l0 l1 l2 h2
        refine Ev.step (f := fun k => (lapidaryref06_Same.f k (decS l0 l1 l2).1 (decS l0 l1 l2).1).bind fun t267 => if t267 = true then (lapidarylaw06_known.f k).bind fun t => some t else some false) (fun k => ?_) (Ev.bind (sameC_ev _ (by omega)) (by simp only [if_true]; exact Ev.bind known_ev (Ev.now _)))
        simp only [lapidarylaw06_CoderReads.j0]
        rw [if_neg (by decide), dec_f (by omega) (by omega) (by omega) h0 h1 h2, Option.bind_some, rdec_f (by omega) (by omega) (by omega) h1 h2, Option.bind_some]
        simp only [if_true]
end Go.Proofs.Ythegimfokcdehaa.Pure
