/- lapidarylaw14.known, in the print's form: it answers true. -/
import Derived.Test.YtgkncgiemfbglaaPKnown
namespace Go.Proofs.Ytgkncgiemfbglaa.PPrd
open Go Go.RowKit Go.Proofs.YtgkncgiemfbglaaW.PrintWords Go.Proofs.YtgkncgiemfbglaaW.PrintLast Go.Proofs.YtgkncgiemfbglaaW.PrintMore
def lapidarylaw14_known.f : Option Bool := some true
theorem lapidarylaw14_known.calls (r : Bool) (w : World) (h : lapidarylaw14_known.f = some r) :
    Calls Try.prog 5 #[] w fun e w' => e = .returned (.bool r) ∧ Below w.heap.size w w' := by
  cases h
  exact PT.known5 w
end Go.Proofs.Ytgkncgiemfbglaa.PPrd
