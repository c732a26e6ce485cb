/- PredictReads: the plain law. -/
import Derived.Test.YtgkncgiemfbglaaPredLaws2
namespace Go.Proofs.Ytgkncgiemfbglaa.Pure
open Go.RowKit Go.Proofs.Ytgkncgiemfbglaa.PPrd Go.Proofs.YtgkncgiemfbglaaW.PrintWords Go.Proofs.YtgkncgiemfbglaaW.PrintLast
theorem PredictReads : lapidarylaw14_PredictReads.Pure := VB.PredictReads
end Go.Proofs.Ytgkncgiemfbglaa.Pure
