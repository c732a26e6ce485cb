/- PredictBytes: the plain law. -/
import Derived.Test.YtgkncgiemfbglaaPredLaws2
namespace Go.Proofs.Ytgkncgiemfbglaa.Pure
open Go.RowKit Go.Proofs.Ytgkncgiemfbglaa.PPrd Go.Proofs.YtgkncgiemfbglaaW.PrintWords Go.Proofs.YtgkncgiemfbglaaW.PrintLast
theorem PredictBytes : lapidarylaw14_PredictBytes.Pure := VB.PredictBytes
end Go.Proofs.Ytgkncgiemfbglaa.Pure
