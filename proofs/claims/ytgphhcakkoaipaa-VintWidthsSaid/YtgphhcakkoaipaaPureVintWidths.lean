/- A fixed field is read as it was at any place, one byte wider it has a nought behind, and what does not go in is refused; every number and width, bytes ahead 400 at most (else the examples alone are asked). -/
import Derived.Test.YtgphhcakkoaipaaVintLawsW
namespace Go.Proofs.Ytgphhcakkoaipaa.Pure
open Go.RowKit Go.Proofs.Ytgphhcakkoaipaa.PVint

theorem VintWidths : lapidarylaw01_VintWidths.Pure := Go.Proofs.Ytgphhcakkoaipaa.VB.vintWidths

end Go.Proofs.Ytgphhcakkoaipaa.Pure
