/- Of any numbers (400 at most, else the examples alone are asked) the bytes that vint.Put gives are the document's, one behind the other; every list of uint64 within the form's reach. -/
import Derived.Test.YtgphhcakkoaipaaVintLawsA
namespace Go.Proofs.Ytgphhcakkoaipaa.Pure
open Go.RowKit Go.Proofs.Ytgphhcakkoaipaa.PVint

theorem VintPuts : lapidarylaw01_VintPuts.Pure := Go.Proofs.Ytgphhcakkoaipaa.VB.vintPuts

end Go.Proofs.Ytgphhcakkoaipaa.Pure
