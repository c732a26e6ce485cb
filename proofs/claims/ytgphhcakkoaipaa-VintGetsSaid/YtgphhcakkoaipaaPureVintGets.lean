/- Of any bytes (4000 at most, else the examples alone are asked) and any place vint.Get gives the document's number, place and error; every input within the form's reach. -/
import Derived.Test.YtgphhcakkoaipaaVintLawsA
namespace Go.Proofs.Ytgphhcakkoaipaa.Pure
open Go.RowKit Go.Proofs.Ytgphhcakkoaipaa.PVint

theorem VintGets : lapidarylaw01_VintGets.Pure := Go.Proofs.Ytgphhcakkoaipaa.VB.vintGets

end Go.Proofs.Ytgphhcakkoaipaa.Pure
