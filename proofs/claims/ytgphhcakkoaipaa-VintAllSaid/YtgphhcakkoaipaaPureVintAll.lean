/- Any bytes (4000 at most, else the examples alone are asked) are read to the end as the document says; every input within the form's reach. -/
import Derived.Test.YtgphhcakkoaipaaVintLawsC
namespace Go.Proofs.Ytgphhcakkoaipaa.Pure
open Go.RowKit Go.Proofs.Ytgphhcakkoaipaa.PVint

theorem VintAll : lapidarylaw01_VintAll.Pure := Go.Proofs.Ytgphhcakkoaipaa.VB.vintAll

end Go.Proofs.Ytgphhcakkoaipaa.Pure
