/- Fixed fields are written and read as the document says, at any number, width, bytes (4000 at most, else the examples alone are asked) and place; every input within the form's reach. -/
import Derived.Test.YtgphhcakkoaipaaVintLawsF
namespace Go.Proofs.Ytgphhcakkoaipaa.Pure
open Go.RowKit Go.Proofs.Ytgphhcakkoaipaa.PVint

theorem VintFields : lapidarylaw01_VintFields.Pure := Go.Proofs.Ytgphhcakkoaipaa.VB.vintFields

end Go.Proofs.Ytgphhcakkoaipaa.Pure
