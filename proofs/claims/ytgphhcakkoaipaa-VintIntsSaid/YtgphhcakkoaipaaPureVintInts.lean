/- Any signed number has the document's bytes and turn, and any bytes (4000 at most, else the examples alone are asked) are read as the document says; every input within the form's reach. -/
import Derived.Test.YtgphhcakkoaipaaVintLawsB
namespace Go.Proofs.Ytgphhcakkoaipaa.Pure
open Go.RowKit Go.Proofs.Ytgphhcakkoaipaa.PVint

theorem VintInts : lapidarylaw01_VintInts.Pure := Go.Proofs.Ytgphhcakkoaipaa.VB.vintInts

end Go.Proofs.Ytgphhcakkoaipaa.Pure
