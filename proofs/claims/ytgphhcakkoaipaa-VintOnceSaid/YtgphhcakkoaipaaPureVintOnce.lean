/- A number's bytes are read as it among any others (400 at most, else the examples alone are asked), bytes that are a number are its bytes, and cut short they are missing some; every input within the form's reach. -/
import Derived.Test.YtgphhcakkoaipaaVintLawsO
namespace Go.Proofs.Ytgphhcakkoaipaa.Pure
open Go.RowKit Go.Proofs.Ytgphhcakkoaipaa.PVint

theorem VintOnce : lapidarylaw01_VintOnce.Pure := Go.Proofs.Ytgphhcakkoaipaa.VB.vintOnce

end Go.Proofs.Ytgphhcakkoaipaa.Pure
