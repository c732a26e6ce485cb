/- A number has as many bytes as it has sevens of bits, one at least and ten at most, and a greater one has no fewer; every two uint64, no condition. -/
import Derived.Test.YtgphhcakkoaipaaVintLawsB
namespace Go.Proofs.Ytgphhcakkoaipaa.Pure
open Go.RowKit Go.Proofs.Ytgphhcakkoaipaa.PVint

theorem VintLong : lapidarylaw01_VintLong.Pure := Go.Proofs.Ytgphhcakkoaipaa.VB.vintLong

end Go.Proofs.Ytgphhcakkoaipaa.Pure
