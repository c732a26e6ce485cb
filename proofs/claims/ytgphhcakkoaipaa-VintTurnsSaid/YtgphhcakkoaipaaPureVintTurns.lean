/- vint.Zag undoes vint.Zig and Zig undoes Zag, and Zag is the document's; every int and every uint64, no condition. -/
import Derived.Test.YtgphhcakkoaipaaVintLawsT
namespace Go.Proofs.Ytgphhcakkoaipaa.Pure
open Go.RowKit Go.Proofs.Ytgphhcakkoaipaa.PVint

theorem VintTurns : lapidarylaw01_VintTurns.Pure := Go.Proofs.Ytgphhcakkoaipaa.VB.vintTurns

end Go.Proofs.Ytgphhcakkoaipaa.Pure
