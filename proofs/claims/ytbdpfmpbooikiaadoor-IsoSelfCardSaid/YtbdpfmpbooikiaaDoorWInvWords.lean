import Derived.Test.YtbdpfmpbooikiaaDoorWInv
import Derived.Test.YtbdpfmpbooikiaaDoorWFootNe
namespace Go.Proofs.YtbdpfmpbooikiaaDoorW.PrintWords
open Go.RowKit
end Go.Proofs.YtbdpfmpbooikiaaDoorW.PrintWords
namespace Go.Proofs.YtbdpfmpbooikiaaDoorW.PrintLast
section
variable {ops : Array Oper} {a : Act} {o og : Oper} {g : Nat} {t : Tmp} {u : Bool}
end
end Go.Proofs.YtbdpfmpbooikiaaDoorW.PrintLast
