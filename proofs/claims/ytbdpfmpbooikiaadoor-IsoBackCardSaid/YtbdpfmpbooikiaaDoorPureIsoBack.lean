/- Any numbers back, or that they are no numbering, is what the chapter says; back twice they are themselves. -/
import Derived.Test.YtbdpfmpbooikiaaDoorIsoBackP
namespace Go.Proofs.YtbdpfmpbooikiaaDoor.Pure
open Go.RowKit Go.Proofs.YtbdpfmpbooikiaaDoor.PIso Go.Proofs.YtbdpfmpbooikiaaDoorW.PrintWords Go.Proofs.YtbdpfmpbooikiaaDoorW.PrintLast

theorem IsoBack : lapidarylaw13_IsoBack.Pure := by
  intro l _ _ _
  exact IsoB.isoBack l

end Go.Proofs.YtbdpfmpbooikiaaDoor.Pure
