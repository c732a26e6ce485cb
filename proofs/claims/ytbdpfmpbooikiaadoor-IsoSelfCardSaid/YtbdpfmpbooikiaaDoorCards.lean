/-
  DERIVED. GIVEN WITH THE SEED: THE CARDS: each row of YtbdpfmpbooikiaaDoorRows.lean that lists a variable, with what it lists TIED to the program's text (the seventh form; the later family's looks); each row that meets fmt, with fmt's text TOLD by the authors' own Lean function (tested against real Go, not proved from fmt's source: count such statements apart). THE CARD IS WHAT COUNTS. Prove the row's statement (the work); the ties are given (YtbdpfmpbooikiaaDoorTie.lean); close each card by the builder's one call (the guide's Derived/Test/ToyasCard.lean, 'card_holds'). Laid BY PROGRAM, IN A SANDBOX (cutbox-door.mjs). By AI agents, Wed Nov 11 2026. No macro, syntax, notation, axiom, sorry.
-/
import Derived.Test.YtbdpfmpbooikiaaDoorRows
import GoSem.ClaimSeven
namespace Go.Proofs.YtbdpfmpbooikiaaDoor
namespace Rows

/-- THE TIED CARD OF 'lapidarylaw13.IsoIs'. -/
def isoIsCard : Claim7 := { stood := { row := isoIsRow, standIns := [], harness := (true, "8968d49dddb4f811815a1a7d7e9066b33b0668ed5864afd6bc6e77e6e2d01e25"), looks := false }, kinds := [], alts := [], laidByText := true, laidKinds := [.data], laidTests := true, laidLooks := .later }
def IsoIsCardSaid : Prop := Claim7.holds Tryd.pinned (.plain (OpenSpec.ofChange isoIsSpec)) isoIsCard

/-- THE TIED CARD OF 'lapidarylaw13.IsoBack'. -/
def isoBackCard : Claim7 := { stood := { row := isoBackRow, standIns := [], harness := (true, "8968d49dddb4f811815a1a7d7e9066b33b0668ed5864afd6bc6e77e6e2d01e25"), looks := false }, kinds := [], alts := [], laidByText := true, laidKinds := [.data], laidTests := true, laidLooks := .later }
def IsoBackCardSaid : Prop := Claim7.holds Tryd.pinned (.plain (OpenSpec.ofChange isoBackSpec)) isoBackCard

/-- THE TIED CARD OF 'lapidarylaw13.IsoRenames'. -/
def isoRenamesCard : Claim7 := { stood := { row := isoRenamesRow, standIns := [], harness := (true, "8968d49dddb4f811815a1a7d7e9066b33b0668ed5864afd6bc6e77e6e2d01e25"), looks := false }, kinds := [], alts := [], laidByText := true, laidKinds := [.data], laidTests := true, laidLooks := .later }
def IsoRenamesCardSaid : Prop := Claim7.holds Tryd.pinned (.plain (OpenSpec.ofChange isoRenamesSpec)) isoRenamesCard

/-- THE TIED CARD OF 'lapidarylaw13.IsoSelf'. -/
def isoSelfCard : Claim7 := { stood := { row := isoSelfRow, standIns := [], harness := (true, "8968d49dddb4f811815a1a7d7e9066b33b0668ed5864afd6bc6e77e6e2d01e25"), looks := false }, kinds := [], alts := [], laidByText := true, laidKinds := [.data], laidTests := true, laidLooks := .later }
def IsoSelfCardSaid : Prop := Claim7.holds Tryd.pinned (.plain (OpenSpec.ofChange isoSelfSpec)) isoSelfCard

/-- THE TIED CARD OF 'lapidarylaw13.IsoTwice'. -/
def isoTwiceCard : Claim7 := { stood := { row := isoTwiceRow, standIns := [], harness := (true, "8968d49dddb4f811815a1a7d7e9066b33b0668ed5864afd6bc6e77e6e2d01e25"), looks := false }, kinds := [], alts := [], laidByText := true, laidKinds := [.data], laidTests := true, laidLooks := .later }
def IsoTwiceCardSaid : Prop := Claim7.holds Tryd.pinned (.plain (OpenSpec.ofChange isoTwiceSpec)) isoTwiceCard

/-- THE TIED CARD OF 'lapidarylaw13.IsoFrom'. -/
def isoFromCard : Claim7 := { stood := { row := isoFromRow, standIns := [], harness := (true, "8968d49dddb4f811815a1a7d7e9066b33b0668ed5864afd6bc6e77e6e2d01e25"), looks := false }, kinds := [], alts := [], laidByText := true, laidKinds := [.data], laidTests := true, laidLooks := .later }
def IsoFromCardSaid : Prop := Claim7.holds Tryd.pinned (.plain (OpenSpec.ofChange isoFromSpec)) isoFromCard

/-- THE TIED CARD OF 'lapidarylaw13.IsoWitness'. -/
def isoWitnessCard : Claim7 := { stood := { row := isoWitnessRow, standIns := [], harness := (true, "8968d49dddb4f811815a1a7d7e9066b33b0668ed5864afd6bc6e77e6e2d01e25"), looks := false }, kinds := [], alts := [], laidByText := true, laidKinds := [.data], laidTests := true, laidLooks := .later }
def IsoWitnessCardSaid : Prop := Claim7.holds Tryd.pinned (.plain (OpenSpec.ofChange isoWitnessSpec)) isoWitnessCard

/-- THE TIED CARD OF 'lapidarylaw13.IsoCorners'. -/
def isoCornersCard : Claim7 := { stood := { row := isoCornersRow, standIns := [], harness := (true, "8968d49dddb4f811815a1a7d7e9066b33b0668ed5864afd6bc6e77e6e2d01e25"), looks := false }, kinds := [], alts := [], laidByText := true, laidKinds := [.data], laidTests := true, laidLooks := .later }
def IsoCornersCardSaid : Prop := Claim7.holds Tryd.pinned (.plain (OpenSpec.ofChange isoCornersSpec)) isoCornersCard

/-- THE SECOND FORM's CARD OF 'lapidarylaw13.IsoIs'. -/
def isoIsUptoCard : Claim7 := { stood := { row := isoIsUptoRow, standIns := [], harness := (true, "8968d49dddb4f811815a1a7d7e9066b33b0668ed5864afd6bc6e77e6e2d01e25"), looks := false }, kinds := [], alts := [], laidByText := true, laidKinds := [.data], laidTests := true, laidLooks := .later }
def IsoIsUptoCardSaid : Prop := Claim7.holds Tryd.pinned (.plain (OpenSpec.upto isoIsSpec)) isoIsUptoCard

/-- THE SECOND FORM's CARD OF 'lapidarylaw13.IsoBack'. -/
def isoBackUptoCard : Claim7 := { stood := { row := isoBackUptoRow, standIns := [], harness := (true, "8968d49dddb4f811815a1a7d7e9066b33b0668ed5864afd6bc6e77e6e2d01e25"), looks := false }, kinds := [], alts := [], laidByText := true, laidKinds := [.data], laidTests := true, laidLooks := .later }
def IsoBackUptoCardSaid : Prop := Claim7.holds Tryd.pinned (.plain (OpenSpec.upto isoBackSpec)) isoBackUptoCard

/-- THE SECOND FORM's CARD OF 'lapidarylaw13.IsoRenames'. -/
def isoRenamesUptoCard : Claim7 := { stood := { row := isoRenamesUptoRow, standIns := [], harness := (true, "8968d49dddb4f811815a1a7d7e9066b33b0668ed5864afd6bc6e77e6e2d01e25"), looks := false }, kinds := [], alts := [], laidByText := true, laidKinds := [.data], laidTests := true, laidLooks := .later }
def IsoRenamesUptoCardSaid : Prop := Claim7.holds Tryd.pinned (.plain (OpenSpec.upto isoRenamesSpec)) isoRenamesUptoCard

/-- THE SECOND FORM's CARD OF 'lapidarylaw13.IsoSelf'. -/
def isoSelfUptoCard : Claim7 := { stood := { row := isoSelfUptoRow, standIns := [], harness := (true, "8968d49dddb4f811815a1a7d7e9066b33b0668ed5864afd6bc6e77e6e2d01e25"), looks := false }, kinds := [], alts := [], laidByText := true, laidKinds := [.data], laidTests := true, laidLooks := .later }
def IsoSelfUptoCardSaid : Prop := Claim7.holds Tryd.pinned (.plain (OpenSpec.upto isoSelfSpec)) isoSelfUptoCard

/-- THE SECOND FORM's CARD OF 'lapidarylaw13.IsoTwice'. -/
def isoTwiceUptoCard : Claim7 := { stood := { row := isoTwiceUptoRow, standIns := [], harness := (true, "8968d49dddb4f811815a1a7d7e9066b33b0668ed5864afd6bc6e77e6e2d01e25"), looks := false }, kinds := [], alts := [], laidByText := true, laidKinds := [.data], laidTests := true, laidLooks := .later }
def IsoTwiceUptoCardSaid : Prop := Claim7.holds Tryd.pinned (.plain (OpenSpec.upto isoTwiceSpec)) isoTwiceUptoCard

/-- THE SECOND FORM's CARD OF 'lapidarylaw13.IsoFrom'. -/
def isoFromUptoCard : Claim7 := { stood := { row := isoFromUptoRow, standIns := [], harness := (true, "8968d49dddb4f811815a1a7d7e9066b33b0668ed5864afd6bc6e77e6e2d01e25"), looks := false }, kinds := [], alts := [], laidByText := true, laidKinds := [.data], laidTests := true, laidLooks := .later }
def IsoFromUptoCardSaid : Prop := Claim7.holds Tryd.pinned (.plain (OpenSpec.upto isoFromSpec)) isoFromUptoCard

/-- THE SECOND FORM's CARD OF 'lapidarylaw13.IsoWitness'. -/
def isoWitnessUptoCard : Claim7 := { stood := { row := isoWitnessUptoRow, standIns := [], harness := (true, "8968d49dddb4f811815a1a7d7e9066b33b0668ed5864afd6bc6e77e6e2d01e25"), looks := false }, kinds := [], alts := [], laidByText := true, laidKinds := [.data], laidTests := true, laidLooks := .later }
def IsoWitnessUptoCardSaid : Prop := Claim7.holds Tryd.pinned (.plain (OpenSpec.upto isoWitnessSpec)) isoWitnessUptoCard

/-- THE SECOND FORM's CARD OF 'lapidarylaw13.IsoCorners'. -/
def isoCornersUptoCard : Claim7 := { stood := { row := isoCornersUptoRow, standIns := [], harness := (true, "8968d49dddb4f811815a1a7d7e9066b33b0668ed5864afd6bc6e77e6e2d01e25"), looks := false }, kinds := [], alts := [], laidByText := true, laidKinds := [.data], laidTests := true, laidLooks := .later }
def IsoCornersUptoCardSaid : Prop := Claim7.holds Tryd.pinned (.plain (OpenSpec.upto isoCornersSpec)) isoCornersUptoCard
end Rows
end Go.Proofs.YtbdpfmpbooikiaaDoor
