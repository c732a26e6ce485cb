/-
  DERIVED. GIVEN WITH THE SEED: THE CARDS: each row of YtomknjmgcbbjlaaDoorRows.lean that lists a variable, with what it lists TIED to the program's text (the seventh form; the later family's looks); each row that meets fmt, with fmt's text TOLD by the authors' own Lean function (tested against real Go, not proved from fmt's source: count such statements apart). THE CARD IS WHAT COUNTS. Prove the row's statement (the work); the ties are given (YtomknjmgcbbjlaaDoorTie.lean); close each card by the builder's one call (the guide's Derived/Test/ToyasCard.lean, 'card_holds'). Laid BY PROGRAM, IN A SANDBOX (cutbox-door.mjs). By AI agents, Wed Nov 11 2026. No macro, syntax, notation, axiom, sorry.
-/
import Derived.Test.YtomknjmgcbbjlaaDoorRows
import GoSem.ClaimSeven
namespace Go.Proofs.YtomknjmgcbbjlaaDoor
namespace Rows

/-- THE TIED CARD OF 'lapidarylaw11.WalkSteps'. -/
def walkStepsCard : Claim7 := { stood := { row := walkStepsRow, standIns := [], harness := (true, "ca370456cffae6d13773b652283b15430a170959de78ca99182336e6e68b54be"), looks := false }, kinds := [], alts := [], laidByText := true, laidKinds := [.data], laidTests := true, laidLooks := .later }
def WalkStepsCardSaid : Prop := Claim7.holds Tryd.pinned (.plain (OpenSpec.ofChange walkStepsSpec)) walkStepsCard

/-- THE TIED CARD OF 'lapidarylaw11.WalkNumbers'. -/
def walkNumbersCard : Claim7 := { stood := { row := walkNumbersRow, standIns := [], harness := (true, "ca370456cffae6d13773b652283b15430a170959de78ca99182336e6e68b54be"), looks := false }, kinds := [], alts := [], laidByText := true, laidKinds := [.data], laidTests := true, laidLooks := .later }
def WalkNumbersCardSaid : Prop := Claim7.holds Tryd.pinned (.plain (OpenSpec.ofChange walkNumbersSpec)) walkNumbersCard

/-- THE TIED CARD OF 'lapidarylaw11.WalkCanons'. -/
def walkCanonsCard : Claim7 := { stood := { row := walkCanonsRow, standIns := [], harness := (true, "ca370456cffae6d13773b652283b15430a170959de78ca99182336e6e68b54be"), looks := false }, kinds := [], alts := [], laidByText := true, laidKinds := [.data], laidTests := true, laidLooks := .later }
def WalkCanonsCardSaid : Prop := Claim7.holds Tryd.pinned (.plain (OpenSpec.ofChange walkCanonsSpec)) walkCanonsCard

/-- THE TIED CARD OF 'lapidarylaw11.WalkIs'. -/
def walkIsCard : Claim7 := { stood := { row := walkIsRow, standIns := [], harness := (true, "ca370456cffae6d13773b652283b15430a170959de78ca99182336e6e68b54be"), looks := false }, kinds := [], alts := [], laidByText := true, laidKinds := [.data], laidTests := true, laidLooks := .later }
def WalkIsCardSaid : Prop := Claim7.holds Tryd.pinned (.plain (OpenSpec.ofChange walkIsSpec)) walkIsCard

/-- THE TIED CARD OF 'lapidarylaw11.WalkOnce'. -/
def walkOnceCard : Claim7 := { stood := { row := walkOnceRow, standIns := [], harness := (true, "ca370456cffae6d13773b652283b15430a170959de78ca99182336e6e68b54be"), looks := false }, kinds := [], alts := [], laidByText := true, laidKinds := [.data], laidTests := true, laidLooks := .later }
def WalkOnceCardSaid : Prop := Claim7.holds Tryd.pinned (.plain (OpenSpec.ofChange walkOnceSpec)) walkOnceCard

/-- THE TIED CARD OF 'lapidarylaw12.GrowSteps'. -/
def growStepsCard : Claim7 := { stood := { row := growStepsRow, standIns := [], harness := (true, "ca370456cffae6d13773b652283b15430a170959de78ca99182336e6e68b54be"), looks := false }, kinds := [], alts := [], laidByText := true, laidKinds := [.data], laidTests := true, laidLooks := .later }
def GrowStepsCardSaid : Prop := Claim7.holds Tryd.pinned (.plain (OpenSpec.ofChange growStepsSpec)) growStepsCard

/-- THE TIED CARD OF 'lapidarylaw12.GrowAll'. -/
def growAllCard : Claim7 := { stood := { row := growAllRow, standIns := [], harness := (true, "ca370456cffae6d13773b652283b15430a170959de78ca99182336e6e68b54be"), looks := false }, kinds := [], alts := [], laidByText := true, laidKinds := [.data], laidTests := true, laidLooks := .later }
def GrowAllCardSaid : Prop := Claim7.holds Tryd.pinned (.plain (OpenSpec.ofChange growAllSpec)) growAllCard

/-- THE TIED CARD OF 'lapidarylaw12.GrowOne'. -/
def growOneCard : Claim7 := { stood := { row := growOneRow, standIns := [], harness := (true, "ca370456cffae6d13773b652283b15430a170959de78ca99182336e6e68b54be"), looks := false }, kinds := [], alts := [], laidByText := true, laidKinds := [.data], laidTests := true, laidLooks := .later }
def GrowOneCardSaid : Prop := Claim7.holds Tryd.pinned (.plain (OpenSpec.ofChange growOneSpec)) growOneCard

/-- THE TIED CARD OF 'lapidarylaw12.GrowCounts'. -/
def growCountsCard : Claim7 := { stood := { row := growCountsRow, standIns := [], harness := (true, "ca370456cffae6d13773b652283b15430a170959de78ca99182336e6e68b54be"), looks := false }, kinds := [], alts := [], laidByText := true, laidKinds := [.data], laidTests := true, laidLooks := .later }
def GrowCountsCardSaid : Prop := Claim7.holds Tryd.pinned (.plain (OpenSpec.ofChange growCountsSpec)) growCountsCard

/-- THE TIED CARD OF 'lapidarylaw13.IsoFrom'. -/
def isoFromCard : Claim7 := { stood := { row := isoFromRow, standIns := [], harness := (true, "ca370456cffae6d13773b652283b15430a170959de78ca99182336e6e68b54be"), looks := false }, kinds := [], alts := [], laidByText := true, laidKinds := [.data], laidTests := true, laidLooks := .later }
def IsoFromCardSaid : Prop := Claim7.holds Tryd.pinned (.plain (OpenSpec.ofChange isoFromSpec)) isoFromCard

/-- THE TIED CARD OF 'lapidarylaw13.IsoWitness'. -/
def isoWitnessCard : Claim7 := { stood := { row := isoWitnessRow, standIns := [], harness := (true, "ca370456cffae6d13773b652283b15430a170959de78ca99182336e6e68b54be"), looks := false }, kinds := [], alts := [], laidByText := true, laidKinds := [.data], laidTests := true, laidLooks := .later }
def IsoWitnessCardSaid : Prop := Claim7.holds Tryd.pinned (.plain (OpenSpec.ofChange isoWitnessSpec)) isoWitnessCard

/-- THE TIED CARD OF 'lapidarylaw13.IsoCorners'. -/
def isoCornersCard : Claim7 := { stood := { row := isoCornersRow, standIns := [], harness := (true, "ca370456cffae6d13773b652283b15430a170959de78ca99182336e6e68b54be"), looks := false }, kinds := [], alts := [], laidByText := true, laidKinds := [.data], laidTests := true, laidLooks := .later }
def IsoCornersCardSaid : Prop := Claim7.holds Tryd.pinned (.plain (OpenSpec.ofChange isoCornersSpec)) isoCornersCard

/-- THE TIED CARD OF 'lapidarylaw12.GrowShort'. -/
def growShortCard : Claim7 := { stood := { row := growShortRow, standIns := [], harness := (true, "ca370456cffae6d13773b652283b15430a170959de78ca99182336e6e68b54be"), looks := false }, kinds := [], alts := [], laidByText := true, laidKinds := [.data], laidTests := true, laidLooks := .later }
def GrowShortCardSaid : Prop := Claim7.holds Tryd.pinned (.plain (OpenSpec.ofChange growShortSpec)) growShortCard

/-- THE TIED CARD OF 'lapidarylaw12.GrowWalks'. -/
def growWalksCard : Claim7 := { stood := { row := growWalksRow, standIns := [], harness := (true, "ca370456cffae6d13773b652283b15430a170959de78ca99182336e6e68b54be"), looks := false }, kinds := [], alts := [], laidByText := true, laidKinds := [.data], laidTests := true, laidLooks := .later }
def GrowWalksCardSaid : Prop := Claim7.holds Tryd.pinned (.plain (OpenSpec.ofChange growWalksSpec)) growWalksCard

/-- THE TIED CARD OF 'lapidarylaw11.WalkCounts'. -/
def walkCountsCard : Claim7 := { stood := { row := walkCountsRow, standIns := [], harness := (true, "ca370456cffae6d13773b652283b15430a170959de78ca99182336e6e68b54be"), looks := false }, kinds := [], alts := [], laidByText := true, laidKinds := [.data], laidTests := true, laidLooks := .later }
def WalkCountsCardSaid : Prop := Claim7.holds Tryd.pinned (.plain (OpenSpec.ofChange walkCountsSpec)) walkCountsCard

/-- THE SECOND FORM's CARD OF 'lapidarylaw11.WalkSteps'. -/
def walkStepsUptoCard : Claim7 := { stood := { row := walkStepsUptoRow, standIns := [], harness := (true, "ca370456cffae6d13773b652283b15430a170959de78ca99182336e6e68b54be"), looks := false }, kinds := [], alts := [], laidByText := true, laidKinds := [.data], laidTests := true, laidLooks := .later }
def WalkStepsUptoCardSaid : Prop := Claim7.holds Tryd.pinned (.plain (OpenSpec.upto walkStepsSpec)) walkStepsUptoCard

/-- THE SECOND FORM's CARD OF 'lapidarylaw11.WalkNumbers'. -/
def walkNumbersUptoCard : Claim7 := { stood := { row := walkNumbersUptoRow, standIns := [], harness := (true, "ca370456cffae6d13773b652283b15430a170959de78ca99182336e6e68b54be"), looks := false }, kinds := [], alts := [], laidByText := true, laidKinds := [.data], laidTests := true, laidLooks := .later }
def WalkNumbersUptoCardSaid : Prop := Claim7.holds Tryd.pinned (.plain (OpenSpec.upto walkNumbersSpec)) walkNumbersUptoCard

/-- THE SECOND FORM's CARD OF 'lapidarylaw11.WalkCanons'. -/
def walkCanonsUptoCard : Claim7 := { stood := { row := walkCanonsUptoRow, standIns := [], harness := (true, "ca370456cffae6d13773b652283b15430a170959de78ca99182336e6e68b54be"), looks := false }, kinds := [], alts := [], laidByText := true, laidKinds := [.data], laidTests := true, laidLooks := .later }
def WalkCanonsUptoCardSaid : Prop := Claim7.holds Tryd.pinned (.plain (OpenSpec.upto walkCanonsSpec)) walkCanonsUptoCard

/-- THE SECOND FORM's CARD OF 'lapidarylaw11.WalkIs'. -/
def walkIsUptoCard : Claim7 := { stood := { row := walkIsUptoRow, standIns := [], harness := (true, "ca370456cffae6d13773b652283b15430a170959de78ca99182336e6e68b54be"), looks := false }, kinds := [], alts := [], laidByText := true, laidKinds := [.data], laidTests := true, laidLooks := .later }
def WalkIsUptoCardSaid : Prop := Claim7.holds Tryd.pinned (.plain (OpenSpec.upto walkIsSpec)) walkIsUptoCard

/-- THE SECOND FORM's CARD OF 'lapidarylaw11.WalkOnce'. -/
def walkOnceUptoCard : Claim7 := { stood := { row := walkOnceUptoRow, standIns := [], harness := (true, "ca370456cffae6d13773b652283b15430a170959de78ca99182336e6e68b54be"), looks := false }, kinds := [], alts := [], laidByText := true, laidKinds := [.data], laidTests := true, laidLooks := .later }
def WalkOnceUptoCardSaid : Prop := Claim7.holds Tryd.pinned (.plain (OpenSpec.upto walkOnceSpec)) walkOnceUptoCard

/-- THE SECOND FORM's CARD OF 'lapidarylaw12.GrowSteps'. -/
def growStepsUptoCard : Claim7 := { stood := { row := growStepsUptoRow, standIns := [], harness := (true, "ca370456cffae6d13773b652283b15430a170959de78ca99182336e6e68b54be"), looks := false }, kinds := [], alts := [], laidByText := true, laidKinds := [.data], laidTests := true, laidLooks := .later }
def GrowStepsUptoCardSaid : Prop := Claim7.holds Tryd.pinned (.plain (OpenSpec.upto growStepsSpec)) growStepsUptoCard

/-- THE SECOND FORM's CARD OF 'lapidarylaw12.GrowAll'. -/
def growAllUptoCard : Claim7 := { stood := { row := growAllUptoRow, standIns := [], harness := (true, "ca370456cffae6d13773b652283b15430a170959de78ca99182336e6e68b54be"), looks := false }, kinds := [], alts := [], laidByText := true, laidKinds := [.data], laidTests := true, laidLooks := .later }
def GrowAllUptoCardSaid : Prop := Claim7.holds Tryd.pinned (.plain (OpenSpec.upto growAllSpec)) growAllUptoCard

/-- THE SECOND FORM's CARD OF 'lapidarylaw12.GrowOne'. -/
def growOneUptoCard : Claim7 := { stood := { row := growOneUptoRow, standIns := [], harness := (true, "ca370456cffae6d13773b652283b15430a170959de78ca99182336e6e68b54be"), looks := false }, kinds := [], alts := [], laidByText := true, laidKinds := [.data], laidTests := true, laidLooks := .later }
def GrowOneUptoCardSaid : Prop := Claim7.holds Tryd.pinned (.plain (OpenSpec.upto growOneSpec)) growOneUptoCard

/-- THE SECOND FORM's CARD OF 'lapidarylaw12.GrowCounts'. -/
def growCountsUptoCard : Claim7 := { stood := { row := growCountsUptoRow, standIns := [], harness := (true, "ca370456cffae6d13773b652283b15430a170959de78ca99182336e6e68b54be"), looks := false }, kinds := [], alts := [], laidByText := true, laidKinds := [.data], laidTests := true, laidLooks := .later }
def GrowCountsUptoCardSaid : Prop := Claim7.holds Tryd.pinned (.plain (OpenSpec.upto growCountsSpec)) growCountsUptoCard

/-- THE SECOND FORM's CARD OF 'lapidarylaw13.IsoFrom'. -/
def isoFromUptoCard : Claim7 := { stood := { row := isoFromUptoRow, standIns := [], harness := (true, "ca370456cffae6d13773b652283b15430a170959de78ca99182336e6e68b54be"), looks := false }, kinds := [], alts := [], laidByText := true, laidKinds := [.data], laidTests := true, laidLooks := .later }
def IsoFromUptoCardSaid : Prop := Claim7.holds Tryd.pinned (.plain (OpenSpec.upto isoFromSpec)) isoFromUptoCard

/-- THE SECOND FORM's CARD OF 'lapidarylaw13.IsoWitness'. -/
def isoWitnessUptoCard : Claim7 := { stood := { row := isoWitnessUptoRow, standIns := [], harness := (true, "ca370456cffae6d13773b652283b15430a170959de78ca99182336e6e68b54be"), looks := false }, kinds := [], alts := [], laidByText := true, laidKinds := [.data], laidTests := true, laidLooks := .later }
def IsoWitnessUptoCardSaid : Prop := Claim7.holds Tryd.pinned (.plain (OpenSpec.upto isoWitnessSpec)) isoWitnessUptoCard

/-- THE SECOND FORM's CARD OF 'lapidarylaw13.IsoCorners'. -/
def isoCornersUptoCard : Claim7 := { stood := { row := isoCornersUptoRow, standIns := [], harness := (true, "ca370456cffae6d13773b652283b15430a170959de78ca99182336e6e68b54be"), looks := false }, kinds := [], alts := [], laidByText := true, laidKinds := [.data], laidTests := true, laidLooks := .later }
def IsoCornersUptoCardSaid : Prop := Claim7.holds Tryd.pinned (.plain (OpenSpec.upto isoCornersSpec)) isoCornersUptoCard

/-- THE SECOND FORM's CARD OF 'lapidarylaw12.GrowShort'. -/
def growShortUptoCard : Claim7 := { stood := { row := growShortUptoRow, standIns := [], harness := (true, "ca370456cffae6d13773b652283b15430a170959de78ca99182336e6e68b54be"), looks := false }, kinds := [], alts := [], laidByText := true, laidKinds := [.data], laidTests := true, laidLooks := .later }
def GrowShortUptoCardSaid : Prop := Claim7.holds Tryd.pinned (.plain (OpenSpec.upto growShortSpec)) growShortUptoCard

/-- THE SECOND FORM's CARD OF 'lapidarylaw12.GrowWalks'. -/
def growWalksUptoCard : Claim7 := { stood := { row := growWalksUptoRow, standIns := [], harness := (true, "ca370456cffae6d13773b652283b15430a170959de78ca99182336e6e68b54be"), looks := false }, kinds := [], alts := [], laidByText := true, laidKinds := [.data], laidTests := true, laidLooks := .later }
def GrowWalksUptoCardSaid : Prop := Claim7.holds Tryd.pinned (.plain (OpenSpec.upto growWalksSpec)) growWalksUptoCard

/-- THE SECOND FORM's CARD OF 'lapidarylaw11.WalkCounts'. -/
def walkCountsUptoCard : Claim7 := { stood := { row := walkCountsUptoRow, standIns := [], harness := (true, "ca370456cffae6d13773b652283b15430a170959de78ca99182336e6e68b54be"), looks := false }, kinds := [], alts := [], laidByText := true, laidKinds := [.data], laidTests := true, laidLooks := .later }
def WalkCountsUptoCardSaid : Prop := Claim7.holds Tryd.pinned (.plain (OpenSpec.upto walkCountsSpec)) walkCountsUptoCard
end Rows
end Go.Proofs.YtomknjmgcbbjlaaDoor
