/-
  DERIVED. GIVEN WITH THE SEED: THE CARDS: each row of YtckemiefcdpofaaDoorRows.lean that lists a variable, with what it lists TIED to the program's text (the seventh form; the later family's looks); each row that meets fmt, with fmt's text TOLD by the authors' own Lean function (tested against real Go, not proved from fmt's source: count such statements apart). THE CARD IS WHAT COUNTS. Prove the row's statement (the work); the ties are given (YtckemiefcdpofaaDoorTie.lean); close each card by the builder's one call (the guide's Derived/Test/ToyasCard.lean, 'card_holds'). Laid BY PROGRAM, IN A SANDBOX (cutbox-door.mjs). By AI agents, Wed Nov 11 2026. No macro, syntax, notation, axiom, sorry.
-/
import Derived.Test.YtckemiefcdpofaaDoorRows
import GoSem.ClaimSeven
namespace Go.Proofs.YtckemiefcdpofaaDoor
namespace Rows

/-- THE TIED CARD OF 'lapidarylaw10.MeshChecks'. -/
def meshChecksCard : Claim7 := { stood := { row := meshChecksRow, standIns := [], harness := (true, "967b9f6b57b3e2942e8693599755a4151c4d2a79dce5738201ed5abafd85027b"), looks := false }, kinds := [], alts := [], laidByText := true, laidKinds := [.data], laidTests := true, laidLooks := .later }
def MeshChecksCardSaid : Prop := Claim7.holds Tryd.pinned (.plain (OpenSpec.ofChange meshChecksSpec)) meshChecksCard

/-- THE TIED CARD OF 'lapidarylaw10.MeshEdges'. -/
def meshEdgesCard : Claim7 := { stood := { row := meshEdgesRow, standIns := [], harness := (true, "967b9f6b57b3e2942e8693599755a4151c4d2a79dce5738201ed5abafd85027b"), looks := false }, kinds := [], alts := [], laidByText := true, laidKinds := [.data], laidTests := true, laidLooks := .later }
def MeshEdgesCardSaid : Prop := Claim7.holds Tryd.pinned (.plain (OpenSpec.ofChange meshEdgesSpec)) meshEdgesCard

/-- THE TIED CARD OF 'lapidarylaw10.MeshEulers'. -/
def meshEulersCard : Claim7 := { stood := { row := meshEulersRow, standIns := [], harness := (true, "967b9f6b57b3e2942e8693599755a4151c4d2a79dce5738201ed5abafd85027b"), looks := false }, kinds := [], alts := [], laidByText := true, laidKinds := [.data], laidTests := true, laidLooks := .later }
def MeshEulersCardSaid : Prop := Claim7.holds Tryd.pinned (.plain (OpenSpec.ofChange meshEulersSpec)) meshEulersCard

/-- THE TIED CARD OF 'lapidarylaw10.MeshFlips'. -/
def meshFlipsCard : Claim7 := { stood := { row := meshFlipsRow, standIns := [], harness := (true, "967b9f6b57b3e2942e8693599755a4151c4d2a79dce5738201ed5abafd85027b"), looks := false }, kinds := [], alts := [], laidByText := true, laidKinds := [.data], laidTests := true, laidLooks := .later }
def MeshFlipsCardSaid : Prop := Claim7.holds Tryd.pinned (.plain (OpenSpec.ofChange meshFlipsSpec)) meshFlipsCard

/-- THE TIED CARD OF 'lapidarylaw10.MeshSame'. -/
def meshSameCard : Claim7 := { stood := { row := meshSameRow, standIns := [], harness := (true, "967b9f6b57b3e2942e8693599755a4151c4d2a79dce5738201ed5abafd85027b"), looks := false }, kinds := [], alts := [], laidByText := true, laidKinds := [.data], laidTests := true, laidLooks := .later }
def MeshSameCardSaid : Prop := Claim7.holds Tryd.pinned (.plain (OpenSpec.ofChange meshSameSpec)) meshSameCard

/-- THE TIED CARD OF 'lapidarylaw10.MeshTurned'. -/
def meshTurnedCard : Claim7 := { stood := { row := meshTurnedRow, standIns := [], harness := (true, "967b9f6b57b3e2942e8693599755a4151c4d2a79dce5738201ed5abafd85027b"), looks := false }, kinds := [], alts := [], laidByText := true, laidKinds := [.data], laidTests := true, laidLooks := .later }
def MeshTurnedCardSaid : Prop := Claim7.holds Tryd.pinned (.plain (OpenSpec.ofChange meshTurnedSpec)) meshTurnedCard

/-- THE TIED CARD OF 'lapidarylaw10.MeshTells'. -/
def meshTellsCard : Claim7 := { stood := { row := meshTellsRow, standIns := [], harness := (true, "967b9f6b57b3e2942e8693599755a4151c4d2a79dce5738201ed5abafd85027b"), looks := false }, kinds := [], alts := [], laidByText := true, laidKinds := [.data], laidTests := true, laidLooks := .later }
def MeshTellsCardSaid : Prop := Claim7.holds Tryd.pinned (.plain (OpenSpec.ofChange meshTellsSpec)) meshTellsCard

/-- THE TIED CARD OF 'lapidarylaw10.MeshBorders'. -/
def meshBordersCard : Claim7 := { stood := { row := meshBordersRow, standIns := [], harness := (true, "967b9f6b57b3e2942e8693599755a4151c4d2a79dce5738201ed5abafd85027b"), looks := false }, kinds := [], alts := [], laidByText := true, laidKinds := [.data], laidTests := true, laidLooks := .later }
def MeshBordersCardSaid : Prop := Claim7.holds Tryd.pinned (.plain (OpenSpec.ofChange meshBordersSpec)) meshBordersCard

/-- THE TIED CARD OF 'lapidarylaw10.MeshPieces'. -/
def meshPiecesCard : Claim7 := { stood := { row := meshPiecesRow, standIns := [], harness := (true, "967b9f6b57b3e2942e8693599755a4151c4d2a79dce5738201ed5abafd85027b"), looks := false }, kinds := [], alts := [], laidByText := true, laidKinds := [.data], laidTests := true, laidLooks := .later }
def MeshPiecesCardSaid : Prop := Claim7.holds Tryd.pinned (.plain (OpenSpec.ofChange meshPiecesSpec)) meshPiecesCard

/-- THE SECOND FORM's CARD OF 'lapidarylaw10.MeshChecks'. -/
def meshChecksUptoCard : Claim7 := { stood := { row := meshChecksUptoRow, standIns := [], harness := (true, "967b9f6b57b3e2942e8693599755a4151c4d2a79dce5738201ed5abafd85027b"), looks := false }, kinds := [], alts := [], laidByText := true, laidKinds := [.data], laidTests := true, laidLooks := .later }
def MeshChecksUptoCardSaid : Prop := Claim7.holds Tryd.pinned (.plain (OpenSpec.upto meshChecksSpec)) meshChecksUptoCard

/-- THE SECOND FORM's CARD OF 'lapidarylaw10.MeshEdges'. -/
def meshEdgesUptoCard : Claim7 := { stood := { row := meshEdgesUptoRow, standIns := [], harness := (true, "967b9f6b57b3e2942e8693599755a4151c4d2a79dce5738201ed5abafd85027b"), looks := false }, kinds := [], alts := [], laidByText := true, laidKinds := [.data], laidTests := true, laidLooks := .later }
def MeshEdgesUptoCardSaid : Prop := Claim7.holds Tryd.pinned (.plain (OpenSpec.upto meshEdgesSpec)) meshEdgesUptoCard

/-- THE SECOND FORM's CARD OF 'lapidarylaw10.MeshEulers'. -/
def meshEulersUptoCard : Claim7 := { stood := { row := meshEulersUptoRow, standIns := [], harness := (true, "967b9f6b57b3e2942e8693599755a4151c4d2a79dce5738201ed5abafd85027b"), looks := false }, kinds := [], alts := [], laidByText := true, laidKinds := [.data], laidTests := true, laidLooks := .later }
def MeshEulersUptoCardSaid : Prop := Claim7.holds Tryd.pinned (.plain (OpenSpec.upto meshEulersSpec)) meshEulersUptoCard

/-- THE SECOND FORM's CARD OF 'lapidarylaw10.MeshFlips'. -/
def meshFlipsUptoCard : Claim7 := { stood := { row := meshFlipsUptoRow, standIns := [], harness := (true, "967b9f6b57b3e2942e8693599755a4151c4d2a79dce5738201ed5abafd85027b"), looks := false }, kinds := [], alts := [], laidByText := true, laidKinds := [.data], laidTests := true, laidLooks := .later }
def MeshFlipsUptoCardSaid : Prop := Claim7.holds Tryd.pinned (.plain (OpenSpec.upto meshFlipsSpec)) meshFlipsUptoCard

/-- THE SECOND FORM's CARD OF 'lapidarylaw10.MeshSame'. -/
def meshSameUptoCard : Claim7 := { stood := { row := meshSameUptoRow, standIns := [], harness := (true, "967b9f6b57b3e2942e8693599755a4151c4d2a79dce5738201ed5abafd85027b"), looks := false }, kinds := [], alts := [], laidByText := true, laidKinds := [.data], laidTests := true, laidLooks := .later }
def MeshSameUptoCardSaid : Prop := Claim7.holds Tryd.pinned (.plain (OpenSpec.upto meshSameSpec)) meshSameUptoCard

/-- THE SECOND FORM's CARD OF 'lapidarylaw10.MeshTurned'. -/
def meshTurnedUptoCard : Claim7 := { stood := { row := meshTurnedUptoRow, standIns := [], harness := (true, "967b9f6b57b3e2942e8693599755a4151c4d2a79dce5738201ed5abafd85027b"), looks := false }, kinds := [], alts := [], laidByText := true, laidKinds := [.data], laidTests := true, laidLooks := .later }
def MeshTurnedUptoCardSaid : Prop := Claim7.holds Tryd.pinned (.plain (OpenSpec.upto meshTurnedSpec)) meshTurnedUptoCard

/-- THE SECOND FORM's CARD OF 'lapidarylaw10.MeshTells'. -/
def meshTellsUptoCard : Claim7 := { stood := { row := meshTellsUptoRow, standIns := [], harness := (true, "967b9f6b57b3e2942e8693599755a4151c4d2a79dce5738201ed5abafd85027b"), looks := false }, kinds := [], alts := [], laidByText := true, laidKinds := [.data], laidTests := true, laidLooks := .later }
def MeshTellsUptoCardSaid : Prop := Claim7.holds Tryd.pinned (.plain (OpenSpec.upto meshTellsSpec)) meshTellsUptoCard

/-- THE SECOND FORM's CARD OF 'lapidarylaw10.MeshBorders'. -/
def meshBordersUptoCard : Claim7 := { stood := { row := meshBordersUptoRow, standIns := [], harness := (true, "967b9f6b57b3e2942e8693599755a4151c4d2a79dce5738201ed5abafd85027b"), looks := false }, kinds := [], alts := [], laidByText := true, laidKinds := [.data], laidTests := true, laidLooks := .later }
def MeshBordersUptoCardSaid : Prop := Claim7.holds Tryd.pinned (.plain (OpenSpec.upto meshBordersSpec)) meshBordersUptoCard

/-- THE SECOND FORM's CARD OF 'lapidarylaw10.MeshPieces'. -/
def meshPiecesUptoCard : Claim7 := { stood := { row := meshPiecesUptoRow, standIns := [], harness := (true, "967b9f6b57b3e2942e8693599755a4151c4d2a79dce5738201ed5abafd85027b"), looks := false }, kinds := [], alts := [], laidByText := true, laidKinds := [.data], laidTests := true, laidLooks := .later }
def MeshPiecesUptoCardSaid : Prop := Claim7.holds Tryd.pinned (.plain (OpenSpec.upto meshPiecesSpec)) meshPiecesUptoCard
end Rows
end Go.Proofs.YtckemiefcdpofaaDoor
