/-
  NARROWER THAN 'FOR EVERY INPUT', by the rows' own cells (each row's printed sentence says how): MeshChecks: laid · MeshEdges: laid · MeshEulers: laid · MeshFlips: laid · MeshSame: laid · MeshTurned: laid · MeshTells: laid · MeshBorders: laid · MeshPieces: laid.
  DERIVED. THE GIVEN ROWS OF THIS SEAT. 9 by the template 'for every input the law returns true; each argument reads behind the call as it read before'; 0 by the template 'total and deterministic' (their statements: YtckemiefcdpofaaDoorTotals.lean).
  GIVEN WITH THE SEED: the statements are not yours to turn. If you find one false, say at which input.
  Laid BY PROGRAM, IN A SANDBOX (cutbox-rows.mjs): the forced cells as the released guide's own fill.sh prints them over the translation f7e21c2c6ad961e6… (all of the seat's roots in one cut). By AI agents, Wed Nov 11 2026. No macro, syntax, notation, axiom, sorry.
-/
import Derived.Test.YtckemiefcdpofaaDoorChecked
import GoSem.Claim
import GoSem.ClaimJoined
import GoSem.ClaimMapViews
import Derived.JoinedTies
import Derived.KernelRfl
namespace Go.Proofs.YtckemiefcdpofaaDoor
/- THE CELL 'sum', in the pinned program and in every row, IS THE sha256 OF THE DUMP (.gsa) THAT YtckemiefcdpofaaDoorProg.lean LOADS. Nothing in Lean hashes anything: it is a label: what it is worth is what the hold of that sum in a sandbox is worth. -/
noncomputable def Tryd.pinned : Pinned := { name := "ytckemiefcdpofaadoor", sum := "f7e21c2c6ad961e6e1b404b584c7ff71470e58176d1ebfe07edfb36e4064909a", checked := Tryd.checked }
namespace Rows
def none {H : Type} : Left H := { results := [], args := [] }

/- WHAT THE LISTED PACKAGE-LEVEL VARIABLES READ AS WHEN THE CALL BEGINS. Each datum BY PROGRAM (the guide's laid-datum.mjs) off the statement by which the dump's own 'gosem.cut.vars' lays the variable. In a bare row this is a premise. The card (YtckemiefcdpofaaDoorCards.lean) ties it to the program's text. -/
def laid_lapidary_mesh_next {H : Type} : DataW H := .agg [.lit (.int .i64 1), .lit (.int .i64 2), .lit (.int .i64 0)]

/-- 'lapidarylaw10.MeshChecks': WHATEVER THE INPUT: true; the input reads as it did. -/
def meshChecksSpec : ChangeSpec := { name := "meshChecks", fn := fun _ => fun
  | [d] => { results := [.lit (.bool true)], args := [d] }
  | _ => none }
def meshChecksRow : OpenClaim := { program := "ytckemiefcdpofaadoor", sum := "f7e21c2c6ad961e6e1b404b584c7ff71470e58176d1ebfe07edfb36e4064909a", func := "lapidary/lapidarylaw10.MeshChecks", spec := "meshChecks", unfollowed := true, recurses := true, named := ["lapidary/mesh.next"], plainKeys := false, apart := false, laid := [("lapidary/mesh.next", laid_lapidary_mesh_next)] }
def MeshChecksSaid : Prop := meshChecksRow.holds Tryd.pinned (OpenSpec.ofChange meshChecksSpec)

/-- ITS FALSE NEIGHBOUR: 'it returns false'. Refute it at one input. -/
def meshChecksWrong : ChangeSpec := { name := "meshChecks", fn := fun _ => fun
  | [d] => { results := [.lit (.bool false)], args := [d] }
  | _ => none }
def MeshChecksWrongFalsely : Prop := meshChecksRow.holds Tryd.pinned (OpenSpec.ofChange meshChecksWrong)

/-- 'lapidarylaw10.MeshEdges': WHATEVER THE INPUT: true; the input reads as it did. -/
def meshEdgesSpec : ChangeSpec := { name := "meshEdges", fn := fun _ => fun
  | [d] => { results := [.lit (.bool true)], args := [d] }
  | _ => none }
def meshEdgesRow : OpenClaim := { program := "ytckemiefcdpofaadoor", sum := "f7e21c2c6ad961e6e1b404b584c7ff71470e58176d1ebfe07edfb36e4064909a", func := "lapidary/lapidarylaw10.MeshEdges", spec := "meshEdges", unfollowed := true, recurses := true, named := ["lapidary/mesh.next"], plainKeys := false, apart := false, laid := [("lapidary/mesh.next", laid_lapidary_mesh_next)] }
def MeshEdgesSaid : Prop := meshEdgesRow.holds Tryd.pinned (OpenSpec.ofChange meshEdgesSpec)

/-- ITS FALSE NEIGHBOUR: 'it returns false'. Refute it at one input. -/
def meshEdgesWrong : ChangeSpec := { name := "meshEdges", fn := fun _ => fun
  | [d] => { results := [.lit (.bool false)], args := [d] }
  | _ => none }
def MeshEdgesWrongFalsely : Prop := meshEdgesRow.holds Tryd.pinned (OpenSpec.ofChange meshEdgesWrong)

/-- 'lapidarylaw10.MeshEulers': WHATEVER THE INPUT: true; the input reads as it did. -/
def meshEulersSpec : ChangeSpec := { name := "meshEulers", fn := fun _ => fun
  | [d1, d2] => { results := [.lit (.bool true)], args := [d1, d2] }
  | _ => none }
def meshEulersRow : OpenClaim := { program := "ytckemiefcdpofaadoor", sum := "f7e21c2c6ad961e6e1b404b584c7ff71470e58176d1ebfe07edfb36e4064909a", func := "lapidary/lapidarylaw10.MeshEulers", spec := "meshEulers", unfollowed := true, recurses := true, named := ["lapidary/mesh.next"], plainKeys := false, apart := false, laid := [("lapidary/mesh.next", laid_lapidary_mesh_next)] }
def MeshEulersSaid : Prop := meshEulersRow.holds Tryd.pinned (OpenSpec.ofChange meshEulersSpec)

/-- ITS FALSE NEIGHBOUR: 'it returns false'. Refute it at one input. -/
def meshEulersWrong : ChangeSpec := { name := "meshEulers", fn := fun _ => fun
  | [d1, d2] => { results := [.lit (.bool false)], args := [d1, d2] }
  | _ => none }
def MeshEulersWrongFalsely : Prop := meshEulersRow.holds Tryd.pinned (OpenSpec.ofChange meshEulersWrong)

/-- 'lapidarylaw10.MeshFlips': WHATEVER THE INPUT: true; the input reads as it did. -/
def meshFlipsSpec : ChangeSpec := { name := "meshFlips", fn := fun _ => fun
  | [d1, d2] => { results := [.lit (.bool true)], args := [d1, d2] }
  | _ => none }
def meshFlipsRow : OpenClaim := { program := "ytckemiefcdpofaadoor", sum := "f7e21c2c6ad961e6e1b404b584c7ff71470e58176d1ebfe07edfb36e4064909a", func := "lapidary/lapidarylaw10.MeshFlips", spec := "meshFlips", unfollowed := true, recurses := true, named := ["lapidary/mesh.next"], plainKeys := false, apart := false, laid := [("lapidary/mesh.next", laid_lapidary_mesh_next)] }
def MeshFlipsSaid : Prop := meshFlipsRow.holds Tryd.pinned (OpenSpec.ofChange meshFlipsSpec)

/-- ITS FALSE NEIGHBOUR: 'it returns false'. Refute it at one input. -/
def meshFlipsWrong : ChangeSpec := { name := "meshFlips", fn := fun _ => fun
  | [d1, d2] => { results := [.lit (.bool false)], args := [d1, d2] }
  | _ => none }
def MeshFlipsWrongFalsely : Prop := meshFlipsRow.holds Tryd.pinned (OpenSpec.ofChange meshFlipsWrong)

/-- 'lapidarylaw10.MeshSame': WHATEVER THE INPUT: true; the input reads as it did. -/
def meshSameSpec : ChangeSpec := { name := "meshSame", fn := fun _ => fun
  | [d1, d2] => { results := [.lit (.bool true)], args := [d1, d2] }
  | _ => none }
def meshSameRow : OpenClaim := { program := "ytckemiefcdpofaadoor", sum := "f7e21c2c6ad961e6e1b404b584c7ff71470e58176d1ebfe07edfb36e4064909a", func := "lapidary/lapidarylaw10.MeshSame", spec := "meshSame", unfollowed := true, recurses := true, named := ["lapidary/mesh.next"], plainKeys := false, apart := false, laid := [("lapidary/mesh.next", laid_lapidary_mesh_next)] }
def MeshSameSaid : Prop := meshSameRow.holds Tryd.pinned (OpenSpec.ofChange meshSameSpec)

/-- ITS FALSE NEIGHBOUR: 'it returns false'. Refute it at one input. -/
def meshSameWrong : ChangeSpec := { name := "meshSame", fn := fun _ => fun
  | [d1, d2] => { results := [.lit (.bool false)], args := [d1, d2] }
  | _ => none }
def MeshSameWrongFalsely : Prop := meshSameRow.holds Tryd.pinned (OpenSpec.ofChange meshSameWrong)

/-- 'lapidarylaw10.MeshTurned': WHATEVER THE INPUT: true; the input reads as it did. -/
def meshTurnedSpec : ChangeSpec := { name := "meshTurned", fn := fun _ => fun
  | [d1, d2, d3] => { results := [.lit (.bool true)], args := [d1, d2, d3] }
  | _ => none }
def meshTurnedRow : OpenClaim := { program := "ytckemiefcdpofaadoor", sum := "f7e21c2c6ad961e6e1b404b584c7ff71470e58176d1ebfe07edfb36e4064909a", func := "lapidary/lapidarylaw10.MeshTurned", spec := "meshTurned", unfollowed := true, recurses := true, named := ["lapidary/mesh.next"], plainKeys := false, apart := false, laid := [("lapidary/mesh.next", laid_lapidary_mesh_next)] }
def MeshTurnedSaid : Prop := meshTurnedRow.holds Tryd.pinned (OpenSpec.ofChange meshTurnedSpec)

/-- ITS FALSE NEIGHBOUR: 'it returns false'. Refute it at one input. -/
def meshTurnedWrong : ChangeSpec := { name := "meshTurned", fn := fun _ => fun
  | [d1, d2, d3] => { results := [.lit (.bool false)], args := [d1, d2, d3] }
  | _ => none }
def MeshTurnedWrongFalsely : Prop := meshTurnedRow.holds Tryd.pinned (OpenSpec.ofChange meshTurnedWrong)

/-- 'lapidarylaw10.MeshTells': WHATEVER THE INPUT: true; the input reads as it did. -/
def meshTellsSpec : ChangeSpec := { name := "meshTells", fn := fun _ => fun
  | [d] => { results := [.lit (.bool true)], args := [d] }
  | _ => none }
def meshTellsRow : OpenClaim := { program := "ytckemiefcdpofaadoor", sum := "f7e21c2c6ad961e6e1b404b584c7ff71470e58176d1ebfe07edfb36e4064909a", func := "lapidary/lapidarylaw10.MeshTells", spec := "meshTells", unfollowed := true, recurses := true, named := ["lapidary/mesh.next"], plainKeys := false, apart := false, laid := [("lapidary/mesh.next", laid_lapidary_mesh_next)] }
def MeshTellsSaid : Prop := meshTellsRow.holds Tryd.pinned (OpenSpec.ofChange meshTellsSpec)

/-- ITS FALSE NEIGHBOUR: 'it returns false'. Refute it at one input. -/
def meshTellsWrong : ChangeSpec := { name := "meshTells", fn := fun _ => fun
  | [d] => { results := [.lit (.bool false)], args := [d] }
  | _ => none }
def MeshTellsWrongFalsely : Prop := meshTellsRow.holds Tryd.pinned (OpenSpec.ofChange meshTellsWrong)

/-- 'lapidarylaw10.MeshBorders': WHATEVER THE INPUT: true; the input reads as it did. -/
def meshBordersSpec : ChangeSpec := { name := "meshBorders", fn := fun _ => fun
  | [d] => { results := [.lit (.bool true)], args := [d] }
  | _ => none }
def meshBordersRow : OpenClaim := { program := "ytckemiefcdpofaadoor", sum := "f7e21c2c6ad961e6e1b404b584c7ff71470e58176d1ebfe07edfb36e4064909a", func := "lapidary/lapidarylaw10.MeshBorders", spec := "meshBorders", unfollowed := true, recurses := true, named := ["lapidary/mesh.next"], plainKeys := false, apart := false, laid := [("lapidary/mesh.next", laid_lapidary_mesh_next)] }
def MeshBordersSaid : Prop := meshBordersRow.holds Tryd.pinned (OpenSpec.ofChange meshBordersSpec)

/-- ITS FALSE NEIGHBOUR: 'it returns false'. Refute it at one input. -/
def meshBordersWrong : ChangeSpec := { name := "meshBorders", fn := fun _ => fun
  | [d] => { results := [.lit (.bool false)], args := [d] }
  | _ => none }
def MeshBordersWrongFalsely : Prop := meshBordersRow.holds Tryd.pinned (OpenSpec.ofChange meshBordersWrong)

/-- 'lapidarylaw10.MeshPieces': WHATEVER THE INPUT: true; the input reads as it did. -/
def meshPiecesSpec : ChangeSpec := { name := "meshPieces", fn := fun _ => fun
  | [d] => { results := [.lit (.bool true)], args := [d] }
  | _ => none }
def meshPiecesRow : OpenClaim := { program := "ytckemiefcdpofaadoor", sum := "f7e21c2c6ad961e6e1b404b584c7ff71470e58176d1ebfe07edfb36e4064909a", func := "lapidary/lapidarylaw10.MeshPieces", spec := "meshPieces", unfollowed := true, recurses := true, named := ["lapidary/mesh.next"], plainKeys := false, apart := false, laid := [("lapidary/mesh.next", laid_lapidary_mesh_next)] }
def MeshPiecesSaid : Prop := meshPiecesRow.holds Tryd.pinned (OpenSpec.ofChange meshPiecesSpec)

/-- ITS FALSE NEIGHBOUR: 'it returns false'. Refute it at one input. -/
def meshPiecesWrong : ChangeSpec := { name := "meshPieces", fn := fun _ => fun
  | [d] => { results := [.lit (.bool false)], args := [d] }
  | _ => none }
def MeshPiecesWrongFalsely : Prop := meshPiecesRow.holds Tryd.pinned (OpenSpec.ofChange meshPiecesWrong)

/- THE SECOND FORM. 'bulk': how many values and letters a reading holds, each counted each time it is reached (what is shared counts as often as it is met; a slice's spare places count too). A statement '..UptoSaid' is the law's where the arguments, and the package variables that the reading takes, are together of bulk at most 1048576: NARROWER than '..Said'. Prove '..Said' where nothing that the law and all that it calls make is longer than what came in: it says more and counts as full. Else prove '..UptoSaid'. A law counts once. -/
mutual
def uptoBulk {H : Type} : DataW H → Nat
  | .lit (.string bytes) => bytes.length + 1
  | .lit _ => 1
  | .nil => 1
  | .ptr d => uptoBulk d + 1
  | .slice elems spare => uptoBulkAll elems + uptoBulkAll spare + 1
  | .agg parts => uptoBulkAll parts + 1
  | .iface _ d => uptoBulk d + 1
  | .map entries => uptoBulkEntries entries + 1
  | .held _ => 1
def uptoBulkAll {H : Type} : List (DataW H) → Nat
  | [] => 0
  | d :: r => uptoBulk d + uptoBulkAll r
def uptoBulkEntries {H : Type} : List (Lit × DataW H) → Nat
  | [] => 0
  | x :: r => uptoBulkEntry x + uptoBulkEntries r
def uptoBulkEntry {H : Type} : Lit × DataW H → Nat
  | (.string bytes, d) => bytes.length + uptoBulk d + 1
  | (_, d) => uptoBulk d + 1
 end
def uptoSmall : (H : Type) → List (DataW H) → Bool := fun _ ds => decide (uptoBulkAll ds ≤ 1048576)
def OpenSpec.upto (s : _root_.Go.ChangeSpec) : _root_.Go.OpenSpec := { _root_.Go.OpenSpec.ofChange s with cond := some uptoSmall }

/-- 'lapidarylaw10.MeshChecks', WHERE WHAT IT READS IS OF BULK AT MOST 1048576: true; the input reads as it did. -/
def meshChecksUptoRow : OpenClaim := { program := "ytckemiefcdpofaadoor", sum := "f7e21c2c6ad961e6e1b404b584c7ff71470e58176d1ebfe07edfb36e4064909a", func := "lapidary/lapidarylaw10.MeshChecks", spec := "meshChecks", unfollowed := true, recurses := true, named := ["lapidary/mesh.next"], plainKeys := false, apart := false, laid := [("lapidary/mesh.next", laid_lapidary_mesh_next)], narrowed := true }
def MeshChecksUptoSaid : Prop := meshChecksUptoRow.holds Tryd.pinned (OpenSpec.upto meshChecksSpec)

/-- 'lapidarylaw10.MeshEdges', WHERE WHAT IT READS IS OF BULK AT MOST 1048576: true; the input reads as it did. -/
def meshEdgesUptoRow : OpenClaim := { program := "ytckemiefcdpofaadoor", sum := "f7e21c2c6ad961e6e1b404b584c7ff71470e58176d1ebfe07edfb36e4064909a", func := "lapidary/lapidarylaw10.MeshEdges", spec := "meshEdges", unfollowed := true, recurses := true, named := ["lapidary/mesh.next"], plainKeys := false, apart := false, laid := [("lapidary/mesh.next", laid_lapidary_mesh_next)], narrowed := true }
def MeshEdgesUptoSaid : Prop := meshEdgesUptoRow.holds Tryd.pinned (OpenSpec.upto meshEdgesSpec)

/-- 'lapidarylaw10.MeshEulers', WHERE WHAT IT READS IS OF BULK AT MOST 1048576: true; the input reads as it did. -/
def meshEulersUptoRow : OpenClaim := { program := "ytckemiefcdpofaadoor", sum := "f7e21c2c6ad961e6e1b404b584c7ff71470e58176d1ebfe07edfb36e4064909a", func := "lapidary/lapidarylaw10.MeshEulers", spec := "meshEulers", unfollowed := true, recurses := true, named := ["lapidary/mesh.next"], plainKeys := false, apart := false, laid := [("lapidary/mesh.next", laid_lapidary_mesh_next)], narrowed := true }
def MeshEulersUptoSaid : Prop := meshEulersUptoRow.holds Tryd.pinned (OpenSpec.upto meshEulersSpec)

/-- 'lapidarylaw10.MeshFlips', WHERE WHAT IT READS IS OF BULK AT MOST 1048576: true; the input reads as it did. -/
def meshFlipsUptoRow : OpenClaim := { program := "ytckemiefcdpofaadoor", sum := "f7e21c2c6ad961e6e1b404b584c7ff71470e58176d1ebfe07edfb36e4064909a", func := "lapidary/lapidarylaw10.MeshFlips", spec := "meshFlips", unfollowed := true, recurses := true, named := ["lapidary/mesh.next"], plainKeys := false, apart := false, laid := [("lapidary/mesh.next", laid_lapidary_mesh_next)], narrowed := true }
def MeshFlipsUptoSaid : Prop := meshFlipsUptoRow.holds Tryd.pinned (OpenSpec.upto meshFlipsSpec)

/-- 'lapidarylaw10.MeshSame', WHERE WHAT IT READS IS OF BULK AT MOST 1048576: true; the input reads as it did. -/
def meshSameUptoRow : OpenClaim := { program := "ytckemiefcdpofaadoor", sum := "f7e21c2c6ad961e6e1b404b584c7ff71470e58176d1ebfe07edfb36e4064909a", func := "lapidary/lapidarylaw10.MeshSame", spec := "meshSame", unfollowed := true, recurses := true, named := ["lapidary/mesh.next"], plainKeys := false, apart := false, laid := [("lapidary/mesh.next", laid_lapidary_mesh_next)], narrowed := true }
def MeshSameUptoSaid : Prop := meshSameUptoRow.holds Tryd.pinned (OpenSpec.upto meshSameSpec)

/-- 'lapidarylaw10.MeshTurned', WHERE WHAT IT READS IS OF BULK AT MOST 1048576: true; the input reads as it did. -/
def meshTurnedUptoRow : OpenClaim := { program := "ytckemiefcdpofaadoor", sum := "f7e21c2c6ad961e6e1b404b584c7ff71470e58176d1ebfe07edfb36e4064909a", func := "lapidary/lapidarylaw10.MeshTurned", spec := "meshTurned", unfollowed := true, recurses := true, named := ["lapidary/mesh.next"], plainKeys := false, apart := false, laid := [("lapidary/mesh.next", laid_lapidary_mesh_next)], narrowed := true }
def MeshTurnedUptoSaid : Prop := meshTurnedUptoRow.holds Tryd.pinned (OpenSpec.upto meshTurnedSpec)

/-- 'lapidarylaw10.MeshTells', WHERE WHAT IT READS IS OF BULK AT MOST 1048576: true; the input reads as it did. -/
def meshTellsUptoRow : OpenClaim := { program := "ytckemiefcdpofaadoor", sum := "f7e21c2c6ad961e6e1b404b584c7ff71470e58176d1ebfe07edfb36e4064909a", func := "lapidary/lapidarylaw10.MeshTells", spec := "meshTells", unfollowed := true, recurses := true, named := ["lapidary/mesh.next"], plainKeys := false, apart := false, laid := [("lapidary/mesh.next", laid_lapidary_mesh_next)], narrowed := true }
def MeshTellsUptoSaid : Prop := meshTellsUptoRow.holds Tryd.pinned (OpenSpec.upto meshTellsSpec)

/-- 'lapidarylaw10.MeshBorders', WHERE WHAT IT READS IS OF BULK AT MOST 1048576: true; the input reads as it did. -/
def meshBordersUptoRow : OpenClaim := { program := "ytckemiefcdpofaadoor", sum := "f7e21c2c6ad961e6e1b404b584c7ff71470e58176d1ebfe07edfb36e4064909a", func := "lapidary/lapidarylaw10.MeshBorders", spec := "meshBorders", unfollowed := true, recurses := true, named := ["lapidary/mesh.next"], plainKeys := false, apart := false, laid := [("lapidary/mesh.next", laid_lapidary_mesh_next)], narrowed := true }
def MeshBordersUptoSaid : Prop := meshBordersUptoRow.holds Tryd.pinned (OpenSpec.upto meshBordersSpec)

/-- 'lapidarylaw10.MeshPieces', WHERE WHAT IT READS IS OF BULK AT MOST 1048576: true; the input reads as it did. -/
def meshPiecesUptoRow : OpenClaim := { program := "ytckemiefcdpofaadoor", sum := "f7e21c2c6ad961e6e1b404b584c7ff71470e58176d1ebfe07edfb36e4064909a", func := "lapidary/lapidarylaw10.MeshPieces", spec := "meshPieces", unfollowed := true, recurses := true, named := ["lapidary/mesh.next"], plainKeys := false, apart := false, laid := [("lapidary/mesh.next", laid_lapidary_mesh_next)], narrowed := true }
def MeshPiecesUptoSaid : Prop := meshPiecesUptoRow.holds Tryd.pinned (OpenSpec.upto meshPiecesSpec)

end Rows
end Go.Proofs.YtckemiefcdpofaaDoor
