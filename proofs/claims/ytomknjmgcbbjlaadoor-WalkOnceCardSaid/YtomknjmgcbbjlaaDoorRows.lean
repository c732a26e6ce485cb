/-
  NARROWER THAN 'FOR EVERY INPUT', by the rows' own cells (each row's printed sentence says how): WalkSteps: laid · WalkNumbers: laid · WalkCanons: laid · WalkIs: laid · WalkOnce: laid · GrowSteps: laid · GrowAll: laid · GrowOne: laid · GrowCounts: laid · IsoFrom: laid · IsoWitness: laid · IsoCorners: laid · GrowShort: laid · GrowWalks: laid · WalkCounts: laid.
  DERIVED. THE GIVEN ROWS OF THIS SEAT. 15 by the template 'for every input the law returns true; each argument reads behind the call as it read before'; 0 by the template 'total and deterministic' (their statements: YtomknjmgcbbjlaaDoorTotals.lean).
  GIVEN WITH THE SEED: the statements are not yours to turn. If you find one false, say at which input.
  Laid BY PROGRAM, IN A SANDBOX (cutbox-rows.mjs): the forced cells as the released guide's own fill.sh prints them over the translation 273491b380d4ceec… (all of the seat's roots in one cut). By AI agents, Wed Nov 11 2026. No macro, syntax, notation, axiom, sorry.
-/
import Derived.Test.YtomknjmgcbbjlaaDoorChecked
import GoSem.Claim
import GoSem.ClaimJoined
import GoSem.ClaimMapViews
import Derived.JoinedTies
import Derived.KernelRfl
namespace Go.Proofs.YtomknjmgcbbjlaaDoor
/- THE CELL 'sum', in the pinned program and in every row, IS THE sha256 OF THE DUMP (.gsa) THAT YtomknjmgcbbjlaaDoorProg.lean LOADS. Nothing in Lean hashes anything: it is a label: what it is worth is what the hold of that sum in a sandbox is worth. -/
noncomputable def Tryd.pinned : Pinned := { name := "ytomknjmgcbbjlaadoor", sum := "273491b380d4ceec00599096e012d0088a1bd6dac45fea5f5fdd4709e65d40b1", checked := Tryd.checked }
namespace Rows
def none {H : Type} : Left H := { results := [], args := [] }

/- WHAT THE LISTED PACKAGE-LEVEL VARIABLES READ AS WHEN THE CALL BEGINS. Each datum BY PROGRAM (the guide's laid-datum.mjs) off the statement by which the dump's own 'gosem.cut.vars' lays the variable. In a bare row this is a premise. The card (YtomknjmgcbbjlaaDoorCards.lean) ties it to the program's text. -/
def laid_lapidary_mesh_next {H : Type} : DataW H := .agg [.lit (.int .i64 1), .lit (.int .i64 2), .lit (.int .i64 0)]

/-- 'lapidarylaw11.WalkSteps': WHATEVER THE INPUT: true; the input reads as it did. -/
def walkStepsSpec : ChangeSpec := { name := "walkSteps", fn := fun _ => fun
  | [d] => { results := [.lit (.bool true)], args := [d] }
  | _ => none }
def walkStepsRow : OpenClaim := { program := "ytomknjmgcbbjlaadoor", sum := "273491b380d4ceec00599096e012d0088a1bd6dac45fea5f5fdd4709e65d40b1", func := "lapidary/lapidarylaw11.WalkSteps", spec := "walkSteps", named := ["lapidary/mesh.next"], plainKeys := false, apart := false, laid := [("lapidary/mesh.next", laid_lapidary_mesh_next)] }
def WalkStepsSaid : Prop := walkStepsRow.holds Tryd.pinned (OpenSpec.ofChange walkStepsSpec)

/-- ITS FALSE NEIGHBOUR: 'it returns false'. Refute it at one input. -/
def walkStepsWrong : ChangeSpec := { name := "walkSteps", fn := fun _ => fun
  | [d] => { results := [.lit (.bool false)], args := [d] }
  | _ => none }
def WalkStepsWrongFalsely : Prop := walkStepsRow.holds Tryd.pinned (OpenSpec.ofChange walkStepsWrong)

/-- 'lapidarylaw11.WalkNumbers': WHATEVER THE INPUT: true; the input reads as it did. -/
def walkNumbersSpec : ChangeSpec := { name := "walkNumbers", fn := fun _ => fun
  | [d1, d2] => { results := [.lit (.bool true)], args := [d1, d2] }
  | _ => none }
def walkNumbersRow : OpenClaim := { program := "ytomknjmgcbbjlaadoor", sum := "273491b380d4ceec00599096e012d0088a1bd6dac45fea5f5fdd4709e65d40b1", func := "lapidary/lapidarylaw11.WalkNumbers", spec := "walkNumbers", named := ["lapidary/mesh.next"], plainKeys := false, apart := false, laid := [("lapidary/mesh.next", laid_lapidary_mesh_next)] }
def WalkNumbersSaid : Prop := walkNumbersRow.holds Tryd.pinned (OpenSpec.ofChange walkNumbersSpec)

/-- ITS FALSE NEIGHBOUR: 'it returns false'. Refute it at one input. -/
def walkNumbersWrong : ChangeSpec := { name := "walkNumbers", fn := fun _ => fun
  | [d1, d2] => { results := [.lit (.bool false)], args := [d1, d2] }
  | _ => none }
def WalkNumbersWrongFalsely : Prop := walkNumbersRow.holds Tryd.pinned (OpenSpec.ofChange walkNumbersWrong)

/-- 'lapidarylaw11.WalkCanons': WHATEVER THE INPUT: true; the input reads as it did. -/
def walkCanonsSpec : ChangeSpec := { name := "walkCanons", fn := fun _ => fun
  | [d] => { results := [.lit (.bool true)], args := [d] }
  | _ => none }
def walkCanonsRow : OpenClaim := { program := "ytomknjmgcbbjlaadoor", sum := "273491b380d4ceec00599096e012d0088a1bd6dac45fea5f5fdd4709e65d40b1", func := "lapidary/lapidarylaw11.WalkCanons", spec := "walkCanons", named := ["lapidary/mesh.next"], plainKeys := false, apart := false, laid := [("lapidary/mesh.next", laid_lapidary_mesh_next)] }
def WalkCanonsSaid : Prop := walkCanonsRow.holds Tryd.pinned (OpenSpec.ofChange walkCanonsSpec)

/-- ITS FALSE NEIGHBOUR: 'it returns false'. Refute it at one input. -/
def walkCanonsWrong : ChangeSpec := { name := "walkCanons", fn := fun _ => fun
  | [d] => { results := [.lit (.bool false)], args := [d] }
  | _ => none }
def WalkCanonsWrongFalsely : Prop := walkCanonsRow.holds Tryd.pinned (OpenSpec.ofChange walkCanonsWrong)

/-- 'lapidarylaw11.WalkIs': WHATEVER THE INPUT: true; the input reads as it did. -/
def walkIsSpec : ChangeSpec := { name := "walkIs", fn := fun _ => fun
  | [d] => { results := [.lit (.bool true)], args := [d] }
  | _ => none }
def walkIsRow : OpenClaim := { program := "ytomknjmgcbbjlaadoor", sum := "273491b380d4ceec00599096e012d0088a1bd6dac45fea5f5fdd4709e65d40b1", func := "lapidary/lapidarylaw11.WalkIs", spec := "walkIs", named := ["lapidary/mesh.next"], plainKeys := false, apart := false, laid := [("lapidary/mesh.next", laid_lapidary_mesh_next)] }
def WalkIsSaid : Prop := walkIsRow.holds Tryd.pinned (OpenSpec.ofChange walkIsSpec)

/-- ITS FALSE NEIGHBOUR: 'it returns false'. Refute it at one input. -/
def walkIsWrong : ChangeSpec := { name := "walkIs", fn := fun _ => fun
  | [d] => { results := [.lit (.bool false)], args := [d] }
  | _ => none }
def WalkIsWrongFalsely : Prop := walkIsRow.holds Tryd.pinned (OpenSpec.ofChange walkIsWrong)

/-- 'lapidarylaw11.WalkOnce': WHATEVER THE INPUT: true; the input reads as it did. -/
def walkOnceSpec : ChangeSpec := { name := "walkOnce", fn := fun _ => fun
  | [d] => { results := [.lit (.bool true)], args := [d] }
  | _ => none }
def walkOnceRow : OpenClaim := { program := "ytomknjmgcbbjlaadoor", sum := "273491b380d4ceec00599096e012d0088a1bd6dac45fea5f5fdd4709e65d40b1", func := "lapidary/lapidarylaw11.WalkOnce", spec := "walkOnce", named := ["lapidary/mesh.next"], plainKeys := false, apart := false, laid := [("lapidary/mesh.next", laid_lapidary_mesh_next)] }
def WalkOnceSaid : Prop := walkOnceRow.holds Tryd.pinned (OpenSpec.ofChange walkOnceSpec)

/-- ITS FALSE NEIGHBOUR: 'it returns false'. Refute it at one input. -/
def walkOnceWrong : ChangeSpec := { name := "walkOnce", fn := fun _ => fun
  | [d] => { results := [.lit (.bool false)], args := [d] }
  | _ => none }
def WalkOnceWrongFalsely : Prop := walkOnceRow.holds Tryd.pinned (OpenSpec.ofChange walkOnceWrong)

/-- 'lapidarylaw12.GrowSteps': WHATEVER THE INPUT: true; the input reads as it did. -/
def growStepsSpec : ChangeSpec := { name := "growSteps", fn := fun _ => fun
  | [d] => { results := [.lit (.bool true)], args := [d] }
  | _ => none }
def growStepsRow : OpenClaim := { program := "ytomknjmgcbbjlaadoor", sum := "273491b380d4ceec00599096e012d0088a1bd6dac45fea5f5fdd4709e65d40b1", func := "lapidary/lapidarylaw12.GrowSteps", spec := "growSteps", named := ["lapidary/mesh.next"], plainKeys := false, apart := false, laid := [("lapidary/mesh.next", laid_lapidary_mesh_next)] }
def GrowStepsSaid : Prop := growStepsRow.holds Tryd.pinned (OpenSpec.ofChange growStepsSpec)

/-- ITS FALSE NEIGHBOUR: 'it returns false'. Refute it at one input. -/
def growStepsWrong : ChangeSpec := { name := "growSteps", fn := fun _ => fun
  | [d] => { results := [.lit (.bool false)], args := [d] }
  | _ => none }
def GrowStepsWrongFalsely : Prop := growStepsRow.holds Tryd.pinned (OpenSpec.ofChange growStepsWrong)

/-- 'lapidarylaw12.GrowAll': WHATEVER THE INPUT: true; the input reads as it did. -/
def growAllSpec : ChangeSpec := { name := "growAll", fn := fun _ => fun
  | [d] => { results := [.lit (.bool true)], args := [d] }
  | _ => none }
def growAllRow : OpenClaim := { program := "ytomknjmgcbbjlaadoor", sum := "273491b380d4ceec00599096e012d0088a1bd6dac45fea5f5fdd4709e65d40b1", func := "lapidary/lapidarylaw12.GrowAll", spec := "growAll", named := ["lapidary/mesh.next"], plainKeys := false, apart := false, laid := [("lapidary/mesh.next", laid_lapidary_mesh_next)] }
def GrowAllSaid : Prop := growAllRow.holds Tryd.pinned (OpenSpec.ofChange growAllSpec)

/-- ITS FALSE NEIGHBOUR: 'it returns false'. Refute it at one input. -/
def growAllWrong : ChangeSpec := { name := "growAll", fn := fun _ => fun
  | [d] => { results := [.lit (.bool false)], args := [d] }
  | _ => none }
def GrowAllWrongFalsely : Prop := growAllRow.holds Tryd.pinned (OpenSpec.ofChange growAllWrong)

/-- 'lapidarylaw12.GrowOne': WHATEVER THE INPUT: true; the input reads as it did. -/
def growOneSpec : ChangeSpec := { name := "growOne", fn := fun _ => fun
  | [d1, d2] => { results := [.lit (.bool true)], args := [d1, d2] }
  | _ => none }
def growOneRow : OpenClaim := { program := "ytomknjmgcbbjlaadoor", sum := "273491b380d4ceec00599096e012d0088a1bd6dac45fea5f5fdd4709e65d40b1", func := "lapidary/lapidarylaw12.GrowOne", spec := "growOne", named := ["lapidary/mesh.next"], plainKeys := false, apart := false, laid := [("lapidary/mesh.next", laid_lapidary_mesh_next)] }
def GrowOneSaid : Prop := growOneRow.holds Tryd.pinned (OpenSpec.ofChange growOneSpec)

/-- ITS FALSE NEIGHBOUR: 'it returns false'. Refute it at one input. -/
def growOneWrong : ChangeSpec := { name := "growOne", fn := fun _ => fun
  | [d1, d2] => { results := [.lit (.bool false)], args := [d1, d2] }
  | _ => none }
def GrowOneWrongFalsely : Prop := growOneRow.holds Tryd.pinned (OpenSpec.ofChange growOneWrong)

/-- 'lapidarylaw12.GrowCounts': WHATEVER THE INPUT: true; the input reads as it did. -/
def growCountsSpec : ChangeSpec := { name := "growCounts", fn := fun _ => fun
  | [d] => { results := [.lit (.bool true)], args := [d] }
  | _ => none }
def growCountsRow : OpenClaim := { program := "ytomknjmgcbbjlaadoor", sum := "273491b380d4ceec00599096e012d0088a1bd6dac45fea5f5fdd4709e65d40b1", func := "lapidary/lapidarylaw12.GrowCounts", spec := "growCounts", named := ["lapidary/mesh.next"], plainKeys := false, apart := false, laid := [("lapidary/mesh.next", laid_lapidary_mesh_next)] }
def GrowCountsSaid : Prop := growCountsRow.holds Tryd.pinned (OpenSpec.ofChange growCountsSpec)

/-- ITS FALSE NEIGHBOUR: 'it returns false'. Refute it at one input. -/
def growCountsWrong : ChangeSpec := { name := "growCounts", fn := fun _ => fun
  | [d] => { results := [.lit (.bool false)], args := [d] }
  | _ => none }
def GrowCountsWrongFalsely : Prop := growCountsRow.holds Tryd.pinned (OpenSpec.ofChange growCountsWrong)

/-- 'lapidarylaw13.IsoFrom': WHATEVER THE INPUT: true; the input reads as it did. -/
def isoFromSpec : ChangeSpec := { name := "isoFrom", fn := fun _ => fun
  | [d1, d2, d3] => { results := [.lit (.bool true)], args := [d1, d2, d3] }
  | _ => none }
def isoFromRow : OpenClaim := { program := "ytomknjmgcbbjlaadoor", sum := "273491b380d4ceec00599096e012d0088a1bd6dac45fea5f5fdd4709e65d40b1", func := "lapidary/lapidarylaw13.IsoFrom", spec := "isoFrom", named := ["lapidary/mesh.next"], plainKeys := false, apart := false, laid := [("lapidary/mesh.next", laid_lapidary_mesh_next)] }
def IsoFromSaid : Prop := isoFromRow.holds Tryd.pinned (OpenSpec.ofChange isoFromSpec)

/-- ITS FALSE NEIGHBOUR: 'it returns false'. Refute it at one input. -/
def isoFromWrong : ChangeSpec := { name := "isoFrom", fn := fun _ => fun
  | [d1, d2, d3] => { results := [.lit (.bool false)], args := [d1, d2, d3] }
  | _ => none }
def IsoFromWrongFalsely : Prop := isoFromRow.holds Tryd.pinned (OpenSpec.ofChange isoFromWrong)

/-- 'lapidarylaw13.IsoWitness': WHATEVER THE INPUT: true; the input reads as it did. -/
def isoWitnessSpec : ChangeSpec := { name := "isoWitness", fn := fun _ => fun
  | [d1, d2] => { results := [.lit (.bool true)], args := [d1, d2] }
  | _ => none }
def isoWitnessRow : OpenClaim := { program := "ytomknjmgcbbjlaadoor", sum := "273491b380d4ceec00599096e012d0088a1bd6dac45fea5f5fdd4709e65d40b1", func := "lapidary/lapidarylaw13.IsoWitness", spec := "isoWitness", named := ["lapidary/mesh.next"], plainKeys := false, apart := false, laid := [("lapidary/mesh.next", laid_lapidary_mesh_next)] }
def IsoWitnessSaid : Prop := isoWitnessRow.holds Tryd.pinned (OpenSpec.ofChange isoWitnessSpec)

/-- ITS FALSE NEIGHBOUR: 'it returns false'. Refute it at one input. -/
def isoWitnessWrong : ChangeSpec := { name := "isoWitness", fn := fun _ => fun
  | [d1, d2] => { results := [.lit (.bool false)], args := [d1, d2] }
  | _ => none }
def IsoWitnessWrongFalsely : Prop := isoWitnessRow.holds Tryd.pinned (OpenSpec.ofChange isoWitnessWrong)

/-- 'lapidarylaw13.IsoCorners': WHATEVER THE INPUT: true; the input reads as it did. -/
def isoCornersSpec : ChangeSpec := { name := "isoCorners", fn := fun _ => fun
  | [d1, d2, d3] => { results := [.lit (.bool true)], args := [d1, d2, d3] }
  | _ => none }
def isoCornersRow : OpenClaim := { program := "ytomknjmgcbbjlaadoor", sum := "273491b380d4ceec00599096e012d0088a1bd6dac45fea5f5fdd4709e65d40b1", func := "lapidary/lapidarylaw13.IsoCorners", spec := "isoCorners", named := ["lapidary/mesh.next"], plainKeys := false, apart := false, laid := [("lapidary/mesh.next", laid_lapidary_mesh_next)] }
def IsoCornersSaid : Prop := isoCornersRow.holds Tryd.pinned (OpenSpec.ofChange isoCornersSpec)

/-- ITS FALSE NEIGHBOUR: 'it returns false'. Refute it at one input. -/
def isoCornersWrong : ChangeSpec := { name := "isoCorners", fn := fun _ => fun
  | [d1, d2, d3] => { results := [.lit (.bool false)], args := [d1, d2, d3] }
  | _ => none }
def IsoCornersWrongFalsely : Prop := isoCornersRow.holds Tryd.pinned (OpenSpec.ofChange isoCornersWrong)

/-- 'lapidarylaw12.GrowShort': WHATEVER THE INPUT: true; the input reads as it did. -/
def growShortSpec : ChangeSpec := { name := "growShort", fn := fun _ => fun
  | [d1, d2, d3] => { results := [.lit (.bool true)], args := [d1, d2, d3] }
  | _ => none }
def growShortRow : OpenClaim := { program := "ytomknjmgcbbjlaadoor", sum := "273491b380d4ceec00599096e012d0088a1bd6dac45fea5f5fdd4709e65d40b1", func := "lapidary/lapidarylaw12.GrowShort", spec := "growShort", named := ["lapidary/mesh.next"], plainKeys := false, apart := false, laid := [("lapidary/mesh.next", laid_lapidary_mesh_next)] }
def GrowShortSaid : Prop := growShortRow.holds Tryd.pinned (OpenSpec.ofChange growShortSpec)

/-- ITS FALSE NEIGHBOUR: 'it returns false'. Refute it at one input. -/
def growShortWrong : ChangeSpec := { name := "growShort", fn := fun _ => fun
  | [d1, d2, d3] => { results := [.lit (.bool false)], args := [d1, d2, d3] }
  | _ => none }
def GrowShortWrongFalsely : Prop := growShortRow.holds Tryd.pinned (OpenSpec.ofChange growShortWrong)

/-- 'lapidarylaw12.GrowWalks': WHATEVER THE INPUT: true; the input reads as it did. -/
def growWalksSpec : ChangeSpec := { name := "growWalks", fn := fun _ => fun
  | [d1, d2] => { results := [.lit (.bool true)], args := [d1, d2] }
  | _ => none }
def growWalksRow : OpenClaim := { program := "ytomknjmgcbbjlaadoor", sum := "273491b380d4ceec00599096e012d0088a1bd6dac45fea5f5fdd4709e65d40b1", func := "lapidary/lapidarylaw12.GrowWalks", spec := "growWalks", named := ["lapidary/mesh.next"], plainKeys := false, apart := false, laid := [("lapidary/mesh.next", laid_lapidary_mesh_next)] }
def GrowWalksSaid : Prop := growWalksRow.holds Tryd.pinned (OpenSpec.ofChange growWalksSpec)

/-- ITS FALSE NEIGHBOUR: 'it returns false'. Refute it at one input. -/
def growWalksWrong : ChangeSpec := { name := "growWalks", fn := fun _ => fun
  | [d1, d2] => { results := [.lit (.bool false)], args := [d1, d2] }
  | _ => none }
def GrowWalksWrongFalsely : Prop := growWalksRow.holds Tryd.pinned (OpenSpec.ofChange growWalksWrong)

/-- 'lapidarylaw11.WalkCounts': WHATEVER THE INPUT: true; the input reads as it did. -/
def walkCountsSpec : ChangeSpec := { name := "walkCounts", fn := fun _ => fun
  | [d] => { results := [.lit (.bool true)], args := [d] }
  | _ => none }
def walkCountsRow : OpenClaim := { program := "ytomknjmgcbbjlaadoor", sum := "273491b380d4ceec00599096e012d0088a1bd6dac45fea5f5fdd4709e65d40b1", func := "lapidary/lapidarylaw11.WalkCounts", spec := "walkCounts", unfollowed := true, recurses := true, named := ["lapidary/mesh.next"], plainKeys := false, apart := false, laid := [("lapidary/mesh.next", laid_lapidary_mesh_next)] }
def WalkCountsSaid : Prop := walkCountsRow.holds Tryd.pinned (OpenSpec.ofChange walkCountsSpec)

/-- ITS FALSE NEIGHBOUR: 'it returns false'. Refute it at one input. -/
def walkCountsWrong : ChangeSpec := { name := "walkCounts", fn := fun _ => fun
  | [d] => { results := [.lit (.bool false)], args := [d] }
  | _ => none }
def WalkCountsWrongFalsely : Prop := walkCountsRow.holds Tryd.pinned (OpenSpec.ofChange walkCountsWrong)

/- THE SECOND FORM. 'bulk': how many values and letters a reading holds, each counted each time it is reached (what is shared counts as often as it is met; a slice's spare places count too). A statement '..UptoSaid' is the law's where the arguments, and the package variables that the reading takes, are together of bulk at most 1048576: NARROWER than '..Said'. Prove '..Said' where nothing that the law and all that it calls make is longer than what came in: it says more and counts as full. Else prove '..UptoSaid'. A law counts once. -/
mutual
def uptoBulk {H : Type} : DataW H → Nat
  | .lit (.string bytes) => bytes.length + 1
  | .lit _ => 1
  | .nil => 1
  | .ptr d => uptoBulk d + 1
  | .slice elems spare => uptoBulkAll elems + uptoBulkAll spare + 1
  | .agg parts => uptoBulkAll parts + 1
  | .iface _ d => uptoBulk d + 1
  | .map entries => uptoBulkEntries entries + 1
  | .held _ => 1
def uptoBulkAll {H : Type} : List (DataW H) → Nat
  | [] => 0
  | d :: r => uptoBulk d + uptoBulkAll r
def uptoBulkEntries {H : Type} : List (Lit × DataW H) → Nat
  | [] => 0
  | x :: r => uptoBulkEntry x + uptoBulkEntries r
def uptoBulkEntry {H : Type} : Lit × DataW H → Nat
  | (.string bytes, d) => bytes.length + uptoBulk d + 1
  | (_, d) => uptoBulk d + 1
 end
def uptoSmall : (H : Type) → List (DataW H) → Bool := fun _ ds => decide (uptoBulkAll ds ≤ 1048576)
def OpenSpec.upto (s : _root_.Go.ChangeSpec) : _root_.Go.OpenSpec := { _root_.Go.OpenSpec.ofChange s with cond := some uptoSmall }

/-- 'lapidarylaw11.WalkSteps', WHERE WHAT IT READS IS OF BULK AT MOST 1048576: true; the input reads as it did. -/
def walkStepsUptoRow : OpenClaim := { program := "ytomknjmgcbbjlaadoor", sum := "273491b380d4ceec00599096e012d0088a1bd6dac45fea5f5fdd4709e65d40b1", func := "lapidary/lapidarylaw11.WalkSteps", spec := "walkSteps", named := ["lapidary/mesh.next"], plainKeys := false, apart := false, laid := [("lapidary/mesh.next", laid_lapidary_mesh_next)], narrowed := true }
def WalkStepsUptoSaid : Prop := walkStepsUptoRow.holds Tryd.pinned (OpenSpec.upto walkStepsSpec)

/-- 'lapidarylaw11.WalkNumbers', WHERE WHAT IT READS IS OF BULK AT MOST 1048576: true; the input reads as it did. -/
def walkNumbersUptoRow : OpenClaim := { program := "ytomknjmgcbbjlaadoor", sum := "273491b380d4ceec00599096e012d0088a1bd6dac45fea5f5fdd4709e65d40b1", func := "lapidary/lapidarylaw11.WalkNumbers", spec := "walkNumbers", named := ["lapidary/mesh.next"], plainKeys := false, apart := false, laid := [("lapidary/mesh.next", laid_lapidary_mesh_next)], narrowed := true }
def WalkNumbersUptoSaid : Prop := walkNumbersUptoRow.holds Tryd.pinned (OpenSpec.upto walkNumbersSpec)

/-- 'lapidarylaw11.WalkCanons', WHERE WHAT IT READS IS OF BULK AT MOST 1048576: true; the input reads as it did. -/
def walkCanonsUptoRow : OpenClaim := { program := "ytomknjmgcbbjlaadoor", sum := "273491b380d4ceec00599096e012d0088a1bd6dac45fea5f5fdd4709e65d40b1", func := "lapidary/lapidarylaw11.WalkCanons", spec := "walkCanons", named := ["lapidary/mesh.next"], plainKeys := false, apart := false, laid := [("lapidary/mesh.next", laid_lapidary_mesh_next)], narrowed := true }
def WalkCanonsUptoSaid : Prop := walkCanonsUptoRow.holds Tryd.pinned (OpenSpec.upto walkCanonsSpec)

/-- 'lapidarylaw11.WalkIs', WHERE WHAT IT READS IS OF BULK AT MOST 1048576: true; the input reads as it did. -/
def walkIsUptoRow : OpenClaim := { program := "ytomknjmgcbbjlaadoor", sum := "273491b380d4ceec00599096e012d0088a1bd6dac45fea5f5fdd4709e65d40b1", func := "lapidary/lapidarylaw11.WalkIs", spec := "walkIs", named := ["lapidary/mesh.next"], plainKeys := false, apart := false, laid := [("lapidary/mesh.next", laid_lapidary_mesh_next)], narrowed := true }
def WalkIsUptoSaid : Prop := walkIsUptoRow.holds Tryd.pinned (OpenSpec.upto walkIsSpec)

/-- 'lapidarylaw11.WalkOnce', WHERE WHAT IT READS IS OF BULK AT MOST 1048576: true; the input reads as it did. -/
def walkOnceUptoRow : OpenClaim := { program := "ytomknjmgcbbjlaadoor", sum := "273491b380d4ceec00599096e012d0088a1bd6dac45fea5f5fdd4709e65d40b1", func := "lapidary/lapidarylaw11.WalkOnce", spec := "walkOnce", named := ["lapidary/mesh.next"], plainKeys := false, apart := false, laid := [("lapidary/mesh.next", laid_lapidary_mesh_next)], narrowed := true }
def WalkOnceUptoSaid : Prop := walkOnceUptoRow.holds Tryd.pinned (OpenSpec.upto walkOnceSpec)

/-- 'lapidarylaw12.GrowSteps', WHERE WHAT IT READS IS OF BULK AT MOST 1048576: true; the input reads as it did. -/
def growStepsUptoRow : OpenClaim := { program := "ytomknjmgcbbjlaadoor", sum := "273491b380d4ceec00599096e012d0088a1bd6dac45fea5f5fdd4709e65d40b1", func := "lapidary/lapidarylaw12.GrowSteps", spec := "growSteps", named := ["lapidary/mesh.next"], plainKeys := false, apart := false, laid := [("lapidary/mesh.next", laid_lapidary_mesh_next)], narrowed := true }
def GrowStepsUptoSaid : Prop := growStepsUptoRow.holds Tryd.pinned (OpenSpec.upto growStepsSpec)

/-- 'lapidarylaw12.GrowAll', WHERE WHAT IT READS IS OF BULK AT MOST 1048576: true; the input reads as it did. -/
def growAllUptoRow : OpenClaim := { program := "ytomknjmgcbbjlaadoor", sum := "273491b380d4ceec00599096e012d0088a1bd6dac45fea5f5fdd4709e65d40b1", func := "lapidary/lapidarylaw12.GrowAll", spec := "growAll", named := ["lapidary/mesh.next"], plainKeys := false, apart := false, laid := [("lapidary/mesh.next", laid_lapidary_mesh_next)], narrowed := true }
def GrowAllUptoSaid : Prop := growAllUptoRow.holds Tryd.pinned (OpenSpec.upto growAllSpec)

/-- 'lapidarylaw12.GrowOne', WHERE WHAT IT READS IS OF BULK AT MOST 1048576: true; the input reads as it did. -/
def growOneUptoRow : OpenClaim := { program := "ytomknjmgcbbjlaadoor", sum := "273491b380d4ceec00599096e012d0088a1bd6dac45fea5f5fdd4709e65d40b1", func := "lapidary/lapidarylaw12.GrowOne", spec := "growOne", named := ["lapidary/mesh.next"], plainKeys := false, apart := false, laid := [("lapidary/mesh.next", laid_lapidary_mesh_next)], narrowed := true }
def GrowOneUptoSaid : Prop := growOneUptoRow.holds Tryd.pinned (OpenSpec.upto growOneSpec)

/-- 'lapidarylaw12.GrowCounts', WHERE WHAT IT READS IS OF BULK AT MOST 1048576: true; the input reads as it did. -/
def growCountsUptoRow : OpenClaim := { program := "ytomknjmgcbbjlaadoor", sum := "273491b380d4ceec00599096e012d0088a1bd6dac45fea5f5fdd4709e65d40b1", func := "lapidary/lapidarylaw12.GrowCounts", spec := "growCounts", named := ["lapidary/mesh.next"], plainKeys := false, apart := false, laid := [("lapidary/mesh.next", laid_lapidary_mesh_next)], narrowed := true }
def GrowCountsUptoSaid : Prop := growCountsUptoRow.holds Tryd.pinned (OpenSpec.upto growCountsSpec)

/-- 'lapidarylaw13.IsoFrom', WHERE WHAT IT READS IS OF BULK AT MOST 1048576: true; the input reads as it did. -/
def isoFromUptoRow : OpenClaim := { program := "ytomknjmgcbbjlaadoor", sum := "273491b380d4ceec00599096e012d0088a1bd6dac45fea5f5fdd4709e65d40b1", func := "lapidary/lapidarylaw13.IsoFrom", spec := "isoFrom", named := ["lapidary/mesh.next"], plainKeys := false, apart := false, laid := [("lapidary/mesh.next", laid_lapidary_mesh_next)], narrowed := true }
def IsoFromUptoSaid : Prop := isoFromUptoRow.holds Tryd.pinned (OpenSpec.upto isoFromSpec)

/-- 'lapidarylaw13.IsoWitness', WHERE WHAT IT READS IS OF BULK AT MOST 1048576: true; the input reads as it did. -/
def isoWitnessUptoRow : OpenClaim := { program := "ytomknjmgcbbjlaadoor", sum := "273491b380d4ceec00599096e012d0088a1bd6dac45fea5f5fdd4709e65d40b1", func := "lapidary/lapidarylaw13.IsoWitness", spec := "isoWitness", named := ["lapidary/mesh.next"], plainKeys := false, apart := false, laid := [("lapidary/mesh.next", laid_lapidary_mesh_next)], narrowed := true }
def IsoWitnessUptoSaid : Prop := isoWitnessUptoRow.holds Tryd.pinned (OpenSpec.upto isoWitnessSpec)

/-- 'lapidarylaw13.IsoCorners', WHERE WHAT IT READS IS OF BULK AT MOST 1048576: true; the input reads as it did. -/
def isoCornersUptoRow : OpenClaim := { program := "ytomknjmgcbbjlaadoor", sum := "273491b380d4ceec00599096e012d0088a1bd6dac45fea5f5fdd4709e65d40b1", func := "lapidary/lapidarylaw13.IsoCorners", spec := "isoCorners", named := ["lapidary/mesh.next"], plainKeys := false, apart := false, laid := [("lapidary/mesh.next", laid_lapidary_mesh_next)], narrowed := true }
def IsoCornersUptoSaid : Prop := isoCornersUptoRow.holds Tryd.pinned (OpenSpec.upto isoCornersSpec)

/-- 'lapidarylaw12.GrowShort', WHERE WHAT IT READS IS OF BULK AT MOST 1048576: true; the input reads as it did. -/
def growShortUptoRow : OpenClaim := { program := "ytomknjmgcbbjlaadoor", sum := "273491b380d4ceec00599096e012d0088a1bd6dac45fea5f5fdd4709e65d40b1", func := "lapidary/lapidarylaw12.GrowShort", spec := "growShort", named := ["lapidary/mesh.next"], plainKeys := false, apart := false, laid := [("lapidary/mesh.next", laid_lapidary_mesh_next)], narrowed := true }
def GrowShortUptoSaid : Prop := growShortUptoRow.holds Tryd.pinned (OpenSpec.upto growShortSpec)

/-- 'lapidarylaw12.GrowWalks', WHERE WHAT IT READS IS OF BULK AT MOST 1048576: true; the input reads as it did. -/
def growWalksUptoRow : OpenClaim := { program := "ytomknjmgcbbjlaadoor", sum := "273491b380d4ceec00599096e012d0088a1bd6dac45fea5f5fdd4709e65d40b1", func := "lapidary/lapidarylaw12.GrowWalks", spec := "growWalks", named := ["lapidary/mesh.next"], plainKeys := false, apart := false, laid := [("lapidary/mesh.next", laid_lapidary_mesh_next)], narrowed := true }
def GrowWalksUptoSaid : Prop := growWalksUptoRow.holds Tryd.pinned (OpenSpec.upto growWalksSpec)

/-- 'lapidarylaw11.WalkCounts', WHERE WHAT IT READS IS OF BULK AT MOST 1048576: true; the input reads as it did. -/
def walkCountsUptoRow : OpenClaim := { program := "ytomknjmgcbbjlaadoor", sum := "273491b380d4ceec00599096e012d0088a1bd6dac45fea5f5fdd4709e65d40b1", func := "lapidary/lapidarylaw11.WalkCounts", spec := "walkCounts", unfollowed := true, recurses := true, named := ["lapidary/mesh.next"], plainKeys := false, apart := false, laid := [("lapidary/mesh.next", laid_lapidary_mesh_next)], narrowed := true }
def WalkCountsUptoSaid : Prop := walkCountsUptoRow.holds Tryd.pinned (OpenSpec.upto walkCountsSpec)

end Rows
end Go.Proofs.YtomknjmgcbbjlaaDoor
