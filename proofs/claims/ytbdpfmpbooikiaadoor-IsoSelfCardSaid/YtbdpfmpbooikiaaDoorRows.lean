/-
  NARROWER THAN 'FOR EVERY INPUT', by the rows' own cells (each row's printed sentence says how): IsoIs: laid · IsoBack: laid · IsoRenames: laid · IsoSelf: laid · IsoTwice: laid · IsoFrom: laid · IsoWitness: laid · IsoCorners: laid.
  DERIVED. THE GIVEN ROWS OF THIS SEAT. 8 by the template 'for every input the law returns true; each argument reads behind the call as it read before'; 0 by the template 'total and deterministic' (their statements: YtbdpfmpbooikiaaDoorTotals.lean).
  GIVEN WITH THE SEED: the statements are not yours to turn. If you find one false, say at which input.
  Laid BY PROGRAM, IN A SANDBOX (cutbox-rows.mjs): the forced cells as the released guide's own fill.sh prints them over the translation b287bd30f96ab414… (all of the seat's roots in one cut). By AI agents, Wed Nov 11 2026. No macro, syntax, notation, axiom, sorry.
-/
import Derived.Test.YtbdpfmpbooikiaaDoorChecked
import GoSem.Claim
import GoSem.ClaimJoined
import GoSem.ClaimMapViews
import Derived.JoinedTies
import Derived.KernelRfl
namespace Go.Proofs.YtbdpfmpbooikiaaDoor
/- THE CELL 'sum', in the pinned program and in every row, IS THE sha256 OF THE DUMP (.gsa) THAT YtbdpfmpbooikiaaDoorProg.lean LOADS. Nothing in Lean hashes anything: it is a label: what it is worth is what the hold of that sum in a sandbox is worth. -/
noncomputable def Tryd.pinned : Pinned := { name := "ytbdpfmpbooikiaadoor", sum := "b287bd30f96ab4145b95c594ad4a7a95f44857c8c976c713e28485c36b87a154", checked := Tryd.checked }
namespace Rows
def none {H : Type} : Left H := { results := [], args := [] }

/- WHAT THE LISTED PACKAGE-LEVEL VARIABLES READ AS WHEN THE CALL BEGINS. Each datum BY PROGRAM (the guide's laid-datum.mjs) off the statement by which the dump's own 'gosem.cut.vars' lays the variable. In a bare row this is a premise. The card (YtbdpfmpbooikiaaDoorCards.lean) ties it to the program's text. -/
def laid_lapidary_mesh_next {H : Type} : DataW H := .agg [.lit (.int .i64 1), .lit (.int .i64 2), .lit (.int .i64 0)]

/-- 'lapidarylaw13.IsoIs': WHATEVER THE INPUT: true; the input reads as it did. -/
def isoIsSpec : ChangeSpec := { name := "isoIs", fn := fun _ => fun
  | [d1, d2, d3] => { results := [.lit (.bool true)], args := [d1, d2, d3] }
  | _ => none }
def isoIsRow : OpenClaim := { program := "ytbdpfmpbooikiaadoor", sum := "b287bd30f96ab4145b95c594ad4a7a95f44857c8c976c713e28485c36b87a154", func := "lapidary/lapidarylaw13.IsoIs", spec := "isoIs", named := ["lapidary/mesh.next"], plainKeys := false, apart := false, laid := [("lapidary/mesh.next", laid_lapidary_mesh_next)] }
def IsoIsSaid : Prop := isoIsRow.holds Tryd.pinned (OpenSpec.ofChange isoIsSpec)

/-- ITS FALSE NEIGHBOUR: 'it returns false'. Refute it at one input. -/
def isoIsWrong : ChangeSpec := { name := "isoIs", fn := fun _ => fun
  | [d1, d2, d3] => { results := [.lit (.bool false)], args := [d1, d2, d3] }
  | _ => none }
def IsoIsWrongFalsely : Prop := isoIsRow.holds Tryd.pinned (OpenSpec.ofChange isoIsWrong)

/-- 'lapidarylaw13.IsoBack': WHATEVER THE INPUT: true; the input reads as it did. -/
def isoBackSpec : ChangeSpec := { name := "isoBack", fn := fun _ => fun
  | [d] => { results := [.lit (.bool true)], args := [d] }
  | _ => none }
def isoBackRow : OpenClaim := { program := "ytbdpfmpbooikiaadoor", sum := "b287bd30f96ab4145b95c594ad4a7a95f44857c8c976c713e28485c36b87a154", func := "lapidary/lapidarylaw13.IsoBack", spec := "isoBack", named := ["lapidary/mesh.next"], plainKeys := false, apart := false, laid := [("lapidary/mesh.next", laid_lapidary_mesh_next)] }
def IsoBackSaid : Prop := isoBackRow.holds Tryd.pinned (OpenSpec.ofChange isoBackSpec)

/-- ITS FALSE NEIGHBOUR: 'it returns false'. Refute it at one input. -/
def isoBackWrong : ChangeSpec := { name := "isoBack", fn := fun _ => fun
  | [d] => { results := [.lit (.bool false)], args := [d] }
  | _ => none }
def IsoBackWrongFalsely : Prop := isoBackRow.holds Tryd.pinned (OpenSpec.ofChange isoBackWrong)

/-- 'lapidarylaw13.IsoRenames': WHATEVER THE INPUT: true; the input reads as it did. -/
def isoRenamesSpec : ChangeSpec := { name := "isoRenames", fn := fun _ => fun
  | [d1, d2] => { results := [.lit (.bool true)], args := [d1, d2] }
  | _ => none }
def isoRenamesRow : OpenClaim := { program := "ytbdpfmpbooikiaadoor", sum := "b287bd30f96ab4145b95c594ad4a7a95f44857c8c976c713e28485c36b87a154", func := "lapidary/lapidarylaw13.IsoRenames", spec := "isoRenames", named := ["lapidary/mesh.next"], plainKeys := false, apart := false, laid := [("lapidary/mesh.next", laid_lapidary_mesh_next)] }
def IsoRenamesSaid : Prop := isoRenamesRow.holds Tryd.pinned (OpenSpec.ofChange isoRenamesSpec)

/-- ITS FALSE NEIGHBOUR: 'it returns false'. Refute it at one input. -/
def isoRenamesWrong : ChangeSpec := { name := "isoRenames", fn := fun _ => fun
  | [d1, d2] => { results := [.lit (.bool false)], args := [d1, d2] }
  | _ => none }
def IsoRenamesWrongFalsely : Prop := isoRenamesRow.holds Tryd.pinned (OpenSpec.ofChange isoRenamesWrong)

/-- 'lapidarylaw13.IsoSelf': WHATEVER THE INPUT: true; the input reads as it did. -/
def isoSelfSpec : ChangeSpec := { name := "isoSelf", fn := fun _ => fun
  | [d1, d2] => { results := [.lit (.bool true)], args := [d1, d2] }
  | _ => none }
def isoSelfRow : OpenClaim := { program := "ytbdpfmpbooikiaadoor", sum := "b287bd30f96ab4145b95c594ad4a7a95f44857c8c976c713e28485c36b87a154", func := "lapidary/lapidarylaw13.IsoSelf", spec := "isoSelf", named := ["lapidary/mesh.next"], plainKeys := false, apart := false, laid := [("lapidary/mesh.next", laid_lapidary_mesh_next)] }
def IsoSelfSaid : Prop := isoSelfRow.holds Tryd.pinned (OpenSpec.ofChange isoSelfSpec)

/-- ITS FALSE NEIGHBOUR: 'it returns false'. Refute it at one input. -/
def isoSelfWrong : ChangeSpec := { name := "isoSelf", fn := fun _ => fun
  | [d1, d2] => { results := [.lit (.bool false)], args := [d1, d2] }
  | _ => none }
def IsoSelfWrongFalsely : Prop := isoSelfRow.holds Tryd.pinned (OpenSpec.ofChange isoSelfWrong)

/-- 'lapidarylaw13.IsoTwice': WHATEVER THE INPUT: true; the input reads as it did. -/
def isoTwiceSpec : ChangeSpec := { name := "isoTwice", fn := fun _ => fun
  | [d1, d2, d3] => { results := [.lit (.bool true)], args := [d1, d2, d3] }
  | _ => none }
def isoTwiceRow : OpenClaim := { program := "ytbdpfmpbooikiaadoor", sum := "b287bd30f96ab4145b95c594ad4a7a95f44857c8c976c713e28485c36b87a154", func := "lapidary/lapidarylaw13.IsoTwice", spec := "isoTwice", named := ["lapidary/mesh.next"], plainKeys := false, apart := false, laid := [("lapidary/mesh.next", laid_lapidary_mesh_next)] }
def IsoTwiceSaid : Prop := isoTwiceRow.holds Tryd.pinned (OpenSpec.ofChange isoTwiceSpec)

/-- ITS FALSE NEIGHBOUR: 'it returns false'. Refute it at one input. -/
def isoTwiceWrong : ChangeSpec := { name := "isoTwice", fn := fun _ => fun
  | [d1, d2, d3] => { results := [.lit (.bool false)], args := [d1, d2, d3] }
  | _ => none }
def IsoTwiceWrongFalsely : Prop := isoTwiceRow.holds Tryd.pinned (OpenSpec.ofChange isoTwiceWrong)

/-- 'lapidarylaw13.IsoFrom': WHATEVER THE INPUT: true; the input reads as it did. -/
def isoFromSpec : ChangeSpec := { name := "isoFrom", fn := fun _ => fun
  | [d1, d2, d3] => { results := [.lit (.bool true)], args := [d1, d2, d3] }
  | _ => none }
def isoFromRow : OpenClaim := { program := "ytbdpfmpbooikiaadoor", sum := "b287bd30f96ab4145b95c594ad4a7a95f44857c8c976c713e28485c36b87a154", func := "lapidary/lapidarylaw13.IsoFrom", spec := "isoFrom", named := ["lapidary/mesh.next"], plainKeys := false, apart := false, laid := [("lapidary/mesh.next", laid_lapidary_mesh_next)] }
def IsoFromSaid : Prop := isoFromRow.holds Tryd.pinned (OpenSpec.ofChange isoFromSpec)

/-- ITS FALSE NEIGHBOUR: 'it returns false'. Refute it at one input. -/
def isoFromWrong : ChangeSpec := { name := "isoFrom", fn := fun _ => fun
  | [d1, d2, d3] => { results := [.lit (.bool false)], args := [d1, d2, d3] }
  | _ => none }
def IsoFromWrongFalsely : Prop := isoFromRow.holds Tryd.pinned (OpenSpec.ofChange isoFromWrong)

/-- 'lapidarylaw13.IsoWitness': WHATEVER THE INPUT: true; the input reads as it did. -/
def isoWitnessSpec : ChangeSpec := { name := "isoWitness", fn := fun _ => fun
  | [d1, d2] => { results := [.lit (.bool true)], args := [d1, d2] }
  | _ => none }
def isoWitnessRow : OpenClaim := { program := "ytbdpfmpbooikiaadoor", sum := "b287bd30f96ab4145b95c594ad4a7a95f44857c8c976c713e28485c36b87a154", func := "lapidary/lapidarylaw13.IsoWitness", spec := "isoWitness", named := ["lapidary/mesh.next"], plainKeys := false, apart := false, laid := [("lapidary/mesh.next", laid_lapidary_mesh_next)] }
def IsoWitnessSaid : Prop := isoWitnessRow.holds Tryd.pinned (OpenSpec.ofChange isoWitnessSpec)

/-- ITS FALSE NEIGHBOUR: 'it returns false'. Refute it at one input. -/
def isoWitnessWrong : ChangeSpec := { name := "isoWitness", fn := fun _ => fun
  | [d1, d2] => { results := [.lit (.bool false)], args := [d1, d2] }
  | _ => none }
def IsoWitnessWrongFalsely : Prop := isoWitnessRow.holds Tryd.pinned (OpenSpec.ofChange isoWitnessWrong)

/-- 'lapidarylaw13.IsoCorners': WHATEVER THE INPUT: true; the input reads as it did. -/
def isoCornersSpec : ChangeSpec := { name := "isoCorners", fn := fun _ => fun
  | [d1, d2, d3] => { results := [.lit (.bool true)], args := [d1, d2, d3] }
  | _ => none }
def isoCornersRow : OpenClaim := { program := "ytbdpfmpbooikiaadoor", sum := "b287bd30f96ab4145b95c594ad4a7a95f44857c8c976c713e28485c36b87a154", func := "lapidary/lapidarylaw13.IsoCorners", spec := "isoCorners", named := ["lapidary/mesh.next"], plainKeys := false, apart := false, laid := [("lapidary/mesh.next", laid_lapidary_mesh_next)] }
def IsoCornersSaid : Prop := isoCornersRow.holds Tryd.pinned (OpenSpec.ofChange isoCornersSpec)

/-- ITS FALSE NEIGHBOUR: 'it returns false'. Refute it at one input. -/
def isoCornersWrong : ChangeSpec := { name := "isoCorners", fn := fun _ => fun
  | [d1, d2, d3] => { results := [.lit (.bool false)], args := [d1, d2, d3] }
  | _ => none }
def IsoCornersWrongFalsely : Prop := isoCornersRow.holds Tryd.pinned (OpenSpec.ofChange isoCornersWrong)

/- THE SECOND FORM. 'bulk': how many values and letters a reading holds, each counted each time it is reached (what is shared counts as often as it is met; a slice's spare places count too). A statement '..UptoSaid' is the law's where the arguments, and the package variables that the reading takes, are together of bulk at most 1048576: NARROWER than '..Said'. Prove '..Said' where nothing that the law and all that it calls make is longer than what came in: it says more and counts as full. Else prove '..UptoSaid'. A law counts once. -/
mutual
def uptoBulk {H : Type} : DataW H → Nat
  | .lit (.string bytes) => bytes.length + 1
  | .lit _ => 1
  | .nil => 1
  | .ptr d => uptoBulk d + 1
  | .slice elems spare => uptoBulkAll elems + uptoBulkAll spare + 1
  | .agg parts => uptoBulkAll parts + 1
  | .iface _ d => uptoBulk d + 1
  | .map entries => uptoBulkEntries entries + 1
  | .held _ => 1
def uptoBulkAll {H : Type} : List (DataW H) → Nat
  | [] => 0
  | d :: r => uptoBulk d + uptoBulkAll r
def uptoBulkEntries {H : Type} : List (Lit × DataW H) → Nat
  | [] => 0
  | x :: r => uptoBulkEntry x + uptoBulkEntries r
def uptoBulkEntry {H : Type} : Lit × DataW H → Nat
  | (.string bytes, d) => bytes.length + uptoBulk d + 1
  | (_, d) => uptoBulk d + 1
 end
def uptoSmall : (H : Type) → List (DataW H) → Bool := fun _ ds => decide (uptoBulkAll ds ≤ 1048576)
def OpenSpec.upto (s : _root_.Go.ChangeSpec) : _root_.Go.OpenSpec := { _root_.Go.OpenSpec.ofChange s with cond := some uptoSmall }

/-- 'lapidarylaw13.IsoIs', WHERE WHAT IT READS IS OF BULK AT MOST 1048576: true; the input reads as it did. -/
def isoIsUptoRow : OpenClaim := { program := "ytbdpfmpbooikiaadoor", sum := "b287bd30f96ab4145b95c594ad4a7a95f44857c8c976c713e28485c36b87a154", func := "lapidary/lapidarylaw13.IsoIs", spec := "isoIs", named := ["lapidary/mesh.next"], plainKeys := false, apart := false, laid := [("lapidary/mesh.next", laid_lapidary_mesh_next)], narrowed := true }
def IsoIsUptoSaid : Prop := isoIsUptoRow.holds Tryd.pinned (OpenSpec.upto isoIsSpec)

/-- 'lapidarylaw13.IsoBack', WHERE WHAT IT READS IS OF BULK AT MOST 1048576: true; the input reads as it did. -/
def isoBackUptoRow : OpenClaim := { program := "ytbdpfmpbooikiaadoor", sum := "b287bd30f96ab4145b95c594ad4a7a95f44857c8c976c713e28485c36b87a154", func := "lapidary/lapidarylaw13.IsoBack", spec := "isoBack", named := ["lapidary/mesh.next"], plainKeys := false, apart := false, laid := [("lapidary/mesh.next", laid_lapidary_mesh_next)], narrowed := true }
def IsoBackUptoSaid : Prop := isoBackUptoRow.holds Tryd.pinned (OpenSpec.upto isoBackSpec)

/-- 'lapidarylaw13.IsoRenames', WHERE WHAT IT READS IS OF BULK AT MOST 1048576: true; the input reads as it did. -/
def isoRenamesUptoRow : OpenClaim := { program := "ytbdpfmpbooikiaadoor", sum := "b287bd30f96ab4145b95c594ad4a7a95f44857c8c976c713e28485c36b87a154", func := "lapidary/lapidarylaw13.IsoRenames", spec := "isoRenames", named := ["lapidary/mesh.next"], plainKeys := false, apart := false, laid := [("lapidary/mesh.next", laid_lapidary_mesh_next)], narrowed := true }
def IsoRenamesUptoSaid : Prop := isoRenamesUptoRow.holds Tryd.pinned (OpenSpec.upto isoRenamesSpec)

/-- 'lapidarylaw13.IsoSelf', WHERE WHAT IT READS IS OF BULK AT MOST 1048576: true; the input reads as it did. -/
def isoSelfUptoRow : OpenClaim := { program := "ytbdpfmpbooikiaadoor", sum := "b287bd30f96ab4145b95c594ad4a7a95f44857c8c976c713e28485c36b87a154", func := "lapidary/lapidarylaw13.IsoSelf", spec := "isoSelf", named := ["lapidary/mesh.next"], plainKeys := false, apart := false, laid := [("lapidary/mesh.next", laid_lapidary_mesh_next)], narrowed := true }
def IsoSelfUptoSaid : Prop := isoSelfUptoRow.holds Tryd.pinned (OpenSpec.upto isoSelfSpec)

/-- 'lapidarylaw13.IsoTwice', WHERE WHAT IT READS IS OF BULK AT MOST 1048576: true; the input reads as it did. -/
def isoTwiceUptoRow : OpenClaim := { program := "ytbdpfmpbooikiaadoor", sum := "b287bd30f96ab4145b95c594ad4a7a95f44857c8c976c713e28485c36b87a154", func := "lapidary/lapidarylaw13.IsoTwice", spec := "isoTwice", named := ["lapidary/mesh.next"], plainKeys := false, apart := false, laid := [("lapidary/mesh.next", laid_lapidary_mesh_next)], narrowed := true }
def IsoTwiceUptoSaid : Prop := isoTwiceUptoRow.holds Tryd.pinned (OpenSpec.upto isoTwiceSpec)

/-- 'lapidarylaw13.IsoFrom', WHERE WHAT IT READS IS OF BULK AT MOST 1048576: true; the input reads as it did. -/
def isoFromUptoRow : OpenClaim := { program := "ytbdpfmpbooikiaadoor", sum := "b287bd30f96ab4145b95c594ad4a7a95f44857c8c976c713e28485c36b87a154", func := "lapidary/lapidarylaw13.IsoFrom", spec := "isoFrom", named := ["lapidary/mesh.next"], plainKeys := false, apart := false, laid := [("lapidary/mesh.next", laid_lapidary_mesh_next)], narrowed := true }
def IsoFromUptoSaid : Prop := isoFromUptoRow.holds Tryd.pinned (OpenSpec.upto isoFromSpec)

/-- 'lapidarylaw13.IsoWitness', WHERE WHAT IT READS IS OF BULK AT MOST 1048576: true; the input reads as it did. -/
def isoWitnessUptoRow : OpenClaim := { program := "ytbdpfmpbooikiaadoor", sum := "b287bd30f96ab4145b95c594ad4a7a95f44857c8c976c713e28485c36b87a154", func := "lapidary/lapidarylaw13.IsoWitness", spec := "isoWitness", named := ["lapidary/mesh.next"], plainKeys := false, apart := false, laid := [("lapidary/mesh.next", laid_lapidary_mesh_next)], narrowed := true }
def IsoWitnessUptoSaid : Prop := isoWitnessUptoRow.holds Tryd.pinned (OpenSpec.upto isoWitnessSpec)

/-- 'lapidarylaw13.IsoCorners', WHERE WHAT IT READS IS OF BULK AT MOST 1048576: true; the input reads as it did. -/
def isoCornersUptoRow : OpenClaim := { program := "ytbdpfmpbooikiaadoor", sum := "b287bd30f96ab4145b95c594ad4a7a95f44857c8c976c713e28485c36b87a154", func := "lapidary/lapidarylaw13.IsoCorners", spec := "isoCorners", named := ["lapidary/mesh.next"], plainKeys := false, apart := false, laid := [("lapidary/mesh.next", laid_lapidary_mesh_next)], narrowed := true }
def IsoCornersUptoSaid : Prop := isoCornersUptoRow.holds Tryd.pinned (OpenSpec.upto isoCornersSpec)

end Rows
end Go.Proofs.YtbdpfmpbooikiaaDoor
