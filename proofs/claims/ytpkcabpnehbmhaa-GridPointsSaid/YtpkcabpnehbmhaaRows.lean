/-
  No cell of these rows narrows 'for every input' (looked for: loops, veiled, ifaces, maps, wideKeys, modest, calm, conditions, laid).
  DERIVED. THE GIVEN ROWS OF THIS SEAT. 9 by the template 'for every input the law returns true; each argument reads behind the call as it read before'; 0 by the template 'total and deterministic' (their statements: YtpkcabpnehbmhaaTotals.lean).
  GIVEN WITH THE SEED: the statements are not yours to turn. If you find one false, say at which input.
  Laid BY PROGRAM, IN A SANDBOX (cutbox-rows.mjs): the forced cells as the released guide's own fill.sh prints them over the translation 230193673c169af2… (all of the seat's roots in one cut). By AI agents, Wed Nov 11 2026. No macro, syntax, notation, axiom, sorry.
-/
import Derived.Test.YtpkcabpnehbmhaaChecked
import GoSem.Claim
import GoSem.ClaimJoined
import GoSem.ClaimMapViews
import Derived.JoinedTies
import Derived.KernelRfl
namespace Go.Proofs.Ytpkcabpnehbmhaa
/- THE CELL 'sum', in the pinned program and in every row, IS THE sha256 OF THE DUMP (.gsa) THAT YtpkcabpnehbmhaaProg.lean LOADS. Nothing in Lean hashes anything: it is a label: what it is worth is what the hold of that sum in a sandbox is worth. -/
noncomputable def Try.pinned : Pinned := { name := "ytpkcabpnehbmhaa", sum := "230193673c169af284580382baa46b84a895b5d18163762aeec9e537655b05a3", checked := Try.checked }
namespace Rows
def none {H : Type} : Left H := { results := [], args := [] }

/-- 'lapidarylaw07.GridTakes': WHATEVER THE INPUT: true; the input reads as it did. -/
def gridTakesSpec : ChangeSpec := { name := "gridTakes", fn := fun _ => fun
  | [d1, d2] => { results := [.lit (.bool true)], args := [d1, d2] }
  | _ => none }
def gridTakesRow : OpenClaim := { program := "ytpkcabpnehbmhaa", sum := "230193673c169af284580382baa46b84a895b5d18163762aeec9e537655b05a3", func := "lapidary/lapidarylaw07.GridTakes", spec := "gridTakes", inPlace := ["math.Float64frombits", "math.Float64bits", "math.archTrunc", "math.RoundToEven"], apart := false }
def GridTakesSaid : Prop := gridTakesRow.holds Try.pinned (OpenSpec.ofChange gridTakesSpec)

/-- ITS FALSE NEIGHBOUR: 'it returns false'. Refute it at one input. -/
def gridTakesWrong : ChangeSpec := { name := "gridTakes", fn := fun _ => fun
  | [d1, d2] => { results := [.lit (.bool false)], args := [d1, d2] }
  | _ => none }
def GridTakesWrongFalsely : Prop := gridTakesRow.holds Try.pinned (OpenSpec.ofChange gridTakesWrong)

/-- 'lapidarylaw07.GridRounds': WHATEVER THE INPUT: true; the input reads as it did. -/
def gridRoundsSpec : ChangeSpec := { name := "gridRounds", fn := fun _ => fun
  | [d] => { results := [.lit (.bool true)], args := [d] }
  | _ => none }
def gridRoundsRow : OpenClaim := { program := "ytpkcabpnehbmhaa", sum := "230193673c169af284580382baa46b84a895b5d18163762aeec9e537655b05a3", func := "lapidary/lapidarylaw07.GridRounds", spec := "gridRounds", inPlace := ["math.Float64frombits", "math.RoundToEven", "math.Float64bits", "math.archTrunc"], apart := false }
def GridRoundsSaid : Prop := gridRoundsRow.holds Try.pinned (OpenSpec.ofChange gridRoundsSpec)

/-- ITS FALSE NEIGHBOUR: 'it returns false'. Refute it at one input. -/
def gridRoundsWrong : ChangeSpec := { name := "gridRounds", fn := fun _ => fun
  | [d] => { results := [.lit (.bool false)], args := [d] }
  | _ => none }
def GridRoundsWrongFalsely : Prop := gridRoundsRow.holds Try.pinned (OpenSpec.ofChange gridRoundsWrong)

/-- 'lapidarylaw07.GridKinds': WHATEVER THE INPUT: true; the input reads as it did. -/
def gridKindsSpec : ChangeSpec := { name := "gridKinds", fn := fun _ => fun
  | [d] => { results := [.lit (.bool true)], args := [d] }
  | _ => none }
def gridKindsRow : OpenClaim := { program := "ytpkcabpnehbmhaa", sum := "230193673c169af284580382baa46b84a895b5d18163762aeec9e537655b05a3", func := "lapidary/lapidarylaw07.GridKinds", spec := "gridKinds", inPlace := ["math.Float64frombits", "math.Float64bits", "math.archTrunc", "math.RoundToEven"], apart := false }
def GridKindsSaid : Prop := gridKindsRow.holds Try.pinned (OpenSpec.ofChange gridKindsSpec)

/-- ITS FALSE NEIGHBOUR: 'it returns false'. Refute it at one input. -/
def gridKindsWrong : ChangeSpec := { name := "gridKinds", fn := fun _ => fun
  | [d] => { results := [.lit (.bool false)], args := [d] }
  | _ => none }
def GridKindsWrongFalsely : Prop := gridKindsRow.holds Try.pinned (OpenSpec.ofChange gridKindsWrong)

/-- 'lapidarylaw07.GridNear': WHATEVER THE INPUT: true; the input reads as it did. -/
def gridNearSpec : ChangeSpec := { name := "gridNear", fn := fun _ => fun
  | [d1, d2] => { results := [.lit (.bool true)], args := [d1, d2] }
  | _ => none }
def gridNearRow : OpenClaim := { program := "ytpkcabpnehbmhaa", sum := "230193673c169af284580382baa46b84a895b5d18163762aeec9e537655b05a3", func := "lapidary/lapidarylaw07.GridNear", spec := "gridNear", inPlace := ["math.Float64frombits", "math.RoundToEven", "math.Float64bits", "math.archTrunc"], apart := false }
def GridNearSaid : Prop := gridNearRow.holds Try.pinned (OpenSpec.ofChange gridNearSpec)

/-- ITS FALSE NEIGHBOUR: 'it returns false'. Refute it at one input. -/
def gridNearWrong : ChangeSpec := { name := "gridNear", fn := fun _ => fun
  | [d1, d2] => { results := [.lit (.bool false)], args := [d1, d2] }
  | _ => none }
def GridNearWrongFalsely : Prop := gridNearRow.holds Try.pinned (OpenSpec.ofChange gridNearWrong)

/-- 'lapidarylaw07.GridSame': WHATEVER THE INPUT: true; the input reads as it did. -/
def gridSameSpec : ChangeSpec := { name := "gridSame", fn := fun _ => fun
  | [d1, d2] => { results := [.lit (.bool true)], args := [d1, d2] }
  | _ => none }
def gridSameRow : OpenClaim := { program := "ytpkcabpnehbmhaa", sum := "230193673c169af284580382baa46b84a895b5d18163762aeec9e537655b05a3", func := "lapidary/lapidarylaw07.GridSame", spec := "gridSame", inPlace := ["math.Float64frombits", "math.Float64bits", "math.archTrunc", "math.RoundToEven"], apart := false }
def GridSameSaid : Prop := gridSameRow.holds Try.pinned (OpenSpec.ofChange gridSameSpec)

/-- ITS FALSE NEIGHBOUR: 'it returns false'. Refute it at one input. -/
def gridSameWrong : ChangeSpec := { name := "gridSame", fn := fun _ => fun
  | [d1, d2] => { results := [.lit (.bool false)], args := [d1, d2] }
  | _ => none }
def GridSameWrongFalsely : Prop := gridSameRow.holds Try.pinned (OpenSpec.ofChange gridSameWrong)

/-- 'lapidarylaw07.GridEdges': WHATEVER THE INPUT: true; the input reads as it did. -/
def gridEdgesSpec : ChangeSpec := { name := "gridEdges", fn := fun _ => fun
  | [d1, d2] => { results := [.lit (.bool true)], args := [d1, d2] }
  | _ => none }
def gridEdgesRow : OpenClaim := { program := "ytpkcabpnehbmhaa", sum := "230193673c169af284580382baa46b84a895b5d18163762aeec9e537655b05a3", func := "lapidary/lapidarylaw07.GridEdges", spec := "gridEdges", inPlace := ["math.Float64frombits", "math.Float64bits", "math.archTrunc", "math.RoundToEven"], apart := false }
def GridEdgesSaid : Prop := gridEdgesRow.holds Try.pinned (OpenSpec.ofChange gridEdgesSpec)

/-- ITS FALSE NEIGHBOUR: 'it returns false'. Refute it at one input. -/
def gridEdgesWrong : ChangeSpec := { name := "gridEdges", fn := fun _ => fun
  | [d1, d2] => { results := [.lit (.bool false)], args := [d1, d2] }
  | _ => none }
def GridEdgesWrongFalsely : Prop := gridEdgesRow.holds Try.pinned (OpenSpec.ofChange gridEdgesWrong)

/-- 'lapidarylaw07.GridBack': WHATEVER THE INPUT: true; the input reads as it did. -/
def gridBackSpec : ChangeSpec := { name := "gridBack", fn := fun _ => fun
  | [d1, d2, d3] => { results := [.lit (.bool true)], args := [d1, d2, d3] }
  | _ => none }
def gridBackRow : OpenClaim := { program := "ytpkcabpnehbmhaa", sum := "230193673c169af284580382baa46b84a895b5d18163762aeec9e537655b05a3", func := "lapidary/lapidarylaw07.GridBack", spec := "gridBack", inPlace := ["math.Float64bits", "math.Float64frombits", "math.archTrunc", "math.RoundToEven"], apart := false }
def GridBackSaid : Prop := gridBackRow.holds Try.pinned (OpenSpec.ofChange gridBackSpec)

/-- ITS FALSE NEIGHBOUR: 'it returns false'. Refute it at one input. -/
def gridBackWrong : ChangeSpec := { name := "gridBack", fn := fun _ => fun
  | [d1, d2, d3] => { results := [.lit (.bool false)], args := [d1, d2, d3] }
  | _ => none }
def GridBackWrongFalsely : Prop := gridBackRow.holds Try.pinned (OpenSpec.ofChange gridBackWrong)

/-- 'lapidarylaw07.GridFloats': WHATEVER THE INPUT: true; the input reads as it did. -/
def gridFloatsSpec : ChangeSpec := { name := "gridFloats", fn := fun _ => fun
  | [d1, d2] => { results := [.lit (.bool true)], args := [d1, d2] }
  | _ => none }
def gridFloatsRow : OpenClaim := { program := "ytpkcabpnehbmhaa", sum := "230193673c169af284580382baa46b84a895b5d18163762aeec9e537655b05a3", func := "lapidary/lapidarylaw07.GridFloats", spec := "gridFloats", inPlace := ["math.Float64bits", "math.Float64frombits", "math.archTrunc", "math.RoundToEven"], apart := false }
def GridFloatsSaid : Prop := gridFloatsRow.holds Try.pinned (OpenSpec.ofChange gridFloatsSpec)

/-- ITS FALSE NEIGHBOUR: 'it returns false'. Refute it at one input. -/
def gridFloatsWrong : ChangeSpec := { name := "gridFloats", fn := fun _ => fun
  | [d1, d2] => { results := [.lit (.bool false)], args := [d1, d2] }
  | _ => none }
def GridFloatsWrongFalsely : Prop := gridFloatsRow.holds Try.pinned (OpenSpec.ofChange gridFloatsWrong)

/-- 'lapidarylaw07.GridPoints': WHATEVER THE INPUT: true; the input reads as it did. -/
def gridPointsSpec : ChangeSpec := { name := "gridPoints", fn := fun _ => fun
  | [d1, d2] => { results := [.lit (.bool true)], args := [d1, d2] }
  | _ => none }
def gridPointsRow : OpenClaim := { program := "ytpkcabpnehbmhaa", sum := "230193673c169af284580382baa46b84a895b5d18163762aeec9e537655b05a3", func := "lapidary/lapidarylaw07.GridPoints", spec := "gridPoints", inPlace := ["math.Float64bits", "math.Float64frombits", "math.archTrunc", "math.RoundToEven"], apart := false }
def GridPointsSaid : Prop := gridPointsRow.holds Try.pinned (OpenSpec.ofChange gridPointsSpec)

/-- ITS FALSE NEIGHBOUR: 'it returns false'. Refute it at one input. -/
def gridPointsWrong : ChangeSpec := { name := "gridPoints", fn := fun _ => fun
  | [d1, d2] => { results := [.lit (.bool false)], args := [d1, d2] }
  | _ => none }
def GridPointsWrongFalsely : Prop := gridPointsRow.holds Try.pinned (OpenSpec.ofChange gridPointsWrong)

/- THE SECOND FORM. 'bulk': how many values and letters a reading holds, each counted each time it is reached (what is shared counts as often as it is met; a slice's spare places count too). A statement '..UptoSaid' is the law's where the arguments, and the package variables that the reading takes, are together of bulk at most 1048576: NARROWER than '..Said'. Prove '..Said' where nothing that the law and all that it calls make is longer than what came in: it says more and counts as full. Else prove '..UptoSaid'. A law counts once. -/
mutual
def uptoBulk {H : Type} : DataW H → Nat
  | .lit (.string bytes) => bytes.length + 1
  | .lit _ => 1
  | .nil => 1
  | .ptr d => uptoBulk d + 1
  | .slice elems spare => uptoBulkAll elems + uptoBulkAll spare + 1
  | .agg parts => uptoBulkAll parts + 1
  | .iface _ d => uptoBulk d + 1
  | .map entries => uptoBulkEntries entries + 1
  | .held _ => 1
def uptoBulkAll {H : Type} : List (DataW H) → Nat
  | [] => 0
  | d :: r => uptoBulk d + uptoBulkAll r
def uptoBulkEntries {H : Type} : List (Lit × DataW H) → Nat
  | [] => 0
  | x :: r => uptoBulkEntry x + uptoBulkEntries r
def uptoBulkEntry {H : Type} : Lit × DataW H → Nat
  | (.string bytes, d) => bytes.length + uptoBulk d + 1
  | (_, d) => uptoBulk d + 1
 end
def uptoSmall : (H : Type) → List (DataW H) → Bool := fun _ ds => decide (uptoBulkAll ds ≤ 1048576)
def OpenSpec.upto (s : _root_.Go.ChangeSpec) : _root_.Go.OpenSpec := { _root_.Go.OpenSpec.ofChange s with cond := some uptoSmall }

/-- 'lapidarylaw07.GridTakes', WHERE WHAT IT READS IS OF BULK AT MOST 1048576: true; the input reads as it did. -/
def gridTakesUptoRow : OpenClaim := { program := "ytpkcabpnehbmhaa", sum := "230193673c169af284580382baa46b84a895b5d18163762aeec9e537655b05a3", func := "lapidary/lapidarylaw07.GridTakes", spec := "gridTakes", inPlace := ["math.Float64frombits", "math.Float64bits", "math.archTrunc", "math.RoundToEven"], apart := false, narrowed := true }
def GridTakesUptoSaid : Prop := gridTakesUptoRow.holds Try.pinned (OpenSpec.upto gridTakesSpec)

/-- 'lapidarylaw07.GridRounds', WHERE WHAT IT READS IS OF BULK AT MOST 1048576: true; the input reads as it did. -/
def gridRoundsUptoRow : OpenClaim := { program := "ytpkcabpnehbmhaa", sum := "230193673c169af284580382baa46b84a895b5d18163762aeec9e537655b05a3", func := "lapidary/lapidarylaw07.GridRounds", spec := "gridRounds", inPlace := ["math.Float64frombits", "math.RoundToEven", "math.Float64bits", "math.archTrunc"], apart := false, narrowed := true }
def GridRoundsUptoSaid : Prop := gridRoundsUptoRow.holds Try.pinned (OpenSpec.upto gridRoundsSpec)

/-- 'lapidarylaw07.GridKinds', WHERE WHAT IT READS IS OF BULK AT MOST 1048576: true; the input reads as it did. -/
def gridKindsUptoRow : OpenClaim := { program := "ytpkcabpnehbmhaa", sum := "230193673c169af284580382baa46b84a895b5d18163762aeec9e537655b05a3", func := "lapidary/lapidarylaw07.GridKinds", spec := "gridKinds", inPlace := ["math.Float64frombits", "math.Float64bits", "math.archTrunc", "math.RoundToEven"], apart := false, narrowed := true }
def GridKindsUptoSaid : Prop := gridKindsUptoRow.holds Try.pinned (OpenSpec.upto gridKindsSpec)

/-- 'lapidarylaw07.GridNear', WHERE WHAT IT READS IS OF BULK AT MOST 1048576: true; the input reads as it did. -/
def gridNearUptoRow : OpenClaim := { program := "ytpkcabpnehbmhaa", sum := "230193673c169af284580382baa46b84a895b5d18163762aeec9e537655b05a3", func := "lapidary/lapidarylaw07.GridNear", spec := "gridNear", inPlace := ["math.Float64frombits", "math.RoundToEven", "math.Float64bits", "math.archTrunc"], apart := false, narrowed := true }
def GridNearUptoSaid : Prop := gridNearUptoRow.holds Try.pinned (OpenSpec.upto gridNearSpec)

/-- 'lapidarylaw07.GridSame', WHERE WHAT IT READS IS OF BULK AT MOST 1048576: true; the input reads as it did. -/
def gridSameUptoRow : OpenClaim := { program := "ytpkcabpnehbmhaa", sum := "230193673c169af284580382baa46b84a895b5d18163762aeec9e537655b05a3", func := "lapidary/lapidarylaw07.GridSame", spec := "gridSame", inPlace := ["math.Float64frombits", "math.Float64bits", "math.archTrunc", "math.RoundToEven"], apart := false, narrowed := true }
def GridSameUptoSaid : Prop := gridSameUptoRow.holds Try.pinned (OpenSpec.upto gridSameSpec)

/-- 'lapidarylaw07.GridEdges', WHERE WHAT IT READS IS OF BULK AT MOST 1048576: true; the input reads as it did. -/
def gridEdgesUptoRow : OpenClaim := { program := "ytpkcabpnehbmhaa", sum := "230193673c169af284580382baa46b84a895b5d18163762aeec9e537655b05a3", func := "lapidary/lapidarylaw07.GridEdges", spec := "gridEdges", inPlace := ["math.Float64frombits", "math.Float64bits", "math.archTrunc", "math.RoundToEven"], apart := false, narrowed := true }
def GridEdgesUptoSaid : Prop := gridEdgesUptoRow.holds Try.pinned (OpenSpec.upto gridEdgesSpec)

/-- 'lapidarylaw07.GridBack', WHERE WHAT IT READS IS OF BULK AT MOST 1048576: true; the input reads as it did. -/
def gridBackUptoRow : OpenClaim := { program := "ytpkcabpnehbmhaa", sum := "230193673c169af284580382baa46b84a895b5d18163762aeec9e537655b05a3", func := "lapidary/lapidarylaw07.GridBack", spec := "gridBack", inPlace := ["math.Float64bits", "math.Float64frombits", "math.archTrunc", "math.RoundToEven"], apart := false, narrowed := true }
def GridBackUptoSaid : Prop := gridBackUptoRow.holds Try.pinned (OpenSpec.upto gridBackSpec)

/-- 'lapidarylaw07.GridFloats', WHERE WHAT IT READS IS OF BULK AT MOST 1048576: true; the input reads as it did. -/
def gridFloatsUptoRow : OpenClaim := { program := "ytpkcabpnehbmhaa", sum := "230193673c169af284580382baa46b84a895b5d18163762aeec9e537655b05a3", func := "lapidary/lapidarylaw07.GridFloats", spec := "gridFloats", inPlace := ["math.Float64bits", "math.Float64frombits", "math.archTrunc", "math.RoundToEven"], apart := false, narrowed := true }
def GridFloatsUptoSaid : Prop := gridFloatsUptoRow.holds Try.pinned (OpenSpec.upto gridFloatsSpec)

/-- 'lapidarylaw07.GridPoints', WHERE WHAT IT READS IS OF BULK AT MOST 1048576: true; the input reads as it did. -/
def gridPointsUptoRow : OpenClaim := { program := "ytpkcabpnehbmhaa", sum := "230193673c169af284580382baa46b84a895b5d18163762aeec9e537655b05a3", func := "lapidary/lapidarylaw07.GridPoints", spec := "gridPoints", inPlace := ["math.Float64bits", "math.Float64frombits", "math.archTrunc", "math.RoundToEven"], apart := false, narrowed := true }
def GridPointsUptoSaid : Prop := gridPointsUptoRow.holds Try.pinned (OpenSpec.upto gridPointsSpec)

end Rows
end Go.Proofs.Ytpkcabpnehbmhaa
