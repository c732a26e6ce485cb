/-
  No cell of these rows narrows 'for every input' (looked for: loops, veiled, ifaces, maps, wideKeys, modest, calm, conditions, laid).
  DERIVED. THE GIVEN ROWS OF THIS SEAT. 7 by the template 'for every input the law returns true; each argument reads behind the call as it read before'; 0 by the template 'total and deterministic' (their statements: YtjegnmnojgglaaaTotals.lean).
  GIVEN WITH THE SEED: the statements are not yours to turn. If you find one false, say at which input.
  Laid BY PROGRAM, IN A SANDBOX (cutbox-rows.mjs): the forced cells as the released guide's own fill.sh prints them over the translation 8a0a41981d5cf32b… (all of the seat's roots in one cut). By AI agents, Wed Nov 11 2026. No macro, syntax, notation, axiom, sorry.
-/
import Derived.Test.YtjegnmnojgglaaaChecked
import GoSem.Claim
import GoSem.ClaimJoined
import GoSem.ClaimMapViews
import Derived.JoinedTies
import Derived.KernelRfl
namespace Go.Proofs.Ytjegnmnojgglaaa
/- THE CELL 'sum', in the pinned program and in every row, IS THE sha256 OF THE DUMP (.gsa) THAT YtjegnmnojgglaaaProg.lean LOADS. Nothing in Lean hashes anything: it is a label: what it is worth is what the hold of that sum in a sandbox is worth. -/
noncomputable def Try.pinned : Pinned := { name := "ytjegnmnojgglaaa", sum := "8a0a41981d5cf32b0ba628e661f8001bc581dde7505a002c4d1e6cb011a6b987", checked := Try.checked }
namespace Rows
def none {H : Type} : Left H := { results := [], args := [] }

/-- 'lapidarylaw05.ModelFinds': WHATEVER THE INPUT: true; the input reads as it did. -/
def modelFindsSpec : ChangeSpec := { name := "modelFinds", fn := fun _ => fun
  | [d1, d2, d3] => { results := [.lit (.bool true)], args := [d1, d2, d3] }
  | _ => none }
def modelFindsRow : OpenClaim := { program := "ytjegnmnojgglaaa", sum := "8a0a41981d5cf32b0ba628e661f8001bc581dde7505a002c4d1e6cb011a6b987", func := "lapidary/lapidarylaw05.ModelFinds", spec := "modelFinds", unfollowed := true, recurses := true, apart := false }
def ModelFindsSaid : Prop := modelFindsRow.holds Try.pinned (OpenSpec.ofChange modelFindsSpec)

/-- ITS FALSE NEIGHBOUR: 'it returns false'. Refute it at one input. -/
def modelFindsWrong : ChangeSpec := { name := "modelFinds", fn := fun _ => fun
  | [d1, d2, d3] => { results := [.lit (.bool false)], args := [d1, d2, d3] }
  | _ => none }
def ModelFindsWrongFalsely : Prop := modelFindsRow.holds Try.pinned (OpenSpec.ofChange modelFindsWrong)

/-- 'lapidarylaw05.ModelWhole': WHATEVER THE INPUT: true; the input reads as it did. -/
def modelWholeSpec : ChangeSpec := { name := "modelWhole", fn := fun _ => fun
  | [d1, d2] => { results := [.lit (.bool true)], args := [d1, d2] }
  | _ => none }
def modelWholeRow : OpenClaim := { program := "ytjegnmnojgglaaa", sum := "8a0a41981d5cf32b0ba628e661f8001bc581dde7505a002c4d1e6cb011a6b987", func := "lapidary/lapidarylaw05.ModelWhole", spec := "modelWhole", unfollowed := true, recurses := true, apart := false }
def ModelWholeSaid : Prop := modelWholeRow.holds Try.pinned (OpenSpec.ofChange modelWholeSpec)

/-- ITS FALSE NEIGHBOUR: 'it returns false'. Refute it at one input. -/
def modelWholeWrong : ChangeSpec := { name := "modelWhole", fn := fun _ => fun
  | [d1, d2] => { results := [.lit (.bool false)], args := [d1, d2] }
  | _ => none }
def ModelWholeWrongFalsely : Prop := modelWholeRow.holds Try.pinned (OpenSpec.ofChange modelWholeWrong)

/-- 'lapidarylaw05.ModelMany': WHATEVER THE INPUT: true; the input reads as it did. -/
def modelManySpec : ChangeSpec := { name := "modelMany", fn := fun _ => fun
  | [d1, d2, d3] => { results := [.lit (.bool true)], args := [d1, d2, d3] }
  | _ => none }
def modelManyRow : OpenClaim := { program := "ytjegnmnojgglaaa", sum := "8a0a41981d5cf32b0ba628e661f8001bc581dde7505a002c4d1e6cb011a6b987", func := "lapidary/lapidarylaw05.ModelMany", spec := "modelMany", unfollowed := true, recurses := true, apart := false }
def ModelManySaid : Prop := modelManyRow.holds Try.pinned (OpenSpec.ofChange modelManySpec)

/-- ITS FALSE NEIGHBOUR: 'it returns false'. Refute it at one input. -/
def modelManyWrong : ChangeSpec := { name := "modelMany", fn := fun _ => fun
  | [d1, d2, d3] => { results := [.lit (.bool false)], args := [d1, d2, d3] }
  | _ => none }
def ModelManyWrongFalsely : Prop := modelManyRow.holds Try.pinned (OpenSpec.ofChange modelManyWrong)

/-- 'lapidarylaw05.ModelGrows': WHATEVER THE INPUT: true; the input reads as it did. -/
def modelGrowsSpec : ChangeSpec := { name := "modelGrows", fn := fun _ => fun
  | [d1, d2, d3] => { results := [.lit (.bool true)], args := [d1, d2, d3] }
  | _ => none }
def modelGrowsRow : OpenClaim := { program := "ytjegnmnojgglaaa", sum := "8a0a41981d5cf32b0ba628e661f8001bc581dde7505a002c4d1e6cb011a6b987", func := "lapidary/lapidarylaw05.ModelGrows", spec := "modelGrows", unfollowed := true, recurses := true, apart := false }
def ModelGrowsSaid : Prop := modelGrowsRow.holds Try.pinned (OpenSpec.ofChange modelGrowsSpec)

/-- ITS FALSE NEIGHBOUR: 'it returns false'. Refute it at one input. -/
def modelGrowsWrong : ChangeSpec := { name := "modelGrows", fn := fun _ => fun
  | [d1, d2, d3] => { results := [.lit (.bool false)], args := [d1, d2, d3] }
  | _ => none }
def ModelGrowsWrongFalsely : Prop := modelGrowsRow.holds Try.pinned (OpenSpec.ofChange modelGrowsWrong)

/-- 'lapidarylaw05.ModelShares': WHATEVER THE INPUT: true; the input reads as it did. -/
def modelSharesSpec : ChangeSpec := { name := "modelShares", fn := fun _ => fun
  | [d1, d2, d3] => { results := [.lit (.bool true)], args := [d1, d2, d3] }
  | _ => none }
def modelSharesRow : OpenClaim := { program := "ytjegnmnojgglaaa", sum := "8a0a41981d5cf32b0ba628e661f8001bc581dde7505a002c4d1e6cb011a6b987", func := "lapidary/lapidarylaw05.ModelShares", spec := "modelShares", unfollowed := true, recurses := true, apart := false }
def ModelSharesSaid : Prop := modelSharesRow.holds Try.pinned (OpenSpec.ofChange modelSharesSpec)

/-- ITS FALSE NEIGHBOUR: 'it returns false'. Refute it at one input. -/
def modelSharesWrong : ChangeSpec := { name := "modelShares", fn := fun _ => fun
  | [d1, d2, d3] => { results := [.lit (.bool false)], args := [d1, d2, d3] }
  | _ => none }
def ModelSharesWrongFalsely : Prop := modelSharesRow.holds Try.pinned (OpenSpec.ofChange modelSharesWrong)

/-- 'lapidarylaw05.ModelCounts': WHATEVER THE INPUT: true; the input reads as it did. -/
def modelCountsSpec : ChangeSpec := { name := "modelCounts", fn := fun _ => fun
  | [d1, d2] => { results := [.lit (.bool true)], args := [d1, d2] }
  | _ => none }
def modelCountsRow : OpenClaim := { program := "ytjegnmnojgglaaa", sum := "8a0a41981d5cf32b0ba628e661f8001bc581dde7505a002c4d1e6cb011a6b987", func := "lapidary/lapidarylaw05.ModelCounts", spec := "modelCounts", unfollowed := true, recurses := true, apart := false }
def ModelCountsSaid : Prop := modelCountsRow.holds Try.pinned (OpenSpec.ofChange modelCountsSpec)

/-- ITS FALSE NEIGHBOUR: 'it returns false'. Refute it at one input. -/
def modelCountsWrong : ChangeSpec := { name := "modelCounts", fn := fun _ => fun
  | [d1, d2] => { results := [.lit (.bool false)], args := [d1, d2] }
  | _ => none }
def ModelCountsWrongFalsely : Prop := modelCountsRow.holds Try.pinned (OpenSpec.ofChange modelCountsWrong)

/-- 'lapidarylaw05.ModelNew': WHATEVER THE INPUT: true; the input reads as it did. -/
def modelNewSpec : ChangeSpec := { name := "modelNew", fn := fun _ => fun
  | [d] => { results := [.lit (.bool true)], args := [d] }
  | _ => none }
def modelNewRow : OpenClaim := { program := "ytjegnmnojgglaaa", sum := "8a0a41981d5cf32b0ba628e661f8001bc581dde7505a002c4d1e6cb011a6b987", func := "lapidary/lapidarylaw05.ModelNew", spec := "modelNew", unfollowed := true, recurses := true, apart := false }
def ModelNewSaid : Prop := modelNewRow.holds Try.pinned (OpenSpec.ofChange modelNewSpec)

/-- ITS FALSE NEIGHBOUR: 'it returns false'. Refute it at one input. -/
def modelNewWrong : ChangeSpec := { name := "modelNew", fn := fun _ => fun
  | [d] => { results := [.lit (.bool false)], args := [d] }
  | _ => none }
def ModelNewWrongFalsely : Prop := modelNewRow.holds Try.pinned (OpenSpec.ofChange modelNewWrong)

/- THE SECOND FORM. 'bulk': how many values and letters a reading holds, each counted each time it is reached (what is shared counts as often as it is met; a slice's spare places count too). A statement '..UptoSaid' is the law's where the arguments, and the package variables that the reading takes, are together of bulk at most 1048576: NARROWER than '..Said'. Prove '..Said' where nothing that the law and all that it calls make is longer than what came in: it says more and counts as full. Else prove '..UptoSaid'. A law counts once. -/
mutual
def uptoBulk {H : Type} : DataW H → Nat
  | .lit (.string bytes) => bytes.length + 1
  | .lit _ => 1
  | .nil => 1
  | .ptr d => uptoBulk d + 1
  | .slice elems spare => uptoBulkAll elems + uptoBulkAll spare + 1
  | .agg parts => uptoBulkAll parts + 1
  | .iface _ d => uptoBulk d + 1
  | .map entries => uptoBulkEntries entries + 1
  | .held _ => 1
def uptoBulkAll {H : Type} : List (DataW H) → Nat
  | [] => 0
  | d :: r => uptoBulk d + uptoBulkAll r
def uptoBulkEntries {H : Type} : List (Lit × DataW H) → Nat
  | [] => 0
  | x :: r => uptoBulkEntry x + uptoBulkEntries r
def uptoBulkEntry {H : Type} : Lit × DataW H → Nat
  | (.string bytes, d) => bytes.length + uptoBulk d + 1
  | (_, d) => uptoBulk d + 1
 end
def uptoSmall : (H : Type) → List (DataW H) → Bool := fun _ ds => decide (uptoBulkAll ds ≤ 1048576)
def OpenSpec.upto (s : _root_.Go.ChangeSpec) : _root_.Go.OpenSpec := { _root_.Go.OpenSpec.ofChange s with cond := some uptoSmall }

/-- 'lapidarylaw05.ModelFinds', WHERE WHAT IT READS IS OF BULK AT MOST 1048576: true; the input reads as it did. -/
def modelFindsUptoRow : OpenClaim := { program := "ytjegnmnojgglaaa", sum := "8a0a41981d5cf32b0ba628e661f8001bc581dde7505a002c4d1e6cb011a6b987", func := "lapidary/lapidarylaw05.ModelFinds", spec := "modelFinds", unfollowed := true, recurses := true, apart := false, narrowed := true }
def ModelFindsUptoSaid : Prop := modelFindsUptoRow.holds Try.pinned (OpenSpec.upto modelFindsSpec)

/-- 'lapidarylaw05.ModelWhole', WHERE WHAT IT READS IS OF BULK AT MOST 1048576: true; the input reads as it did. -/
def modelWholeUptoRow : OpenClaim := { program := "ytjegnmnojgglaaa", sum := "8a0a41981d5cf32b0ba628e661f8001bc581dde7505a002c4d1e6cb011a6b987", func := "lapidary/lapidarylaw05.ModelWhole", spec := "modelWhole", unfollowed := true, recurses := true, apart := false, narrowed := true }
def ModelWholeUptoSaid : Prop := modelWholeUptoRow.holds Try.pinned (OpenSpec.upto modelWholeSpec)

/-- 'lapidarylaw05.ModelMany', WHERE WHAT IT READS IS OF BULK AT MOST 1048576: true; the input reads as it did. -/
def modelManyUptoRow : OpenClaim := { program := "ytjegnmnojgglaaa", sum := "8a0a41981d5cf32b0ba628e661f8001bc581dde7505a002c4d1e6cb011a6b987", func := "lapidary/lapidarylaw05.ModelMany", spec := "modelMany", unfollowed := true, recurses := true, apart := false, narrowed := true }
def ModelManyUptoSaid : Prop := modelManyUptoRow.holds Try.pinned (OpenSpec.upto modelManySpec)

/-- 'lapidarylaw05.ModelGrows', WHERE WHAT IT READS IS OF BULK AT MOST 1048576: true; the input reads as it did. -/
def modelGrowsUptoRow : OpenClaim := { program := "ytjegnmnojgglaaa", sum := "8a0a41981d5cf32b0ba628e661f8001bc581dde7505a002c4d1e6cb011a6b987", func := "lapidary/lapidarylaw05.ModelGrows", spec := "modelGrows", unfollowed := true, recurses := true, apart := false, narrowed := true }
def ModelGrowsUptoSaid : Prop := modelGrowsUptoRow.holds Try.pinned (OpenSpec.upto modelGrowsSpec)

/-- 'lapidarylaw05.ModelShares', WHERE WHAT IT READS IS OF BULK AT MOST 1048576: true; the input reads as it did. -/
def modelSharesUptoRow : OpenClaim := { program := "ytjegnmnojgglaaa", sum := "8a0a41981d5cf32b0ba628e661f8001bc581dde7505a002c4d1e6cb011a6b987", func := "lapidary/lapidarylaw05.ModelShares", spec := "modelShares", unfollowed := true, recurses := true, apart := false, narrowed := true }
def ModelSharesUptoSaid : Prop := modelSharesUptoRow.holds Try.pinned (OpenSpec.upto modelSharesSpec)

/-- 'lapidarylaw05.ModelCounts', WHERE WHAT IT READS IS OF BULK AT MOST 1048576: true; the input reads as it did. -/
def modelCountsUptoRow : OpenClaim := { program := "ytjegnmnojgglaaa", sum := "8a0a41981d5cf32b0ba628e661f8001bc581dde7505a002c4d1e6cb011a6b987", func := "lapidary/lapidarylaw05.ModelCounts", spec := "modelCounts", unfollowed := true, recurses := true, apart := false, narrowed := true }
def ModelCountsUptoSaid : Prop := modelCountsUptoRow.holds Try.pinned (OpenSpec.upto modelCountsSpec)

/-- 'lapidarylaw05.ModelNew', WHERE WHAT IT READS IS OF BULK AT MOST 1048576: true; the input reads as it did. -/
def modelNewUptoRow : OpenClaim := { program := "ytjegnmnojgglaaa", sum := "8a0a41981d5cf32b0ba628e661f8001bc581dde7505a002c4d1e6cb011a6b987", func := "lapidary/lapidarylaw05.ModelNew", spec := "modelNew", unfollowed := true, recurses := true, apart := false, narrowed := true }
def ModelNewUptoSaid : Prop := modelNewUptoRow.holds Try.pinned (OpenSpec.upto modelNewSpec)

end Rows
end Go.Proofs.Ytjegnmnojgglaaa
