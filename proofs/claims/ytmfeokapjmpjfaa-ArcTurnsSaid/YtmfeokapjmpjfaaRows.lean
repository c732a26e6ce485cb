/-
  No cell of these rows narrows 'for every input' (looked for: loops, veiled, ifaces, maps, wideKeys, modest, calm, conditions, laid).
  DERIVED. THE GIVEN ROWS OF THIS SEAT. 5 by the template 'for every input the law returns true; each argument reads behind the call as it read before'; 0 by the template 'total and deterministic' (their statements: YtmfeokapjmpjfaaTotals.lean).
  GIVEN WITH THE SEED: the statements are not yours to turn. If you find one false, say at which input.
  Laid BY PROGRAM, IN A SANDBOX (cutbox-rows.mjs): the forced cells as the released guide's own fill.sh prints them over the translation d352c3a5365a862d… (all of the seat's roots in one cut). By AI agents, Wed Nov 11 2026. No macro, syntax, notation, axiom, sorry.
-/
import Derived.Test.YtmfeokapjmpjfaaChecked
import GoSem.Claim
import GoSem.ClaimJoined
import GoSem.ClaimMapViews
import Derived.JoinedTies
import Derived.KernelRfl
namespace Go.Proofs.Ytmfeokapjmpjfaa
/- THE CELL 'sum', in the pinned program and in every row, IS THE sha256 OF THE DUMP (.gsa) THAT YtmfeokapjmpjfaaProg.lean LOADS. Nothing in Lean hashes anything: it is a label: what it is worth is what the hold of that sum in a sandbox is worth. -/
noncomputable def Try.pinned : Pinned := { name := "ytmfeokapjmpjfaa", sum := "d352c3a5365a862dc2f21c5347e433ee7b0834bc5f9936dc30a63453bbb08096", checked := Try.checked }
namespace Rows
def none {H : Type} : Left H := { results := [], args := [] }

/-- 'lapidarylaw15.ArcWrites': WHATEVER THE INPUT: true; the input reads as it did. -/
def arcWritesSpec : ChangeSpec := { name := "arcWrites", fn := fun _ => fun
  | [d1, d2] => { results := [.lit (.bool true)], args := [d1, d2] }
  | _ => none }
def arcWritesRow : OpenClaim := { program := "ytmfeokapjmpjfaa", sum := "d352c3a5365a862dc2f21c5347e433ee7b0834bc5f9936dc30a63453bbb08096", func := "lapidary/lapidarylaw15.ArcWrites", spec := "arcWrites", unfollowed := true, recurses := true, apart := false }
def ArcWritesSaid : Prop := arcWritesRow.holds Try.pinned (OpenSpec.ofChange arcWritesSpec)

/-- ITS FALSE NEIGHBOUR: 'it returns false'. Refute it at one input. -/
def arcWritesWrong : ChangeSpec := { name := "arcWrites", fn := fun _ => fun
  | [d1, d2] => { results := [.lit (.bool false)], args := [d1, d2] }
  | _ => none }
def ArcWritesWrongFalsely : Prop := arcWritesRow.holds Try.pinned (OpenSpec.ofChange arcWritesWrong)

/-- 'lapidarylaw15.ArcBack': WHATEVER THE INPUT: true; the input reads as it did. -/
def arcBackSpec : ChangeSpec := { name := "arcBack", fn := fun _ => fun
  | [d1, d2, d3, d4] => { results := [.lit (.bool true)], args := [d1, d2, d3, d4] }
  | _ => none }
def arcBackRow : OpenClaim := { program := "ytmfeokapjmpjfaa", sum := "d352c3a5365a862dc2f21c5347e433ee7b0834bc5f9936dc30a63453bbb08096", func := "lapidary/lapidarylaw15.ArcBack", spec := "arcBack", unfollowed := true, recurses := true, apart := false }
def ArcBackSaid : Prop := arcBackRow.holds Try.pinned (OpenSpec.ofChange arcBackSpec)

/-- ITS FALSE NEIGHBOUR: 'it returns false'. Refute it at one input. -/
def arcBackWrong : ChangeSpec := { name := "arcBack", fn := fun _ => fun
  | [d1, d2, d3, d4] => { results := [.lit (.bool false)], args := [d1, d2, d3, d4] }
  | _ => none }
def ArcBackWrongFalsely : Prop := arcBackRow.holds Try.pinned (OpenSpec.ofChange arcBackWrong)

/-- 'lapidarylaw15.ArcChecks': WHATEVER THE INPUT: true; the input reads as it did. -/
def arcChecksSpec : ChangeSpec := { name := "arcChecks", fn := fun _ => fun
  | [d] => { results := [.lit (.bool true)], args := [d] }
  | _ => none }
def arcChecksRow : OpenClaim := { program := "ytmfeokapjmpjfaa", sum := "d352c3a5365a862dc2f21c5347e433ee7b0834bc5f9936dc30a63453bbb08096", func := "lapidary/lapidarylaw15.ArcChecks", spec := "arcChecks", unfollowed := true, recurses := true, apart := false }
def ArcChecksSaid : Prop := arcChecksRow.holds Try.pinned (OpenSpec.ofChange arcChecksSpec)

/-- ITS FALSE NEIGHBOUR: 'it returns false'. Refute it at one input. -/
def arcChecksWrong : ChangeSpec := { name := "arcChecks", fn := fun _ => fun
  | [d] => { results := [.lit (.bool false)], args := [d] }
  | _ => none }
def ArcChecksWrongFalsely : Prop := arcChecksRow.holds Try.pinned (OpenSpec.ofChange arcChecksWrong)

/-- 'lapidarylaw15.ArcReads': WHATEVER THE INPUT: true; the input reads as it did. -/
def arcReadsSpec : ChangeSpec := { name := "arcReads", fn := fun _ => fun
  | [d] => { results := [.lit (.bool true)], args := [d] }
  | _ => none }
def arcReadsRow : OpenClaim := { program := "ytmfeokapjmpjfaa", sum := "d352c3a5365a862dc2f21c5347e433ee7b0834bc5f9936dc30a63453bbb08096", func := "lapidary/lapidarylaw15.ArcReads", spec := "arcReads", unfollowed := true, recurses := true, apart := false }
def ArcReadsSaid : Prop := arcReadsRow.holds Try.pinned (OpenSpec.ofChange arcReadsSpec)

/-- ITS FALSE NEIGHBOUR: 'it returns false'. Refute it at one input. -/
def arcReadsWrong : ChangeSpec := { name := "arcReads", fn := fun _ => fun
  | [d] => { results := [.lit (.bool false)], args := [d] }
  | _ => none }
def ArcReadsWrongFalsely : Prop := arcReadsRow.holds Try.pinned (OpenSpec.ofChange arcReadsWrong)

/-- 'lapidarylaw15.ArcTurns': WHATEVER THE INPUT: true; the input reads as it did. -/
def arcTurnsSpec : ChangeSpec := { name := "arcTurns", fn := fun _ => fun
  | [d1, d2, d3] => { results := [.lit (.bool true)], args := [d1, d2, d3] }
  | _ => none }
def arcTurnsRow : OpenClaim := { program := "ytmfeokapjmpjfaa", sum := "d352c3a5365a862dc2f21c5347e433ee7b0834bc5f9936dc30a63453bbb08096", func := "lapidary/lapidarylaw15.ArcTurns", spec := "arcTurns", unfollowed := true, recurses := true, apart := false }
def ArcTurnsSaid : Prop := arcTurnsRow.holds Try.pinned (OpenSpec.ofChange arcTurnsSpec)

/-- ITS FALSE NEIGHBOUR: 'it returns false'. Refute it at one input. -/
def arcTurnsWrong : ChangeSpec := { name := "arcTurns", fn := fun _ => fun
  | [d1, d2, d3] => { results := [.lit (.bool false)], args := [d1, d2, d3] }
  | _ => none }
def ArcTurnsWrongFalsely : Prop := arcTurnsRow.holds Try.pinned (OpenSpec.ofChange arcTurnsWrong)

/- THE SECOND FORM. 'bulk': how many values and letters a reading holds, each counted each time it is reached (what is shared counts as often as it is met; a slice's spare places count too). A statement '..UptoSaid' is the law's where the arguments, and the package variables that the reading takes, are together of bulk at most 1048576: NARROWER than '..Said'. Prove '..Said' where nothing that the law and all that it calls make is longer than what came in: it says more and counts as full. Else prove '..UptoSaid'. A law counts once. -/
mutual
def uptoBulk {H : Type} : DataW H → Nat
  | .lit (.string bytes) => bytes.length + 1
  | .lit _ => 1
  | .nil => 1
  | .ptr d => uptoBulk d + 1
  | .slice elems spare => uptoBulkAll elems + uptoBulkAll spare + 1
  | .agg parts => uptoBulkAll parts + 1
  | .iface _ d => uptoBulk d + 1
  | .map entries => uptoBulkEntries entries + 1
  | .held _ => 1
def uptoBulkAll {H : Type} : List (DataW H) → Nat
  | [] => 0
  | d :: r => uptoBulk d + uptoBulkAll r
def uptoBulkEntries {H : Type} : List (Lit × DataW H) → Nat
  | [] => 0
  | x :: r => uptoBulkEntry x + uptoBulkEntries r
def uptoBulkEntry {H : Type} : Lit × DataW H → Nat
  | (.string bytes, d) => bytes.length + uptoBulk d + 1
  | (_, d) => uptoBulk d + 1
 end
def uptoSmall : (H : Type) → List (DataW H) → Bool := fun _ ds => decide (uptoBulkAll ds ≤ 1048576)
def OpenSpec.upto (s : _root_.Go.ChangeSpec) : _root_.Go.OpenSpec := { _root_.Go.OpenSpec.ofChange s with cond := some uptoSmall }

/-- 'lapidarylaw15.ArcWrites', WHERE WHAT IT READS IS OF BULK AT MOST 1048576: true; the input reads as it did. -/
def arcWritesUptoRow : OpenClaim := { program := "ytmfeokapjmpjfaa", sum := "d352c3a5365a862dc2f21c5347e433ee7b0834bc5f9936dc30a63453bbb08096", func := "lapidary/lapidarylaw15.ArcWrites", spec := "arcWrites", unfollowed := true, recurses := true, apart := false, narrowed := true }
def ArcWritesUptoSaid : Prop := arcWritesUptoRow.holds Try.pinned (OpenSpec.upto arcWritesSpec)

/-- 'lapidarylaw15.ArcBack', WHERE WHAT IT READS IS OF BULK AT MOST 1048576: true; the input reads as it did. -/
def arcBackUptoRow : OpenClaim := { program := "ytmfeokapjmpjfaa", sum := "d352c3a5365a862dc2f21c5347e433ee7b0834bc5f9936dc30a63453bbb08096", func := "lapidary/lapidarylaw15.ArcBack", spec := "arcBack", unfollowed := true, recurses := true, apart := false, narrowed := true }
def ArcBackUptoSaid : Prop := arcBackUptoRow.holds Try.pinned (OpenSpec.upto arcBackSpec)

/-- 'lapidarylaw15.ArcChecks', WHERE WHAT IT READS IS OF BULK AT MOST 1048576: true; the input reads as it did. -/
def arcChecksUptoRow : OpenClaim := { program := "ytmfeokapjmpjfaa", sum := "d352c3a5365a862dc2f21c5347e433ee7b0834bc5f9936dc30a63453bbb08096", func := "lapidary/lapidarylaw15.ArcChecks", spec := "arcChecks", unfollowed := true, recurses := true, apart := false, narrowed := true }
def ArcChecksUptoSaid : Prop := arcChecksUptoRow.holds Try.pinned (OpenSpec.upto arcChecksSpec)

/-- 'lapidarylaw15.ArcReads', WHERE WHAT IT READS IS OF BULK AT MOST 1048576: true; the input reads as it did. -/
def arcReadsUptoRow : OpenClaim := { program := "ytmfeokapjmpjfaa", sum := "d352c3a5365a862dc2f21c5347e433ee7b0834bc5f9936dc30a63453bbb08096", func := "lapidary/lapidarylaw15.ArcReads", spec := "arcReads", unfollowed := true, recurses := true, apart := false, narrowed := true }
def ArcReadsUptoSaid : Prop := arcReadsUptoRow.holds Try.pinned (OpenSpec.upto arcReadsSpec)

/-- 'lapidarylaw15.ArcTurns', WHERE WHAT IT READS IS OF BULK AT MOST 1048576: true; the input reads as it did. -/
def arcTurnsUptoRow : OpenClaim := { program := "ytmfeokapjmpjfaa", sum := "d352c3a5365a862dc2f21c5347e433ee7b0834bc5f9936dc30a63453bbb08096", func := "lapidary/lapidarylaw15.ArcTurns", spec := "arcTurns", unfollowed := true, recurses := true, apart := false, narrowed := true }
def ArcTurnsUptoSaid : Prop := arcTurnsUptoRow.holds Try.pinned (OpenSpec.upto arcTurnsSpec)

end Rows
end Go.Proofs.Ytmfeokapjmpjfaa
