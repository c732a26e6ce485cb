/-
  No cell of these rows narrows 'for every input' (looked for: loops, veiled, ifaces, maps, wideKeys, modest, calm, conditions, laid).
  DERIVED. THE GIVEN ROWS OF THIS SEAT. 9 by the template 'for every input the law returns true; each argument reads behind the call as it read before'; 0 by the template 'total and deterministic' (their statements: YtgphhcakkoaipaaTotals.lean).
  GIVEN WITH THE SEED: the statements are not yours to turn. If you find one false, say at which input.
  Laid BY PROGRAM, IN A SANDBOX (cutbox-rows.mjs): the forced cells as the released guide's own fill.sh prints them over the translation 0b1690a9e331abc2… (all of the seat's roots in one cut). By AI agents, Wed Nov 11 2026. No macro, syntax, notation, axiom, sorry.
-/
import Derived.Test.YtgphhcakkoaipaaChecked
import GoSem.Claim
import GoSem.ClaimJoined
import GoSem.ClaimMapViews
import Derived.JoinedTies
import Derived.KernelRfl
namespace Go.Proofs.Ytgphhcakkoaipaa
/- THE CELL 'sum', in the pinned program and in every row, IS THE sha256 OF THE DUMP (.gsa) THAT YtgphhcakkoaipaaProg.lean LOADS. Nothing in Lean hashes anything: it is a label: what it is worth is what the hold of that sum in a sandbox is worth. -/
noncomputable def Try.pinned : Pinned := { name := "ytgphhcakkoaipaa", sum := "0b1690a9e331abc253bf96727516cdc96b341634f1ec8c2c95f138c143e143c7", checked := Try.checked }
namespace Rows
def none {H : Type} : Left H := { results := [], args := [] }

/-- 'lapidarylaw01.VintPuts': WHATEVER THE INPUT: true; the input reads as it did. -/
def vintPutsSpec : ChangeSpec := { name := "vintPuts", fn := fun _ => fun
  | [d] => { results := [.lit (.bool true)], args := [d] }
  | _ => none }
def vintPutsRow : OpenClaim := { program := "ytgphhcakkoaipaa", sum := "0b1690a9e331abc253bf96727516cdc96b341634f1ec8c2c95f138c143e143c7", func := "lapidary/lapidarylaw01.VintPuts", spec := "vintPuts", apart := false }
def VintPutsSaid : Prop := vintPutsRow.holds Try.pinned (OpenSpec.ofChange vintPutsSpec)

/-- ITS FALSE NEIGHBOUR: 'it returns false'. Refute it at one input. -/
def vintPutsWrong : ChangeSpec := { name := "vintPuts", fn := fun _ => fun
  | [d] => { results := [.lit (.bool false)], args := [d] }
  | _ => none }
def VintPutsWrongFalsely : Prop := vintPutsRow.holds Try.pinned (OpenSpec.ofChange vintPutsWrong)

/-- 'lapidarylaw01.VintGets': WHATEVER THE INPUT: true; the input reads as it did. -/
def vintGetsSpec : ChangeSpec := { name := "vintGets", fn := fun _ => fun
  | [d1, d2] => { results := [.lit (.bool true)], args := [d1, d2] }
  | _ => none }
def vintGetsRow : OpenClaim := { program := "ytgphhcakkoaipaa", sum := "0b1690a9e331abc253bf96727516cdc96b341634f1ec8c2c95f138c143e143c7", func := "lapidary/lapidarylaw01.VintGets", spec := "vintGets", apart := false }
def VintGetsSaid : Prop := vintGetsRow.holds Try.pinned (OpenSpec.ofChange vintGetsSpec)

/-- ITS FALSE NEIGHBOUR: 'it returns false'. Refute it at one input. -/
def vintGetsWrong : ChangeSpec := { name := "vintGets", fn := fun _ => fun
  | [d1, d2] => { results := [.lit (.bool false)], args := [d1, d2] }
  | _ => none }
def VintGetsWrongFalsely : Prop := vintGetsRow.holds Try.pinned (OpenSpec.ofChange vintGetsWrong)

/-- 'lapidarylaw01.VintTurns': WHATEVER THE INPUT: true; the input reads as it did. -/
def vintTurnsSpec : ChangeSpec := { name := "vintTurns", fn := fun _ => fun
  | [d1, d2] => { results := [.lit (.bool true)], args := [d1, d2] }
  | _ => none }
def vintTurnsRow : OpenClaim := { program := "ytgphhcakkoaipaa", sum := "0b1690a9e331abc253bf96727516cdc96b341634f1ec8c2c95f138c143e143c7", func := "lapidary/lapidarylaw01.VintTurns", spec := "vintTurns", apart := false }
def VintTurnsSaid : Prop := vintTurnsRow.holds Try.pinned (OpenSpec.ofChange vintTurnsSpec)

/-- ITS FALSE NEIGHBOUR: 'it returns false'. Refute it at one input. -/
def vintTurnsWrong : ChangeSpec := { name := "vintTurns", fn := fun _ => fun
  | [d1, d2] => { results := [.lit (.bool false)], args := [d1, d2] }
  | _ => none }
def VintTurnsWrongFalsely : Prop := vintTurnsRow.holds Try.pinned (OpenSpec.ofChange vintTurnsWrong)

/-- 'lapidarylaw01.VintOnce': WHATEVER THE INPUT: true; the input reads as it did. -/
def vintOnceSpec : ChangeSpec := { name := "vintOnce", fn := fun _ => fun
  | [d1, d2, d3, d4] => { results := [.lit (.bool true)], args := [d1, d2, d3, d4] }
  | _ => none }
def vintOnceRow : OpenClaim := { program := "ytgphhcakkoaipaa", sum := "0b1690a9e331abc253bf96727516cdc96b341634f1ec8c2c95f138c143e143c7", func := "lapidary/lapidarylaw01.VintOnce", spec := "vintOnce", apart := false }
def VintOnceSaid : Prop := vintOnceRow.holds Try.pinned (OpenSpec.ofChange vintOnceSpec)

/-- ITS FALSE NEIGHBOUR: 'it returns false'. Refute it at one input. -/
def vintOnceWrong : ChangeSpec := { name := "vintOnce", fn := fun _ => fun
  | [d1, d2, d3, d4] => { results := [.lit (.bool false)], args := [d1, d2, d3, d4] }
  | _ => none }
def VintOnceWrongFalsely : Prop := vintOnceRow.holds Try.pinned (OpenSpec.ofChange vintOnceWrong)

/-- 'lapidarylaw01.VintLong': WHATEVER THE INPUT: true; the input reads as it did. -/
def vintLongSpec : ChangeSpec := { name := "vintLong", fn := fun _ => fun
  | [d1, d2] => { results := [.lit (.bool true)], args := [d1, d2] }
  | _ => none }
def vintLongRow : OpenClaim := { program := "ytgphhcakkoaipaa", sum := "0b1690a9e331abc253bf96727516cdc96b341634f1ec8c2c95f138c143e143c7", func := "lapidary/lapidarylaw01.VintLong", spec := "vintLong", apart := false }
def VintLongSaid : Prop := vintLongRow.holds Try.pinned (OpenSpec.ofChange vintLongSpec)

/-- ITS FALSE NEIGHBOUR: 'it returns false'. Refute it at one input. -/
def vintLongWrong : ChangeSpec := { name := "vintLong", fn := fun _ => fun
  | [d1, d2] => { results := [.lit (.bool false)], args := [d1, d2] }
  | _ => none }
def VintLongWrongFalsely : Prop := vintLongRow.holds Try.pinned (OpenSpec.ofChange vintLongWrong)

/-- 'lapidarylaw01.VintInts': WHATEVER THE INPUT: true; the input reads as it did. -/
def vintIntsSpec : ChangeSpec := { name := "vintInts", fn := fun _ => fun
  | [d1, d2, d3] => { results := [.lit (.bool true)], args := [d1, d2, d3] }
  | _ => none }
def vintIntsRow : OpenClaim := { program := "ytgphhcakkoaipaa", sum := "0b1690a9e331abc253bf96727516cdc96b341634f1ec8c2c95f138c143e143c7", func := "lapidary/lapidarylaw01.VintInts", spec := "vintInts", apart := false }
def VintIntsSaid : Prop := vintIntsRow.holds Try.pinned (OpenSpec.ofChange vintIntsSpec)

/-- ITS FALSE NEIGHBOUR: 'it returns false'. Refute it at one input. -/
def vintIntsWrong : ChangeSpec := { name := "vintInts", fn := fun _ => fun
  | [d1, d2, d3] => { results := [.lit (.bool false)], args := [d1, d2, d3] }
  | _ => none }
def VintIntsWrongFalsely : Prop := vintIntsRow.holds Try.pinned (OpenSpec.ofChange vintIntsWrong)

/-- 'lapidarylaw01.VintAll': WHATEVER THE INPUT: true; the input reads as it did. -/
def vintAllSpec : ChangeSpec := { name := "vintAll", fn := fun _ => fun
  | [d] => { results := [.lit (.bool true)], args := [d] }
  | _ => none }
def vintAllRow : OpenClaim := { program := "ytgphhcakkoaipaa", sum := "0b1690a9e331abc253bf96727516cdc96b341634f1ec8c2c95f138c143e143c7", func := "lapidary/lapidarylaw01.VintAll", spec := "vintAll", apart := false }
def VintAllSaid : Prop := vintAllRow.holds Try.pinned (OpenSpec.ofChange vintAllSpec)

/-- ITS FALSE NEIGHBOUR: 'it returns false'. Refute it at one input. -/
def vintAllWrong : ChangeSpec := { name := "vintAll", fn := fun _ => fun
  | [d] => { results := [.lit (.bool false)], args := [d] }
  | _ => none }
def VintAllWrongFalsely : Prop := vintAllRow.holds Try.pinned (OpenSpec.ofChange vintAllWrong)

/-- 'lapidarylaw01.VintFields': WHATEVER THE INPUT: true; the input reads as it did. -/
def vintFieldsSpec : ChangeSpec := { name := "vintFields", fn := fun _ => fun
  | [d1, d2, d3, d4] => { results := [.lit (.bool true)], args := [d1, d2, d3, d4] }
  | _ => none }
def vintFieldsRow : OpenClaim := { program := "ytgphhcakkoaipaa", sum := "0b1690a9e331abc253bf96727516cdc96b341634f1ec8c2c95f138c143e143c7", func := "lapidary/lapidarylaw01.VintFields", spec := "vintFields", apart := false }
def VintFieldsSaid : Prop := vintFieldsRow.holds Try.pinned (OpenSpec.ofChange vintFieldsSpec)

/-- ITS FALSE NEIGHBOUR: 'it returns false'. Refute it at one input. -/
def vintFieldsWrong : ChangeSpec := { name := "vintFields", fn := fun _ => fun
  | [d1, d2, d3, d4] => { results := [.lit (.bool false)], args := [d1, d2, d3, d4] }
  | _ => none }
def VintFieldsWrongFalsely : Prop := vintFieldsRow.holds Try.pinned (OpenSpec.ofChange vintFieldsWrong)

/-- 'lapidarylaw01.VintWidths': WHATEVER THE INPUT: true; the input reads as it did. -/
def vintWidthsSpec : ChangeSpec := { name := "vintWidths", fn := fun _ => fun
  | [d1, d2, d3] => { results := [.lit (.bool true)], args := [d1, d2, d3] }
  | _ => none }
def vintWidthsRow : OpenClaim := { program := "ytgphhcakkoaipaa", sum := "0b1690a9e331abc253bf96727516cdc96b341634f1ec8c2c95f138c143e143c7", func := "lapidary/lapidarylaw01.VintWidths", spec := "vintWidths", apart := false }
def VintWidthsSaid : Prop := vintWidthsRow.holds Try.pinned (OpenSpec.ofChange vintWidthsSpec)

/-- ITS FALSE NEIGHBOUR: 'it returns false'. Refute it at one input. -/
def vintWidthsWrong : ChangeSpec := { name := "vintWidths", fn := fun _ => fun
  | [d1, d2, d3] => { results := [.lit (.bool false)], args := [d1, d2, d3] }
  | _ => none }
def VintWidthsWrongFalsely : Prop := vintWidthsRow.holds Try.pinned (OpenSpec.ofChange vintWidthsWrong)

/- THE SECOND FORM. 'bulk': how many values and letters a reading holds, each counted each time it is reached (what is shared counts as often as it is met; a slice's spare places count too). A statement '..UptoSaid' is the law's where the arguments, and the package variables that the reading takes, are together of bulk at most 1048576: NARROWER than '..Said'. Prove '..Said' where nothing that the law and all that it calls make is longer than what came in: it says more and counts as full. Else prove '..UptoSaid'. A law counts once. -/
mutual
def uptoBulk {H : Type} : DataW H → Nat
  | .lit (.string bytes) => bytes.length + 1
  | .lit _ => 1
  | .nil => 1
  | .ptr d => uptoBulk d + 1
  | .slice elems spare => uptoBulkAll elems + uptoBulkAll spare + 1
  | .agg parts => uptoBulkAll parts + 1
  | .iface _ d => uptoBulk d + 1
  | .map entries => uptoBulkEntries entries + 1
  | .held _ => 1
def uptoBulkAll {H : Type} : List (DataW H) → Nat
  | [] => 0
  | d :: r => uptoBulk d + uptoBulkAll r
def uptoBulkEntries {H : Type} : List (Lit × DataW H) → Nat
  | [] => 0
  | x :: r => uptoBulkEntry x + uptoBulkEntries r
def uptoBulkEntry {H : Type} : Lit × DataW H → Nat
  | (.string bytes, d) => bytes.length + uptoBulk d + 1
  | (_, d) => uptoBulk d + 1
 end
def uptoSmall : (H : Type) → List (DataW H) → Bool := fun _ ds => decide (uptoBulkAll ds ≤ 1048576)
def OpenSpec.upto (s : _root_.Go.ChangeSpec) : _root_.Go.OpenSpec := { _root_.Go.OpenSpec.ofChange s with cond := some uptoSmall }

/-- 'lapidarylaw01.VintPuts', WHERE WHAT IT READS IS OF BULK AT MOST 1048576: true; the input reads as it did. -/
def vintPutsUptoRow : OpenClaim := { program := "ytgphhcakkoaipaa", sum := "0b1690a9e331abc253bf96727516cdc96b341634f1ec8c2c95f138c143e143c7", func := "lapidary/lapidarylaw01.VintPuts", spec := "vintPuts", apart := false, narrowed := true }
def VintPutsUptoSaid : Prop := vintPutsUptoRow.holds Try.pinned (OpenSpec.upto vintPutsSpec)

/-- 'lapidarylaw01.VintGets', WHERE WHAT IT READS IS OF BULK AT MOST 1048576: true; the input reads as it did. -/
def vintGetsUptoRow : OpenClaim := { program := "ytgphhcakkoaipaa", sum := "0b1690a9e331abc253bf96727516cdc96b341634f1ec8c2c95f138c143e143c7", func := "lapidary/lapidarylaw01.VintGets", spec := "vintGets", apart := false, narrowed := true }
def VintGetsUptoSaid : Prop := vintGetsUptoRow.holds Try.pinned (OpenSpec.upto vintGetsSpec)

/-- 'lapidarylaw01.VintTurns', WHERE WHAT IT READS IS OF BULK AT MOST 1048576: true; the input reads as it did. -/
def vintTurnsUptoRow : OpenClaim := { program := "ytgphhcakkoaipaa", sum := "0b1690a9e331abc253bf96727516cdc96b341634f1ec8c2c95f138c143e143c7", func := "lapidary/lapidarylaw01.VintTurns", spec := "vintTurns", apart := false, narrowed := true }
def VintTurnsUptoSaid : Prop := vintTurnsUptoRow.holds Try.pinned (OpenSpec.upto vintTurnsSpec)

/-- 'lapidarylaw01.VintOnce', WHERE WHAT IT READS IS OF BULK AT MOST 1048576: true; the input reads as it did. -/
def vintOnceUptoRow : OpenClaim := { program := "ytgphhcakkoaipaa", sum := "0b1690a9e331abc253bf96727516cdc96b341634f1ec8c2c95f138c143e143c7", func := "lapidary/lapidarylaw01.VintOnce", spec := "vintOnce", apart := false, narrowed := true }
def VintOnceUptoSaid : Prop := vintOnceUptoRow.holds Try.pinned (OpenSpec.upto vintOnceSpec)

/-- 'lapidarylaw01.VintLong', WHERE WHAT IT READS IS OF BULK AT MOST 1048576: true; the input reads as it did. -/
def vintLongUptoRow : OpenClaim := { program := "ytgphhcakkoaipaa", sum := "0b1690a9e331abc253bf96727516cdc96b341634f1ec8c2c95f138c143e143c7", func := "lapidary/lapidarylaw01.VintLong", spec := "vintLong", apart := false, narrowed := true }
def VintLongUptoSaid : Prop := vintLongUptoRow.holds Try.pinned (OpenSpec.upto vintLongSpec)

/-- 'lapidarylaw01.VintInts', WHERE WHAT IT READS IS OF BULK AT MOST 1048576: true; the input reads as it did. -/
def vintIntsUptoRow : OpenClaim := { program := "ytgphhcakkoaipaa", sum := "0b1690a9e331abc253bf96727516cdc96b341634f1ec8c2c95f138c143e143c7", func := "lapidary/lapidarylaw01.VintInts", spec := "vintInts", apart := false, narrowed := true }
def VintIntsUptoSaid : Prop := vintIntsUptoRow.holds Try.pinned (OpenSpec.upto vintIntsSpec)

/-- 'lapidarylaw01.VintAll', WHERE WHAT IT READS IS OF BULK AT MOST 1048576: true; the input reads as it did. -/
def vintAllUptoRow : OpenClaim := { program := "ytgphhcakkoaipaa", sum := "0b1690a9e331abc253bf96727516cdc96b341634f1ec8c2c95f138c143e143c7", func := "lapidary/lapidarylaw01.VintAll", spec := "vintAll", apart := false, narrowed := true }
def VintAllUptoSaid : Prop := vintAllUptoRow.holds Try.pinned (OpenSpec.upto vintAllSpec)

/-- 'lapidarylaw01.VintFields', WHERE WHAT IT READS IS OF BULK AT MOST 1048576: true; the input reads as it did. -/
def vintFieldsUptoRow : OpenClaim := { program := "ytgphhcakkoaipaa", sum := "0b1690a9e331abc253bf96727516cdc96b341634f1ec8c2c95f138c143e143c7", func := "lapidary/lapidarylaw01.VintFields", spec := "vintFields", apart := false, narrowed := true }
def VintFieldsUptoSaid : Prop := vintFieldsUptoRow.holds Try.pinned (OpenSpec.upto vintFieldsSpec)

/-- 'lapidarylaw01.VintWidths', WHERE WHAT IT READS IS OF BULK AT MOST 1048576: true; the input reads as it did. -/
def vintWidthsUptoRow : OpenClaim := { program := "ytgphhcakkoaipaa", sum := "0b1690a9e331abc253bf96727516cdc96b341634f1ec8c2c95f138c143e143c7", func := "lapidary/lapidarylaw01.VintWidths", spec := "vintWidths", apart := false, narrowed := true }
def VintWidthsUptoSaid : Prop := vintWidthsUptoRow.holds Try.pinned (OpenSpec.upto vintWidthsSpec)

end Rows
end Go.Proofs.Ytgphhcakkoaipaa
