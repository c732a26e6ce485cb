/-
  No cell of these rows narrows 'for every input' (looked for: loops, veiled, ifaces, maps, wideKeys, modest, calm, conditions, laid).
  DERIVED. THE GIVEN ROWS OF THIS SEAT. 8 by the template 'for every input the law returns true; each argument reads behind the call as it read before'; 0 by the template 'total and deterministic' (their statements: YthegimfokcdehaaTotals.lean).
  GIVEN WITH THE SEED: the statements are not yours to turn. If you find one false, say at which input.
  Laid BY PROGRAM, IN A SANDBOX (cutbox-rows.mjs): the forced cells as the released guide's own fill.sh prints them over the translation 50c66aff9645d4eb… (all of the seat's roots in one cut). By AI agents, Wed Nov 11 2026. No macro, syntax, notation, axiom, sorry.
-/
import Derived.Test.YthegimfokcdehaaChecked
import GoSem.Claim
import GoSem.ClaimJoined
import GoSem.ClaimMapViews
import Derived.JoinedTies
import Derived.KernelRfl
namespace Go.Proofs.Ythegimfokcdehaa
/- THE CELL 'sum', in the pinned program and in every row, IS THE sha256 OF THE DUMP (.gsa) THAT YthegimfokcdehaaProg.lean LOADS. Nothing in Lean hashes anything: it is a label: what it is worth is what the hold of that sum in a sandbox is worth. -/
noncomputable def Try.pinned : Pinned := { name := "ythegimfokcdehaa", sum := "50c66aff9645d4eb2989457d402cc1c5e79d85095b24850eff89afdf5e4d0bca", checked := Try.checked }
namespace Rows
def none {H : Type} : Left H := { results := [], args := [] }

/-- 'lapidarylaw06.CoderWrites': WHATEVER THE INPUT: true; the input reads as it did. -/
def coderWritesSpec : ChangeSpec := { name := "coderWrites", fn := fun _ => fun
  | [d1, d2] => { results := [.lit (.bool true)], args := [d1, d2] }
  | _ => none }
def coderWritesRow : OpenClaim := { program := "ythegimfokcdehaa", sum := "50c66aff9645d4eb2989457d402cc1c5e79d85095b24850eff89afdf5e4d0bca", func := "lapidary/lapidarylaw06.CoderWrites", spec := "coderWrites", unfollowed := true, recurses := true, apart := false }
def CoderWritesSaid : Prop := coderWritesRow.holds Try.pinned (OpenSpec.ofChange coderWritesSpec)

/-- ITS FALSE NEIGHBOUR: 'it returns false'. Refute it at one input. -/
def coderWritesWrong : ChangeSpec := { name := "coderWrites", fn := fun _ => fun
  | [d1, d2] => { results := [.lit (.bool false)], args := [d1, d2] }
  | _ => none }
def CoderWritesWrongFalsely : Prop := coderWritesRow.holds Try.pinned (OpenSpec.ofChange coderWritesWrong)

/-- 'lapidarylaw06.CoderReads': WHATEVER THE INPUT: true; the input reads as it did. -/
def coderReadsSpec : ChangeSpec := { name := "coderReads", fn := fun _ => fun
  | [d1, d2, d3] => { results := [.lit (.bool true)], args := [d1, d2, d3] }
  | _ => none }
def coderReadsRow : OpenClaim := { program := "ythegimfokcdehaa", sum := "50c66aff9645d4eb2989457d402cc1c5e79d85095b24850eff89afdf5e4d0bca", func := "lapidary/lapidarylaw06.CoderReads", spec := "coderReads", unfollowed := true, recurses := true, apart := false }
def CoderReadsSaid : Prop := coderReadsRow.holds Try.pinned (OpenSpec.ofChange coderReadsSpec)

/-- ITS FALSE NEIGHBOUR: 'it returns false'. Refute it at one input. -/
def coderReadsWrong : ChangeSpec := { name := "coderReads", fn := fun _ => fun
  | [d1, d2, d3] => { results := [.lit (.bool false)], args := [d1, d2, d3] }
  | _ => none }
def CoderReadsWrongFalsely : Prop := coderReadsRow.holds Try.pinned (OpenSpec.ofChange coderReadsWrong)

/-- 'lapidarylaw06.CoderBack': WHATEVER THE INPUT: true; the input reads as it did. -/
def coderBackSpec : ChangeSpec := { name := "coderBack", fn := fun _ => fun
  | [d1, d2, d3, d4, d5] => { results := [.lit (.bool true)], args := [d1, d2, d3, d4, d5] }
  | _ => none }
def coderBackRow : OpenClaim := { program := "ythegimfokcdehaa", sum := "50c66aff9645d4eb2989457d402cc1c5e79d85095b24850eff89afdf5e4d0bca", func := "lapidary/lapidarylaw06.CoderBack", spec := "coderBack", unfollowed := true, recurses := true, apart := false }
def CoderBackSaid : Prop := coderBackRow.holds Try.pinned (OpenSpec.ofChange coderBackSpec)

/-- ITS FALSE NEIGHBOUR: 'it returns false'. Refute it at one input. -/
def coderBackWrong : ChangeSpec := { name := "coderBack", fn := fun _ => fun
  | [d1, d2, d3, d4, d5] => { results := [.lit (.bool false)], args := [d1, d2, d3, d4, d5] }
  | _ => none }
def CoderBackWrongFalsely : Prop := coderBackRow.holds Try.pinned (OpenSpec.ofChange coderBackWrong)

/-- 'lapidarylaw06.CoderPacks': WHATEVER THE INPUT: true; the input reads as it did. -/
def coderPacksSpec : ChangeSpec := { name := "coderPacks", fn := fun _ => fun
  | [d1, d2, d3] => { results := [.lit (.bool true)], args := [d1, d2, d3] }
  | _ => none }
def coderPacksRow : OpenClaim := { program := "ythegimfokcdehaa", sum := "50c66aff9645d4eb2989457d402cc1c5e79d85095b24850eff89afdf5e4d0bca", func := "lapidary/lapidarylaw06.CoderPacks", spec := "coderPacks", unfollowed := true, recurses := true, apart := false }
def CoderPacksSaid : Prop := coderPacksRow.holds Try.pinned (OpenSpec.ofChange coderPacksSpec)

/-- ITS FALSE NEIGHBOUR: 'it returns false'. Refute it at one input. -/
def coderPacksWrong : ChangeSpec := { name := "coderPacks", fn := fun _ => fun
  | [d1, d2, d3] => { results := [.lit (.bool false)], args := [d1, d2, d3] }
  | _ => none }
def CoderPacksWrongFalsely : Prop := coderPacksRow.holds Try.pinned (OpenSpec.ofChange coderPacksWrong)

/-- 'lapidarylaw06.CoderCarries': WHATEVER THE INPUT: true; the input reads as it did. -/
def coderCarriesSpec : ChangeSpec := { name := "coderCarries", fn := fun _ => fun
  | [d1, d2] => { results := [.lit (.bool true)], args := [d1, d2] }
  | _ => none }
def coderCarriesRow : OpenClaim := { program := "ythegimfokcdehaa", sum := "50c66aff9645d4eb2989457d402cc1c5e79d85095b24850eff89afdf5e4d0bca", func := "lapidary/lapidarylaw06.CoderCarries", spec := "coderCarries", unfollowed := true, recurses := true, apart := false }
def CoderCarriesSaid : Prop := coderCarriesRow.holds Try.pinned (OpenSpec.ofChange coderCarriesSpec)

/-- ITS FALSE NEIGHBOUR: 'it returns false'. Refute it at one input. -/
def coderCarriesWrong : ChangeSpec := { name := "coderCarries", fn := fun _ => fun
  | [d1, d2] => { results := [.lit (.bool false)], args := [d1, d2] }
  | _ => none }
def CoderCarriesWrongFalsely : Prop := coderCarriesRow.holds Try.pinned (OpenSpec.ofChange coderCarriesWrong)

/-- 'lapidarylaw06.CoderPlain': WHATEVER THE INPUT: true; the input reads as it did. -/
def coderPlainSpec : ChangeSpec := { name := "coderPlain", fn := fun _ => fun
  | [d1, d2, d3] => { results := [.lit (.bool true)], args := [d1, d2, d3] }
  | _ => none }
def coderPlainRow : OpenClaim := { program := "ythegimfokcdehaa", sum := "50c66aff9645d4eb2989457d402cc1c5e79d85095b24850eff89afdf5e4d0bca", func := "lapidary/lapidarylaw06.CoderPlain", spec := "coderPlain", unfollowed := true, recurses := true, apart := false }
def CoderPlainSaid : Prop := coderPlainRow.holds Try.pinned (OpenSpec.ofChange coderPlainSpec)

/-- ITS FALSE NEIGHBOUR: 'it returns false'. Refute it at one input. -/
def coderPlainWrong : ChangeSpec := { name := "coderPlain", fn := fun _ => fun
  | [d1, d2, d3] => { results := [.lit (.bool false)], args := [d1, d2, d3] }
  | _ => none }
def CoderPlainWrongFalsely : Prop := coderPlainRow.holds Try.pinned (OpenSpec.ofChange coderPlainWrong)

/-- 'lapidarylaw06.CoderSure': WHATEVER THE INPUT: true; the input reads as it did. -/
def coderSureSpec : ChangeSpec := { name := "coderSure", fn := fun _ => fun
  | [d] => { results := [.lit (.bool true)], args := [d] }
  | _ => none }
def coderSureRow : OpenClaim := { program := "ythegimfokcdehaa", sum := "50c66aff9645d4eb2989457d402cc1c5e79d85095b24850eff89afdf5e4d0bca", func := "lapidary/lapidarylaw06.CoderSure", spec := "coderSure", unfollowed := true, recurses := true, apart := false }
def CoderSureSaid : Prop := coderSureRow.holds Try.pinned (OpenSpec.ofChange coderSureSpec)

/-- ITS FALSE NEIGHBOUR: 'it returns false'. Refute it at one input. -/
def coderSureWrong : ChangeSpec := { name := "coderSure", fn := fun _ => fun
  | [d] => { results := [.lit (.bool false)], args := [d] }
  | _ => none }
def CoderSureWrongFalsely : Prop := coderSureRow.holds Try.pinned (OpenSpec.ofChange coderSureWrong)

/-- 'lapidarylaw06.CoderApart': WHATEVER THE INPUT: true; the input reads as it did. -/
def coderApartSpec : ChangeSpec := { name := "coderApart", fn := fun _ => fun
  | [d1, d2] => { results := [.lit (.bool true)], args := [d1, d2] }
  | _ => none }
def coderApartRow : OpenClaim := { program := "ythegimfokcdehaa", sum := "50c66aff9645d4eb2989457d402cc1c5e79d85095b24850eff89afdf5e4d0bca", func := "lapidary/lapidarylaw06.CoderApart", spec := "coderApart", unfollowed := true, recurses := true, apart := false }
def CoderApartSaid : Prop := coderApartRow.holds Try.pinned (OpenSpec.ofChange coderApartSpec)

/-- ITS FALSE NEIGHBOUR: 'it returns false'. Refute it at one input. -/
def coderApartWrong : ChangeSpec := { name := "coderApart", fn := fun _ => fun
  | [d1, d2] => { results := [.lit (.bool false)], args := [d1, d2] }
  | _ => none }
def CoderApartWrongFalsely : Prop := coderApartRow.holds Try.pinned (OpenSpec.ofChange coderApartWrong)

/- THE SECOND FORM. 'bulk': how many values and letters a reading holds, each counted each time it is reached (what is shared counts as often as it is met; a slice's spare places count too). A statement '..UptoSaid' is the law's where the arguments, and the package variables that the reading takes, are together of bulk at most 1048576: NARROWER than '..Said'. Prove '..Said' where nothing that the law and all that it calls make is longer than what came in: it says more and counts as full. Else prove '..UptoSaid'. A law counts once. -/
mutual
def uptoBulk {H : Type} : DataW H → Nat
  | .lit (.string bytes) => bytes.length + 1
  | .lit _ => 1
  | .nil => 1
  | .ptr d => uptoBulk d + 1
  | .slice elems spare => uptoBulkAll elems + uptoBulkAll spare + 1
  | .agg parts => uptoBulkAll parts + 1
  | .iface _ d => uptoBulk d + 1
  | .map entries => uptoBulkEntries entries + 1
  | .held _ => 1
def uptoBulkAll {H : Type} : List (DataW H) → Nat
  | [] => 0
  | d :: r => uptoBulk d + uptoBulkAll r
def uptoBulkEntries {H : Type} : List (Lit × DataW H) → Nat
  | [] => 0
  | x :: r => uptoBulkEntry x + uptoBulkEntries r
def uptoBulkEntry {H : Type} : Lit × DataW H → Nat
  | (.string bytes, d) => bytes.length + uptoBulk d + 1
  | (_, d) => uptoBulk d + 1
 end
def uptoSmall : (H : Type) → List (DataW H) → Bool := fun _ ds => decide (uptoBulkAll ds ≤ 1048576)
def OpenSpec.upto (s : _root_.Go.ChangeSpec) : _root_.Go.OpenSpec := { _root_.Go.OpenSpec.ofChange s with cond := some uptoSmall }

/-- 'lapidarylaw06.CoderWrites', WHERE WHAT IT READS IS OF BULK AT MOST 1048576: true; the input reads as it did. -/
def coderWritesUptoRow : OpenClaim := { program := "ythegimfokcdehaa", sum := "50c66aff9645d4eb2989457d402cc1c5e79d85095b24850eff89afdf5e4d0bca", func := "lapidary/lapidarylaw06.CoderWrites", spec := "coderWrites", unfollowed := true, recurses := true, apart := false, narrowed := true }
def CoderWritesUptoSaid : Prop := coderWritesUptoRow.holds Try.pinned (OpenSpec.upto coderWritesSpec)

/-- 'lapidarylaw06.CoderReads', WHERE WHAT IT READS IS OF BULK AT MOST 1048576: true; the input reads as it did. -/
def coderReadsUptoRow : OpenClaim := { program := "ythegimfokcdehaa", sum := "50c66aff9645d4eb2989457d402cc1c5e79d85095b24850eff89afdf5e4d0bca", func := "lapidary/lapidarylaw06.CoderReads", spec := "coderReads", unfollowed := true, recurses := true, apart := false, narrowed := true }
def CoderReadsUptoSaid : Prop := coderReadsUptoRow.holds Try.pinned (OpenSpec.upto coderReadsSpec)

/-- 'lapidarylaw06.CoderBack', WHERE WHAT IT READS IS OF BULK AT MOST 1048576: true; the input reads as it did. -/
def coderBackUptoRow : OpenClaim := { program := "ythegimfokcdehaa", sum := "50c66aff9645d4eb2989457d402cc1c5e79d85095b24850eff89afdf5e4d0bca", func := "lapidary/lapidarylaw06.CoderBack", spec := "coderBack", unfollowed := true, recurses := true, apart := false, narrowed := true }
def CoderBackUptoSaid : Prop := coderBackUptoRow.holds Try.pinned (OpenSpec.upto coderBackSpec)

/-- 'lapidarylaw06.CoderPacks', WHERE WHAT IT READS IS OF BULK AT MOST 1048576: true; the input reads as it did. -/
def coderPacksUptoRow : OpenClaim := { program := "ythegimfokcdehaa", sum := "50c66aff9645d4eb2989457d402cc1c5e79d85095b24850eff89afdf5e4d0bca", func := "lapidary/lapidarylaw06.CoderPacks", spec := "coderPacks", unfollowed := true, recurses := true, apart := false, narrowed := true }
def CoderPacksUptoSaid : Prop := coderPacksUptoRow.holds Try.pinned (OpenSpec.upto coderPacksSpec)

/-- 'lapidarylaw06.CoderCarries', WHERE WHAT IT READS IS OF BULK AT MOST 1048576: true; the input reads as it did. -/
def coderCarriesUptoRow : OpenClaim := { program := "ythegimfokcdehaa", sum := "50c66aff9645d4eb2989457d402cc1c5e79d85095b24850eff89afdf5e4d0bca", func := "lapidary/lapidarylaw06.CoderCarries", spec := "coderCarries", unfollowed := true, recurses := true, apart := false, narrowed := true }
def CoderCarriesUptoSaid : Prop := coderCarriesUptoRow.holds Try.pinned (OpenSpec.upto coderCarriesSpec)

/-- 'lapidarylaw06.CoderPlain', WHERE WHAT IT READS IS OF BULK AT MOST 1048576: true; the input reads as it did. -/
def coderPlainUptoRow : OpenClaim := { program := "ythegimfokcdehaa", sum := "50c66aff9645d4eb2989457d402cc1c5e79d85095b24850eff89afdf5e4d0bca", func := "lapidary/lapidarylaw06.CoderPlain", spec := "coderPlain", unfollowed := true, recurses := true, apart := false, narrowed := true }
def CoderPlainUptoSaid : Prop := coderPlainUptoRow.holds Try.pinned (OpenSpec.upto coderPlainSpec)

/-- 'lapidarylaw06.CoderSure', WHERE WHAT IT READS IS OF BULK AT MOST 1048576: true; the input reads as it did. -/
def coderSureUptoRow : OpenClaim := { program := "ythegimfokcdehaa", sum := "50c66aff9645d4eb2989457d402cc1c5e79d85095b24850eff89afdf5e4d0bca", func := "lapidary/lapidarylaw06.CoderSure", spec := "coderSure", unfollowed := true, recurses := true, apart := false, narrowed := true }
def CoderSureUptoSaid : Prop := coderSureUptoRow.holds Try.pinned (OpenSpec.upto coderSureSpec)

/-- 'lapidarylaw06.CoderApart', WHERE WHAT IT READS IS OF BULK AT MOST 1048576: true; the input reads as it did. -/
def coderApartUptoRow : OpenClaim := { program := "ythegimfokcdehaa", sum := "50c66aff9645d4eb2989457d402cc1c5e79d85095b24850eff89afdf5e4d0bca", func := "lapidary/lapidarylaw06.CoderApart", spec := "coderApart", unfollowed := true, recurses := true, apart := false, narrowed := true }
def CoderApartUptoSaid : Prop := coderApartUptoRow.holds Try.pinned (OpenSpec.upto coderApartSpec)

end Rows
end Go.Proofs.Ythegimfokcdehaa
