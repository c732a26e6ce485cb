-- Written for this claim by a program of this session.
import Derived.Test.YtjegnmnojgglaaaProg
import Derived.Below
import Derived.Deep.Draws
import Derived.Deep.AppendLies
import Derived.Maps.AppendAt
import Derived.OwnWalk
import Derived.Laws.BytesArg
import Derived.Laws.MakeOwn
import Derived.Laws.OwnMore
import Derived.Deep.OwnRows
import Derived.Tactics
import Derived.Lib.ConvBytes
import Derived.Laws.Slices
import Derived.WalkKit
import Derived.KernelRfl
import Derived.RowKit3
import Derived.Deep.LoopGhost
import Derived.Deep.QuietTactic
import Derived.BigQuiet
import Derived.WideLaws
import Derived.Deep.DeepCutAuto
import Derived.Deep.CutBlock
import Derived.Deep.RegionHeld3
import Derived.Laws.Rows
import Derived.Lib.AppendStr
import Derived.ArgAppend
import Derived.Laws.IdiomCopy
import Derived.OrdersHeld
import Derived.Laws.BitsLemmas
import Derived.RowKit
import Derived.Test.YtjegnmnojgglaaaWWords
import Derived.Test.YtjegnmnojgglaaaWLast
import Derived.Test.YtjegnmnojgglaaaWTab
import Derived.Test.YtjegnmnojgglaaaWFour
import Derived.Test.YtjegnmnojgglaaaWQPut
import Derived.Test.YtjegnmnojgglaaaWApart
import Derived.Test.YtjegnmnojgglaaaWArr
import Derived.Test.YtjegnmnojgglaaaWZeros
import Derived.Test.YtjegnmnojgglaaaWFoot
import Derived.Test.YtjegnmnojgglaaaWKept
import Derived.Test.YtjegnmnojgglaaaWShare
import Derived.Test.YtjegnmnojgglaaaWN
import Derived.Test.YtjegnmnojgglaaaWFootNe
import Derived.Test.YtjegnmnojgglaaaWAt
import Derived.Test.YtjegnmnojgglaaaWEqStruct
import Derived.Test.YtjegnmnojgglaaaWRepsOne
import Derived.Test.YtjegnmnojgglaaaWInv
import Derived.Test.YtjegnmnojgglaaaWInvWords
import Derived.Test.YtjegnmnojgglaaaWGuard
import Derived.Test.YtjegnmnojgglaaaWNEv
import Derived.Test.YtjegnmnojgglaaaWMore
namespace Go.Proofs.Ytjegnmnojgglaaa.PMod
open Go.RowKit Go.Proofs.YtjegnmnojgglaaaW.PrintWords Go.Proofs.YtjegnmnojgglaaaW.PrintLast Go.Proofs.YtjegnmnojgglaaaW.PrintMore
attribute [local go_sem] max2_int min2_int max_two min_two max_three min_three max_four min_four   -- for this text's walks alone
set_option linter.unusedVariables false
set_option linter.unusedSimpArgs false



def errW : Option Int → Value
  | none => .nilIface
  | some c => .iface 0 (.int .i64 c)
theorem errW_none : errW none = .nilIface := rfl
theorem errW_some (c : Int) : errW (some c) = .iface 0 (.int .i64 c) := rfl

theorem info3 : (Try.prog.info? 3).map (fun i => (i.zero, i.size, i.bytes)) = some (some (.int .i64 0), 1, 8) := by kernel_rfl
-- the values' own types

end Go.Proofs.Ytjegnmnojgglaaa.PMod
