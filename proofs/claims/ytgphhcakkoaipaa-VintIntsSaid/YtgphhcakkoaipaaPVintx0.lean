-- Written for this claim by a program of this session.
import Derived.Test.YtgphhcakkoaipaaProg
import Derived.Below
import Derived.Deep.Draws
import Derived.Deep.AppendLies
import Derived.Maps.AppendAt
import Derived.OwnWalk
import Derived.Laws.BytesArg
import Derived.Laws.MakeOwn
import Derived.Laws.OwnMore
import Derived.Deep.OwnRows
import Derived.Tactics
import Derived.Lib.ConvBytes
import Derived.Laws.Slices
import Derived.WalkKit
import Derived.KernelRfl
import Derived.RowKit3
import Derived.Deep.LoopGhost
import Derived.Deep.QuietTactic
import Derived.BigQuiet
import Derived.WideLaws
import Derived.Deep.DeepCutAuto
import Derived.Deep.CutBlock
import Derived.Deep.RegionHeld3
import Derived.Laws.Rows
import Derived.Lib.AppendStr
import Derived.ArgAppend
import Derived.Laws.IdiomCopy
import Derived.OrdersHeld
import Derived.Laws.BitsLemmas
import Derived.RowKit
import Derived.Test.YtgphhcakkoaipaaWWords
import Derived.Test.YtgphhcakkoaipaaWLast
import Derived.Test.YtgphhcakkoaipaaWTab
import Derived.Test.YtgphhcakkoaipaaWFour
import Derived.Test.YtgphhcakkoaipaaWQPut
import Derived.Test.YtgphhcakkoaipaaWApart
import Derived.Test.YtgphhcakkoaipaaWArr
import Derived.Test.YtgphhcakkoaipaaWZeros
import Derived.Test.YtgphhcakkoaipaaWFoot
import Derived.Test.YtgphhcakkoaipaaWKept
import Derived.Test.YtgphhcakkoaipaaWShare
import Derived.Test.YtgphhcakkoaipaaWN
import Derived.Test.YtgphhcakkoaipaaWFootNe
import Derived.Test.YtgphhcakkoaipaaWAt
import Derived.Test.YtgphhcakkoaipaaWEqStruct
import Derived.Test.YtgphhcakkoaipaaWRepsOne
import Derived.Test.YtgphhcakkoaipaaWInv
import Derived.Test.YtgphhcakkoaipaaWInvWords
import Derived.Test.YtgphhcakkoaipaaWGuard
import Derived.Test.YtgphhcakkoaipaaWNEv
import Derived.Test.YtgphhcakkoaipaaWMore
namespace Go.Proofs.Ytgphhcakkoaipaa.PVint
open Go.RowKit Go.Proofs.YtgphhcakkoaipaaW.PrintWords Go.Proofs.YtgphhcakkoaipaaW.PrintLast Go.Proofs.YtgphhcakkoaipaaW.PrintMore
attribute [local go_sem] max2_int min2_int max_two min_two max_three min_three max_four min_four   -- for this text's walks alone
set_option linter.unusedVariables false
set_option linter.unusedSimpArgs false



def errW : Option Int → Value
  | none => .nilIface
  | some c => .iface 0 (.int .i64 c)
theorem errW_none : errW none = .nilIface := rfl
theorem errW_some (c : Int) : errW (some c) = .iface 0 (.int .i64 c) := rfl

theorem info5 : (Try.prog.info? 5).map (fun i => (i.zero, i.size, i.bytes)) = some (some (.int .u8 0), 1, 1) := by kernel_rfl
theorem info26 : (Try.prog.info? 26).map (fun i => (i.zero, i.size, i.bytes)) = some (some (.int .u64 0), 1, 8) := by kernel_rfl
-- the values' own types

end Go.Proofs.Ytgphhcakkoaipaa.PVint
