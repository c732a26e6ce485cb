-- Written for this claim by a program of this session.
import Derived.Test.YtbdpfmpbooikiaaDoorProg
import Derived.Below
import Derived.Deep.Draws
import Derived.Deep.AppendLies
import Derived.Maps.AppendAt
import Derived.OwnWalk
import Derived.Laws.BytesArg
import Derived.Laws.MakeOwn
import Derived.Laws.OwnMore
import Derived.Deep.OwnRows
import Derived.Tactics
import Derived.Lib.ConvBytes
import Derived.Laws.Slices
import Derived.WalkKit
import Derived.KernelRfl
import Derived.RowKit3
import Derived.Deep.LoopGhost
import Derived.Deep.QuietTactic
import Derived.BigQuiet
import Derived.WideLaws
import Derived.Deep.DeepCutAuto
import Derived.Deep.CutBlock
import Derived.Deep.RegionHeld3
import Derived.Laws.Rows
import Derived.Lib.AppendStr
import Derived.ArgAppend
import Derived.Laws.IdiomCopy
import Derived.OrdersHeld
import Derived.Laws.BitsLemmas
import Derived.RowKit
import Derived.Test.YtbdpfmpbooikiaaDoorWWords
import Derived.Test.YtbdpfmpbooikiaaDoorWLast
import Derived.Test.YtbdpfmpbooikiaaDoorWTab
import Derived.Test.YtbdpfmpbooikiaaDoorWFour
import Derived.Test.YtbdpfmpbooikiaaDoorWQPut
import Derived.Test.YtbdpfmpbooikiaaDoorWApart
import Derived.Test.YtbdpfmpbooikiaaDoorWArr
import Derived.Test.YtbdpfmpbooikiaaDoorWZeros
import Derived.Test.YtbdpfmpbooikiaaDoorWFoot
import Derived.Test.YtbdpfmpbooikiaaDoorWKept
import Derived.Test.YtbdpfmpbooikiaaDoorWShare
import Derived.Test.YtbdpfmpbooikiaaDoorWN
import Derived.Test.YtbdpfmpbooikiaaDoorWFootNe
import Derived.Test.YtbdpfmpbooikiaaDoorWAt
import Derived.Test.YtbdpfmpbooikiaaDoorWEqStruct
import Derived.Test.YtbdpfmpbooikiaaDoorWRepsOne
import Derived.Test.YtbdpfmpbooikiaaDoorWInv
import Derived.Test.YtbdpfmpbooikiaaDoorWInvWords
import Derived.Test.YtbdpfmpbooikiaaDoorWGuard
import Derived.Test.YtbdpfmpbooikiaaDoorWNEv
import Derived.Test.YtbdpfmpbooikiaaDoorWMore
namespace Go.Proofs.YtbdpfmpbooikiaaDoor.PIso
open Go.RowKit Go.Proofs.YtbdpfmpbooikiaaDoorW.PrintWords Go.Proofs.YtbdpfmpbooikiaaDoorW.PrintLast Go.Proofs.YtbdpfmpbooikiaaDoorW.PrintMore
attribute [local go_sem] max2_int min2_int max_two min_two max_three min_three max_four min_four   -- for this text's walks alone
set_option linter.unusedVariables false
set_option linter.unusedSimpArgs false



def errW : Option Int → Value
  | none => .nilIface
  | some c => .iface 0 (.int .i64 c)
theorem errW_none : errW none = .nilIface := rfl
theorem errW_some (c : Int) : errW (some c) = .iface 0 (.int .i64 c) := rfl

theorem info3 : (Tryd.prog.info? 3).map (fun i => (i.zero, i.size, i.bytes)) = some (some (.int .i64 0), 1, 8) := by kernel_rfl
theorem info4 : (Tryd.prog.info? 4).map (fun i => (i.zero, i.size, i.bytes)) = some (some (.bool false), 1, 1) := by kernel_rfl
-- the values' own types

end Go.Proofs.YtbdpfmpbooikiaaDoor.PIso
