-- Printed by a program of this session out of the seat (wip/xprint.py).
import Derived.Test.YtippdbhefcmebaaProg
import Derived.Below
import Derived.Deep.Draws
import Derived.Deep.AppendLies
import Derived.Maps.AppendAt
import Derived.OwnWalk
import Derived.Laws.BytesArg
import Derived.Laws.MakeOwn
import Derived.Laws.OwnMore
import Derived.Deep.OwnRows
import Derived.Tactics
import Derived.Lib.ConvBytes
import Derived.Laws.Slices
import Derived.WalkKit
import Derived.KernelRfl
import Derived.RowKit3
import Derived.Deep.LoopGhost
import Derived.Deep.QuietTactic
import Derived.BigQuiet
import Derived.WideLaws
import Derived.Deep.DeepCutAuto
import Derived.Deep.CutBlock
import Derived.Deep.RegionHeld3
import Derived.Laws.Rows
import Derived.Lib.AppendStr
import Derived.ArgAppend
import Derived.Laws.IdiomCopy
import Derived.OrdersHeld
import Derived.Laws.BitsLemmas
import Derived.RowKit
import Derived.Test.YtippdbhefcmebaaXBits
import Derived.Test.YtippdbhefcmebaaWWords
import Derived.Test.YtippdbhefcmebaaWLast
import Derived.Test.YtippdbhefcmebaaWTab
import Derived.Test.YtippdbhefcmebaaWFour
import Derived.Test.YtippdbhefcmebaaWQPut
import Derived.Test.YtippdbhefcmebaaWApart
import Derived.Test.YtippdbhefcmebaaWArr
import Derived.Test.YtippdbhefcmebaaWZeros
import Derived.Test.YtippdbhefcmebaaWFoot
import Derived.Test.YtippdbhefcmebaaWKept
import Derived.Test.YtippdbhefcmebaaWShare
import Derived.Test.YtippdbhefcmebaaWN
import Derived.Test.YtippdbhefcmebaaWFootNe
import Derived.Test.YtippdbhefcmebaaWAt
import Derived.Test.YtippdbhefcmebaaWEqStruct
import Derived.Test.YtippdbhefcmebaaWRepsOne
import Derived.Test.YtippdbhefcmebaaWInv
import Derived.Test.YtippdbhefcmebaaWInvWords
import Derived.Test.YtippdbhefcmebaaWGuard
import Derived.Test.YtippdbhefcmebaaWNEv
import Derived.Test.YtippdbhefcmebaaWMore
namespace Go.Proofs.Ytippdbhefcmebaa.PV
open Go.RowKit Go.Proofs.YtippdbhefcmebaaW.PrintWords Go.Proofs.YtippdbhefcmebaaW.PrintLast Go.Proofs.YtippdbhefcmebaaW.PrintMore Go.Proofs.Ytippdbhefcmebaa.XBits
attribute [local go_sem] max2_int min2_int max_two min_two max_three min_three max_four min_four   -- for this text's walks alone
set_option linter.unusedVariables false
set_option linter.unusedSimpArgs false



def errW : Option Int → Value
  | none => .nilIface
  | some c => .iface 0 (.int .i64 c)
theorem errW_none : errW none = .nilIface := rfl
theorem errW_some (c : Int) : errW (some c) = .iface 0 (.int .i64 c) := rfl

theorem info3 : (Try.prog.info? 3).map (fun i => (i.zero, i.size, i.bytes)) = some (some (.int .i64 0), 1, 8) := by kernel_rfl
theorem info28 : (Try.prog.info? 28).map (fun i => (i.zero, i.size, i.bytes)) = some (some (.int .u64 0), 1, 8) := by kernel_rfl
-- the values' own types

end Go.Proofs.Ytippdbhefcmebaa.PV
