-- Printed by a program of this session out of the seat (wip/xprint.py).
import Derived.Test.YtbbbcdfagmcfgaaProg
import Derived.Below
import Derived.Deep.Draws
import Derived.Deep.AppendLies
import Derived.Maps.AppendAt
import Derived.OwnWalk
import Derived.Laws.BytesArg
import Derived.Laws.MakeOwn
import Derived.Laws.OwnMore
import Derived.Deep.OwnRows
import Derived.Tactics
import Derived.Lib.ConvBytes
import Derived.Laws.Slices
import Derived.WalkKit
import Derived.KernelRfl
import Derived.RowKit3
import Derived.Deep.LoopGhost
import Derived.Deep.QuietTactic
import Derived.BigQuiet
import Derived.WideLaws
import Derived.Deep.DeepCutAuto
import Derived.Deep.CutBlock
import Derived.Deep.RegionHeld3
import Derived.Laws.Rows
import Derived.Lib.AppendStr
import Derived.ArgAppend
import Derived.Laws.IdiomCopy
import Derived.OrdersHeld
import Derived.Laws.BitsLemmas
import Derived.RowKit
import Derived.Test.YtbbbcdfagmcfgaaXBits
import Derived.Test.YtbbbcdfagmcfgaaWWords
import Derived.Test.YtbbbcdfagmcfgaaWLast
import Derived.Test.YtbbbcdfagmcfgaaWTab
import Derived.Test.YtbbbcdfagmcfgaaWFour
import Derived.Test.YtbbbcdfagmcfgaaWQPut
import Derived.Test.YtbbbcdfagmcfgaaWApart
import Derived.Test.YtbbbcdfagmcfgaaWArr
import Derived.Test.YtbbbcdfagmcfgaaWZeros
import Derived.Test.YtbbbcdfagmcfgaaWFoot
import Derived.Test.YtbbbcdfagmcfgaaWKept
import Derived.Test.YtbbbcdfagmcfgaaWShare
import Derived.Test.YtbbbcdfagmcfgaaWN
import Derived.Test.YtbbbcdfagmcfgaaWFootNe
import Derived.Test.YtbbbcdfagmcfgaaWAt
import Derived.Test.YtbbbcdfagmcfgaaWEqStruct
import Derived.Test.YtbbbcdfagmcfgaaWRepsOne
import Derived.Test.YtbbbcdfagmcfgaaWInv
import Derived.Test.YtbbbcdfagmcfgaaWInvWords
import Derived.Test.YtbbbcdfagmcfgaaWGuard
import Derived.Test.YtbbbcdfagmcfgaaWNEv
import Derived.Test.YtbbbcdfagmcfgaaWMore
namespace Go.Proofs.Ytbbbcdfagmcfgaa.PV
open Go.RowKit Go.Proofs.YtbbbcdfagmcfgaaW.PrintWords Go.Proofs.YtbbbcdfagmcfgaaW.PrintLast Go.Proofs.YtbbbcdfagmcfgaaW.PrintMore Go.Proofs.Ytbbbcdfagmcfgaa.XBits
attribute [local go_sem] max2_int min2_int max_two min_two max_three min_three max_four min_four   -- for this text's walks alone
set_option linter.unusedVariables false
set_option linter.unusedSimpArgs false



def errW : Option Int → Value
  | none => .nilIface
  | some c => .iface 0 (.int .i64 c)
theorem errW_none : errW none = .nilIface := rfl
theorem errW_some (c : Int) : errW (some c) = .iface 0 (.int .i64 c) := rfl

theorem info3 : (Try.prog.info? 3).map (fun i => (i.zero, i.size, i.bytes)) = some (some (.int .i64 0), 1, 8) := by kernel_rfl
theorem info61 : (Try.prog.info? 61).map (fun i => (i.zero, i.size, i.bytes)) = some (some (.int .u64 0), 1, 8) := by kernel_rfl
-- the values' own types

end Go.Proofs.Ytbbbcdfagmcfgaa.PV
