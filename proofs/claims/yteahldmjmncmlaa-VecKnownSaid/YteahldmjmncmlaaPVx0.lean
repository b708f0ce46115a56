-- Printed by a program of this session out of the seat (wip/xprint.py).
import Derived.Test.YteahldmjmncmlaaProg
import Derived.Below
import Derived.Deep.Draws
import Derived.Deep.AppendLies
import Derived.Maps.AppendAt
import Derived.OwnWalk
import Derived.Laws.BytesArg
import Derived.Laws.MakeOwn
import Derived.Laws.OwnMore
import Derived.Deep.OwnRows
import Derived.Tactics
import Derived.Lib.ConvBytes
import Derived.Laws.Slices
import Derived.WalkKit
import Derived.KernelRfl
import Derived.RowKit3
import Derived.Deep.LoopGhost
import Derived.Deep.QuietTactic
import Derived.BigQuiet
import Derived.WideLaws
import Derived.Deep.DeepCutAuto
import Derived.Deep.CutBlock
import Derived.Deep.RegionHeld3
import Derived.Laws.Rows
import Derived.Lib.AppendStr
import Derived.ArgAppend
import Derived.Laws.IdiomCopy
import Derived.OrdersHeld
import Derived.Laws.BitsLemmas
import Derived.RowKit
import Derived.Test.YteahldmjmncmlaaXBits
import Derived.Test.YteahldmjmncmlaaWWords
import Derived.Test.YteahldmjmncmlaaWLast
import Derived.Test.YteahldmjmncmlaaWTab
import Derived.Test.YteahldmjmncmlaaWFour
import Derived.Test.YteahldmjmncmlaaWQPut
import Derived.Test.YteahldmjmncmlaaWApart
import Derived.Test.YteahldmjmncmlaaWArr
import Derived.Test.YteahldmjmncmlaaWZeros
import Derived.Test.YteahldmjmncmlaaWFoot
import Derived.Test.YteahldmjmncmlaaWKept
import Derived.Test.YteahldmjmncmlaaWShare
import Derived.Test.YteahldmjmncmlaaWN
import Derived.Test.YteahldmjmncmlaaWFootNe
import Derived.Test.YteahldmjmncmlaaWAt
import Derived.Test.YteahldmjmncmlaaWEqStruct
import Derived.Test.YteahldmjmncmlaaWRepsOne
import Derived.Test.YteahldmjmncmlaaWInv
import Derived.Test.YteahldmjmncmlaaWInvWords
import Derived.Test.YteahldmjmncmlaaWGuard
import Derived.Test.YteahldmjmncmlaaWNEv
import Derived.Test.YteahldmjmncmlaaWMore
namespace Go.Proofs.Yteahldmjmncmlaa.PV
open Go.RowKit Go.Proofs.YteahldmjmncmlaaW.PrintWords Go.Proofs.YteahldmjmncmlaaW.PrintLast Go.Proofs.YteahldmjmncmlaaW.PrintMore Go.Proofs.Yteahldmjmncmlaa.XBits
attribute [local go_sem] max2_int min2_int max_two min_two max_three min_three max_four min_four   -- for this text's walks alone
set_option linter.unusedVariables false
set_option linter.unusedSimpArgs false



def errW : Option Int → Value
  | none => .nilIface
  | some c => .iface 0 (.int .i64 c)
theorem errW_none : errW none = .nilIface := rfl
theorem errW_some (c : Int) : errW (some c) = .iface 0 (.int .i64 c) := rfl

theorem run_ext32 (x y c : Int) (h : c ≤ 1) (w : World) : (callFunc 32 #[.int .u64 x, .int .u64 y, .int .u64 c]).run Try.prog w = .ok (.value (.tuple #[.int .u64 (add64s x y c), .int .u64 (add64c x y c)])) w := by
  rw [run_callFunc_extern Try.func32 (by kernel_rfl) (by kernel_rfl) (by kernel_rfl) (e := add64E) (by kernel_rfl), add64E_run x y c h w]
  rfl
theorem run_ext35 (x y c : Int) (h : c ≤ 1) (w : World) : (callFunc 35 #[.int .u64 x, .int .u64 y, .int .u64 c]).run Try.prog w = .ok (.value (.tuple #[.int .u64 (sub64s x y c), .int .u64 (sub64c x y c)])) w := by
  rw [run_callFunc_extern Try.func35 (by kernel_rfl) (by kernel_rfl) (by kernel_rfl) (e := sub64E) (by kernel_rfl), sub64E_run x y c h w]
  rfl
theorem info4 : (Try.prog.info? 4).map (fun i => (i.zero, i.size, i.bytes)) = some (some (.bool false), 1, 1) := by kernel_rfl
theorem info33 : (Try.prog.info? 33).map (fun i => (i.zero, i.size, i.bytes)) = some (some (.int .u64 0), 1, 8) := by kernel_rfl
-- the values' own types

end Go.Proofs.Yteahldmjmncmlaa.PV
