-- Written for this claim by a program (the kit's print over a changed input, then joined with texts by hand).
import Derived.Test.YtalcblkdcmigeaaProg
import Derived.Below
import Derived.Deep.Draws
import Derived.Deep.AppendLies
import Derived.Maps.AppendAt
import Derived.OwnWalk
import Derived.Laws.BytesArg
import Derived.Laws.MakeOwn
import Derived.Laws.OwnMore
import Derived.Deep.OwnRows
import Derived.Tactics
import Derived.Lib.ConvBytes
import Derived.Laws.Slices
import Derived.WalkKit
import Derived.KernelRfl
import Derived.RowKit3
import Derived.Deep.LoopGhost
import Derived.Deep.QuietTactic
import Derived.BigQuiet
import Derived.WideLaws
import Derived.Deep.DeepCutAuto
import Derived.Deep.CutBlock
import Derived.Deep.RegionHeld3
import Derived.Laws.Rows
import Derived.Lib.AppendStr
import Derived.ArgAppend
import Derived.Laws.IdiomCopy
import Derived.OrdersHeld
import Derived.Laws.BitsLemmas
import Derived.RowKit
import Derived.Test.YtalcblkdcmigeaaWWords
import Derived.Test.YtalcblkdcmigeaaWLast
import Derived.Test.YtalcblkdcmigeaaWTab
import Derived.Test.YtalcblkdcmigeaaWFour
import Derived.Test.YtalcblkdcmigeaaWQPut
import Derived.Test.YtalcblkdcmigeaaWApart
import Derived.Test.YtalcblkdcmigeaaWArr
import Derived.Test.YtalcblkdcmigeaaWZeros
import Derived.Test.YtalcblkdcmigeaaWFoot
import Derived.Test.YtalcblkdcmigeaaWKept
import Derived.Test.YtalcblkdcmigeaaWShare
import Derived.Test.YtalcblkdcmigeaaWN
import Derived.Test.YtalcblkdcmigeaaWFootNe
import Derived.Test.YtalcblkdcmigeaaWAt
import Derived.Test.YtalcblkdcmigeaaWEqStruct
import Derived.Test.YtalcblkdcmigeaaWRepsOne
import Derived.Test.YtalcblkdcmigeaaWInv
import Derived.Test.YtalcblkdcmigeaaWInvWords
import Derived.Test.YtalcblkdcmigeaaWGuard
import Derived.Test.YtalcblkdcmigeaaWNEv
import Derived.Test.YtalcblkdcmigeaaWMore
namespace Go.Proofs.Ytalcblkdcmigeaa.PA
open Go.RowKit Go.Proofs.YtalcblkdcmigeaaW.PrintWords Go.Proofs.YtalcblkdcmigeaaW.PrintLast Go.Proofs.YtalcblkdcmigeaaW.PrintMore
attribute [local go_sem] max2_int min2_int max_two min_two max_three min_three max_four min_four   -- for this text's walks alone
set_option linter.unusedVariables false
set_option linter.unusedSimpArgs false



def errW : Option Int → Value
  | none => .nilIface
  | some c => .iface 0 (.int .i64 c)
theorem errW_none : errW none = .nilIface := rfl
theorem errW_some (c : Int) : errW (some c) = .iface 0 (.int .i64 c) := rfl

theorem info5 : (Try.prog.info? 5).map (fun i => (i.zero, i.size, i.bytes)) = some (some (.int .u8 0), 1, 1) := by kernel_rfl
-- the values' own types

end Go.Proofs.Ytalcblkdcmigeaa.PA
