-- Written for this claim by a program (the kit's print over a changed input, then joined with texts by hand).
import Derived.Test.YtndeaifggijlaaaProg
import Derived.Below
import Derived.Deep.Draws
import Derived.Deep.AppendLies
import Derived.Maps.AppendAt
import Derived.OwnWalk
import Derived.Laws.BytesArg
import Derived.Laws.MakeOwn
import Derived.Laws.OwnMore
import Derived.Deep.OwnRows
import Derived.Tactics
import Derived.Lib.ConvBytes
import Derived.Laws.Slices
import Derived.WalkKit
import Derived.KernelRfl
import Derived.RowKit3
import Derived.Deep.LoopGhost
import Derived.Deep.QuietTactic
import Derived.BigQuiet
import Derived.WideLaws
import Derived.Deep.DeepCutAuto
import Derived.Deep.CutBlock
import Derived.Deep.RegionHeld3
import Derived.Laws.Rows
import Derived.Lib.AppendStr
import Derived.ArgAppend
import Derived.Laws.IdiomCopy
import Derived.OrdersHeld
import Derived.Laws.BitsLemmas
import Derived.RowKit
import Derived.Test.YtndeaifggijlaaaWWords
import Derived.Test.YtndeaifggijlaaaWLast
import Derived.Test.YtndeaifggijlaaaWTab
import Derived.Test.YtndeaifggijlaaaWFour
import Derived.Test.YtndeaifggijlaaaWQPut
import Derived.Test.YtndeaifggijlaaaWApart
import Derived.Test.YtndeaifggijlaaaWArr
import Derived.Test.YtndeaifggijlaaaWZeros
import Derived.Test.YtndeaifggijlaaaWFoot
import Derived.Test.YtndeaifggijlaaaWKept
import Derived.Test.YtndeaifggijlaaaWShare
import Derived.Test.YtndeaifggijlaaaWN
import Derived.Test.YtndeaifggijlaaaWFootNe
import Derived.Test.YtndeaifggijlaaaWAt
import Derived.Test.YtndeaifggijlaaaWEqStruct
import Derived.Test.YtndeaifggijlaaaWRepsOne
import Derived.Test.YtndeaifggijlaaaWInv
import Derived.Test.YtndeaifggijlaaaWInvWords
import Derived.Test.YtndeaifggijlaaaWGuard
import Derived.Test.YtndeaifggijlaaaWNEv
import Derived.Test.YtndeaifggijlaaaWMore
namespace Go.Proofs.Ytndeaifggijlaaa.PA
open Go.RowKit Go.Proofs.YtndeaifggijlaaaW.PrintWords Go.Proofs.YtndeaifggijlaaaW.PrintLast Go.Proofs.YtndeaifggijlaaaW.PrintMore
attribute [local go_sem] max2_int min2_int max_two min_two max_three min_three max_four min_four   -- for this text's walks alone
set_option linter.unusedVariables false
set_option linter.unusedSimpArgs false



def errW : Option Int → Value
  | none => .nilIface
  | some c => .iface 0 (.int .i64 c)
theorem errW_none : errW none = .nilIface := rfl
theorem errW_some (c : Int) : errW (some c) = .iface 0 (.int .i64 c) := rfl

theorem info4 : (Try.prog.info? 4).map (fun i => (i.zero, i.size, i.bytes)) = some (some (.bool false), 1, 1) := by kernel_rfl
-- the values' own types

end Go.Proofs.Ytndeaifggijlaaa.PA
