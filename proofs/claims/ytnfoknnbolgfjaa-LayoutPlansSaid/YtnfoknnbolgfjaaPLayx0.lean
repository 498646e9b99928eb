-- written by a program of this session (wip/tools/pr.py, over the kit's printer): not by hand
import Derived.Test.YtnfoknnbolgfjaaProg
import Derived.Below
import Derived.Deep.Draws
import Derived.Deep.AppendLies
import Derived.Maps.AppendAt
import Derived.OwnWalk
import Derived.Laws.BytesArg
import Derived.Laws.MakeOwn
import Derived.Laws.OwnMore
import Derived.Deep.OwnRows
import Derived.Tactics
import Derived.Lib.ConvBytes
import Derived.Laws.Slices
import Derived.WalkKit
import Derived.KernelRfl
import Derived.RowKit3
import Derived.Deep.LoopGhost
import Derived.Deep.QuietTactic
import Derived.BigQuiet
import Derived.WideLaws
import Derived.Deep.DeepCutAuto
import Derived.Deep.CutBlock
import Derived.Deep.RegionHeld3
import Derived.Laws.Rows
import Derived.Lib.AppendStr
import Derived.ArgAppend
import Derived.Laws.IdiomCopy
import Derived.OrdersHeld
import Derived.Laws.BitsLemmas
import Derived.RowKit
import Derived.Lib.SlBytesConst
import Derived.Lib.LazyBuf
import Derived.LoopN
import Derived.Test.YtnfoknnbolgfjaaWWords
import Derived.Test.YtnfoknnbolgfjaaWLast
import Derived.Test.YtnfoknnbolgfjaaWTab
import Derived.Test.YtnfoknnbolgfjaaWFour
import Derived.Test.YtnfoknnbolgfjaaWQPut
import Derived.Test.YtnfoknnbolgfjaaWApart
import Derived.Test.YtnfoknnbolgfjaaWArr
import Derived.Test.YtnfoknnbolgfjaaWZeros
import Derived.Test.YtnfoknnbolgfjaaWFoot
import Derived.Test.YtnfoknnbolgfjaaWKept
import Derived.Test.YtnfoknnbolgfjaaWShare
import Derived.Test.YtnfoknnbolgfjaaWN
import Derived.Test.YtnfoknnbolgfjaaWFootNe
import Derived.Test.YtnfoknnbolgfjaaWAt
import Derived.Test.YtnfoknnbolgfjaaWEqStruct
import Derived.Test.YtnfoknnbolgfjaaWRepsOne
import Derived.Test.YtnfoknnbolgfjaaWInv
import Derived.Test.YtnfoknnbolgfjaaWInvWords
import Derived.Test.YtnfoknnbolgfjaaWGuard
import Derived.Test.YtnfoknnbolgfjaaWNEv
import Derived.Test.YtnfoknnbolgfjaaWMore
namespace Go.Proofs.Ytnfoknnbolgfjaa.PLay
open Go.RowKit Go.Proofs.YtnfoknnbolgfjaaW.PrintWords Go.Proofs.YtnfoknnbolgfjaaW.PrintLast Go.Proofs.YtnfoknnbolgfjaaW.PrintMore
attribute [local go_sem] max2_int min2_int max_two min_two max_three min_three max_four min_four   -- for this text's walks alone
set_option linter.unusedVariables false
set_option linter.unusedSimpArgs false



def errW : Option Int → Value
  | none => .nilIface
  | some c => .iface 0 (.int .i64 c)
theorem errW_none : errW none = .nilIface := rfl
theorem errW_some (c : Int) : errW (some c) = .iface 0 (.int .i64 c) := rfl

-- the values' own types

end Go.Proofs.Ytnfoknnbolgfjaa.PLay
