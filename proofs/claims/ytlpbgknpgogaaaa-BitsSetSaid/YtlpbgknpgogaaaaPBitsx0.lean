-- written by a program of this session (wip/tools/pr.py, over the kit's printer): not by hand
import Derived.Test.YtlpbgknpgogaaaaProg
import Derived.Below
import Derived.Deep.Draws
import Derived.Deep.AppendLies
import Derived.Maps.AppendAt
import Derived.OwnWalk
import Derived.Laws.BytesArg
import Derived.Laws.MakeOwn
import Derived.Laws.OwnMore
import Derived.Deep.OwnRows
import Derived.Tactics
import Derived.Lib.ConvBytes
import Derived.Laws.Slices
import Derived.WalkKit
import Derived.KernelRfl
import Derived.RowKit3
import Derived.Deep.LoopGhost
import Derived.Deep.QuietTactic
import Derived.BigQuiet
import Derived.WideLaws
import Derived.Deep.DeepCutAuto
import Derived.Deep.CutBlock
import Derived.Deep.RegionHeld3
import Derived.Laws.Rows
import Derived.Lib.AppendStr
import Derived.ArgAppend
import Derived.Laws.IdiomCopy
import Derived.OrdersHeld
import Derived.Laws.BitsLemmas
import Derived.RowKit
import Derived.Lib.SlBytesConst
import Derived.Lib.LazyBuf
import Derived.Test.YtlpbgknpgogaaaaWWords
import Derived.Test.YtlpbgknpgogaaaaWLast
import Derived.Test.YtlpbgknpgogaaaaWTab
import Derived.Test.YtlpbgknpgogaaaaWFour
import Derived.Test.YtlpbgknpgogaaaaWQPut
import Derived.Test.YtlpbgknpgogaaaaWApart
import Derived.Test.YtlpbgknpgogaaaaWArr
import Derived.Test.YtlpbgknpgogaaaaWZeros
import Derived.Test.YtlpbgknpgogaaaaWFoot
import Derived.Test.YtlpbgknpgogaaaaWKept
import Derived.Test.YtlpbgknpgogaaaaWShare
import Derived.Test.YtlpbgknpgogaaaaWN
import Derived.Test.YtlpbgknpgogaaaaWFootNe
import Derived.Test.YtlpbgknpgogaaaaWAt
import Derived.Test.YtlpbgknpgogaaaaWEqStruct
import Derived.Test.YtlpbgknpgogaaaaWRepsOne
import Derived.Test.YtlpbgknpgogaaaaWInv
import Derived.Test.YtlpbgknpgogaaaaWInvWords
import Derived.Test.YtlpbgknpgogaaaaWGuard
import Derived.Test.YtlpbgknpgogaaaaWNEv
import Derived.Test.YtlpbgknpgogaaaaWMore
namespace Go.Proofs.Ytlpbgknpgogaaaa.PBits
open Go.RowKit Go.Proofs.YtlpbgknpgogaaaaW.PrintWords Go.Proofs.YtlpbgknpgogaaaaW.PrintLast Go.Proofs.YtlpbgknpgogaaaaW.PrintMore
attribute [local go_sem] max2_int min2_int max_two min_two max_three min_three max_four min_four   -- for this text's walks alone
set_option linter.unusedVariables false
set_option linter.unusedSimpArgs false



def errW : Option Int → Value
  | none => .nilIface
  | some c => .iface 0 (.int .i64 c)
theorem errW_none : errW none = .nilIface := rfl
theorem errW_some (c : Int) : errW (some c) = .iface 0 (.int .i64 c) := rfl

theorem info5 : (Try.prog.info? 5).map (fun i => (i.zero, i.size, i.bytes)) = some (some (.int .u8 0), 1, 1) := by kernel_rfl
-- the values' own types

end Go.Proofs.Ytlpbgknpgogaaaa.PBits
