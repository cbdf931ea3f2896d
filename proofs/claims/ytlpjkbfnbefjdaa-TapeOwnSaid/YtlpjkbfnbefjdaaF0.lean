-- By a program of this session (after the form of the print; not a text of the print's own)
import Derived.Test.YtlpjkbfnbefjdaaProg
import Derived.Below
import Derived.Deep.Draws
import Derived.Deep.AppendLies
import Derived.Maps.AppendAt
import Derived.OwnWalk
import Derived.Laws.BytesArg
import Derived.Laws.MakeOwn
import Derived.Laws.OwnMore
import Derived.Deep.OwnRows
import Derived.Tactics
import Derived.Lib.ConvBytes
import Derived.Laws.Slices
import Derived.WalkKit
import Derived.KernelRfl
import Derived.RowKit3
import Derived.Deep.LoopGhost
import Derived.Deep.QuietTactic
import Derived.BigQuiet
import Derived.WideLaws
import Derived.Deep.DeepCutAuto
import Derived.Deep.CutBlock
import Derived.Deep.RegionHeld3
import Derived.Laws.Rows
import Derived.Lib.AppendStr
import Derived.ArgAppend
import Derived.Laws.IdiomCopy
import Derived.OrdersHeld
import Derived.Laws.BitsLemmas
import Derived.RowKit
import Derived.Test.YtlpjkbfnbefjdaaWWords
import Derived.Test.YtlpjkbfnbefjdaaWLast
import Derived.Test.YtlpjkbfnbefjdaaWTab
import Derived.Test.YtlpjkbfnbefjdaaWFour
import Derived.Test.YtlpjkbfnbefjdaaWQPut
import Derived.Test.YtlpjkbfnbefjdaaWApart
import Derived.Test.YtlpjkbfnbefjdaaWArr
import Derived.Test.YtlpjkbfnbefjdaaWZeros
import Derived.Test.YtlpjkbfnbefjdaaWFoot
import Derived.Test.YtlpjkbfnbefjdaaWKept
import Derived.Test.YtlpjkbfnbefjdaaWShare
import Derived.Test.YtlpjkbfnbefjdaaWN
import Derived.Test.YtlpjkbfnbefjdaaWFootNe
import Derived.Test.YtlpjkbfnbefjdaaWAt
import Derived.Test.YtlpjkbfnbefjdaaWEqStruct
import Derived.Test.YtlpjkbfnbefjdaaWRepsOne
import Derived.Test.YtlpjkbfnbefjdaaWInv
import Derived.Test.YtlpjkbfnbefjdaaWInvWords
import Derived.Test.YtlpjkbfnbefjdaaWGuard
import Derived.Test.YtlpjkbfnbefjdaaWNEv
import Derived.Test.YtlpjkbfnbefjdaaWMore
namespace Go.Proofs.Ytlpjkbfnbefjdaa.PA
open Go.RowKit Go.Proofs.YtlpjkbfnbefjdaaW.PrintWords Go.Proofs.YtlpjkbfnbefjdaaW.PrintLast Go.Proofs.YtlpjkbfnbefjdaaW.PrintMore
attribute [local go_sem] max2_int min2_int max_two min_two max_three min_three max_four min_four   -- for this text's walks alone
set_option linter.unusedVariables false
set_option linter.unusedSimpArgs false
def errW : Option Int → Value
  | none => .nilIface
  | some c => .iface 35 (.int .i64 c)
theorem errW_none : errW none = .nilIface := rfl
theorem errW_some (c : Int) : errW (some c) = .iface 35 (.int .i64 c) := rfl

theorem info26 : (Try.prog.info? 26).map (fun i => (i.zero, i.size, i.bytes)) = some (some (.int .u64 0), 1, 8) := by kernel_rfl
-- the values' own types

end Go.Proofs.Ytlpjkbfnbefjdaa.PA
