-- By a program of this session (after the form of the print; not a text of the print's own)
import Derived.Test.YtkclhbfoimpjkaaProg
import Derived.Below
import Derived.Deep.Draws
import Derived.Deep.AppendLies
import Derived.Maps.AppendAt
import Derived.OwnWalk
import Derived.Laws.BytesArg
import Derived.Laws.MakeOwn
import Derived.Laws.OwnMore
import Derived.Deep.OwnRows
import Derived.Tactics
import Derived.Lib.ConvBytes
import Derived.Laws.Slices
import Derived.WalkKit
import Derived.KernelRfl
import Derived.RowKit3
import Derived.Deep.LoopGhost
import Derived.Deep.QuietTactic
import Derived.BigQuiet
import Derived.WideLaws
import Derived.Deep.DeepCutAuto
import Derived.Deep.CutBlock
import Derived.Deep.RegionHeld3
import Derived.Laws.Rows
import Derived.Lib.AppendStr
import Derived.ArgAppend
import Derived.Laws.IdiomCopy
import Derived.OrdersHeld
import Derived.Laws.BitsLemmas
import Derived.RowKit
import Derived.Test.YtkclhbfoimpjkaaWWords
import Derived.Test.YtkclhbfoimpjkaaWLast
import Derived.Test.YtkclhbfoimpjkaaWTab
import Derived.Test.YtkclhbfoimpjkaaWFour
import Derived.Test.YtkclhbfoimpjkaaWQPut
import Derived.Test.YtkclhbfoimpjkaaWApart
import Derived.Test.YtkclhbfoimpjkaaWArr
import Derived.Test.YtkclhbfoimpjkaaWZeros
import Derived.Test.YtkclhbfoimpjkaaWFoot
import Derived.Test.YtkclhbfoimpjkaaWKept
import Derived.Test.YtkclhbfoimpjkaaWShare
import Derived.Test.YtkclhbfoimpjkaaWN
import Derived.Test.YtkclhbfoimpjkaaWFootNe
import Derived.Test.YtkclhbfoimpjkaaWAt
import Derived.Test.YtkclhbfoimpjkaaWEqStruct
import Derived.Test.YtkclhbfoimpjkaaWRepsOne
import Derived.Test.YtkclhbfoimpjkaaWInv
import Derived.Test.YtkclhbfoimpjkaaWInvWords
import Derived.Test.YtkclhbfoimpjkaaWGuard
import Derived.Test.YtkclhbfoimpjkaaWNEv
import Derived.Test.YtkclhbfoimpjkaaWMore
namespace Go.Proofs.Ytkclhbfoimpjkaa.PA
open Go.RowKit Go.Proofs.YtkclhbfoimpjkaaW.PrintWords Go.Proofs.YtkclhbfoimpjkaaW.PrintLast Go.Proofs.YtkclhbfoimpjkaaW.PrintMore
attribute [local go_sem] max2_int min2_int max_two min_two max_three min_three max_four min_four   -- for this text's walks alone
set_option linter.unusedVariables false
set_option linter.unusedSimpArgs false
def errW : Option Int → Value
  | none => .nilIface
  | some c => .iface 0 (.int .i64 c)
theorem errW_none : errW none = .nilIface := rfl
theorem errW_some (c : Int) : errW (some c) = .iface 0 (.int .i64 c) := rfl

theorem info3 : (Try.prog.info? 3).map (fun i => (i.zero, i.size, i.bytes)) = some (some (.int .i64 0), 1, 8) := by kernel_rfl
theorem info5 : (Try.prog.info? 5).map (fun i => (i.zero, i.size, i.bytes)) = some (some (.int .u8 0), 1, 1) := by kernel_rfl
-- the values' own types

end Go.Proofs.Ytkclhbfoimpjkaa.PA
