-- By a program of this session (after the form of the print; not a text of the print's own)
import Derived.Test.YtekcpffcgiahfaaProg
import Derived.Below
import Derived.Deep.Draws
import Derived.Deep.AppendLies
import Derived.Maps.AppendAt
import Derived.OwnWalk
import Derived.Laws.BytesArg
import Derived.Laws.MakeOwn
import Derived.Laws.OwnMore
import Derived.Deep.OwnRows
import Derived.Tactics
import Derived.Lib.ConvBytes
import Derived.Laws.Slices
import Derived.WalkKit
import Derived.KernelRfl
import Derived.RowKit3
import Derived.Deep.LoopGhost
import Derived.Deep.QuietTactic
import Derived.BigQuiet
import Derived.WideLaws
import Derived.Deep.DeepCutAuto
import Derived.Deep.CutBlock
import Derived.Deep.RegionHeld3
import Derived.Laws.Rows
import Derived.Lib.AppendStr
import Derived.ArgAppend
import Derived.Laws.IdiomCopy
import Derived.OrdersHeld
import Derived.Laws.BitsLemmas
import Derived.RowKit
import Derived.Test.YtekcpffcgiahfaaWWords
import Derived.Test.YtekcpffcgiahfaaWLast
import Derived.Test.YtekcpffcgiahfaaWTab
import Derived.Test.YtekcpffcgiahfaaWFour
import Derived.Test.YtekcpffcgiahfaaWQPut
import Derived.Test.YtekcpffcgiahfaaWApart
import Derived.Test.YtekcpffcgiahfaaWArr
import Derived.Test.YtekcpffcgiahfaaWZeros
import Derived.Test.YtekcpffcgiahfaaWFoot
import Derived.Test.YtekcpffcgiahfaaWKept
import Derived.Test.YtekcpffcgiahfaaWShare
import Derived.Test.YtekcpffcgiahfaaWN
import Derived.Test.YtekcpffcgiahfaaWFootNe
import Derived.Test.YtekcpffcgiahfaaWAt
import Derived.Test.YtekcpffcgiahfaaWEqStruct
import Derived.Test.YtekcpffcgiahfaaWRepsOne
import Derived.Test.YtekcpffcgiahfaaWInv
import Derived.Test.YtekcpffcgiahfaaWInvWords
import Derived.Test.YtekcpffcgiahfaaWGuard
import Derived.Test.YtekcpffcgiahfaaWNEv
import Derived.Test.YtekcpffcgiahfaaWMore
namespace Go.Proofs.Ytekcpffcgiahfaa.PA
open Go.RowKit Go.Proofs.YtekcpffcgiahfaaW.PrintWords Go.Proofs.YtekcpffcgiahfaaW.PrintLast Go.Proofs.YtekcpffcgiahfaaW.PrintMore
attribute [local go_sem] max2_int min2_int max_two min_two max_three min_three max_four min_four   -- for this text's walks alone
set_option linter.unusedVariables false
set_option linter.unusedSimpArgs false
def errW : Option Int → Value
  | none => .nilIface
  | some c => .iface 49 (.int .i64 c)
theorem errW_none : errW none = .nilIface := rfl
theorem errW_some (c : Int) : errW (some c) = .iface 49 (.int .i64 c) := rfl

theorem info30 : (Try.prog.info? 30).map (fun i => (i.zero, i.size, i.bytes)) = some (some (.int .u64 0), 1, 8) := by kernel_rfl
-- the values' own types

end Go.Proofs.Ytekcpffcgiahfaa.PA
