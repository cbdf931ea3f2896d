-- By a program of this session (after the form of the print; not a text of the print's own)
import Derived.Test.YtmhahelgfkodkaaProg
import Derived.Below
import Derived.Deep.Draws
import Derived.Deep.AppendLies
import Derived.Maps.AppendAt
import Derived.OwnWalk
import Derived.Laws.BytesArg
import Derived.Laws.MakeOwn
import Derived.Laws.OwnMore
import Derived.Deep.OwnRows
import Derived.Tactics
import Derived.Lib.ConvBytes
import Derived.Laws.Slices
import Derived.WalkKit
import Derived.KernelRfl
import Derived.RowKit3
import Derived.Deep.LoopGhost
import Derived.Deep.QuietTactic
import Derived.BigQuiet
import Derived.WideLaws
import Derived.Deep.DeepCutAuto
import Derived.Deep.CutBlock
import Derived.Deep.RegionHeld3
import Derived.Laws.Rows
import Derived.Lib.AppendStr
import Derived.ArgAppend
import Derived.Laws.IdiomCopy
import Derived.OrdersHeld
import Derived.Laws.BitsLemmas
import Derived.RowKit
import Derived.Test.YtmhahelgfkodkaaWWords
import Derived.Test.YtmhahelgfkodkaaWLast
import Derived.Test.YtmhahelgfkodkaaWTab
import Derived.Test.YtmhahelgfkodkaaWFour
import Derived.Test.YtmhahelgfkodkaaWQPut
import Derived.Test.YtmhahelgfkodkaaWApart
import Derived.Test.YtmhahelgfkodkaaWArr
import Derived.Test.YtmhahelgfkodkaaWZeros
import Derived.Test.YtmhahelgfkodkaaWFoot
import Derived.Test.YtmhahelgfkodkaaWKept
import Derived.Test.YtmhahelgfkodkaaWShare
import Derived.Test.YtmhahelgfkodkaaWN
import Derived.Test.YtmhahelgfkodkaaWFootNe
import Derived.Test.YtmhahelgfkodkaaWAt
import Derived.Test.YtmhahelgfkodkaaWEqStruct
import Derived.Test.YtmhahelgfkodkaaWRepsOne
import Derived.Test.YtmhahelgfkodkaaWInv
import Derived.Test.YtmhahelgfkodkaaWInvWords
import Derived.Test.YtmhahelgfkodkaaWGuard
import Derived.Test.YtmhahelgfkodkaaWNEv
import Derived.Test.YtmhahelgfkodkaaWMore
namespace Go.Proofs.Ytmhahelgfkodkaa.PA
open Go.RowKit Go.Proofs.YtmhahelgfkodkaaW.PrintWords Go.Proofs.YtmhahelgfkodkaaW.PrintLast Go.Proofs.YtmhahelgfkodkaaW.PrintMore
attribute [local go_sem] max2_int min2_int max_two min_two max_three min_three max_four min_four   -- for this text's walks alone
set_option linter.unusedVariables false
set_option linter.unusedSimpArgs false
def errW : Option Int → Value
  | none => .nilIface
  | some c => .iface 0 (.int .i64 c)
theorem errW_none : errW none = .nilIface := rfl
theorem errW_some (c : Int) : errW (some c) = .iface 0 (.int .i64 c) := rfl

-- the values' own types

end Go.Proofs.Ytmhahelgfkodkaa.PA
