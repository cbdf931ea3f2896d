-- By a program of this session (after the form of the print; not a text of the print's own)
import Derived.Test.YtnphfcaokjdigaaGreatDoorProg
import Derived.Below
import Derived.Deep.Draws
import Derived.Deep.AppendLies
import Derived.Maps.AppendAt
import Derived.OwnWalk
import Derived.Laws.BytesArg
import Derived.Laws.MakeOwn
import Derived.Laws.OwnMore
import Derived.Deep.OwnRows
import Derived.Tactics
import Derived.Lib.ConvBytes
import Derived.Laws.Slices
import Derived.WalkKit
import Derived.KernelRfl
import Derived.RowKit3
import Derived.Deep.LoopGhost
import Derived.Deep.QuietTactic
import Derived.BigQuiet
import Derived.WideLaws
import Derived.Deep.DeepCutAuto
import Derived.Deep.CutBlock
import Derived.Deep.RegionHeld3
import Derived.Laws.Rows
import Derived.Lib.AppendStr
import Derived.ArgAppend
import Derived.Laws.IdiomCopy
import Derived.OrdersHeld
import Derived.Laws.BitsLemmas
import Derived.RowKit
import Derived.Test.YtnphfcaokjdigaaGreatDoorWWords
import Derived.Test.YtnphfcaokjdigaaGreatDoorWLast
import Derived.Test.YtnphfcaokjdigaaGreatDoorWTab
import Derived.Test.YtnphfcaokjdigaaGreatDoorWFour
import Derived.Test.YtnphfcaokjdigaaGreatDoorWQPut
import Derived.Test.YtnphfcaokjdigaaGreatDoorWApart
import Derived.Test.YtnphfcaokjdigaaGreatDoorWArr
import Derived.Test.YtnphfcaokjdigaaGreatDoorWZeros
import Derived.Test.YtnphfcaokjdigaaGreatDoorWFoot
import Derived.Test.YtnphfcaokjdigaaGreatDoorWKept
import Derived.Test.YtnphfcaokjdigaaGreatDoorWShare
import Derived.Test.YtnphfcaokjdigaaGreatDoorWN
import Derived.Test.YtnphfcaokjdigaaGreatDoorWFootNe
import Derived.Test.YtnphfcaokjdigaaGreatDoorWAt
import Derived.Test.YtnphfcaokjdigaaGreatDoorWEqStruct
import Derived.Test.YtnphfcaokjdigaaGreatDoorWRepsOne
import Derived.Test.YtnphfcaokjdigaaGreatDoorWInv
import Derived.Test.YtnphfcaokjdigaaGreatDoorWInvWords
import Derived.Test.YtnphfcaokjdigaaGreatDoorWGuard
import Derived.Test.YtnphfcaokjdigaaGreatDoorWNEv
import Derived.Test.YtnphfcaokjdigaaGreatDoorWMore
namespace Go.Proofs.YtnphfcaokjdigaaGreatDoor.PA
open Go.RowKit Go.Proofs.YtnphfcaokjdigaaGreatDoorW.PrintWords Go.Proofs.YtnphfcaokjdigaaGreatDoorW.PrintLast Go.Proofs.YtnphfcaokjdigaaGreatDoorW.PrintMore
attribute [local go_sem] max2_int min2_int max_two min_two max_three min_three max_four min_four   -- for this text's walks alone
set_option linter.unusedVariables false
set_option linter.unusedSimpArgs false
def errW : Option Int → Value
  | none => .nilIface
  | some c => .iface 74 (.int .i64 c)
theorem errW_none : errW none = .nilIface := rfl
theorem errW_some (c : Int) : errW (some c) = .iface 74 (.int .i64 c) := rfl

theorem info36 : (Tryz.prog.info? 36).map (fun i => (i.zero, i.size, i.bytes)) = some (some (.int .u64 0), 1, 8) := by kernel_rfl
-- the values' own types

end Go.Proofs.YtnphfcaokjdigaaGreatDoor.PA
