/- The whole run of the system by the small evaluator: the kernel reckons it to true. -/
import Derived.Test.YtnphfcaokjdigaaGreatDoorProg
import Derived.Test.YtnphfcaokjdigaaGreatDoorV3
import Derived.KernelRfl
set_option linter.unusedVariables false
set_option linter.unusedSimpArgs false
namespace Go.Proofs
open Go.Ev
set_option maxRecDepth 100000
theorem t1 : evFn (cFn Tryz.prog) 60 7 [] ⟨.e, .z⟩ (fun v _ => asB v fun b => b) = true := by kernel_rfl
end Go.Proofs
