/- PortmapScript: the walk, as its row calls it. -/
import Derived.Test.YtbahpfmfjeafnaaH7
namespace Go.Proofs.Ytbahpfmfjeafnaa.Pure
open Go Go.RowKit Go.Proofs.Ytbahpfmfjeafnaa.PA Go.Proofs.YtbahpfmfjeafnaaW.PrintWords Go.Proofs.YtbahpfmfjeafnaaW.PrintLast Go.Proofs.YtbahpfmfjeafnaaW.PrintMore
set_option linter.unusedVariables false
theorem PortmapScriptWalk (a0 : Int) (a1 : Option Addr) (len1 cap1 : Nat) (z1 : List S47) (w : World) (w0 : (Lit.int .i8 a0).wf = true)
    (w1 : Kd.C k47 w a1 z1.length z1) (zl1 : z1.length = len1) (zc1 : len1 ≤ cap1) (zok1 : ∀ y ∈ z1, (0 ≤ y.f0 ∧ y.f0 < 256) ∧ (0 ≤ y.f1 ∧ y.f1 < 256) ∧ (0 ≤ y.f2 ∧ y.f2 < 256) ∧ (0 ≤ y.f3 ∧ y.f3 < 256)) (y1 : len1 * 4 ≤ 140737488351232) :
    Calls Try.prog 7 #[.int .i8 a0, .slice a1 len1 cap1] w fun e w' => e = .returned (.bool true) ∧ Below w.heap.size w w' := by
  subst zl1
  refine script_walk a0 z1 a1 cap1 w ?_ w1 zok1 y1
  simp [Lit.wf, IntKind.min, IntKind.max, IntKind.signed, IntKind.bits] at w0
  omega
end Go.Proofs.Ytbahpfmfjeafnaa.Pure
