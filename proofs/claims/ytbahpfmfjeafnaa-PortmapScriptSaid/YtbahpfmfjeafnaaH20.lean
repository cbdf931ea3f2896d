/- What the closures of Forget and Gone answer: is the place another port's, another node's. -/
import Derived.Test.YtbahpfmfjeafnaaF0
namespace Go.Proofs.Ytbahpfmfjeafnaa.PA
open Go.RowKit Go.Proofs.YtbahpfmfjeafnaaW.PrintWords Go.Proofs.YtbahpfmfjeafnaaW.PrintLast Go.Proofs.YtbahpfmfjeafnaaW.PrintMore
set_option linter.unusedVariables false
set_option linter.unusedSimpArgs false
/-- a place as a value -/
def vPl (x : S53) : Value := .agg #[.int .u64 x.f0, .int .i64 x.f1, .int .i64 x.f2]
theorem forget1 (x : S53) (port : Int) (B : Nat) (w : World) (hc : w.cell? ⟨B, 0, none⟩ = some (.int .u64 port)) (hB : B < w.heap.size) :
    Calls Try.prog 20 #[vPl x, .pointer (some ⟨B, 0, none⟩)] w fun e w' => e = .returned (.bool (x.f0 != port)) ∧ Below w.heap.size w w' := by
  unfold vPl
  go_enter Try.func20, Try.ntmps20
  go_wp2
  go_ret
  exact ⟨rfl, (Below.refl _ _).alloc (Nat.le_refl _) _⟩
theorem gone1 (x : S53) (node : Int) (B : Nat) (w : World) (hc : w.cell? ⟨B, 0, none⟩ = some (.int .i64 node)) (hB : B < w.heap.size) :
    Calls Try.prog 21 #[vPl x, .pointer (some ⟨B, 0, none⟩)] w fun e w' => e = .returned (.bool (x.f1 != node)) ∧ Below w.heap.size w w' := by
  unfold vPl
  go_enter Try.func21, Try.ntmps21
  go_wp2
  go_ret
  exact ⟨rfl, (Below.refl _ _).alloc (Nat.le_refl _) _⟩
end Go.Proofs.Ytbahpfmfjeafnaa.PA
