/- PortmapNew: the walk, as its row calls it. -/
import Derived.Test.YtbahpfmfjeafnaaH4
namespace Go.Proofs.Ytbahpfmfjeafnaa.Pure
open Go Go.RowKit Go.Proofs.Ytbahpfmfjeafnaa.PA Go.Proofs.YtbahpfmfjeafnaaW.PrintWords Go.Proofs.YtbahpfmfjeafnaaW.PrintLast Go.Proofs.YtbahpfmfjeafnaaW.PrintMore
set_option linter.unusedVariables false
theorem PortmapNewWalk (p : Int) (a1 : Option Addr) (len1 cap1 : Nat) (z1 : List Int) (w : World) (wf : (Lit.int .u64 p).wf = true)
    (w1 : (a1 = none ∧ len1 = 0 ∧ cap1 = 0 ∧ z1 = []) ∨ ∃ x, a1 = some x ∧ len1 ≤ cap1 ∧ cap1 ≤ maxLen ∧ z1.length = cap1 ∧ (∀ i, i < z1.length → w.cell? (x.add i) = some (.int .i64 (z1.getD i 0))) ∧ ∀ n ∈ z1, (Lit.int .i64 n).wf = true) :
    Calls Try.prog 4 #[.int .u64 p, .slice a1 len1 cap1] w fun e w' => e = .returned (.bool true) ∧ Below w.heap.size w w' := by
  obtain ⟨l1, rfl, hr1, hm1, hw1, hc1⟩ := ReadsInt.ofRowC w1
  exact new_walk p l1 a1 cap1 w (Kd.C_of_reads (d := (0 : Int)) (h1 := fun _ => rfl) hr1)
end Go.Proofs.Ytbahpfmfjeafnaa.Pure
