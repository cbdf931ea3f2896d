/- TapeOwn: the walk, as its row calls it. -/
import Derived.Test.YtlpjkbfnbefjdaaH9
namespace Go.Proofs.Ytlpjkbfnbefjdaa.Pure
open Go Go.RowKit Go.Proofs.Ytlpjkbfnbefjdaa.PA Go.Proofs.YtlpjkbfnbefjdaaW.PrintWords Go.Proofs.YtlpjkbfnbefjdaaW.PrintLast Go.Proofs.YtlpjkbfnbefjdaaW.PrintMore
set_option linter.unusedVariables false
theorem u8_range {a : Int} (h : (Lit.int .u8 a).wf = true) : 0 ≤ a ∧ a < 256 := by
  simp [Lit.wf, IntKind.min, IntKind.max, IntKind.signed, IntKind.bits] at h
  omega
theorem u64_range {a : Int} (h : (Lit.int .u64 a).wf = true) : 0 ≤ a ∧ a < 18446744073709551616 := by
  simp [Lit.wf, IntKind.min, IntKind.max, IntKind.signed, IntKind.bits] at h
  omega
theorem TapeOwnWalk (a0 : Option Addr) (len0 cap0 : Nat) (z0 : List Int)  (w : World)
    (w0 : (a0 = none ∧ len0 = 0 ∧ cap0 = 0 ∧ z0 = []) ∨ ∃ x, a0 = some x ∧ len0 ≤ cap0 ∧ cap0 ≤ maxLen ∧ z0.length = cap0 ∧ (∀ i, i < z0.length → w.cell? (x.add i) = some (.int .u64 (z0.getD i 0))) ∧ ∀ n ∈ z0, (Lit.int .u64 n).wf = true)
    (y0 : len0 * 8 ≤ 140737488351232)  :
    Calls Try.prog 4 #[.slice a0 len0 cap0] w fun e w' => e = .returned (.bool true) ∧ Below w.heap.size w w' := by
  obtain ⟨l1, rfl, hr1, hm1, hw1, hc1⟩ := ReadsInt.ofRowC w0
  exact own_walk l1 a0 cap0 w (Kd.C_of_reads (d := (0 : Int)) (h1 := fun _ => rfl) hr1) y0 (fun n hn => u64_range (hw1 n hn))
end Go.Proofs.Ytlpjkbfnbefjdaa.Pure
