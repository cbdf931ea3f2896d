/- OracleAsks: the walk, as its row calls it. -/
import Derived.Test.YtekcpffcgiahfaaH13
namespace Go.Proofs.Ytekcpffcgiahfaa.Pure
open Go Go.RowKit Go.Proofs.Ytekcpffcgiahfaa.PA Go.Proofs.YtekcpffcgiahfaaW.PrintWords Go.Proofs.YtekcpffcgiahfaaW.PrintLast Go.Proofs.YtekcpffcgiahfaaW.PrintMore
set_option linter.unusedVariables false
theorem OracleAsksWalk (a0 : Option Addr) (len0 cap0 : Nat) (z0 : List Int) (a1 : Option Addr) (len1 cap1 : Nat) (z1 : List S32) (w : World)
    (w0 : (a0 = none ∧ len0 = 0 ∧ cap0 = 0 ∧ z0 = []) ∨ ∃ x, a0 = some x ∧ len0 ≤ cap0 ∧ cap0 ≤ maxLen ∧ z0.length = cap0 ∧ (∀ i, i < z0.length → w.cell? (x.add i) = some (.int .u64 (z0.getD i 0))) ∧ ∀ n ∈ z0, (Lit.int .u64 n).wf = true)
    (y0 : len0 * 8 ≤ 140737488351232) (w1 : Kd.C k32 w a1 z1.length z1) (zl1 : z1.length = len1) (zc1 : len1 ≤ cap1) (zok1 : ∀ y ∈ z1, (0 ≤ y.f0 ∧ y.f0 < 256) ∧ (0 ≤ y.f1 ∧ y.f1 < 18446744073709551616)) (y1 : len1 * 16 ≤ 140737488351232) :
    Calls Try.prog 5 #[.slice a0 len0 cap0, .slice a1 len1 cap1] w fun e w' => e = .returned (.bool true) ∧ Below w.heap.size w w' := by
  obtain ⟨l1, rfl, hr1, hm1, hw1, hc1⟩ := ReadsInt.ofRowC w0
  subst zl1
  have hC := Kd.C_of_reads (d := (0 : Int)) (h1 := fun _ => rfl) hr1
  exact asks_walk l1 a0 cap0 z1 a1 cap1 w hC y0 w1 zok1
end Go.Proofs.Ytekcpffcgiahfaa.Pure
