/- errors.Is at the kernel's own errors: their numbers are held against each other. -/
import Derived.Test.YtekcpffcgiahfaaF0
import Derived.LaidEql
import Derived.Stop.Asserts
import Derived.RowKitTokens
namespace Go.Proofs.Ytekcpffcgiahfaa.PA
open Go.RowKit Go.Extern.Stop Go.Stop Go.Extern
set_option linter.unusedVariables false
set_option linter.unusedSimpArgs false
theorem isComp : (Try.prog.info? 49).map (·.comparable) = some true := by kernel_rfl
theorem isTypeOf (v : Value) (w : World) : (Extern.ReflectliteType.typeOf #[.iface 49 v]).run Try.prog w = .ok (.iface 63 (.agg #[.pointer (some ⟨0, 49, none⟩)])) w := by kernel_rfl
theorem isComparable (w : World) : ((Extern.ReflectliteType.method fun t => do Rtype.noPackHeld "Comparable" t; (fun a => Value.bool a.comparable) <$> typeInfo t) #[.agg #[.pointer (some ⟨0, 49, none⟩)]]).run Try.prog w = .ok (.bool true) w := by kernel_rfl
theorem isMethodComparable (v : Value) (w : World) : (Go.method 206 63 v "Comparable").run Try.prog w = .ok (42, v) w := by kernel_rfl
theorem eql_errno (n : Int) (w : World) : (binOp .eql 34 (.iface 49 (.int .i64 n)) (.iface 49 (.int .i64 n))).run Try.prog w = .ok (.bool true) w := by
  obtain ⟨i, hi, hcmp⟩ := Option.map_eq_some_iff.1 isComp
  have h : ∀ d : Nat, (Op.equalIn (d + 2) 34 (.iface 49 (.int .i64 n)) (.iface 49 (.int .i64 n))).run Try.prog w = .ok true w := fun d => by
    simp [Op.equalIn, run_underlying Try.underlying34, run_underlying Try.underlying49, typeInfo, hi, hcmp]
  simp only [binOp]
  simp [Op.equal, Op.maxDepth, h 9998]
theorem is_nil (w : World) (n : Int) :
    Calls Try.prog 16 #[.nilIface, .iface 49 (.int .i64 n)] w fun e w' => e = .returned (.bool false) ∧ w' = w := by
  have hn := run_eql_iface_nil_left (P := Try.prog) w 49 (.int .i64 n) Try.underlying34
  go_enter Try.func16, Try.ntmps16
  go_wp2
  go_ret
  exact ⟨rfl, rfl⟩
theorem is_same (w : World) (n : Int) :
    Calls Try.prog 16 #[.iface 49 (.int .i64 n), .iface 49 (.int .i64 n)] w fun e w' => e = .returned (.bool true) ∧ w' = w := by
  have h8 := @run_callFunc_extern Try.prog 20 _ Extern.ReflectliteType.typeOf Try.func20 (by kernel_rfl) (by kernel_rfl) (by kernel_rfl) (by kernel_rfl)
  have h32 := @run_callFunc_extern Try.prog 42 _ (Extern.ReflectliteType.method fun t => do Rtype.noPackHeld "Comparable" t; pure (.bool (← typeInfo t).comparable)) Try.func42 (by kernel_rfl) (by kernel_rfl) (by kernel_rfl) (by kernel_rfl)
  have tT := isTypeOf
  have cT := isComparable
  have mR := isMethodComparable
  have heq := eql_errno n
  go_enter Try.func16, Try.ntmps16
  go_wp2
  refine wp_loop_rounds 1 ?_
  rw [rounds_succ]
  go_wp2
  go_ret
  exact ⟨rfl, rfl⟩
end Go.Proofs.Ytekcpffcgiahfaa.PA
