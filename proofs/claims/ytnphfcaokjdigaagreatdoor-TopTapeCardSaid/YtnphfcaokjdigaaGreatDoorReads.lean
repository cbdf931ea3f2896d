/- How a capability comes in, what the row's condition says of errors.errorType, and the walk as the row calls it. -/
import Derived.Test.YtnphfcaokjdigaaGreatDoorK6
import Derived.Test.YtnphfcaokjdigaaGreatDoorRows
import Derived.Lib.SmallJoins
import Derived.ProofKit
import Derived.RowKitTokens
import Derived.LaidLaws
import Derived.LaidHandle
import Derived.Handed
import Derived.ChangeSame
import Derived.ChangeVars
import Derived.JoinedOf
import Derived.RowKit
import Derived.Stop.Joined
import Derived.ChangeSlices
set_option linter.unusedVariables false
set_option linter.unusedSimpArgs false
/- How a capability that comes in is read; what the row's condition says of errors.errorType. -/
namespace Go.Proofs.YtnphfcaokjdigaaGreatDoor.opens
open Go.ChangeShapes Go.WideShapes Go.ChangeAt Go.RowKit Go.Joins
theorem cells39 : Tryz.prog.cellsOf 39 = 4 := by kernel_rfl
set_option maxRecDepth 100000 in
theorem open_cap {H : Type} {enc : TypeId × Value → H} {W : World} {r : Reach} {b0 base : Nat} {spare : Nat → Bool} {held : Bool} {v : Value} {d : DataW H} {p : List MemPlace}
    (hv : Value.okWide Tryz.prog W r b0 39 v) (h : DataW.Trod enc Tryz.prog W base spare held 39 v d p) :
    ∃ p o r c : Int, v = .agg #[.int .u64 p, .int .u32 o, .int .u8 r, .int .u64 c] := by
  obtain ⟨c0, c1, c2, c3, y0, y1, y2, y3, m, rfl, _, _, hy0, hy1, hy2, hy3⟩ := open_agg4 Tryz.underlying39 (by kernel_rfl) cells39 hv h
  obtain ⟨a0, e0, _, w0⟩ := DataW.trod_int Tryz.underlying36 hy0
  obtain ⟨a1, e1, _, w1⟩ := DataW.trod_int Tryz.underlying37 hy1
  obtain ⟨a2, e2, _, w2⟩ := DataW.trod_int Tryz.underlying5 hy2
  obtain ⟨a3, e3, _, w3⟩ := DataW.trod_int Tryz.underlying36 hy3
  simp at e0 e1 e2 e3
  subst e0 e1 e2 e3
  exact ⟨a0, a1, a2, a3, rfl⟩
theorem et : Tryz.prog.globalNamed "errors.errorType" = some 0 := by kernel_rfl
theorem rt : (Tryz.prog.cutTypes.find? (·.1 == "internal/reflectlite.rtype")).map (·.2) = some 246 := by kernel_rfl
theorem size : Tryz.prog.types.size = 357 := by kernel_rfl
theorem oneRow : ((List.range 357).filter fun t => Tryz.prog.rowNamed t [101, 114, 114, 111, 114]) = [26] := by kernel_rfl
abbrev laid {H : Type} : List (String × DataW H) := [("errors.errorType", Rows.laid_errors_errorType)]
theorem handle_of_laid {W : World} (h : laidMetH Tryz.prog laid W) : W.cell? ⟨0, 0, none⟩ = some PA.handle := by
  have h' : laidMet Tryz.prog [] W ∧ handlesMet Tryz.prog laid W := h
  obtain ⟨name, u, ty, e1, e2, e3, e4, e5⟩ := h'.2 _ (List.mem_singleton.2 rfl)
  have en : name = [101, 114, 114, 111, 114] := (Option.some.inj e1).symm
  subst en
  obtain rfl := Option.some.inj (rt.symm.trans e2)
  have hm : ty ∈ (List.range 357).filter fun t => Tryz.prog.rowNamed t [101, 114, 114, 111, 114] := List.mem_filter.2 ⟨List.mem_range.2 (by rw [← size]; exact e3), e4⟩
  rw [oneRow] at hm
  obtain rfl := List.mem_singleton.1 hm
  have hh : typeHandle Tryz.prog 26 = .pointer (some ⟨1, 26, none⟩) := by kernel_rfl
  rw [hh] at e5
  simpa using World.var?_cell et e5 0
/-- A world that meets the condition: the settled one, the variable's cell laid. -/
noncomputable def laidWorld (os : Os) : World :=
  let w0 := World.holding Tryz.prog os ⟨#[], #[], []⟩
  { w0 with heap := w0.heap.modify 0 fun
      | .cells _ t frozen => .cells #[.iface 246 (.agg #[.pointer (some ⟨1, 26, none⟩)])] t frozen
      | o => o }
theorem laidWorld_met (os : Os) (args : Array Value) : laidMetH Tryz.prog laid ((laidWorld os).forCall (fun _ _ => 0) ⟨#[], args, []⟩).memory :=
  laidMetH_of_parts (laidMet_nil _ _) (by kernel_rfl)
end Go.Proofs.YtnphfcaokjdigaaGreatDoor.opens
/- TopTape: the walk, as its row calls it. -/
namespace Go.Proofs.YtnphfcaokjdigaaGreatDoor.Pure
open Go Go.RowKit Go.Proofs.YtnphfcaokjdigaaGreatDoor.PA Go.Proofs.YtnphfcaokjdigaaGreatDoorW.PrintWords Go.Proofs.YtnphfcaokjdigaaGreatDoorW.PrintLast Go.Proofs.YtnphfcaokjdigaaGreatDoorW.PrintMore
set_option linter.unusedVariables false
theorem TopTapeWalk (a0 : Option Addr) (len0 cap0 : Nat) (z0 : List Int) (p o r ck need : Int) (w : World)
    (w0 : (a0 = none ∧ len0 = 0 ∧ cap0 = 0 ∧ z0 = []) ∨ ∃ x, a0 = some x ∧ len0 ≤ cap0 ∧ cap0 ≤ maxLen ∧ z0.length = cap0 ∧ (∀ i, i < z0.length → w.cell? (x.add i) = some (.int .u64 (z0.getD i 0))) ∧ ∀ n ∈ z0, (Lit.int .u64 n).wf = true)
    (y0 : len0 * 8 ≤ 140737488351232) (hg : w.cell? ⟨0, 0, none⟩ = some handle) :
    Calls Tryz.prog 5 #[.slice a0 len0 cap0, .agg #[.int .u64 p, .int .u32 o, .int .u8 r, .int .u64 ck], .int .u8 need] w fun e w' => e = .returned (.bool true) ∧ Below w.heap.size w w' := by
  obtain ⟨l1, rfl, hr1, hm1, hw1, hc1⟩ := ReadsInt.ofRowC w0
  exact top_calls w a0 cap0 l1 p o r ck need (Kd.C_of_reads (d := (0 : Int)) (h1 := fun _ => rfl) hr1) y0 hg
end Go.Proofs.YtnphfcaokjdigaaGreatDoor.Pure
