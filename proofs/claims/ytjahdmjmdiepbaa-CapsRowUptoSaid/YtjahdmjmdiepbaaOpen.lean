/- How a capability that comes in is read: its four numbers, each within its kind. -/
import Derived.Test.YtjahdmjmdiepbaaM2
import Derived.Test.YtjahdmjmdiepbaaRows
import Derived.Lib.SmallJoins
import Derived.ProofKit
namespace Go.Proofs.Ytjahdmjmdiepbaa.opens
open Go.ChangeShapes Go.WideShapes Go.ChangeAt Go.RowKit Go.Joins
theorem cells25 : Try.prog.cellsOf 25 = 4 := by kernel_rfl
theorem open_cap {H : Type} {enc : TypeId × Value → H} {W : World} {r : Reach} {b0 base : Nat} {spare : Nat → Bool} {held : Bool} {v : Value} {d : DataW H} {p : List MemPlace}
    (hv : Value.okWide Try.prog W r b0 25 v) (h : DataW.Trod enc Try.prog W base spare held 25 v d p) :
    ∃ p o r c : Int, v = .agg #[.int .u64 p, .int .u32 o, .int .u8 r, .int .u64 c] ∧ M.CapOk p o r c := by
  obtain ⟨c0, c1, c2, c3, y0, y1, y2, y3, m, rfl, _, _, hy0, hy1, hy2, hy3⟩ := open_agg4 Try.underlying25 (by kernel_rfl) cells25 hv h
  obtain ⟨a0, e0, _, w0⟩ := DataW.trod_int Try.underlying22 hy0
  obtain ⟨a1, e1, _, w1⟩ := DataW.trod_int Try.underlying23 hy1
  obtain ⟨a2, e2, _, w2⟩ := DataW.trod_int Try.underlying5 hy2
  obtain ⟨a3, e3, _, w3⟩ := DataW.trod_int Try.underlying22 hy3
  simp at e0 e1 e2 e3
  subst e0 e1 e2 e3
  have g0 := M.u64_of_wf w0
  have g2 := M.u8_of_wf w2
  have g3 := M.u64_of_wf w3
  have g1 : 0 ≤ a1 ∧ a1 < 4294967296 := by
    simp [Lit.wf, IntKind.min, IntKind.max, IntKind.signed, IntKind.bits] at w1
    omega
  exact ⟨a0, a1, a2, a3, rfl, ⟨g0.1, g0.2, g1.1, g1.2, g2.1, g2.2, g3.1, g3.2⟩⟩
end Go.Proofs.Ytjahdmjmdiepbaa.opens
