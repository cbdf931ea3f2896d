/- How a slice of structs that comes in is read: its elements' numbers, each within its kind; and its size. -/
import Derived.Test.YtekcpffcgiahfaaRows
import Derived.Test.YtekcpffcgiahfaaH9
import Derived.Lib.SmallJoins
import Derived.Deep.Slices
import Derived.ProofKit
import Derived.SizedLaws
namespace Go.Proofs.Ytekcpffcgiahfaa.opens
open Go.ChangeShapes Go.WideShapes Go.ChangeAt Go.RowKit Go.Joins Go.Deep Go.Proofs.Ytekcpffcgiahfaa.PA Go.Proofs.YtekcpffcgiahfaaW.PrintWords
theorem cellsE32 : Try.prog.cellsOf 32 = 2 := by kernel_rfl
theorem bytesE32 : Try.prog.bytesOf 32 = 16 := by kernel_rfl
instance : Inhabited S32 := ⟨z32⟩
theorem open_S32 {H : Type} {enc : TypeId × Value → H} {W : World} {base : Nat} {spare : Nat → Bool} {held : Bool} {a : Option Addr} {len cap : Nat} {d : DataW H} {p : List MemPlace}
    (h : DataW.Trod enc Try.prog W base spare held 23 (.slice a len cap) d p) :
    ∃ z : List S32, Kd.C k32 W a z.length z ∧ z.length = len ∧ len ≤ cap ∧ ∀ y ∈ z, (0 ≤ y.f0 ∧ y.f0 < 256) ∧ (0 ≤ y.f1 ∧ y.f1 < 18446744073709551616) := by
  obtain ⟨fuel, hf⟩ := h
  rcases open_slice Try.underlying23 hf with ⟨hcs, _⟩ | ⟨x, l, c, m, n, D, Pl, hcs, _, hl, hm, hmm, _, hi⟩
  · simp [Value.cells] at hcs
    obtain ⟨rfl, rfl, rfl⟩ := hcs
    exact ⟨[], Kd.C_nil _ _, rfl, Nat.le_refl _, fun x hx => by simp at hx⟩
  · simp [Value.cells] at hcs
    obtain ⟨rfl, rfl, rfl⟩ := hcs
    have hlm : len ≤ m := by
      rw [hmm]
      split
      · exact hl
      · exact Nat.le_refl _
    have each : ∀ i, i < len → ∃ y : S32, ((0 ≤ y.f0 ∧ y.f0 < 256) ∧ (0 ≤ y.f1 ∧ y.f1 < 18446744073709551616)) ∧ ∀ j u, [(Value.int .u8 y.f0), (Value.int .u64 y.f1)][j]? = some u → W.cell? (x.add (i * 2 + j)) = some u := by
      intro i hil
      obtain ⟨cs', hc, ht⟩ := hi i (by omega)
      rw [cellsE32] at hc
      obtain ⟨_, hcl, hat⟩ := World.cells?_some hc
      obtain ⟨y0, y1, n', _, _, h0, h1⟩ := trod_struct2 Try.underlying32 ht
      match cs', hcl with
      | [u0, u1], _ =>
        have kc5 : Try.prog.cellsOf 5 = 1 := by kernel_rfl
        have kc30 : Try.prog.cellsOf 30 = 1 := by kernel_rfl
        simp only [kc5, kc30, List.drop_zero, List.drop_succ_cons, List.take_succ_cons, List.take_zero] at h0 h1
        obtain ⟨a0, e0, _, w0⟩ := DataW.trod_int Try.underlying5 h0
        obtain ⟨a1, e1, _, w1⟩ := DataW.trod_int Try.underlying30 h1
        simp at e0 e1
        subst e0 e1
        have g0 : (0 ≤ a0 ∧ a0 < 256) := by
          simp [Lit.wf, IntKind.min, IntKind.max, IntKind.signed, IntKind.bits] at w0
          omega
        have g1 : (0 ≤ a1 ∧ a1 < 18446744073709551616) := by
          simp [Lit.wf, IntKind.min, IntKind.max, IntKind.signed, IntKind.bits] at w1
          omega
        refine ⟨⟨a0, a1⟩, ⟨g0, g1⟩, fun j u hj => ?_⟩
        have hjn : j < 2 := by
          obtain ⟨hh, _⟩ := List.getElem?_eq_some_iff.1 hj
          simpa using hh
        rw [← Go.Deep.add_add, hat j hjn]
        exact hj
    obtain ⟨f, hfn⟩ := choose_lt each
    refine ⟨(List.range len).map f, ⟨rfl, ?_, fun _ => ⟨x, rfl, fun j y hj => ?_⟩⟩, by simp, hl, fun y hy => ?_⟩
    · have := hm
      unfold maxLen at this
      simp
      omega
    · obtain ⟨hjl, hjy⟩ := List.getElem?_eq_some_iff.1 hj
      simp only [List.length_map, List.length_range] at hjl
      simp only [List.getElem_map, List.getElem_range] at hjy
      subst hjy
      exact ⟨_, rfl, k32_mk W (f j), (hfn j hjl).2⟩
    · simp only [List.mem_map, List.mem_range] at hy
      obtain ⟨i, hil, rfl⟩ := hy
      exact (hfn i hil).1
theorem size_S32 {H : Type} {enc : TypeId × Value → H} {W : World} {base : Nat} {spare : Nat → Bool} {held : Bool} {a : Option Addr} {len cap : Nat} {d : DataW H} {p : List MemPlace} {ts : List TypeId} {ds : List (DataW H)} {j : Nat}
    (hsz : (DataW.weightsEach Try.prog ts ds).all (· ≤ reachBytes) = true) (ht : ts[j]? = some 23) (hd : ds[j]? = some d)
    (h : DataW.Trod enc Try.prog W base spare held 23 (.slice a len cap) d p) : len * 16 ≤ 140737488351232 := by
  obtain ⟨fuel, hf⟩ := h
  rcases open_slice Try.underlying23 hf with ⟨hcs, _⟩ | ⟨x, l, c, m, n, D, Pl, hcs, _, hl, hm, hmm, hx, hi⟩
  · simp [Value.cells] at hcs
    obtain ⟨rfl, rfl, rfl⟩ := hcs
    simp
  · simp [Value.cells] at hcs
    obtain ⟨rfl, rfl, rfl⟩ := hcs
    obtain ⟨hx, _⟩ := Prod.mk.inj hx
    subst hx
    have z := sized_slice hsz ht hd Try.underlying23
    rw [bytesE32] at z
    simp only [List.length_map, List.length_range] at z
    exact Nat.le_trans (Nat.mul_le_mul_right _ (Nat.le_add_right _ _)) z
end Go.Proofs.Ytekcpffcgiahfaa.opens
