/- How a slice of structs that comes in is read: its elements' numbers, each within its kind; and its size. -/
import Derived.Test.YtbahpfmfjeafnaaRows
import Derived.Test.YtbahpfmfjeafnaaH7a
import Derived.Lib.SmallJoins
import Derived.Deep.Slices
import Derived.ProofKit
import Derived.SizedLaws
namespace Go.Proofs.Ytbahpfmfjeafnaa.opens
open Go.ChangeShapes Go.WideShapes Go.ChangeAt Go.RowKit Go.Joins Go.Deep Go.Proofs.Ytbahpfmfjeafnaa.PA Go.Proofs.YtbahpfmfjeafnaaW.PrintWords
theorem cellsE47 : Try.prog.cellsOf 47 = 4 := by kernel_rfl
theorem bytesE47 : Try.prog.bytesOf 47 = 4 := by kernel_rfl
instance : Inhabited S47 := ⟨z47⟩
theorem open_S47 {H : Type} {enc : TypeId × Value → H} {W : World} {base : Nat} {spare : Nat → Bool} {held : Bool} {a : Option Addr} {len cap : Nat} {d : DataW H} {p : List MemPlace}
    (h : DataW.Trod enc Try.prog W base spare held 40 (.slice a len cap) d p) :
    ∃ z : List S47, Kd.C k47 W a z.length z ∧ z.length = len ∧ len ≤ cap ∧ ∀ y ∈ z, (0 ≤ y.f0 ∧ y.f0 < 256) ∧ (0 ≤ y.f1 ∧ y.f1 < 256) ∧ (0 ≤ y.f2 ∧ y.f2 < 256) ∧ (0 ≤ y.f3 ∧ y.f3 < 256) := by
  obtain ⟨fuel, hf⟩ := h
  rcases open_slice Try.underlying40 hf with ⟨hcs, _⟩ | ⟨x, l, c, m, n, D, Pl, hcs, _, hl, hm, hmm, _, hi⟩
  · simp [Value.cells] at hcs
    obtain ⟨rfl, rfl, rfl⟩ := hcs
    exact ⟨[], Kd.C_nil _ _, rfl, Nat.le_refl _, fun x hx => by simp at hx⟩
  · simp [Value.cells] at hcs
    obtain ⟨rfl, rfl, rfl⟩ := hcs
    have hlm : len ≤ m := by
      rw [hmm]
      split
      · exact hl
      · exact Nat.le_refl _
    have each : ∀ i, i < len → ∃ y : S47, ((0 ≤ y.f0 ∧ y.f0 < 256) ∧ (0 ≤ y.f1 ∧ y.f1 < 256) ∧ (0 ≤ y.f2 ∧ y.f2 < 256) ∧ (0 ≤ y.f3 ∧ y.f3 < 256)) ∧ ∀ j u, [(Value.int .u8 y.f0), (Value.int .u8 y.f1), (Value.int .u8 y.f2), (Value.int .u8 y.f3)][j]? = some u → W.cell? (x.add (i * 4 + j)) = some u := by
      intro i hil
      obtain ⟨cs', hc, ht⟩ := hi i (by omega)
      rw [cellsE47] at hc
      obtain ⟨_, hcl, hat⟩ := World.cells?_some hc
      obtain ⟨y0, y1, y2, y3, n', _, _, h0, h1, h2, h3⟩ := trod_struct4 Try.underlying47 ht
      match cs', hcl with
      | [u0, u1, u2, u3], _ =>
        have kc5 : Try.prog.cellsOf 5 = 1 := by kernel_rfl
        simp only [kc5, List.drop_zero, List.drop_succ_cons, List.take_succ_cons, List.take_zero] at h0 h1 h2 h3
        obtain ⟨a0, e0, _, w0⟩ := DataW.trod_int Try.underlying5 h0
        obtain ⟨a1, e1, _, w1⟩ := DataW.trod_int Try.underlying5 h1
        obtain ⟨a2, e2, _, w2⟩ := DataW.trod_int Try.underlying5 h2
        obtain ⟨a3, e3, _, w3⟩ := DataW.trod_int Try.underlying5 h3
        simp at e0 e1 e2 e3
        subst e0 e1 e2 e3
        have g0 : (0 ≤ a0 ∧ a0 < 256) := by
          simp [Lit.wf, IntKind.min, IntKind.max, IntKind.signed, IntKind.bits] at w0
          omega
        have g1 : (0 ≤ a1 ∧ a1 < 256) := by
          simp [Lit.wf, IntKind.min, IntKind.max, IntKind.signed, IntKind.bits] at w1
          omega
        have g2 : (0 ≤ a2 ∧ a2 < 256) := by
          simp [Lit.wf, IntKind.min, IntKind.max, IntKind.signed, IntKind.bits] at w2
          omega
        have g3 : (0 ≤ a3 ∧ a3 < 256) := by
          simp [Lit.wf, IntKind.min, IntKind.max, IntKind.signed, IntKind.bits] at w3
          omega
        refine ⟨⟨a0, a1, a2, a3⟩, ⟨g0, g1, g2, g3⟩, fun j u hj => ?_⟩
        have hjn : j < 4 := by
          obtain ⟨hh, _⟩ := List.getElem?_eq_some_iff.1 hj
          simpa using hh
        rw [← Go.Deep.add_add, hat j hjn]
        exact hj
    obtain ⟨f, hfn⟩ := choose_lt each
    refine ⟨(List.range len).map f, ⟨rfl, ?_, fun _ => ⟨x, rfl, fun j y hj => ?_⟩⟩, by simp, hl, fun y hy => ?_⟩
    · have := hm
      unfold maxLen at this
      simp
      omega
    · obtain ⟨hjl, hjy⟩ := List.getElem?_eq_some_iff.1 hj
      simp only [List.length_map, List.length_range] at hjl
      simp only [List.getElem_map, List.getElem_range] at hjy
      subst hjy
      exact ⟨_, rfl, k47_mk W (f j), (hfn j hjl).2⟩
    · simp only [List.mem_map, List.mem_range] at hy
      obtain ⟨i, hil, rfl⟩ := hy
      exact (hfn i hil).1
theorem size_S47 {H : Type} {enc : TypeId × Value → H} {W : World} {base : Nat} {spare : Nat → Bool} {held : Bool} {a : Option Addr} {len cap : Nat} {d : DataW H} {p : List MemPlace} {ts : List TypeId} {ds : List (DataW H)} {j : Nat}
    (hsz : (DataW.weightsEach Try.prog ts ds).all (· ≤ reachBytes) = true) (ht : ts[j]? = some 40) (hd : ds[j]? = some d)
    (h : DataW.Trod enc Try.prog W base spare held 40 (.slice a len cap) d p) : len * 4 ≤ 140737488351232 := by
  obtain ⟨fuel, hf⟩ := h
  rcases open_slice Try.underlying40 hf with ⟨hcs, _⟩ | ⟨x, l, c, m, n, D, Pl, hcs, _, hl, hm, hmm, hx, hi⟩
  · simp [Value.cells] at hcs
    obtain ⟨rfl, rfl, rfl⟩ := hcs
    simp
  · simp [Value.cells] at hcs
    obtain ⟨rfl, rfl, rfl⟩ := hcs
    obtain ⟨hx, _⟩ := Prod.mk.inj hx
    subst hx
    have z := sized_slice hsz ht hd Try.underlying40
    rw [bytesE47] at z
    simp only [List.length_map, List.length_range] at z
    exact Nat.le_trans (Nat.mul_le_mul_right _ (Nat.le_add_right _ _)) z
end Go.Proofs.Ytbahpfmfjeafnaa.opens
