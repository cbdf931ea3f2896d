/- How a slice of capabilities that comes in is read: its elements' numbers, each within its kind; and its length against its bulk. -/
import Derived.Test.YtjahdmjmdiepbaaOpen
import Derived.Test.YtjahdmjmdiepbaaBulk
import Derived.Test.YtjahdmjmdiepbaaF0
import Derived.Deep.Slices
namespace Go.Proofs.Ytjahdmjmdiepbaa.opens
open Go.ChangeShapes Go.WideShapes Go.ChangeAt Go.RowKit Go.Joins Go.Deep Go.Proofs.Ytjahdmjmdiepbaa.PA Go.Proofs.YtjahdmjmdiepbaaW.PrintWords
def AllOk (z : List S25) : Prop := ∀ x ∈ z, M.CapOk x.f0 x.f1 x.f2 x.f3
instance : Inhabited S25 := ⟨z25⟩
theorem open_caps {H : Type} {enc : TypeId × Value → H} {W : World} {base : Nat} {spare : Nat → Bool} {held : Bool} {a : Option Addr} {len cap : Nat} {d : DataW H} {p : List MemPlace}
    (h : DataW.Trod enc Try.prog W base spare held 36 (.slice a len cap) d p) :
    ∃ z : List S25, Kd.C k25 W a z.length z ∧ z.length = len ∧ len ≤ cap ∧ AllOk z := by
  obtain ⟨fuel, hf⟩ := h
  rcases open_slice Try.underlying36 hf with ⟨hcs, _⟩ | ⟨x, l, c, m, n, D, Pl, hcs, _, hl, hm, hmm, _, hi⟩
  · simp [Value.cells] at hcs
    obtain ⟨rfl, rfl, rfl⟩ := hcs
    exact ⟨[], Kd.C_nil _ _, rfl, Nat.le_refl _, fun x hx => by simp at hx⟩
  · simp [Value.cells] at hcs
    obtain ⟨rfl, rfl, rfl⟩ := hcs
    have hlm : len ≤ m := by
      rw [hmm]
      split
      · exact hl
      · exact Nat.le_refl _
    have each : ∀ i, i < len → ∃ y : S25, M.CapOk y.f0 y.f1 y.f2 y.f3 ∧ ∀ j u, [Value.int .u64 y.f0, .int .u32 y.f1, .int .u8 y.f2, .int .u64 y.f3][j]? = some u → W.cell? (x.add (i * 4 + j)) = some u := by
      intro i hil
      obtain ⟨cs', hc, ht⟩ := hi i (by omega)
      rw [cells25] at hc
      obtain ⟨_, hcl, hat⟩ := World.cells?_some hc
      obtain ⟨y0, y1, y2, y3, n', _, _, h0, h1, h2, h3⟩ := trod_struct4 Try.underlying25 ht
      match cs', hcl with
      | [u0, u1, u2, u3], _ =>
        have k22 : Try.prog.cellsOf 22 = 1 := by kernel_rfl
        have k23 : Try.prog.cellsOf 23 = 1 := by kernel_rfl
        have k5 : Try.prog.cellsOf 5 = 1 := by kernel_rfl
        simp only [k22, k23, k5, List.drop_zero, List.drop_succ_cons, List.take_succ_cons, List.take_zero] at h0 h1 h2 h3
        obtain ⟨a0, e0, _, w0⟩ := DataW.trod_int Try.underlying22 h0
        obtain ⟨a1, e1, _, w1⟩ := DataW.trod_int Try.underlying23 h1
        obtain ⟨a2, e2, _, w2⟩ := DataW.trod_int Try.underlying5 h2
        obtain ⟨a3, e3, _, w3⟩ := DataW.trod_int Try.underlying22 h3
        simp at e0 e1 e2 e3
        subst e0 e1 e2 e3
        have g0 := M.u64_of_wf w0
        have g2 := M.u8_of_wf w2
        have g3 := M.u64_of_wf w3
        have g1 : 0 ≤ a1 ∧ a1 < 4294967296 := by
          simp [Lit.wf, IntKind.min, IntKind.max, IntKind.signed, IntKind.bits] at w1
          omega
        refine ⟨⟨a0, a1, a2, a3⟩, ⟨g0.1, g0.2, g1.1, g1.2, g2.1, g2.2, g3.1, g3.2⟩, fun j u hj => ?_⟩
        have hj4 : j < 4 := by
          obtain ⟨hh, _⟩ := List.getElem?_eq_some_iff.1 hj
          simpa using hh
        rw [← Go.Deep.add_add, hat j hj4]
        exact hj
    obtain ⟨f, hfn⟩ := choose_lt each
    refine ⟨(List.range len).map f, ⟨rfl, ?_, fun _ => ⟨x, rfl, fun j y hj => ?_⟩⟩, by simp, hl, fun y hy => ?_⟩
    · have := hm
      unfold maxLen at this
      simp
      omega
    · obtain ⟨hjl, hjy⟩ := List.getElem?_eq_some_iff.1 hj
      simp only [List.length_map, List.length_range] at hjl
      simp only [List.getElem_map, List.getElem_range] at hjy
      subst hjy
      exact ⟨_, rfl, k25_mk W (f j), (hfn j hjl).2⟩
    · simp only [List.mem_map, List.mem_range] at hy
      obtain ⟨i, hil, rfl⟩ := hy
      exact (hfn i hil).1
theorem caps_bulk {H : Type} {enc : TypeId × Value → H} {W : World} {base : Nat} {spare : Nat → Bool} {held : Bool} {a : Option Addr} {len cap : Nat} {d : DataW H} {p : List MemPlace}
    (h : DataW.Trod enc Try.prog W base spare held 36 (.slice a len cap) d p) : len ≤ Rows.uptoBulk d := by
  obtain ⟨fuel, hf⟩ := h
  rcases open_slice Try.underlying36 hf with ⟨hcs, _⟩ | ⟨x, l, c, m, n, D, Pl, hcs, _, hl, hm, hmm, hx, hi⟩
  · simp [Value.cells] at hcs
    obtain ⟨rfl, rfl, rfl⟩ := hcs
    omega
  · simp [Value.cells] at hcs
    obtain ⟨rfl, rfl, rfl⟩ := hcs
    obtain ⟨hx, _⟩ := Prod.mk.inj hx
    subst hx
    have := bulks.slice_le ((List.range len).map D) ((List.range (m - len)).map fun j => D (len + j))
    simp only [List.length_map, List.length_range] at this
    omega
end Go.Proofs.Ytjahdmjmdiepbaa.opens
