/- Answers as values; an oracle as it lies in memory. -/
import Derived.Test.YtnphfcaokjdigaaGreatDoorH2
namespace Go.Proofs.YtnphfcaokjdigaaGreatDoor.PA
open Go.RowKit Go.Proofs.YtnphfcaokjdigaaGreatDoorW.PrintWords Go.Proofs.YtnphfcaokjdigaaGreatDoorW.PrintLast Go.Proofs.YtnphfcaokjdigaaGreatDoorW.PrintMore
set_option linter.unusedVariables false
set_option linter.unusedSimpArgs false
/-! #### struct type 46 -/
structure S46 where
  f0 : Int
  f1 : Int
  f2 : Int
def z46 : S46 := ⟨(0 : Int), (0 : Int), (0 : Int)⟩
def k46 : Kd S46 := Kd.iso (Kd.pair (Kd.int .i64) (Kd.pair (Kd.int .u64) (Kd.int .u64))) (fun x : S46 => (x.f0, x.f1, x.f2))
theorem k46_open {w : World} {x : S46} {cs : List Value} (h : k46.K w x cs) : cs = [.int .i64 x.f0, .int .u64 x.f1, .int .u64 x.f2] := by
  obtain ⟨_, _, rfl, rfl, ⟨_, _, rfl, rfl, rfl⟩⟩ := h
  exact rfl
theorem k46_openM {w : World} {base : Nat} {ok : Nat → Prop} {x : S46} {cs : List Value} (h : k46.M w base ok x cs) : cs = [.int .i64 x.f0, .int .u64 x.f1, .int .u64 x.f2] := by
  obtain ⟨_, _, rfl, rfl, ⟨_, _, rfl, rfl, rfl⟩⟩ := h
  exact rfl
theorem k46_mk (w : World) (x : S46) : k46.K w x [.int .i64 x.f0, .int .u64 x.f1, .int .u64 x.f2] := ⟨[.int .i64 x.f0], [.int .u64 x.f1, .int .u64 x.f2], rfl, rfl, ⟨[.int .u64 x.f1], [.int .u64 x.f2], rfl, rfl, rfl⟩⟩
theorem k46_mkM (w : World) (base : Nat) (ok : Nat → Prop) (x : S46) : k46.M w base ok x [.int .i64 x.f0, .int .u64 x.f1, .int .u64 x.f2] := ⟨[.int .i64 x.f0], [.int .u64 x.f1, .int .u64 x.f2], rfl, rfl, ⟨[.int .u64 x.f1], [.int .u64 x.f2], rfl, rfl, rfl⟩⟩
def rd_T46 (xs : List S46) (i : Int) : S46 := xs.getD i.toNat z46
theorem at_T46 {w : World} {A : Option Addr} {n : Nat} {xs : List S46} (h : Kd.C k46 w A n xs) (i : Int) (h0 : 0 ≤ i) (h1 : i < n) : ∃ ad, A = some ad ∧ w.cell? (ad.add (i.toNat * 3)) = some (.int .i64 (rd_T46 xs i).f0) ∧ w.cell? ⟨(ad.add (i.toNat * 3)).block, (ad.add (i.toNat * 3)).off + 1, none⟩ = some (.int .u64 (rd_T46 xs i).f1) ∧ w.cell? ⟨(ad.add (i.toNat * 3)).block, (ad.add (i.toNat * 3)).off + 2, none⟩ = some (.int .u64 (rd_T46 xs i).f2) := by
  obtain ⟨ad, c, e, _, hK, hc0⟩ := Kd.C_get h z46 i h0 h1
  have hc : ∀ j u, c[j]? = some u → w.cell? (ad.add (i.toNat * 3 + j)) = some u := hc0
  obtain rfl := k46_open hK
  exact ⟨ad, e, hc 0 _ rfl, by rw [← add_field _ _ 1 (by omega)]; exact hc 1 _ rfl, by rw [← add_field _ _ 2 (by omega)]; exact hc 2 _ rfl⟩
theorem info46 : (Tryz.prog.info? 260).map (fun i => (i.zero, i.size, i.bytes)) = some (some (.agg #[.int .i64 0, .int .u64 0, .int .u64 0]), 3, 24) := by kernel_rfl
/-- an oracle at block g: its answers (the slice v, of its own, in a block from B on), and its tape at block gt (all below B) -/
def IsOracle (w : World) (g gt B : Nat) (v : Value) (okT : Nat → Prop) (es : List S46) (xs : List Int) (n : Nat) : Prop :=
  w.heap[g]? = some (.cells #[v, .pointer (some ⟨gt, 0, none⟩)] 118 (0, 0)) ∧ Kd.R k46 260 w B (fun _ => True) v es ∧ g < B ∧ gt < B ∧ g ≠ gt ∧ (∀ k, okT k → k < B ∧ k ≠ g) ∧ B ≤ w.heap.size ∧ IsTape w gt okT xs n
section
variable {w w1 : World} {g gt B : Nat} {v : Value} {okT : Nat → Prop} {es : List S46} {xs : List Int} {n : Nat}
theorem IsOracle.tape (h : IsOracle w g gt B v okT es xs n) : IsTape w gt okT xs n := h.2.2.2.2.2.2.2
theorem IsOracle.own (h : IsOracle w g gt B v okT es xs n) : Kd.R k46 260 w B (fun _ => True) v es := h.2.1
theorem IsOracle.step (h : IsOracle w g gt B v okT es xs n) (hm : ∀ k, (k = g ∨ k = gt ∨ okT k ∨ some k = v.ownBlock) → k < w.heap.size → w1.heap[k]? = w.heap[k]?) (hs : w.heap.size ≤ w1.heap.size) : IsOracle w1 g gt B v okT es xs n := by
  obtain ⟨hb, hR, h1, h2, h3, h4, h5, hT⟩ := h
  refine ⟨(hm g (.inl rfl) (blk_lt hb)).trans hb, ?_, h1, h2, h3, h4, Nat.le_trans h5 hs, hT.step (fun k hk hlt => hm k (by rcases hk with hk | hk; exact .inr (.inl hk); exact .inr (.inr (.inl hk))) hlt)⟩
  exact Kd.R_mono (Kd.R_step (Kd.R_tight rfl hR) (fun k hk hlt => hm k (.inr (.inr (.inr hk))) hlt)) (fun _ _ => trivial)
theorem IsOracle.below (h : IsOracle w g gt B v okT es xs n) (hb : Below w.heap.size w w1) : IsOracle w1 g gt B v okT es xs n := h.step (fun k _ hlt => hb.block k hlt) hb.size
/-- only the tape has turned -/
theorem IsOracle.drew {m : Nat} (h : IsOracle w g gt B v okT es xs n) (hk : KeepBut w w1 gt none) (hT : IsTape w1 gt okT xs m) : IsOracle w1 g gt B v okT es xs m := by
  obtain ⟨hb, hR, h1, h2, h3, h4, h5, _⟩ := h
  refine ⟨(hk.2 g (blk_lt hb) h3 (by simp)).trans hb, ?_, h1, h2, h3, h4, Nat.le_trans h5 hk.1, hT⟩
  exact Kd.R_mono (Kd.R_step (Kd.R_bound hR) (fun k hk' hlt => hk.2 k hlt (by omega) (by simp))) (fun _ _ => trivial)
end
/-- the answer that was given ahead -/
def knownIn (f y : Int) : List S46 → Int × Bool
  | [] => (0, false)
  | x :: r => if x.f0 = f ∧ x.f1 = y then (x.f2, true) else knownIn f y r
theorem knownIn_drop {f y : Int} {es : List S46} {k : Nat} (hk : k < es.length) : knownIn f y (es.drop k) = if es[k].f0 = f ∧ es[k].f1 = y then (es[k].f2, true) else knownIn f y (es.drop (k + 1)) := by
  rw [List.drop_eq_getElem_cons hk, knownIn]
end Go.Proofs.YtnphfcaokjdigaaGreatDoor.PA
