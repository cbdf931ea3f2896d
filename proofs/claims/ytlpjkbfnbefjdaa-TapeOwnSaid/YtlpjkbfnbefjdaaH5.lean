/- awake: the document's examples hold. -/
import Derived.Test.YtlpjkbfnbefjdaaH2
import Derived.Test.YtlpjkbfnbefjdaaH3
import Derived.Test.YtlpjkbfnbefjdaaH4
namespace Go.Proofs.Ytlpjkbfnbefjdaa.PA
open Go.RowKit Go.Proofs.YtlpjkbfnbefjdaaW.PrintWords Go.Proofs.YtlpjkbfnbefjdaaW.PrintLast Go.Proofs.YtlpjkbfnbefjdaaW.PrintMore
set_option linter.unusedVariables false
set_option linter.unusedSimpArgs false
theorem lits_C {w : World} {b : Nat} {cs : Array Value} (xs : List Int) (hb : w.heap[b]? = some (.cells cs 26 (0, 0))) (hcs : cs = (xs.map (Value.int .u64)).toArray) (hn : xs.length ≤ 9223372036854775807) : Kd.C (Kd.int .u64) w (some ⟨b, 0, none⟩) xs.length xs := by
  subst hcs
  refine ⟨rfl, hn, fun _ => ⟨_, rfl, fun j y hj => ?_⟩⟩
  obtain ⟨hjl, rfl⟩ := List.getElem?_eq_some_iff.1 hj
  refine ⟨[.int .u64 xs[j]], ⟨rfl, rfl, fun i u hu => ?_⟩⟩
  have hi : i = 0 := by
    obtain ⟨hh, _⟩ := List.getElem?_eq_some_iff.1 hu
    simp at hh
    exact hh
  subst hi
  have e : (Kd.int .u64).sz = 1 := rfl
  simp only [List.getElem?_cons_zero, Option.some.injEq] at hu
  subst hu
  rw [e]
  simp only [Nat.mul_one, Nat.add_zero]
  have := blk_cell hb j
  simp only [Addr.add, Nat.zero_add]
  rw [show (if j = 0 then (⟨b, 0, none⟩ : Addr) else ⟨b, j, none⟩) = ⟨b, j, none⟩ by split <;> simp_all, this]
  simp [hjl]
set_option maxHeartbeats 1600000 in
set_option maxRecDepth 100000 in
theorem awake_calls (w : World) : Calls Try.prog 7 #[] w fun e w' => e = .returned (.bool true) ∧ Below w.heap.size w w' := by
  go_enter Try.func7, Try.ntmps7
  go_wp2_with (fail)
  have hC := lits_C (w := w.alloc (.cells #[.int .u64 1, .int .u64 2, .int .u64 1] 26)) (b := w.heap.size) [1, 2, 1] (by simpa using heap_alloc_new w _) rfl (by decide)
  have HB0 : Below w.heap.size w (w.alloc (.cells #[.int .u64 1, .int .u64 2, .int .u64 1] 26)) := (Below.refl _ _).alloc (Nat.le_refl _) _
  refine (of_calls _ _ 3 [1, 2, 1] hC (by decide)).mono ?_
  have e0 : [1, 2, 1].map cutw = [1, 2, 1] := by decide +kernel
  rw [e0]
  rintro e w1 ⟨g, rfl, hg, hT, HB1⟩
  have hg' := Nat.le_trans HB0.size hg
  have HB := HB0.trans (HB1.mono HB0.size)
  clear HB0 HB1 hC e0 hg
  go_wp2_with (fail)
  refine (draw_some _ g _ _ 0 hT (by decide)).mono ?_
  rintro e w2 ⟨rfl, hT2, _, hB⟩
  replace HB := HB.trans (hB.mono hg')
  clear hT hB
  go_wp2_with (fail)
  refine (draw_some _ g _ _ 1 hT2 (by decide)).mono ?_
  rintro e w3 ⟨rfl, hT3, _, hB⟩
  replace HB := HB.trans (hB.mono hg')
  clear hT2 hB
  go_wp2_with (fail)
  refine (apart_calls _ g _ _ 2 hT3).mono ?_
  rw [show apartB [1, 2, 1] 2 = true by decide +kernel]
  rintro e w4 ⟨rfl, rfl⟩
  go_wp2_with (fail)
  refine (draw_some _ g _ _ 2 hT3 (by decide)).mono ?_
  rintro e w5 ⟨rfl, hT5, _, hB⟩
  replace HB := HB.trans (hB.mono hg')
  clear hT3 hB
  go_wp2_with (fail)
  refine (draw_none _ g _ _ hT5).mono ?_
  rintro e w6 ⟨rfl, hT6, _, hB⟩
  replace HB := HB.trans (hB.mono hg')
  clear hT5 hB
  have HBB := Aside0.mk HB
  clear HB
  go_wp2_with (fail)
  refine (apart_calls _ g _ _ 3 hT6).mono ?_
  rw [show apartB [1, 2, 1] 3 = false by decide +kernel]
  rintro e w7 ⟨rfl, rfl⟩
  go_wp2_with (fail)
  refine (is_same _ 7).mono ?_
  rintro e w8 ⟨rfl, rfl⟩
  go_wp2_with (fail)
  go_ret
  exact ⟨rfl, HBB.out⟩
end Go.Proofs.Ytlpjkbfnbefjdaa.PA
