/- awake: the document's examples hold; the word that is asked. -/
import Derived.Test.YtekcpffcgiahfaaH6
namespace Go.Proofs.Ytekcpffcgiahfaa.PA
open Go.RowKit Go.Proofs.YtekcpffcgiahfaaW.PrintWords Go.Proofs.YtekcpffcgiahfaaW.PrintLast Go.Proofs.YtekcpffcgiahfaaW.PrintMore
set_option linter.unusedVariables false
set_option linter.unusedSimpArgs false
theorem lits_C {w : World} {b : Nat} {cs : Array Value} (xs : List Int) (hb : w.heap[b]? = some (.cells cs 30 (0, 0))) (hcs : cs = (xs.map (Value.int .u64)).toArray) (hn : xs.length ≤ 9223372036854775807) : Kd.C (Kd.int .u64) w (some ⟨b, 0, none⟩) xs.length xs := by
  subst hcs
  refine ⟨rfl, hn, fun _ => ⟨_, rfl, fun j y hj => ?_⟩⟩
  obtain ⟨hjl, rfl⟩ := List.getElem?_eq_some_iff.1 hj
  refine ⟨[.int .u64 xs[j]], ⟨rfl, rfl, fun i u hu => ?_⟩⟩
  have hi : i = 0 := by
    obtain ⟨hh, _⟩ := List.getElem?_eq_some_iff.1 hu
    simp at hh
    exact hh
  subst hi
  have e : (Kd.int .u64).sz = 1 := rfl
  simp only [List.getElem?_cons_zero, Option.some.injEq] at hu
  subst hu
  rw [e]
  simp only [Nat.mul_one, Nat.add_zero]
  have := blk_cell hb j
  simp only [Addr.add, Nat.zero_add]
  rw [show (if j = 0 then (⟨b, 0, none⟩ : Addr) else ⟨b, j, none⟩) = ⟨b, j, none⟩ by split <;> simp_all, this]
  simp [hjl]
/-- the word that is asked -/
def asked (x : Int) : Int := x % 5 * 281474976710659
theorem in_calls (a x : Int) (hx : 0 ≤ x) (w : World) : Calls Try.prog 11 #[.agg #[.int .u8 a, .int .u64 x]] w fun e w' => e = .returned (.int .u64 (asked x)) ∧ Below w.heap.size w w' := by
  go_enter Try.func11, Try.ntmps11
  go_wp2
  go_ret
  exact ⟨rfl, (Below.refl _ _).alloc (Nat.le_refl _) _⟩
set_option maxHeartbeats 1600000 in
set_option maxRecDepth 100000 in
theorem awake_calls (w : World) : Calls Try.prog 7 #[] w fun e w' => e = .returned (.bool true) ∧ Below w.heap.size w w' := by
  go_enter Try.func7, Try.ntmps7
  go_wp2_with (fail)
  have hC := lits_C (w := w.alloc (.cells #[.int .u64 7, .int .u64 9] 30)) (b := w.heap.size) [7, 9] (by simpa using heap_alloc_new w _) rfl (by decide)
  have HB0 : Below w.heap.size w (w.alloc (.cells #[.int .u64 7, .int .u64 9] 30)) := (Below.refl _ _).alloc (Nat.le_refl _) _
  refine (of_calls _ _ 2 [7, 9] hC (by decide)).mono ?_
  have e0 : [7, 9].map cutw = [7, 9] := by decide +kernel
  rw [e0]
  rintro e w1 ⟨gt, rfl, hg, hT, HB1⟩
  have hgt := Nat.le_trans HB0.size hg
  have HB := HB0.trans (HB1.mono HB0.size)
  clear HB0 HB1 hC e0 hg
  go_wp2_with (fail)
  refine (oof_calls w1 gt _ _ _ hT).mono ?_
  rintro e w2 ⟨g, B, rfl, hg, hO, _, HB1⟩
  replace hg := Nat.le_trans HB.size hg
  replace HB := HB.trans (HB1.mono HB.size)
  have hmin : w.heap.size ≤ min g gt := Nat.le_min.2 ⟨hg, hgt⟩
  clear HB1 hT
  have HB := Aside0.mk HB
  go_wp2_with (fail)
  refine (ask_new w2 g gt B _ _ [] [7, 9] 0 0 1 hO (by decide +kernel) (by decide) (by decide)).mono ?_
  rintro e w3 ⟨rfl, v3, hO3, _, _, _, HB1⟩
  replace HB := Aside0.mk (HB.out.trans (HB1.mono hmin))
  clear hO HB1
  go_wp2_with (fail)
  refine (ask_known w3 g gt B v3 _ _ [7, 9] 1 0 1 7 hO3 (by decide +kernel)).mono ?_
  rintro e w4 ⟨rfl, HB1⟩
  have hO4 := hO3.below HB1
  replace HB := Aside0.mk (HB.out.trans (HB1.mono HB.out.size))
  clear hO3 HB1
  go_wp2_with (fail)
  refine (ask_new w4 g gt B v3 _ _ [7, 9] 1 1 1 hO4 (by decide +kernel) (by decide) (by decide)).mono ?_
  rintro e w5 ⟨rfl, v5, hO5, _, _, _, HB1⟩
  replace HB := Aside0.mk (HB.out.trans (HB1.mono hmin))
  clear hO4 HB1
  go_wp2_with (fail)
  refine (ask_none w5 g gt B v5 _ _ [7, 9] 1 2 hO5 (by decide +kernel)).mono ?_
  rintro e w6 ⟨rfl, hO6, _, HB1⟩
  replace HB := Aside0.mk (HB.out.trans (HB1.mono hgt))
  clear hO5 HB1
  go_wp2_with (fail)
  refine (is_same _ 7).mono ?_
  rintro e w7 ⟨rfl, rfl⟩
  go_wp2_with (fail)
  refine (entries_calls _ g gt B v5 _ _ [7, 9] _ hO6 (by decide)).mono ?_
  rintro e w8 ⟨u, rfl, hR, HB1⟩
  obtain ⟨A, c, rfl⟩ := Kd.R_slice hR
  replace HB := Aside0.mk (HB.out.trans (HB1.mono HB.out.size))
  clear hR HB1
  go_wp2_with (fail)
  go_ret
  exact ⟨rfl, HB.out⟩
end Go.Proofs.Ytekcpffcgiahfaa.PA
