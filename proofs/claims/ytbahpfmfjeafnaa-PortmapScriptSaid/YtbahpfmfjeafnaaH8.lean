/- Of: a map without places; awake: the document's examples hold. -/
import Derived.Test.YtbahpfmfjeafnaaH10
import Derived.Test.YtbahpfmfjeafnaaH11
import Derived.Test.YtbahpfmfjeafnaaF9
namespace Go.Proofs.Ytbahpfmfjeafnaa.PA
open Go.RowKit Go.Proofs.YtbahpfmfjeafnaaW.PrintWords Go.Proofs.YtbahpfmfjeafnaaW.PrintLast Go.Proofs.YtbahpfmfjeafnaaW.PrintMore
set_option linter.unusedVariables false
set_option linter.unusedSimpArgs false
theorem of_calls (age : Int) (w : World) :
    Calls Try.prog 9 #[.int .i64 age] w fun e w' => ∃ g : Nat, e = .returned (.pointer (some ⟨g, 0, none⟩)) ∧ w.heap.size ≤ g ∧ IsMap w' g (fun _ => False) [] (mx 1 age) ∧ Below w.heap.size w w' := by
  refine (portmap_Of.calls age [] (mx 1 age) w w (Below.refl _ _) rfl).mono ?_
  rintro e w' ⟨g, rfl, ⟨A, c, hb, hg, _⟩, _, hB⟩
  exact ⟨g, rfl, hg, ⟨A, c, hb, Nat.zero_le _, fun W' _ => ⟨rfl, by decide, fun h => absurd h (Nat.lt_irrefl 0)⟩, fun k hk => hk.elim⟩, hB⟩
set_option maxHeartbeats 1600000 in
set_option maxRecDepth 100000 in
theorem awake_calls (w : World) : Calls Try.prog 8 #[] w fun e w' => e = .returned (.bool true) ∧ Below w.heap.size w w' := by
  go_enter Try.func8, Try.ntmps8
  go_wp2_with (fail)
  refine (of_calls 3 w).mono ?_
  rintro e w1 ⟨g, rfl, hg, hM, HB⟩
  go_wp2_with (fail)
  refine (learn_calls w1 g _ [] _ 7 1 10 hM (by simp)).mono ?_
  rintro e w2 ⟨rfl, hM2, HK2, HB2⟩
  have e1 : learnt 7 1 10 [] = [⟨7, 1, 10⟩] := rfl
  rw [e1] at hM2
  go_wp2_with (fail)
  refine (find_calls w2 g _ [⟨7, 1, 10⟩] _ 7 12 hM2 (by simp)).mono ?_
  have f1 : findIn 7 12 (mx 1 3) [⟨7, 1, 10⟩] = (1, true) := by decide +kernel
  rw [f1]
  rintro e w3 ⟨rfl, HB3⟩
  have hM3 := hM2.below HB3
  go_wp2_with (fail)
  refine (find_calls w3 g _ [⟨7, 1, 10⟩] _ 7 13 hM3 (by simp)).mono ?_
  have f2 : findIn 7 13 (mx 1 3) [⟨7, 1, 10⟩] = (0, false) := by decide +kernel
  rw [f2]
  rintro e w4 ⟨rfl, HB4⟩
  have hM4 := hM3.below HB4
  go_wp2_with (fail)
  refine (find_calls w4 g _ [⟨7, 1, 10⟩] _ 7 9 hM4 (by simp)).mono ?_
  have f3 : findIn 7 9 (mx 1 3) [⟨7, 1, 10⟩] = (0, false) := by decide +kernel
  rw [f3]
  rintro e w5 ⟨rfl, HB5⟩
  have HBB := Aside0.mk (((HB.trans (HB2.mono hg)).trans (HB3.mono (by have := HB.size; have := HB2.size; omega))).trans ((HB4.mono (by have := HB.size; have := HB2.size; have := HB3.size; omega)).trans (HB5.mono (by have := HB.size; have := HB2.size; have := HB3.size; have := HB4.size; omega))))
  clear HB HB2 HB3 HB4 HB5 HK2 hM hM2 hM3 hM4
  go_wp2_with (fail)
  repeat (go_quiet (fail); try go_wp2)
  go_ret
  exact ⟨rfl, HBB.out⟩
end Go.Proofs.Ytbahpfmfjeafnaa.PA
