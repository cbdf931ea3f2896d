/- OracleNone, walked: without a tape there is no answer, and no draw. -/
import Derived.Test.YtekcpffcgiahfaaH7
namespace Go.Proofs.Ytekcpffcgiahfaa.PA
open Go.RowKit Go.Proofs.YtekcpffcgiahfaaW.PrintWords Go.Proofs.YtekcpffcgiahfaaW.PrintLast Go.Proofs.YtekcpffcgiahfaaW.PrintMore
set_option linter.unusedVariables false
set_option linter.unusedSimpArgs false
set_option maxHeartbeats 1600000 in
set_option maxRecDepth 100000 in
theorem none_walk (f y : Int) (w : World) :
    Calls Try.prog 6 #[.int .i64 f, .int .u64 y] w fun e w' => e = .returned (.bool true) ∧ Below w.heap.size w w' := by
  go_enter Try.func6, Try.ntmps6
  go_wp2_with (fail)
  refine (awake_calls w).mono ?_
  rintro e w1 ⟨rfl, HB1⟩
  have HB := Aside0.mk HB1
  clear HB1
  go_wp2_with (fail)
  refine (oof_nil w1).mono ?_
  rintro e w2 ⟨g, gt, B, okT, rfl, hg, hgt, hO, HB1⟩
  replace hg := Nat.le_trans HB.out.size hg
  replace hgt := Nat.le_trans HB.out.size hgt
  replace HB := Aside0.mk (HB.out.trans (HB1.mono HB.out.size))
  have hmin : w.heap.size ≤ min g gt := Nat.le_min.2 ⟨hg, hgt⟩
  have hkn : knownIn f (cutw y) [] = (0, false) := rfl
  clear HB1
  go_wp2_with (fail)
  refine (ask_none w2 g gt B _ okT [] [] f y hO hkn).mono ?_
  rintro e w3 ⟨rfl, hO3, _, HB1⟩
  replace HB := Aside0.mk (HB.out.trans (HB1.mono hgt))
  clear hO HB1
  go_wp2_with (fail)
  refine (known_calls w3 g gt B _ okT [] [] _ f y hO3).mono ?_
  rw [hkn]
  rintro e w4 ⟨rfl, HB1⟩
  have hO4 := hO3.below HB1
  replace HB := Aside0.mk (HB.out.trans (HB1.mono HB.out.size))
  clear hO3 HB1
  go_wp2_with (fail)
  refine (odraw_none w4 g gt B _ okT [] [] hO4).mono ?_
  rintro e w5 ⟨rfl, hO5, _, HB1⟩
  replace HB := Aside0.mk (HB.out.trans (HB1.mono hgt))
  clear hO4 HB1
  go_wp2_with (fail)
  refine (is_same _ 7).mono ?_
  rintro e w6 ⟨rfl, rfl⟩
  go_wp2_with (fail)
  refine (is_same _ 7).mono ?_
  rintro e w7 ⟨rfl, rfl⟩
  go_wp2_with (fail)
  refine (entries_calls _ g gt B _ okT [] [] _ hO5 (by decide)).mono ?_
  rintro e w8 ⟨u, rfl, hR, HB1⟩
  obtain ⟨A, c, rfl⟩ := Kd.R_slice hR
  have hO8 := hO5.below HB1
  replace HB := Aside0.mk (HB.out.trans (HB1.mono HB.out.size))
  clear hR HB1 hO5
  go_wp2_with (fail)
  refine (oleft_calls _ g gt B _ okT [] [] _ hO8).mono ?_
  rintro e w9 ⟨rfl, HB1⟩
  replace HB := Aside0.mk (HB.out.trans (HB1.mono HB.out.size))
  clear HB1
  go_wp2_with (fail)
  go_ret
  exact ⟨rfl, HB.out⟩
theorem none_row (f y : Int) (w : World) (h0 : -9223372036854775808 ≤ f ∧ f < 9223372036854775808) (h1 : 0 ≤ y ∧ y < 18446744073709551616) :
    Calls Try.prog 6 #[.int .i64 f, .int .u64 y] w fun e w' => e = .returned (.bool true) ∧ Below w.heap.size w w' := none_walk f y w
end Go.Proofs.Ytekcpffcgiahfaa.PA
