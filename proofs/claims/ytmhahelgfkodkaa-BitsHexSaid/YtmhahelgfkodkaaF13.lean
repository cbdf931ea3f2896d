-- By a program of this session (after the form of the print; not a text of the print's own)
import Derived.Test.YtmhahelgfkodkaaF0
import Derived.Test.YtmhahelgfkodkaaF10
namespace Go.Proofs.Ytmhahelgfkodkaa.PA
open Go.RowKit Go.Proofs.YtmhahelgfkodkaaW.PrintWords Go.Proofs.YtmhahelgfkodkaaW.PrintLast Go.Proofs.YtmhahelgfkodkaaW.PrintMore
attribute [local go_sem] max2_int min2_int max_two min_two max_three min_three max_four min_four   -- for this text's walks alone
set_option linter.unusedVariables false
set_option linter.unusedSimpArgs false
/-! ### bits_Turn: function 13 -/
def bits_Turn.f (a0 : Int) (a1 : Int) : Option (Int) := (bits_Cut.f a0).bind fun t101 => (if 0 ≤ (Int.tmod (wrap64 ((Int.tmod a1 48) + 48)) 48) then ((bits_Cut.f (shl .u64 t101 (Int.tmod (wrap64 ((Int.tmod a1 48) + 48)) 48))).bind fun t102 => (if 0 ≤ (wrap64 (48 - (Int.tmod (wrap64 ((Int.tmod a1 48) + 48)) 48))) then (some (Go.bits .or .u64 t102 (shr .u64 t101 (wrap64 (48 - (Int.tmod (wrap64 ((Int.tmod a1 48) + 48)) 48)))))) else (none))) else (none))
set_option maxHeartbeats 8000000 in
set_option maxRecDepth 100000 in
theorem bits_Turn.calls (a0 : Int) (a1 : Int) (r : Int) (w : World) (h : bits_Turn.f a0 a1 = some r) :
    Calls Try.prog 13 #[.int .u64 a0, .int .i64 a1] w fun e w' => e = .returned (.int .u64 r) ∧ Drawn0 w w' := by
  have H : ((bits_Cut.f a0).bind fun t101 => (if 0 ≤ (Int.tmod (wrap64 ((Int.tmod a1 48) + 48)) 48) then ((bits_Cut.f (shl .u64 t101 (Int.tmod (wrap64 ((Int.tmod a1 48) + 48)) 48))).bind fun t102 => (if 0 ≤ (wrap64 (48 - (Int.tmod (wrap64 ((Int.tmod a1 48) + 48)) 48))) then (some (Go.bits .or .u64 t102 (shr .u64 t101 (wrap64 (48 - (Int.tmod (wrap64 ((Int.tmod a1 48) + 48)) 48)))))) else (none))) else (none))) = some r := h
  clear h
  replace H := Option.bind_eq_some_iff.mp H
  obtain ⟨t101, A30, H⟩ := H
  replace H : (if 0 ≤ (Int.tmod (wrap64 ((Int.tmod a1 48) + 48)) 48) then ((bits_Cut.f (shl .u64 t101 (Int.tmod (wrap64 ((Int.tmod a1 48) + 48)) 48))).bind fun t102 => (if 0 ≤ (wrap64 (48 - (Int.tmod (wrap64 ((Int.tmod a1 48) + 48)) 48))) then (some (Go.bits .or .u64 t102 (shr .u64 t101 (wrap64 (48 - (Int.tmod (wrap64 ((Int.tmod a1 48) + 48)) 48)))))) else (none))) else (none)) = some r := H
  have A3 := Aside0.mk A30
  clear A30
  obtain ⟨ji4, hji4⟩ : ∃ j_ : Int, (Int.tmod (wrap64 ((Int.tmod a1 48) + 48)) 48) = j_ := ⟨_, rfl⟩
  replace H : (if 0 ≤ (ji4) then ((bits_Cut.f (shl .u64 t101 (ji4))).bind fun t102 => (if 0 ≤ (wrap64 (48 - (ji4))) then (some (Go.bits .or .u64 t102 (shr .u64 t101 (wrap64 (48 - (ji4)))))) else (none))) else (none)) = some r := by first | (rw [hji4] at H; exact H) | (simp only [hji4] at H ⊢; exact H)
  (try rw [hji4] at A3)
  by_cases c5 : 0 ≤ (ji4)
  · rw [if_pos c5] at H
    have c5b0 := eq_true c5
    have c5b1 : decide (0 ≤ (ji4)) = true := decide_eq_true c5
    clear c5
    obtain ⟨ji6, hji6⟩ : ∃ j_ : Int, (shl .u64 t101 (ji4)) = j_ := ⟨_, rfl⟩
    replace H : ((bits_Cut.f (ji6)).bind fun t102 => (if 0 ≤ (wrap64 (48 - (ji4))) then (some (Go.bits .or .u64 t102 (shr .u64 t101 (wrap64 (48 - (ji4)))))) else (none))) = some r := by first | (rw [hji6] at H; exact H) | (simp only [hji6] at H ⊢; exact H)
    (try rw [hji6] at A3)
    have hji6_ : (IntKind.u64.wrap (t101 * 2 ^ min (ji4).toNat 64)) = ji6 := hji6
    have hji6z : (ji4) ≤ 64 → (IntKind.u64.wrap (t101 * 2 ^ (ji4).toNat)) = ji6 := shl_small hji6
    replace H := Option.bind_eq_some_iff.mp H
    obtain ⟨t102, A70, H⟩ := H
    replace H : (if 0 ≤ (wrap64 (48 - (ji4))) then (some (Go.bits .or .u64 t102 (shr .u64 t101 (wrap64 (48 - (ji4)))))) else (none)) = some r := H
    have A7 := Aside0.mk A70
    clear A70
    obtain ⟨ji8, hji8⟩ : ∃ j_ : Int, (wrap64 (48 - (ji4))) = j_ := ⟨_, rfl⟩
    replace H : (if 0 ≤ (ji8) then (some (Go.bits .or .u64 t102 (shr .u64 t101 (ji8)))) else (none)) = some r := by first | (rw [hji8] at H; exact H) | (simp only [hji8] at H ⊢; exact H)
    (try rw [hji8] at A3)
    (try rw [hji8] at A7)
    have hji8w : (IntKind.i64.wrap (48 - (ji4))) = ji8 := (i64_w _).trans hji8
    by_cases c9 : 0 ≤ (ji8)
    · rw [if_pos c9] at H
      have c9b0 := eq_true c9
      have c9b1 : decide (0 ≤ (ji8)) = true := decide_eq_true c9
      clear c9
      obtain ⟨ji10, hji10⟩ : ∃ j_ : Int, (shr .u64 t101 (ji8)) = j_ := ⟨_, rfl⟩
      replace H : (some (Go.bits .or .u64 t102 (ji10))) = some r := by first | (rw [hji10] at H; exact H) | (simp only [hji10] at H ⊢; exact H)
      (try rw [hji10] at A3)
      (try rw [hji10] at A7)
      have hji10_ : (t101 / 2 ^ min (ji8).toNat 64) = ji10 := hji10
      have hji10z : (ji8) ≤ 64 → (t101 / 2 ^ (ji8).toNat) = ji10 := shr_small hji10
      obtain rfl := Option.some.inj H
      go_enter Try.func13, Try.ntmps13
      go_wp2_with (first | (go_at_call 10; (with_reducible refine (bits_Cut.calls a0 t101 _ A3.out).mono ?_); rintro e w' ⟨rfl, ⟨nd, rfl⟩⟩; (try first | exact ⟨rfl, _, World.drewN_drewN _ _ _⟩ | exact ⟨rfl, _, Eq.trans (World.drewN_drewN _ _ _) (congrArg (World.drewN _) (Nat.add_assoc _ _ _))⟩)) | (go_at_call 10; (with_reducible refine (bits_Cut.calls ji6 t102 _ A7.out).mono ?_); rintro e w' ⟨rfl, ⟨nd, rfl⟩⟩; (try first | exact ⟨rfl, _, World.drewN_drewN _ _ _⟩ | exact ⟨rfl, _, Eq.trans (World.drewN_drewN _ _ _) (congrArg (World.drewN _) (Nat.add_assoc _ _ _))⟩)))
      repeat (go_quiet (first | (go_at_call 10; (with_reducible refine (bits_Cut.calls a0 t101 _ A3.out).mono ?_); rintro e w' ⟨rfl, ⟨nd, rfl⟩⟩; (try first | exact ⟨rfl, _, World.drewN_drewN _ _ _⟩ | exact ⟨rfl, _, Eq.trans (World.drewN_drewN _ _ _) (congrArg (World.drewN _) (Nat.add_assoc _ _ _))⟩)) | (go_at_call 10; (with_reducible refine (bits_Cut.calls ji6 t102 _ A7.out).mono ?_); rintro e w' ⟨rfl, ⟨nd, rfl⟩⟩; (try first | exact ⟨rfl, _, World.drewN_drewN _ _ _⟩ | exact ⟨rfl, _, Eq.trans (World.drewN_drewN _ _ _) (congrArg (World.drewN _) (Nat.add_assoc _ _ _))⟩))); try go_wp2_with (first | (go_at_call 10; (with_reducible refine (bits_Cut.calls a0 t101 _ A3.out).mono ?_); rintro e w' ⟨rfl, ⟨nd, rfl⟩⟩; (try first | exact ⟨rfl, _, World.drewN_drewN _ _ _⟩ | exact ⟨rfl, _, Eq.trans (World.drewN_drewN _ _ _) (congrArg (World.drewN _) (Nat.add_assoc _ _ _))⟩)) | (go_at_call 10; (with_reducible refine (bits_Cut.calls ji6 t102 _ A7.out).mono ?_); rintro e w' ⟨rfl, ⟨nd, rfl⟩⟩; (try first | exact ⟨rfl, _, World.drewN_drewN _ _ _⟩ | exact ⟨rfl, _, Eq.trans (World.drewN_drewN _ _ _) (congrArg (World.drewN _) (Nat.add_assoc _ _ _))⟩))))
      go_ret
      exact ⟨by first | rfl | (simp; done) | (simp only [← hji4, ← hji6, ← hji8, ← hji10] <;> (first | rfl | simp)) | (simp [*]; done), by repeat (first | exact Drawn0.refl _ | apply Drawn0.step)⟩
    · rw [if_neg c9] at H
      exact absurd H (by simp)
  · rw [if_neg c5] at H
    exact absurd H (by simp)

end Go.Proofs.Ytmhahelgfkodkaa.PA
