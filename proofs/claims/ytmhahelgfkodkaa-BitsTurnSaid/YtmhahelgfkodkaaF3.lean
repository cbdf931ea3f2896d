-- By a program of this session (after the form of the print; not a text of the print's own)
import Derived.Test.YtmhahelgfkodkaaF0
import Derived.Test.YtmhahelgfkodkaaF10
import Derived.Test.YtmhahelgfkodkaaF13
import Derived.Test.YtmhahelgfkodkaaF11
import Derived.Test.YtmhahelgfkodkaaF12
import Derived.Test.YtmhahelgfkodkaaF9
import Derived.Test.YtmhahelgfkodkaaF14
namespace Go.Proofs.Ytmhahelgfkodkaa.PA
open Go.RowKit Go.Proofs.YtmhahelgfkodkaaW.PrintWords Go.Proofs.YtmhahelgfkodkaaW.PrintLast Go.Proofs.YtmhahelgfkodkaaW.PrintMore
attribute [local go_sem] max2_int min2_int max_two min_two max_three min_three max_four min_four   -- for this text's walks alone
set_option linter.unusedVariables false
set_option linter.unusedSimpArgs false
/-! ### sigillumlaw01_BitsTurn: function 3 -/
def sigillumlaw01_BitsTurn.j0 : Nat → Int → Int → Int → Int → Option (Bool)
  | 0, _, _, _, _ => none
  | k + 1, x0, x1, x2, x7 => (bits_Cut.f x0).bind fun t118 => (if t118 = (Go.bits .and .u64 x0 281474976710655) then ((bits_Add.f x0 x1).bind fun t119 => (if t119 = (Go.bits .and .u64 (IntKind.u64.wrap (x0 + x1)) 281474976710655) then ((bits_Mul.f x0 x1).bind fun t120 => (if t120 = (Go.bits .and .u64 (IntKind.u64.wrap (x0 * x1)) 281474976710655) then ((bits_Turn.f x0 x2).bind fun t121 => ((sigillumlaw01_turn.f k x0 x7).bind fun t122 => (some (t121 == t122)))) else (some false))) else (some false))) else (some false))
def sigillumlaw01_BitsTurn.f (k : Nat) (a0 : Int) (a1 : Int) (a2 : Int) : Option (Bool) := (sigillumlaw01_awake.f k).bind fun t117 => (if t117 = true then (if (Int.tmod a2 48) < 0 then (sigillumlaw01_BitsTurn.j0 k a0 a1 a2 (wrap64 ((Int.tmod a2 48) + 48))) else (sigillumlaw01_BitsTurn.j0 k a0 a1 a2 (Int.tmod a2 48))) else (some false))
theorem sigillumlaw01_BitsTurn.mono_l : ∀ k, (∀ y0 y1 y2 y3, LeO (sigillumlaw01_BitsTurn.j0 k y0 y1 y2 y3) (sigillumlaw01_BitsTurn.j0 (k + 1) y0 y1 y2 y3))
  | 0 => fun _ _ _ _ r h => by simp [sigillumlaw01_BitsTurn.j0] at h
  | k + 1 => by
    have ih0 := sigillumlaw01_BitsTurn.mono_l k
    · intro y0 y1 y2 y3
      unfold sigillumlaw01_BitsTurn.j0
      repeat' first
      | (with_reducible exact ih0 _ _ _ _)
      | (with_reducible exact sigillumlaw01_awake.mono _)
      | (with_reducible exact sigillumlaw01_turn.mono _ _ _)
      | (with_reducible exact LeO.refl _)
      | (with_reducible exact LeO.none _)
      | (with_reducible refine LeO.ite ?_ ?_)
      | (with_reducible refine LeO.bind ?_ (fun _ => ?_))
      | exact ih0 _ _ _ _
      | exact sigillumlaw01_awake.mono _
      | exact sigillumlaw01_turn.mono _ _ _
      | exact LeO.none _
      | refine LeO.ite ?_ ?_
      | refine LeO.bind ?_ (fun _ => ?_)
theorem sigillumlaw01_BitsTurn.mono : ∀ a0 a1 a2 k, LeO (sigillumlaw01_BitsTurn.f k a0 a1 a2) (sigillumlaw01_BitsTurn.f (k + 1) a0 a1 a2) := by
  intro a0 a1 a2 k
  have ih0 := sigillumlaw01_BitsTurn.mono_l k
  unfold sigillumlaw01_BitsTurn.f
  repeat' first
      | (with_reducible exact ih0 _ _ _ _)
      | (with_reducible exact sigillumlaw01_awake.mono _)
      | (with_reducible exact sigillumlaw01_turn.mono _ _ _)
      | (with_reducible exact LeO.refl _)
      | (with_reducible exact LeO.none _)
      | (with_reducible refine LeO.ite ?_ ?_)
      | (with_reducible refine LeO.bind ?_ (fun _ => ?_))
      | exact ih0 _ _ _ _
      | exact sigillumlaw01_awake.mono _
      | exact sigillumlaw01_turn.mono _ _ _
      | exact LeO.none _
      | refine LeO.ite ?_ ?_
      | refine LeO.bind ?_ (fun _ => ?_)
set_option maxHeartbeats 8000000 in
set_option maxRecDepth 100000 in
theorem sigillumlaw01_BitsTurn.calls (k : Nat) (a0 : Int) (a1 : Int) (a2 : Int) (r : Bool) (w : World) (h : sigillumlaw01_BitsTurn.f k a0 a1 a2 = some r) :
    Calls Try.prog 3 #[.int .u64 a0, .int .u64 a1, .int .i64 a2] w fun e w' => e = .returned (.bool r) ∧ Below w.heap.size w w' := by
  have HB := Aside0.mk (Below.refl w.heap.size w)
  have H : ((sigillumlaw01_awake.f k).bind fun t117 => (if t117 = true then (if (Int.tmod a2 48) < 0 then (sigillumlaw01_BitsTurn.j0 k a0 a1 a2 (wrap64 ((Int.tmod a2 48) + 48))) else (sigillumlaw01_BitsTurn.j0 k a0 a1 a2 (Int.tmod a2 48))) else (some false))) = some r := h
  clear h
  replace H := Option.bind_eq_some_iff.mp H
  obtain ⟨t117, A40, H⟩ := H
  replace H : (if t117 = true then (if (Int.tmod a2 48) < 0 then (sigillumlaw01_BitsTurn.j0 k a0 a1 a2 (wrap64 ((Int.tmod a2 48) + 48))) else (sigillumlaw01_BitsTurn.j0 k a0 a1 a2 (Int.tmod a2 48))) else (some false)) = some r := H
  have A4 := Aside0.mk A40
  clear A40
  by_cases c5 : t117 = true
  · subst c5
    have H1 : (if (Int.tmod a2 48) < 0 then (sigillumlaw01_BitsTurn.j0 k a0 a1 a2 (wrap64 ((Int.tmod a2 48) + 48))) else (sigillumlaw01_BitsTurn.j0 k a0 a1 a2 (Int.tmod a2 48))) = some r := by rw [if_pos rfl] at H; exact H
    clear H
    have H := H1
    clear H1
    have HC6 := Aside0.mk H
    clear H
    go_enter Try.func3, Try.ntmps3
    go_upto_if 13 with (first | ((with_reducible refine gate_callee (f := 9) rfl ?_); refine goesL_ (some 8) rfl rfl Try.func9 (by kernel_rfl) rfl #[] rfl (by (try simp only [List.map_toArray, List.map_cons, List.map_nil]); first | done | rfl | (simp only [List.length_drop, List.length_take]; rfl)) ?_; (with_reducible refine (sigillumlaw01_awake.calls k  true _ A4.out).mono ?_); rintro e w7 ⟨rfl, hb⟩; refine ⟨_, rfl, ?_⟩; have n0_ := Aside0.mk (below_step (by repeat (first | (with_reducible first | exact HB.out | apply below_alloc | apply pw_below_drewN | apply below_drew1) | exact HB.out)) hb); clear HB; have HB := n0_; clear n0_; (try clear hb); (try clear hb2); (try clear hk); (try clear hi)))
    (try simp only [Act.put, List.setIfInBounds_toArray, List.set_cons_zero, List.set_cons_succ])
    go_cut [7] (fun v7 wc => ∃ (kq : Nat) (x7_5 : Int), v7 = .int .i64 x7_5 ∧ Aside0 (sigillumlaw01_BitsTurn.j0 kq a0 a1 a2 x7_5 = some r) ∧ Aside0 (kq ≤ k) ∧ Aside0 (Below w.heap.size w wc))
    case first =>
      have H := HC6.out
      clear HC6
      by_cases c8 : (Int.tmod a2 48) < 0
      · rw [if_pos c8] at H
        have c8b0 : decide ((Int.tmod a2 48) < 0) = true := decide_eq_true c8
        clear c8
        (first | rw [c8b0] | (simp only [i64_w, i32_w]; rw [c8b0]) | skip)
        have H' := Aside0.mk H
        clear H
        go_wp2
        go_meet
        case rel => exact ⟨_, (wrap64 ((Int.tmod a2 48) + 48)), (by first | rfl | (simp; done) | (simp [*]; done)), H', ⟨by first | omega | exact Nat.le_refl _⟩, ⟨by repeat (first | (with_reducible first | exact HB.out | apply below_alloc | apply pw_below_drewN | apply below_drew1) | exact HB.out)⟩⟩
      · rw [if_neg c8] at H
        have c8b0 : decide ((Int.tmod a2 48) < 0) = false := decide_eq_false c8
        clear c8
        (first | rw [c8b0] | (simp only [i64_w, i32_w]; rw [c8b0]) | skip)
        have H' := Aside0.mk H
        clear H
        go_wp2
        go_meet
        case rel => exact ⟨_, (Int.tmod a2 48), (by first | rfl | (simp; done) | (simp [*]; done)), H', ⟨by first | omega | exact Nat.le_refl _⟩, ⟨by repeat (first | (with_reducible first | exact HB.out | apply below_alloc | apply pw_below_drewN | apply below_drew1) | exact HB.out)⟩⟩
    case rest =>
      clear HC6
      try clear p2
      try clear c3
      try clear c5
      try clear p6
      try clear c8
      try clear c8b0
      obtain ⟨kq, x7_5, rfl, HA, HJ5, HB⟩ := hcut
      cases kq with
      | zero => exact absurd HA.out (by simp [sigillumlaw01_BitsTurn.j0])
      | succ kj5 =>
        have H := HA.out
        clear HA
        simp only [sigillumlaw01_BitsTurn.j0] at H
        replace H := Option.bind_eq_some_iff.mp H
        obtain ⟨t118, A90, H⟩ := H
        replace H : (if t118 = (Go.bits .and .u64 a0 281474976710655) then ((bits_Add.f a0 a1).bind fun t119 => (if t119 = (Go.bits .and .u64 (IntKind.u64.wrap (a0 + a1)) 281474976710655) then ((bits_Mul.f a0 a1).bind fun t120 => (if t120 = (Go.bits .and .u64 (IntKind.u64.wrap (a0 * a1)) 281474976710655) then ((bits_Turn.f a0 a2).bind fun t121 => ((sigillumlaw01_turn.f kj5 a0 x7_5).bind fun t122 => (some (t121 == t122)))) else (some false))) else (some false))) else (some false)) = some r := H
        have A9 := Aside0.mk A90
        clear A90
        by_cases c10 : t118 = (Go.bits .and .u64 a0 281474976710655)
        · rw [if_pos c10] at H
          have c10b0 : (t118 == (Go.bits .and .u64 a0 281474976710655)) = true := beq_iff_eq.mpr c10
          have c10b1 : (t118 != (Go.bits .and .u64 a0 281474976710655)) = false := bne_eq_false_iff_eq.mpr c10
          clear c10
          replace H := Option.bind_eq_some_iff.mp H
          obtain ⟨t119, A110, H⟩ := H
          replace H : (if t119 = (Go.bits .and .u64 (IntKind.u64.wrap (a0 + a1)) 281474976710655) then ((bits_Mul.f a0 a1).bind fun t120 => (if t120 = (Go.bits .and .u64 (IntKind.u64.wrap (a0 * a1)) 281474976710655) then ((bits_Turn.f a0 a2).bind fun t121 => ((sigillumlaw01_turn.f kj5 a0 x7_5).bind fun t122 => (some (t121 == t122)))) else (some false))) else (some false)) = some r := H
          have A11 := Aside0.mk A110
          clear A110
          by_cases c12 : t119 = (Go.bits .and .u64 (IntKind.u64.wrap (a0 + a1)) 281474976710655)
          · rw [if_pos c12] at H
            have c12b0 : (t119 == (Go.bits .and .u64 (IntKind.u64.wrap (a0 + a1)) 281474976710655)) = true := beq_iff_eq.mpr c12
            have c12b1 : (t119 != (Go.bits .and .u64 (IntKind.u64.wrap (a0 + a1)) 281474976710655)) = false := bne_eq_false_iff_eq.mpr c12
            clear c12
            replace H := Option.bind_eq_some_iff.mp H
            obtain ⟨t120, A130, H⟩ := H
            replace H : (if t120 = (Go.bits .and .u64 (IntKind.u64.wrap (a0 * a1)) 281474976710655) then ((bits_Turn.f a0 a2).bind fun t121 => ((sigillumlaw01_turn.f kj5 a0 x7_5).bind fun t122 => (some (t121 == t122)))) else (some false)) = some r := H
            have A13 := Aside0.mk A130
            clear A130
            by_cases c14 : t120 = (Go.bits .and .u64 (IntKind.u64.wrap (a0 * a1)) 281474976710655)
            · rw [if_pos c14] at H
              have c14b0 : (t120 == (Go.bits .and .u64 (IntKind.u64.wrap (a0 * a1)) 281474976710655)) = true := beq_iff_eq.mpr c14
              have c14b1 : (t120 != (Go.bits .and .u64 (IntKind.u64.wrap (a0 * a1)) 281474976710655)) = false := bne_eq_false_iff_eq.mpr c14
              clear c14
              replace H := Option.bind_eq_some_iff.mp H
              obtain ⟨t121, A150, H⟩ := H
              replace H : ((sigillumlaw01_turn.f kj5 a0 x7_5).bind fun t122 => (some (t121 == t122))) = some r := H
              have A15 := Aside0.mk A150
              clear A150
              replace H := Option.bind_eq_some_iff.mp H
              obtain ⟨t122, A160, H⟩ := H
              replace H : (some (t121 == t122)) = some r := H
              have A16 := Aside0.mk A160
              clear A160
              obtain rfl := Option.some.inj H
              go_wp2_with (first | ((with_reducible refine gate_callee (f := 10) rfl ?_); refine goesL_ (some 17) rfl rfl Try.func10 (by kernel_rfl) rfl #[.int .u64 a0] rfl (by (try simp only [List.map_toArray, List.map_cons, List.map_nil]); first | done | rfl | (simp only [List.length_drop, List.length_take]; rfl)) ?_; (with_reducible refine (bits_Cut.calls a0 t118 _ A9.out).mono ?_); rintro e w' ⟨rfl, ⟨nd, rfl⟩⟩; refine ⟨_, rfl, ?_⟩) | (go_at_call 11; (with_reducible refine (bits_Add.calls a0 a1 t119 _ A11.out).mono ?_); rintro e w' ⟨rfl, ⟨nd, rfl⟩⟩) | (go_at_call 12; (with_reducible refine (bits_Mul.calls a0 a1 t120 _ A13.out).mono ?_); rintro e w' ⟨rfl, ⟨nd, rfl⟩⟩) | (go_at_call 13; (with_reducible refine (bits_Turn.calls a0 a2 t121 _ A15.out).mono ?_); rintro e w' ⟨rfl, ⟨nd, rfl⟩⟩) | (go_at_call 14; (with_reducible refine (sigillumlaw01_turn.calls kj5 a0 x7_5 t122 _ A16.out).mono ?_); rintro e w' ⟨rfl, ⟨nd, rfl⟩⟩))
              go_ret
              exact ⟨by first | rfl | (simp [errW_none, errW_some] <;> rfl) | (simp [*, errW_none, errW_some] <;> rfl), by repeat (first | (with_reducible first | exact HB.out | apply below_alloc | apply pw_below_drewN | apply below_drew1) | exact HB.out)⟩
            · rw [if_neg c14] at H
              have c14b0 : (t120 == (Go.bits .and .u64 (IntKind.u64.wrap (a0 * a1)) 281474976710655)) = false := beq_eq_false_iff_ne.mpr c14
              have c14b1 : (t120 != (Go.bits .and .u64 (IntKind.u64.wrap (a0 * a1)) 281474976710655)) = true := bne_iff_ne.mpr c14
              obtain rfl := Option.some.inj H
              go_wp2_with (first | ((with_reducible refine gate_callee (f := 10) rfl ?_); refine goesL_ (some 17) rfl rfl Try.func10 (by kernel_rfl) rfl #[.int .u64 a0] rfl (by (try simp only [List.map_toArray, List.map_cons, List.map_nil]); first | done | rfl | (simp only [List.length_drop, List.length_take]; rfl)) ?_; (with_reducible refine (bits_Cut.calls a0 t118 _ A9.out).mono ?_); rintro e w' ⟨rfl, ⟨nd, rfl⟩⟩; refine ⟨_, rfl, ?_⟩) | (go_at_call 11; (with_reducible refine (bits_Add.calls a0 a1 t119 _ A11.out).mono ?_); rintro e w' ⟨rfl, ⟨nd, rfl⟩⟩) | (go_at_call 12; (with_reducible refine (bits_Mul.calls a0 a1 t120 _ A13.out).mono ?_); rintro e w' ⟨rfl, ⟨nd, rfl⟩⟩))
              go_ret
              exact ⟨by first | rfl | (simp [errW_none, errW_some] <;> rfl) | (simp [*, errW_none, errW_some] <;> rfl), by repeat (first | (with_reducible first | exact HB.out | apply below_alloc | apply pw_below_drewN | apply below_drew1) | exact HB.out)⟩
          · rw [if_neg c12] at H
            have c12b0 : (t119 == (Go.bits .and .u64 (IntKind.u64.wrap (a0 + a1)) 281474976710655)) = false := beq_eq_false_iff_ne.mpr c12
            have c12b1 : (t119 != (Go.bits .and .u64 (IntKind.u64.wrap (a0 + a1)) 281474976710655)) = true := bne_iff_ne.mpr c12
            obtain rfl := Option.some.inj H
            go_wp2_with (first | ((with_reducible refine gate_callee (f := 10) rfl ?_); refine goesL_ (some 17) rfl rfl Try.func10 (by kernel_rfl) rfl #[.int .u64 a0] rfl (by (try simp only [List.map_toArray, List.map_cons, List.map_nil]); first | done | rfl | (simp only [List.length_drop, List.length_take]; rfl)) ?_; (with_reducible refine (bits_Cut.calls a0 t118 _ A9.out).mono ?_); rintro e w' ⟨rfl, ⟨nd, rfl⟩⟩; refine ⟨_, rfl, ?_⟩) | (go_at_call 11; (with_reducible refine (bits_Add.calls a0 a1 t119 _ A11.out).mono ?_); rintro e w' ⟨rfl, ⟨nd, rfl⟩⟩))
            go_ret
            exact ⟨by first | rfl | (simp [errW_none, errW_some] <;> rfl) | (simp [*, errW_none, errW_some] <;> rfl), by repeat (first | (with_reducible first | exact HB.out | apply below_alloc | apply pw_below_drewN | apply below_drew1) | exact HB.out)⟩
        · rw [if_neg c10] at H
          have c10b0 : (t118 == (Go.bits .and .u64 a0 281474976710655)) = false := beq_eq_false_iff_ne.mpr c10
          have c10b1 : (t118 != (Go.bits .and .u64 a0 281474976710655)) = true := bne_iff_ne.mpr c10
          obtain rfl := Option.some.inj H
          go_wp2_with (first | ((with_reducible refine gate_callee (f := 10) rfl ?_); refine goesL_ (some 17) rfl rfl Try.func10 (by kernel_rfl) rfl #[.int .u64 a0] rfl (by (try simp only [List.map_toArray, List.map_cons, List.map_nil]); first | done | rfl | (simp only [List.length_drop, List.length_take]; rfl)) ?_; (with_reducible refine (bits_Cut.calls a0 t118 _ A9.out).mono ?_); rintro e w' ⟨rfl, ⟨nd, rfl⟩⟩; refine ⟨_, rfl, ?_⟩))
          go_ret
          exact ⟨by first | rfl | (simp [errW_none, errW_some] <;> rfl) | (simp [*, errW_none, errW_some] <;> rfl), by repeat (first | (with_reducible first | exact HB.out | apply below_alloc | apply pw_below_drewN | apply below_drew1) | exact HB.out)⟩
  · replace c5 := Bool.eq_false_iff.mpr c5
    subst c5
    have H1 : (some false) = some r := by rw [if_neg (show ¬ (false = true) by decide)] at H; exact H
    clear H
    have H := H1
    clear H1
    obtain rfl := Option.some.inj H
    go_enter Try.func3, Try.ntmps3
    go_wp2_with (first | ((with_reducible refine gate_callee (f := 9) rfl ?_); refine goesL_ (some 8) rfl rfl Try.func9 (by kernel_rfl) rfl #[] rfl (by (try simp only [List.map_toArray, List.map_cons, List.map_nil]); first | done | rfl | (simp only [List.length_drop, List.length_take]; rfl)) ?_; (with_reducible refine (sigillumlaw01_awake.calls k  false _ A4.out).mono ?_); rintro e w17 ⟨rfl, hb⟩; refine ⟨_, rfl, ?_⟩; have n0_ := Aside0.mk (below_step (by repeat (first | (with_reducible first | exact HB.out | apply below_alloc | apply pw_below_drewN | apply below_drew1) | exact HB.out)) hb); clear HB; have HB := n0_; clear n0_; (try clear hb); (try clear hb2); (try clear hk); (try clear hi)))
    go_ret
    exact ⟨by first | rfl | (simp [errW_none, errW_some] <;> rfl) | (simp [*, errW_none, errW_some] <;> rfl), by repeat (first | (with_reducible first | exact HB.out | apply below_alloc | apply pw_below_drewN | apply below_drew1) | exact HB.out)⟩

/-- THE ONE PURE STATEMENT of sigillumlaw01_BitsTurn: yours. -/
def sigillumlaw01_BitsTurn.Pure : Prop := ∀ (a0 : Int) (a1 : Int) (a2 : Int), (Lit.int .u64 a0).wf = true → (Lit.int .u64 a1).wf = true → (Lit.int .i64 a2).wf = true → ∃ k, sigillumlaw01_BitsTurn.f k a0 a1 a2 = some true
theorem sigillumlaw01_BitsTurn.walk (P : sigillumlaw01_BitsTurn.Pure) (a0 : Int) (a1 : Int) (a2 : Int) (w : World) (w0 : (Lit.int .u64 a0).wf = true) (w1 : (Lit.int .u64 a1).wf = true) (w2 : (Lit.int .i64 a2).wf = true) :
    Calls Try.prog 3 #[.int .u64 a0, .int .u64 a1, .int .i64 a2] w fun e w' => e = .returned (.bool true) ∧ Below w.heap.size w w' := by
  obtain ⟨k, h⟩ := P a0 a1 a2 w0 w1 w2
  refine (sigillumlaw01_BitsTurn.calls k a0 a1 a2 true w h).mono ?_
  rintro e w' ⟨rfl, hd⟩
  exact ⟨rfl, hd⟩

end Go.Proofs.Ytmhahelgfkodkaa.PA
