-- By a program of this session (after the form of the print; not a text of the print's own)
import Derived.Test.YtmhahelgfkodkaaF0
import Derived.Test.YtmhahelgfkodkaaF13
import Derived.Test.YtmhahelgfkodkaaF11
import Derived.Test.YtmhahelgfkodkaaF12
import Derived.Test.YtmhahelgfkodkaaF9
namespace Go.Proofs.Ytmhahelgfkodkaa.PA
open Go.RowKit Go.Proofs.YtmhahelgfkodkaaW.PrintWords Go.Proofs.YtmhahelgfkodkaaW.PrintLast Go.Proofs.YtmhahelgfkodkaaW.PrintMore
attribute [local go_sem] max2_int min2_int max_two min_two max_three min_three max_four min_four   -- for this text's walks alone
set_option linter.unusedVariables false
set_option linter.unusedSimpArgs false
/-! ### sigillumlaw01_BitsTwice: function 8 -/
def sigillumlaw01_BitsTwice.f (k : Nat) (a0 : Int) (a1 : Int) (a2 : Int) (a3 : Int) : Option (Bool) := (sigillumlaw01_awake.f k).bind fun t159 => (if t159 = true then ((bits_Turn.f a0 (wrap64 (a2))).bind fun t160 => ((bits_Turn.f t160 (wrap64 (a3))).bind fun t161 => ((bits_Turn.f a0 (wrap64 ((wrap64 (a2)) + (wrap64 (a3))))).bind fun t162 => (if t161 = t162 then ((bits_Add.f a0 a1).bind fun t163 => ((bits_Add.f a1 a0).bind fun t164 => (if t163 = t164 then ((bits_Mul.f a0 a1).bind fun t165 => ((bits_Mul.f a1 a0).bind fun t166 => (if t165 = t166 then ((bits_Add.f a0 a1).bind fun t167 => ((bits_Mul.f t167 3).bind fun t168 => ((bits_Mul.f a0 3).bind fun t169 => ((bits_Mul.f a1 3).bind fun t170 => ((bits_Add.f t169 t170).bind fun t171 => (some (t168 == t171))))))) else (some false)))) else (some false)))) else (some false))))) else (some false))
theorem sigillumlaw01_BitsTwice.mono : ∀ a0 a1 a2 a3 k, LeO (sigillumlaw01_BitsTwice.f k a0 a1 a2 a3) (sigillumlaw01_BitsTwice.f (k + 1) a0 a1 a2 a3) := by
  intro a0 a1 a2 a3 k
  unfold sigillumlaw01_BitsTwice.f
  repeat' first
      | (with_reducible exact sigillumlaw01_awake.mono _)
      | (with_reducible exact LeO.refl _)
      | (with_reducible exact LeO.none _)
      | (with_reducible refine LeO.ite ?_ ?_)
      | (with_reducible refine LeO.bind ?_ (fun _ => ?_))
      | exact sigillumlaw01_awake.mono _
      | exact LeO.none _
      | refine LeO.ite ?_ ?_
      | refine LeO.bind ?_ (fun _ => ?_)
set_option maxHeartbeats 8000000 in
set_option maxRecDepth 100000 in
theorem sigillumlaw01_BitsTwice.calls (k : Nat) (a0 : Int) (a1 : Int) (a2 : Int) (a3 : Int) (r : Bool) (w : World) (h : sigillumlaw01_BitsTwice.f k a0 a1 a2 a3 = some r) :
    Calls Try.prog 8 #[.int .u64 a0, .int .u64 a1, .int .i16 a2, .int .i16 a3] w fun e w' => e = .returned (.bool r) ∧ Below w.heap.size w w' := by
  have HB := Aside0.mk (Below.refl w.heap.size w)
  have H : ((sigillumlaw01_awake.f k).bind fun t159 => (if t159 = true then ((bits_Turn.f a0 (wrap64 (a2))).bind fun t160 => ((bits_Turn.f t160 (wrap64 (a3))).bind fun t161 => ((bits_Turn.f a0 (wrap64 ((wrap64 (a2)) + (wrap64 (a3))))).bind fun t162 => (if t161 = t162 then ((bits_Add.f a0 a1).bind fun t163 => ((bits_Add.f a1 a0).bind fun t164 => (if t163 = t164 then ((bits_Mul.f a0 a1).bind fun t165 => ((bits_Mul.f a1 a0).bind fun t166 => (if t165 = t166 then ((bits_Add.f a0 a1).bind fun t167 => ((bits_Mul.f t167 3).bind fun t168 => ((bits_Mul.f a0 3).bind fun t169 => ((bits_Mul.f a1 3).bind fun t170 => ((bits_Add.f t169 t170).bind fun t171 => (some (t168 == t171))))))) else (some false)))) else (some false)))) else (some false))))) else (some false))) = some r := h
  clear h
  replace H := Option.bind_eq_some_iff.mp H
  obtain ⟨t159, A50, H⟩ := H
  replace H : (if t159 = true then ((bits_Turn.f a0 (wrap64 (a2))).bind fun t160 => ((bits_Turn.f t160 (wrap64 (a3))).bind fun t161 => ((bits_Turn.f a0 (wrap64 ((wrap64 (a2)) + (wrap64 (a3))))).bind fun t162 => (if t161 = t162 then ((bits_Add.f a0 a1).bind fun t163 => ((bits_Add.f a1 a0).bind fun t164 => (if t163 = t164 then ((bits_Mul.f a0 a1).bind fun t165 => ((bits_Mul.f a1 a0).bind fun t166 => (if t165 = t166 then ((bits_Add.f a0 a1).bind fun t167 => ((bits_Mul.f t167 3).bind fun t168 => ((bits_Mul.f a0 3).bind fun t169 => ((bits_Mul.f a1 3).bind fun t170 => ((bits_Add.f t169 t170).bind fun t171 => (some (t168 == t171))))))) else (some false)))) else (some false)))) else (some false))))) else (some false)) = some r := H
  have A5 := Aside0.mk A50
  clear A50
  by_cases c6 : t159 = true
  · subst c6
    have H1 : ((bits_Turn.f a0 (wrap64 (a2))).bind fun t160 => ((bits_Turn.f t160 (wrap64 (a3))).bind fun t161 => ((bits_Turn.f a0 (wrap64 ((wrap64 (a2)) + (wrap64 (a3))))).bind fun t162 => (if t161 = t162 then ((bits_Add.f a0 a1).bind fun t163 => ((bits_Add.f a1 a0).bind fun t164 => (if t163 = t164 then ((bits_Mul.f a0 a1).bind fun t165 => ((bits_Mul.f a1 a0).bind fun t166 => (if t165 = t166 then ((bits_Add.f a0 a1).bind fun t167 => ((bits_Mul.f t167 3).bind fun t168 => ((bits_Mul.f a0 3).bind fun t169 => ((bits_Mul.f a1 3).bind fun t170 => ((bits_Add.f t169 t170).bind fun t171 => (some (t168 == t171))))))) else (some false)))) else (some false)))) else (some false))))) = some r := by rw [if_pos rfl] at H; exact H
    clear H
    have H := H1
    clear H1
    replace H := Option.bind_eq_some_iff.mp H
    obtain ⟨t160, A70, H⟩ := H
    replace H : ((bits_Turn.f t160 (wrap64 (a3))).bind fun t161 => ((bits_Turn.f a0 (wrap64 ((wrap64 (a2)) + (wrap64 (a3))))).bind fun t162 => (if t161 = t162 then ((bits_Add.f a0 a1).bind fun t163 => ((bits_Add.f a1 a0).bind fun t164 => (if t163 = t164 then ((bits_Mul.f a0 a1).bind fun t165 => ((bits_Mul.f a1 a0).bind fun t166 => (if t165 = t166 then ((bits_Add.f a0 a1).bind fun t167 => ((bits_Mul.f t167 3).bind fun t168 => ((bits_Mul.f a0 3).bind fun t169 => ((bits_Mul.f a1 3).bind fun t170 => ((bits_Add.f t169 t170).bind fun t171 => (some (t168 == t171))))))) else (some false)))) else (some false)))) else (some false)))) = some r := H
    have A7 := Aside0.mk A70
    clear A70
    replace H := Option.bind_eq_some_iff.mp H
    obtain ⟨t161, A80, H⟩ := H
    replace H : ((bits_Turn.f a0 (wrap64 ((wrap64 (a2)) + (wrap64 (a3))))).bind fun t162 => (if t161 = t162 then ((bits_Add.f a0 a1).bind fun t163 => ((bits_Add.f a1 a0).bind fun t164 => (if t163 = t164 then ((bits_Mul.f a0 a1).bind fun t165 => ((bits_Mul.f a1 a0).bind fun t166 => (if t165 = t166 then ((bits_Add.f a0 a1).bind fun t167 => ((bits_Mul.f t167 3).bind fun t168 => ((bits_Mul.f a0 3).bind fun t169 => ((bits_Mul.f a1 3).bind fun t170 => ((bits_Add.f t169 t170).bind fun t171 => (some (t168 == t171))))))) else (some false)))) else (some false)))) else (some false))) = some r := H
    have A8 := Aside0.mk A80
    clear A80
    replace H := Option.bind_eq_some_iff.mp H
    obtain ⟨t162, A90, H⟩ := H
    replace H : (if t161 = t162 then ((bits_Add.f a0 a1).bind fun t163 => ((bits_Add.f a1 a0).bind fun t164 => (if t163 = t164 then ((bits_Mul.f a0 a1).bind fun t165 => ((bits_Mul.f a1 a0).bind fun t166 => (if t165 = t166 then ((bits_Add.f a0 a1).bind fun t167 => ((bits_Mul.f t167 3).bind fun t168 => ((bits_Mul.f a0 3).bind fun t169 => ((bits_Mul.f a1 3).bind fun t170 => ((bits_Add.f t169 t170).bind fun t171 => (some (t168 == t171))))))) else (some false)))) else (some false)))) else (some false)) = some r := H
    have A9 := Aside0.mk A90
    clear A90
    by_cases c10 : t161 = t162
    · rw [if_pos c10] at H
      have c10b0 : (t161 == t162) = true := beq_iff_eq.mpr c10
      have c10b1 : (t161 != t162) = false := bne_eq_false_iff_eq.mpr c10
      clear c10
      replace H := Option.bind_eq_some_iff.mp H
      obtain ⟨t163, A110, H⟩ := H
      replace H : ((bits_Add.f a1 a0).bind fun t164 => (if t163 = t164 then ((bits_Mul.f a0 a1).bind fun t165 => ((bits_Mul.f a1 a0).bind fun t166 => (if t165 = t166 then ((bits_Add.f a0 a1).bind fun t167 => ((bits_Mul.f t167 3).bind fun t168 => ((bits_Mul.f a0 3).bind fun t169 => ((bits_Mul.f a1 3).bind fun t170 => ((bits_Add.f t169 t170).bind fun t171 => (some (t168 == t171))))))) else (some false)))) else (some false))) = some r := H
      have A11 := Aside0.mk A110
      clear A110
      replace H := Option.bind_eq_some_iff.mp H
      obtain ⟨t164, A120, H⟩ := H
      replace H : (if t163 = t164 then ((bits_Mul.f a0 a1).bind fun t165 => ((bits_Mul.f a1 a0).bind fun t166 => (if t165 = t166 then ((bits_Add.f a0 a1).bind fun t167 => ((bits_Mul.f t167 3).bind fun t168 => ((bits_Mul.f a0 3).bind fun t169 => ((bits_Mul.f a1 3).bind fun t170 => ((bits_Add.f t169 t170).bind fun t171 => (some (t168 == t171))))))) else (some false)))) else (some false)) = some r := H
      have A12 := Aside0.mk A120
      clear A120
      by_cases c13 : t163 = t164
      · rw [if_pos c13] at H
        have c13b0 : (t163 == t164) = true := beq_iff_eq.mpr c13
        have c13b1 : (t163 != t164) = false := bne_eq_false_iff_eq.mpr c13
        clear c13
        replace H := Option.bind_eq_some_iff.mp H
        obtain ⟨t165, A140, H⟩ := H
        replace H : ((bits_Mul.f a1 a0).bind fun t166 => (if t165 = t166 then ((bits_Add.f a0 a1).bind fun t167 => ((bits_Mul.f t167 3).bind fun t168 => ((bits_Mul.f a0 3).bind fun t169 => ((bits_Mul.f a1 3).bind fun t170 => ((bits_Add.f t169 t170).bind fun t171 => (some (t168 == t171))))))) else (some false))) = some r := H
        have A14 := Aside0.mk A140
        clear A140
        replace H := Option.bind_eq_some_iff.mp H
        obtain ⟨t166, A150, H⟩ := H
        replace H : (if t165 = t166 then ((bits_Add.f a0 a1).bind fun t167 => ((bits_Mul.f t167 3).bind fun t168 => ((bits_Mul.f a0 3).bind fun t169 => ((bits_Mul.f a1 3).bind fun t170 => ((bits_Add.f t169 t170).bind fun t171 => (some (t168 == t171))))))) else (some false)) = some r := H
        have A15 := Aside0.mk A150
        clear A150
        by_cases c16 : t165 = t166
        · rw [if_pos c16] at H
          have c16b0 : (t165 == t166) = true := beq_iff_eq.mpr c16
          have c16b1 : (t165 != t166) = false := bne_eq_false_iff_eq.mpr c16
          clear c16
          replace H := Option.bind_eq_some_iff.mp H
          obtain ⟨t167, A170, H⟩ := H
          replace H : ((bits_Mul.f t167 3).bind fun t168 => ((bits_Mul.f a0 3).bind fun t169 => ((bits_Mul.f a1 3).bind fun t170 => ((bits_Add.f t169 t170).bind fun t171 => (some (t168 == t171)))))) = some r := H
          have A17 := Aside0.mk A170
          clear A170
          obtain rfl := Option.some.inj (A11.out.symm.trans A17.out)
          replace H := Option.bind_eq_some_iff.mp H
          obtain ⟨t168, A180, H⟩ := H
          replace H : ((bits_Mul.f a0 3).bind fun t169 => ((bits_Mul.f a1 3).bind fun t170 => ((bits_Add.f t169 t170).bind fun t171 => (some (t168 == t171))))) = some r := H
          have A18 := Aside0.mk A180
          clear A180
          replace H := Option.bind_eq_some_iff.mp H
          obtain ⟨t169, A190, H⟩ := H
          replace H : ((bits_Mul.f a1 3).bind fun t170 => ((bits_Add.f t169 t170).bind fun t171 => (some (t168 == t171)))) = some r := H
          have A19 := Aside0.mk A190
          clear A190
          replace H := Option.bind_eq_some_iff.mp H
          obtain ⟨t170, A200, H⟩ := H
          replace H : ((bits_Add.f t169 t170).bind fun t171 => (some (t168 == t171))) = some r := H
          have A20 := Aside0.mk A200
          clear A200
          replace H := Option.bind_eq_some_iff.mp H
          obtain ⟨t171, A210, H⟩ := H
          replace H : (some (t168 == t171)) = some r := H
          have A21 := Aside0.mk A210
          clear A210
          obtain rfl := Option.some.inj H
          go_enter Try.func8, Try.ntmps8
          go_wp2_with (first | ((with_reducible refine gate_callee (f := 9) rfl ?_); refine goesL_ (some 9) rfl rfl Try.func9 (by kernel_rfl) rfl #[] rfl (by (try simp only [List.map_toArray, List.map_cons, List.map_nil]); first | done | rfl | (simp only [List.length_drop, List.length_take]; rfl)) ?_; (with_reducible refine (sigillumlaw01_awake.calls k  true _ A5.out).mono ?_); rintro e w22 ⟨rfl, hb⟩; refine ⟨_, rfl, ?_⟩; have n0_ := Aside0.mk (below_step (by repeat (first | (with_reducible first | exact HB.out | apply below_alloc | apply pw_below_drewN | apply below_drew1) | exact HB.out)) hb); clear HB; have HB := n0_; clear n0_; (try clear hb); (try clear hb2); (try clear hk); (try clear hi)) | ((with_reducible refine gate_callee (f := 13) rfl ?_); refine goesL_ (some 14) rfl rfl Try.func13 (by kernel_rfl) rfl #[.int .u64 a0, .int .i64 (wrap64 (a2))] rfl (by (try simp only [List.map_toArray, List.map_cons, List.map_nil]); first | done | rfl | (simp only [List.length_drop, List.length_take]; rfl)) ?_; (with_reducible refine (bits_Turn.calls a0 (wrap64 (a2)) t160 _ A7.out).mono ?_); rintro e w' ⟨rfl, ⟨nd, rfl⟩⟩; refine ⟨_, rfl, ?_⟩) | ((with_reducible refine gate_callee (f := 13) rfl ?_); refine goesL_ (some 17) rfl rfl Try.func13 (by kernel_rfl) rfl #[.int .u64 t160, .int .i64 (wrap64 (a3))] rfl (by (try simp only [List.map_toArray, List.map_cons, List.map_nil]); first | done | rfl | (simp only [List.length_drop, List.length_take]; rfl)) ?_; (with_reducible refine (bits_Turn.calls t160 (wrap64 (a3)) t161 _ A8.out).mono ?_); rintro e w' ⟨rfl, ⟨nd, rfl⟩⟩; refine ⟨_, rfl, ?_⟩) | ((with_reducible refine gate_callee (f := 13) rfl ?_); refine goesL_ (some 24) rfl rfl Try.func13 (by kernel_rfl) rfl #[.int .u64 a0, .int .i64 (wrap64 ((wrap64 (a2)) + (wrap64 (a3))))] rfl (by (try simp only [List.map_toArray, List.map_cons, List.map_nil]); first | done | rfl | (simp only [List.length_drop, List.length_take]; rfl)) ?_; (with_reducible refine (bits_Turn.calls a0 (wrap64 ((wrap64 (a2)) + (wrap64 (a3)))) t162 _ A9.out).mono ?_); rintro e w' ⟨rfl, ⟨nd, rfl⟩⟩; refine ⟨_, rfl, ?_⟩) | (go_at_call 11; (with_reducible refine (bits_Add.calls a0 a1 t163 _ A11.out).mono ?_); rintro e w' ⟨rfl, ⟨nd, rfl⟩⟩) | (go_at_call 11; (with_reducible refine (bits_Add.calls a1 a0 t164 _ A12.out).mono ?_); rintro e w' ⟨rfl, ⟨nd, rfl⟩⟩) | (go_at_call 12; (with_reducible refine (bits_Mul.calls a0 a1 t165 _ A14.out).mono ?_); rintro e w' ⟨rfl, ⟨nd, rfl⟩⟩) | (go_at_call 12; (with_reducible refine (bits_Mul.calls a1 a0 t166 _ A15.out).mono ?_); rintro e w' ⟨rfl, ⟨nd, rfl⟩⟩) | (go_at_call 11; (with_reducible refine (bits_Add.calls a0 a1 t163 _ A17.out).mono ?_); rintro e w' ⟨rfl, ⟨nd, rfl⟩⟩) | (go_at_call 12; (with_reducible refine (bits_Mul.calls t163 3 t168 _ A18.out).mono ?_); rintro e w' ⟨rfl, ⟨nd, rfl⟩⟩) | (go_at_call 12; (with_reducible refine (bits_Mul.calls a0 3 t169 _ A19.out).mono ?_); rintro e w' ⟨rfl, ⟨nd, rfl⟩⟩) | (go_at_call 12; (with_reducible refine (bits_Mul.calls a1 3 t170 _ A20.out).mono ?_); rintro e w' ⟨rfl, ⟨nd, rfl⟩⟩) | (go_at_call 11; (with_reducible refine (bits_Add.calls t169 t170 t171 _ A21.out).mono ?_); rintro e w' ⟨rfl, ⟨nd, rfl⟩⟩))
          go_ret
          exact ⟨by first | rfl | (simp [errW_none, errW_some] <;> rfl) | (simp [*, errW_none, errW_some] <;> rfl), by repeat (first | (with_reducible first | exact HB.out | apply below_alloc | apply pw_below_drewN | apply below_drew1) | exact HB.out)⟩
        · rw [if_neg c16] at H
          have c16b0 : (t165 == t166) = false := beq_eq_false_iff_ne.mpr c16
          have c16b1 : (t165 != t166) = true := bne_iff_ne.mpr c16
          obtain rfl := Option.some.inj H
          go_enter Try.func8, Try.ntmps8
          go_wp2_with (first | ((with_reducible refine gate_callee (f := 9) rfl ?_); refine goesL_ (some 9) rfl rfl Try.func9 (by kernel_rfl) rfl #[] rfl (by (try simp only [List.map_toArray, List.map_cons, List.map_nil]); first | done | rfl | (simp only [List.length_drop, List.length_take]; rfl)) ?_; (with_reducible refine (sigillumlaw01_awake.calls k  true _ A5.out).mono ?_); rintro e w23 ⟨rfl, hb⟩; refine ⟨_, rfl, ?_⟩; have n0_ := Aside0.mk (below_step (by repeat (first | (with_reducible first | exact HB.out | apply below_alloc | apply pw_below_drewN | apply below_drew1) | exact HB.out)) hb); clear HB; have HB := n0_; clear n0_; (try clear hb); (try clear hb2); (try clear hk); (try clear hi)) | ((with_reducible refine gate_callee (f := 13) rfl ?_); refine goesL_ (some 14) rfl rfl Try.func13 (by kernel_rfl) rfl #[.int .u64 a0, .int .i64 (wrap64 (a2))] rfl (by (try simp only [List.map_toArray, List.map_cons, List.map_nil]); first | done | rfl | (simp only [List.length_drop, List.length_take]; rfl)) ?_; (with_reducible refine (bits_Turn.calls a0 (wrap64 (a2)) t160 _ A7.out).mono ?_); rintro e w' ⟨rfl, ⟨nd, rfl⟩⟩; refine ⟨_, rfl, ?_⟩) | ((with_reducible refine gate_callee (f := 13) rfl ?_); refine goesL_ (some 17) rfl rfl Try.func13 (by kernel_rfl) rfl #[.int .u64 t160, .int .i64 (wrap64 (a3))] rfl (by (try simp only [List.map_toArray, List.map_cons, List.map_nil]); first | done | rfl | (simp only [List.length_drop, List.length_take]; rfl)) ?_; (with_reducible refine (bits_Turn.calls t160 (wrap64 (a3)) t161 _ A8.out).mono ?_); rintro e w' ⟨rfl, ⟨nd, rfl⟩⟩; refine ⟨_, rfl, ?_⟩) | ((with_reducible refine gate_callee (f := 13) rfl ?_); refine goesL_ (some 24) rfl rfl Try.func13 (by kernel_rfl) rfl #[.int .u64 a0, .int .i64 (wrap64 ((wrap64 (a2)) + (wrap64 (a3))))] rfl (by (try simp only [List.map_toArray, List.map_cons, List.map_nil]); first | done | rfl | (simp only [List.length_drop, List.length_take]; rfl)) ?_; (with_reducible refine (bits_Turn.calls a0 (wrap64 ((wrap64 (a2)) + (wrap64 (a3)))) t162 _ A9.out).mono ?_); rintro e w' ⟨rfl, ⟨nd, rfl⟩⟩; refine ⟨_, rfl, ?_⟩) | (go_at_call 11; (with_reducible refine (bits_Add.calls a0 a1 t163 _ A11.out).mono ?_); rintro e w' ⟨rfl, ⟨nd, rfl⟩⟩) | (go_at_call 11; (with_reducible refine (bits_Add.calls a1 a0 t164 _ A12.out).mono ?_); rintro e w' ⟨rfl, ⟨nd, rfl⟩⟩) | (go_at_call 12; (with_reducible refine (bits_Mul.calls a0 a1 t165 _ A14.out).mono ?_); rintro e w' ⟨rfl, ⟨nd, rfl⟩⟩) | (go_at_call 12; (with_reducible refine (bits_Mul.calls a1 a0 t166 _ A15.out).mono ?_); rintro e w' ⟨rfl, ⟨nd, rfl⟩⟩))
          go_ret
          exact ⟨by first | rfl | (simp [errW_none, errW_some] <;> rfl) | (simp [*, errW_none, errW_some] <;> rfl), by repeat (first | (with_reducible first | exact HB.out | apply below_alloc | apply pw_below_drewN | apply below_drew1) | exact HB.out)⟩
      · rw [if_neg c13] at H
        have c13b0 : (t163 == t164) = false := beq_eq_false_iff_ne.mpr c13
        have c13b1 : (t163 != t164) = true := bne_iff_ne.mpr c13
        obtain rfl := Option.some.inj H
        go_enter Try.func8, Try.ntmps8
        go_wp2_with (first | ((with_reducible refine gate_callee (f := 9) rfl ?_); refine goesL_ (some 9) rfl rfl Try.func9 (by kernel_rfl) rfl #[] rfl (by (try simp only [List.map_toArray, List.map_cons, List.map_nil]); first | done | rfl | (simp only [List.length_drop, List.length_take]; rfl)) ?_; (with_reducible refine (sigillumlaw01_awake.calls k  true _ A5.out).mono ?_); rintro e w24 ⟨rfl, hb⟩; refine ⟨_, rfl, ?_⟩; have n0_ := Aside0.mk (below_step (by repeat (first | (with_reducible first | exact HB.out | apply below_alloc | apply pw_below_drewN | apply below_drew1) | exact HB.out)) hb); clear HB; have HB := n0_; clear n0_; (try clear hb); (try clear hb2); (try clear hk); (try clear hi)) | ((with_reducible refine gate_callee (f := 13) rfl ?_); refine goesL_ (some 14) rfl rfl Try.func13 (by kernel_rfl) rfl #[.int .u64 a0, .int .i64 (wrap64 (a2))] rfl (by (try simp only [List.map_toArray, List.map_cons, List.map_nil]); first | done | rfl | (simp only [List.length_drop, List.length_take]; rfl)) ?_; (with_reducible refine (bits_Turn.calls a0 (wrap64 (a2)) t160 _ A7.out).mono ?_); rintro e w' ⟨rfl, ⟨nd, rfl⟩⟩; refine ⟨_, rfl, ?_⟩) | ((with_reducible refine gate_callee (f := 13) rfl ?_); refine goesL_ (some 17) rfl rfl Try.func13 (by kernel_rfl) rfl #[.int .u64 t160, .int .i64 (wrap64 (a3))] rfl (by (try simp only [List.map_toArray, List.map_cons, List.map_nil]); first | done | rfl | (simp only [List.length_drop, List.length_take]; rfl)) ?_; (with_reducible refine (bits_Turn.calls t160 (wrap64 (a3)) t161 _ A8.out).mono ?_); rintro e w' ⟨rfl, ⟨nd, rfl⟩⟩; refine ⟨_, rfl, ?_⟩) | ((with_reducible refine gate_callee (f := 13) rfl ?_); refine goesL_ (some 24) rfl rfl Try.func13 (by kernel_rfl) rfl #[.int .u64 a0, .int .i64 (wrap64 ((wrap64 (a2)) + (wrap64 (a3))))] rfl (by (try simp only [List.map_toArray, List.map_cons, List.map_nil]); first | done | rfl | (simp only [List.length_drop, List.length_take]; rfl)) ?_; (with_reducible refine (bits_Turn.calls a0 (wrap64 ((wrap64 (a2)) + (wrap64 (a3)))) t162 _ A9.out).mono ?_); rintro e w' ⟨rfl, ⟨nd, rfl⟩⟩; refine ⟨_, rfl, ?_⟩) | (go_at_call 11; (with_reducible refine (bits_Add.calls a0 a1 t163 _ A11.out).mono ?_); rintro e w' ⟨rfl, ⟨nd, rfl⟩⟩) | (go_at_call 11; (with_reducible refine (bits_Add.calls a1 a0 t164 _ A12.out).mono ?_); rintro e w' ⟨rfl, ⟨nd, rfl⟩⟩))
        go_ret
        exact ⟨by first | rfl | (simp [errW_none, errW_some] <;> rfl) | (simp [*, errW_none, errW_some] <;> rfl), by repeat (first | (with_reducible first | exact HB.out | apply below_alloc | apply pw_below_drewN | apply below_drew1) | exact HB.out)⟩
    · rw [if_neg c10] at H
      have c10b0 : (t161 == t162) = false := beq_eq_false_iff_ne.mpr c10
      have c10b1 : (t161 != t162) = true := bne_iff_ne.mpr c10
      obtain rfl := Option.some.inj H
      go_enter Try.func8, Try.ntmps8
      go_wp2_with (first | ((with_reducible refine gate_callee (f := 9) rfl ?_); refine goesL_ (some 9) rfl rfl Try.func9 (by kernel_rfl) rfl #[] rfl (by (try simp only [List.map_toArray, List.map_cons, List.map_nil]); first | done | rfl | (simp only [List.length_drop, List.length_take]; rfl)) ?_; (with_reducible refine (sigillumlaw01_awake.calls k  true _ A5.out).mono ?_); rintro e w25 ⟨rfl, hb⟩; refine ⟨_, rfl, ?_⟩; have n0_ := Aside0.mk (below_step (by repeat (first | (with_reducible first | exact HB.out | apply below_alloc | apply pw_below_drewN | apply below_drew1) | exact HB.out)) hb); clear HB; have HB := n0_; clear n0_; (try clear hb); (try clear hb2); (try clear hk); (try clear hi)) | ((with_reducible refine gate_callee (f := 13) rfl ?_); refine goesL_ (some 14) rfl rfl Try.func13 (by kernel_rfl) rfl #[.int .u64 a0, .int .i64 (wrap64 (a2))] rfl (by (try simp only [List.map_toArray, List.map_cons, List.map_nil]); first | done | rfl | (simp only [List.length_drop, List.length_take]; rfl)) ?_; (with_reducible refine (bits_Turn.calls a0 (wrap64 (a2)) t160 _ A7.out).mono ?_); rintro e w' ⟨rfl, ⟨nd, rfl⟩⟩; refine ⟨_, rfl, ?_⟩) | ((with_reducible refine gate_callee (f := 13) rfl ?_); refine goesL_ (some 17) rfl rfl Try.func13 (by kernel_rfl) rfl #[.int .u64 t160, .int .i64 (wrap64 (a3))] rfl (by (try simp only [List.map_toArray, List.map_cons, List.map_nil]); first | done | rfl | (simp only [List.length_drop, List.length_take]; rfl)) ?_; (with_reducible refine (bits_Turn.calls t160 (wrap64 (a3)) t161 _ A8.out).mono ?_); rintro e w' ⟨rfl, ⟨nd, rfl⟩⟩; refine ⟨_, rfl, ?_⟩) | ((with_reducible refine gate_callee (f := 13) rfl ?_); refine goesL_ (some 24) rfl rfl Try.func13 (by kernel_rfl) rfl #[.int .u64 a0, .int .i64 (wrap64 ((wrap64 (a2)) + (wrap64 (a3))))] rfl (by (try simp only [List.map_toArray, List.map_cons, List.map_nil]); first | done | rfl | (simp only [List.length_drop, List.length_take]; rfl)) ?_; (with_reducible refine (bits_Turn.calls a0 (wrap64 ((wrap64 (a2)) + (wrap64 (a3)))) t162 _ A9.out).mono ?_); rintro e w' ⟨rfl, ⟨nd, rfl⟩⟩; refine ⟨_, rfl, ?_⟩))
      go_ret
      exact ⟨by first | rfl | (simp [errW_none, errW_some] <;> rfl) | (simp [*, errW_none, errW_some] <;> rfl), by repeat (first | (with_reducible first | exact HB.out | apply below_alloc | apply pw_below_drewN | apply below_drew1) | exact HB.out)⟩
  · replace c6 := Bool.eq_false_iff.mpr c6
    subst c6
    have H1 : (some false) = some r := by rw [if_neg (show ¬ (false = true) by decide)] at H; exact H
    clear H
    have H := H1
    clear H1
    obtain rfl := Option.some.inj H
    go_enter Try.func8, Try.ntmps8
    go_wp2_with (first | ((with_reducible refine gate_callee (f := 9) rfl ?_); refine goesL_ (some 9) rfl rfl Try.func9 (by kernel_rfl) rfl #[] rfl (by (try simp only [List.map_toArray, List.map_cons, List.map_nil]); first | done | rfl | (simp only [List.length_drop, List.length_take]; rfl)) ?_; (with_reducible refine (sigillumlaw01_awake.calls k  false _ A5.out).mono ?_); rintro e w26 ⟨rfl, hb⟩; refine ⟨_, rfl, ?_⟩; have n0_ := Aside0.mk (below_step (by repeat (first | (with_reducible first | exact HB.out | apply below_alloc | apply pw_below_drewN | apply below_drew1) | exact HB.out)) hb); clear HB; have HB := n0_; clear n0_; (try clear hb); (try clear hb2); (try clear hk); (try clear hi)))
    go_ret
    exact ⟨by first | rfl | (simp [errW_none, errW_some] <;> rfl) | (simp [*, errW_none, errW_some] <;> rfl), by repeat (first | (with_reducible first | exact HB.out | apply below_alloc | apply pw_below_drewN | apply below_drew1) | exact HB.out)⟩

/-- THE ONE PURE STATEMENT of sigillumlaw01_BitsTwice: yours. -/
def sigillumlaw01_BitsTwice.Pure : Prop := ∀ (a0 : Int) (a1 : Int) (a2 : Int) (a3 : Int), (Lit.int .u64 a0).wf = true → (Lit.int .u64 a1).wf = true → (Lit.int .i16 a2).wf = true → (Lit.int .i16 a3).wf = true → ∃ k, sigillumlaw01_BitsTwice.f k a0 a1 a2 a3 = some true
theorem sigillumlaw01_BitsTwice.walk (P : sigillumlaw01_BitsTwice.Pure) (a0 : Int) (a1 : Int) (a2 : Int) (a3 : Int) (w : World) (w0 : (Lit.int .u64 a0).wf = true) (w1 : (Lit.int .u64 a1).wf = true) (w2 : (Lit.int .i16 a2).wf = true) (w3 : (Lit.int .i16 a3).wf = true) :
    Calls Try.prog 8 #[.int .u64 a0, .int .u64 a1, .int .i16 a2, .int .i16 a3] w fun e w' => e = .returned (.bool true) ∧ Below w.heap.size w w' := by
  obtain ⟨k, h⟩ := P a0 a1 a2 a3 w0 w1 w2 w3
  refine (sigillumlaw01_BitsTwice.calls k a0 a1 a2 a3 true w h).mono ?_
  rintro e w' ⟨rfl, hd⟩
  exact ⟨rfl, hd⟩

end Go.Proofs.Ytmhahelgfkodkaa.PA
