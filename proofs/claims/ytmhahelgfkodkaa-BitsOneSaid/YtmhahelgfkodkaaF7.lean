-- By a program of this session (after the form of the print; not a text of the print's own)
import Derived.Test.YtmhahelgfkodkaaF0
import Derived.Test.YtmhahelgfkodkaaF15
import Derived.Test.YtmhahelgfkodkaaF16
import Derived.Test.YtmhahelgfkodkaaF9
namespace Go.Proofs.Ytmhahelgfkodkaa.PA
open Go.RowKit Go.Proofs.YtmhahelgfkodkaaW.PrintWords Go.Proofs.YtmhahelgfkodkaaW.PrintLast Go.Proofs.YtmhahelgfkodkaaW.PrintMore
attribute [local go_sem] max2_int min2_int max_two min_two max_three min_three max_four min_four   -- for this text's walks alone
set_option linter.unusedVariables false
set_option linter.unusedSimpArgs false
/-! ### sigillumlaw01_BitsOne: function 7 -/
def sigillumlaw01_BitsOne.f (k : Nat) (a0 : Int) (a1 : Int) (a2 : Int) : Option (Bool) := (sigillumlaw01_awake.f k).bind fun t151 => (if t151 = true then ((bits_Mix.f k (IntKind.u64.wrap (a0 + (IntKind.u64.wrap ((IntKind.u64.wrap (a2)) * 281474976710656)))) a1).bind fun t152 => ((bits_Mix.f k a0 a1).bind fun t153 => (if t152 = t153 then ((bits_Mix.f k a1 (IntKind.u64.wrap (a0 + (IntKind.u64.wrap ((IntKind.u64.wrap (a2)) * 281474976710656))))).bind fun t154 => ((bits_Mix.f k a1 a0).bind fun t155 => (if t154 = t155 then ((bits_Mix.f k a0 a1).bind fun t156 => (if t156 ≤ 281474976710655 then ((bits_Hex.f (IntKind.u64.wrap (a0 + (IntKind.u64.wrap ((IntKind.u64.wrap (a2)) * 281474976710656))))).bind fun t157 => ((bits_Hex.f a0).bind fun t158 => (some (t157.toList == t158.toList)))) else (some false))) else (some false)))) else (some false)))) else (some false))
theorem sigillumlaw01_BitsOne.mono : ∀ a0 a1 a2 k, LeO (sigillumlaw01_BitsOne.f k a0 a1 a2) (sigillumlaw01_BitsOne.f (k + 1) a0 a1 a2) := by
  intro a0 a1 a2 k
  unfold sigillumlaw01_BitsOne.f
  repeat' first
      | (with_reducible exact bits_Mix.mono _ _ _)
      | (with_reducible exact sigillumlaw01_awake.mono _)
      | (with_reducible exact LeO.refl _)
      | (with_reducible exact LeO.none _)
      | (with_reducible refine LeO.ite ?_ ?_)
      | (with_reducible refine LeO.bind ?_ (fun _ => ?_))
      | exact bits_Mix.mono _ _ _
      | exact sigillumlaw01_awake.mono _
      | exact LeO.none _
      | refine LeO.ite ?_ ?_
      | refine LeO.bind ?_ (fun _ => ?_)
set_option maxHeartbeats 8000000 in
set_option maxRecDepth 100000 in
theorem sigillumlaw01_BitsOne.calls (k : Nat) (a0 : Int) (a1 : Int) (a2 : Int) (r : Bool) (w : World) (h : sigillumlaw01_BitsOne.f k a0 a1 a2 = some r) :
    Calls Try.prog 7 #[.int .u64 a0, .int .u64 a1, .int .u16 a2] w fun e w' => e = .returned (.bool r) ∧ Below w.heap.size w w' := by
  have HB := Aside0.mk (Below.refl w.heap.size w)
  have H : ((sigillumlaw01_awake.f k).bind fun t151 => (if t151 = true then ((bits_Mix.f k (IntKind.u64.wrap (a0 + (IntKind.u64.wrap ((IntKind.u64.wrap (a2)) * 281474976710656)))) a1).bind fun t152 => ((bits_Mix.f k a0 a1).bind fun t153 => (if t152 = t153 then ((bits_Mix.f k a1 (IntKind.u64.wrap (a0 + (IntKind.u64.wrap ((IntKind.u64.wrap (a2)) * 281474976710656))))).bind fun t154 => ((bits_Mix.f k a1 a0).bind fun t155 => (if t154 = t155 then ((bits_Mix.f k a0 a1).bind fun t156 => (if t156 ≤ 281474976710655 then ((bits_Hex.f (IntKind.u64.wrap (a0 + (IntKind.u64.wrap ((IntKind.u64.wrap (a2)) * 281474976710656))))).bind fun t157 => ((bits_Hex.f a0).bind fun t158 => (some (t157.toList == t158.toList)))) else (some false))) else (some false)))) else (some false)))) else (some false))) = some r := h
  clear h
  replace H := Option.bind_eq_some_iff.mp H
  obtain ⟨t151, A40, H⟩ := H
  replace H : (if t151 = true then ((bits_Mix.f k (IntKind.u64.wrap (a0 + (IntKind.u64.wrap ((IntKind.u64.wrap (a2)) * 281474976710656)))) a1).bind fun t152 => ((bits_Mix.f k a0 a1).bind fun t153 => (if t152 = t153 then ((bits_Mix.f k a1 (IntKind.u64.wrap (a0 + (IntKind.u64.wrap ((IntKind.u64.wrap (a2)) * 281474976710656))))).bind fun t154 => ((bits_Mix.f k a1 a0).bind fun t155 => (if t154 = t155 then ((bits_Mix.f k a0 a1).bind fun t156 => (if t156 ≤ 281474976710655 then ((bits_Hex.f (IntKind.u64.wrap (a0 + (IntKind.u64.wrap ((IntKind.u64.wrap (a2)) * 281474976710656))))).bind fun t157 => ((bits_Hex.f a0).bind fun t158 => (some (t157.toList == t158.toList)))) else (some false))) else (some false)))) else (some false)))) else (some false)) = some r := H
  have A4 := Aside0.mk A40
  clear A40
  by_cases c5 : t151 = true
  · subst c5
    have H1 : ((bits_Mix.f k (IntKind.u64.wrap (a0 + (IntKind.u64.wrap ((IntKind.u64.wrap (a2)) * 281474976710656)))) a1).bind fun t152 => ((bits_Mix.f k a0 a1).bind fun t153 => (if t152 = t153 then ((bits_Mix.f k a1 (IntKind.u64.wrap (a0 + (IntKind.u64.wrap ((IntKind.u64.wrap (a2)) * 281474976710656))))).bind fun t154 => ((bits_Mix.f k a1 a0).bind fun t155 => (if t154 = t155 then ((bits_Mix.f k a0 a1).bind fun t156 => (if t156 ≤ 281474976710655 then ((bits_Hex.f (IntKind.u64.wrap (a0 + (IntKind.u64.wrap ((IntKind.u64.wrap (a2)) * 281474976710656))))).bind fun t157 => ((bits_Hex.f a0).bind fun t158 => (some (t157.toList == t158.toList)))) else (some false))) else (some false)))) else (some false)))) = some r := by rw [if_pos rfl] at H; exact H
    clear H
    have H := H1
    clear H1
    replace H := Option.bind_eq_some_iff.mp H
    obtain ⟨t152, A60, H⟩ := H
    replace H : ((bits_Mix.f k a0 a1).bind fun t153 => (if t152 = t153 then ((bits_Mix.f k a1 (IntKind.u64.wrap (a0 + (IntKind.u64.wrap ((IntKind.u64.wrap (a2)) * 281474976710656))))).bind fun t154 => ((bits_Mix.f k a1 a0).bind fun t155 => (if t154 = t155 then ((bits_Mix.f k a0 a1).bind fun t156 => (if t156 ≤ 281474976710655 then ((bits_Hex.f (IntKind.u64.wrap (a0 + (IntKind.u64.wrap ((IntKind.u64.wrap (a2)) * 281474976710656))))).bind fun t157 => ((bits_Hex.f a0).bind fun t158 => (some (t157.toList == t158.toList)))) else (some false))) else (some false)))) else (some false))) = some r := H
    have A6 := Aside0.mk A60
    clear A60
    replace H := Option.bind_eq_some_iff.mp H
    obtain ⟨t153, A70, H⟩ := H
    replace H : (if t152 = t153 then ((bits_Mix.f k a1 (IntKind.u64.wrap (a0 + (IntKind.u64.wrap ((IntKind.u64.wrap (a2)) * 281474976710656))))).bind fun t154 => ((bits_Mix.f k a1 a0).bind fun t155 => (if t154 = t155 then ((bits_Mix.f k a0 a1).bind fun t156 => (if t156 ≤ 281474976710655 then ((bits_Hex.f (IntKind.u64.wrap (a0 + (IntKind.u64.wrap ((IntKind.u64.wrap (a2)) * 281474976710656))))).bind fun t157 => ((bits_Hex.f a0).bind fun t158 => (some (t157.toList == t158.toList)))) else (some false))) else (some false)))) else (some false)) = some r := H
    have A7 := Aside0.mk A70
    clear A70
    by_cases c8 : t152 = t153
    · rw [if_pos c8] at H
      have c8b0 : (t152 == t153) = true := beq_iff_eq.mpr c8
      have c8b1 : (t152 != t153) = false := bne_eq_false_iff_eq.mpr c8
      clear c8
      replace H := Option.bind_eq_some_iff.mp H
      obtain ⟨t154, A90, H⟩ := H
      replace H : ((bits_Mix.f k a1 a0).bind fun t155 => (if t154 = t155 then ((bits_Mix.f k a0 a1).bind fun t156 => (if t156 ≤ 281474976710655 then ((bits_Hex.f (IntKind.u64.wrap (a0 + (IntKind.u64.wrap ((IntKind.u64.wrap (a2)) * 281474976710656))))).bind fun t157 => ((bits_Hex.f a0).bind fun t158 => (some (t157.toList == t158.toList)))) else (some false))) else (some false))) = some r := H
      have A9 := Aside0.mk A90
      clear A90
      replace H := Option.bind_eq_some_iff.mp H
      obtain ⟨t155, A100, H⟩ := H
      replace H : (if t154 = t155 then ((bits_Mix.f k a0 a1).bind fun t156 => (if t156 ≤ 281474976710655 then ((bits_Hex.f (IntKind.u64.wrap (a0 + (IntKind.u64.wrap ((IntKind.u64.wrap (a2)) * 281474976710656))))).bind fun t157 => ((bits_Hex.f a0).bind fun t158 => (some (t157.toList == t158.toList)))) else (some false))) else (some false)) = some r := H
      have A10 := Aside0.mk A100
      clear A100
      by_cases c11 : t154 = t155
      · rw [if_pos c11] at H
        have c11b0 : (t154 == t155) = true := beq_iff_eq.mpr c11
        have c11b1 : (t154 != t155) = false := bne_eq_false_iff_eq.mpr c11
        clear c11
        replace H := Option.bind_eq_some_iff.mp H
        obtain ⟨t156, A120, H⟩ := H
        replace H : (if t156 ≤ 281474976710655 then ((bits_Hex.f (IntKind.u64.wrap (a0 + (IntKind.u64.wrap ((IntKind.u64.wrap (a2)) * 281474976710656))))).bind fun t157 => ((bits_Hex.f a0).bind fun t158 => (some (t157.toList == t158.toList)))) else (some false)) = some r := H
        have A12 := Aside0.mk A120
        clear A120
        by_cases c13 : t156 ≤ 281474976710655
        · rw [if_pos c13] at H
          have c13b0 : decide (t156 ≤ 281474976710655) = true := decide_eq_true c13
          clear c13
          replace H := Option.bind_eq_some_iff.mp H
          obtain ⟨t157, A140, H⟩ := H
          replace H : ((bits_Hex.f a0).bind fun t158 => (some (t157.toList == t158.toList))) = some r := H
          have A14 := Aside0.mk A140
          clear A140
          replace H := Option.bind_eq_some_iff.mp H
          obtain ⟨t158, A150, H⟩ := H
          replace H : (some (t157.toList == t158.toList)) = some r := H
          have A15 := Aside0.mk A150
          clear A150
          obtain rfl := Option.some.inj H
          go_enter Try.func7, Try.ntmps7
          go_wp2_with (first | ((with_reducible refine gate_callee (f := 9) rfl ?_); refine goesL_ (some 8) rfl rfl Try.func9 (by kernel_rfl) rfl #[] rfl (by (try simp only [List.map_toArray, List.map_cons, List.map_nil]); first | done | rfl | (simp only [List.length_drop, List.length_take]; rfl)) ?_; (with_reducible refine (sigillumlaw01_awake.calls k  true _ A4.out).mono ?_); rintro e w16 ⟨rfl, hb⟩; refine ⟨_, rfl, ?_⟩; have n0_ := Aside0.mk (below_step (by repeat (first | (with_reducible first | exact HB.out | apply below_alloc | apply pw_below_drewN | apply below_drew1) | exact HB.out)) hb); clear HB; have HB := n0_; clear n0_; (try clear hb); (try clear hb2); (try clear hk); (try clear hi)) | ((with_reducible refine gate_callee (f := 15) rfl ?_); refine goesL_ (some 17) rfl rfl Try.func15 (by kernel_rfl) rfl #[.int .u64 (IntKind.u64.wrap (a0 + (IntKind.u64.wrap ((IntKind.u64.wrap (a2)) * 281474976710656)))), .int .u64 a1] rfl (by (try simp only [List.map_toArray, List.map_cons, List.map_nil]); first | done | rfl | (simp only [List.length_drop, List.length_take]; rfl)) ?_; (with_reducible refine (bits_Mix.calls k (IntKind.u64.wrap (a0 + (IntKind.u64.wrap ((IntKind.u64.wrap (a2)) * 281474976710656)))) a1 t152 _ A6.out).mono ?_); rintro e w' ⟨rfl, ⟨nd, rfl⟩⟩; refine ⟨_, rfl, ?_⟩) | ((with_reducible refine gate_callee (f := 15) rfl ?_); refine goesL_ (some 20) rfl rfl Try.func15 (by kernel_rfl) rfl #[.int .u64 a0, .int .u64 a1] rfl (by (try simp only [List.map_toArray, List.map_cons, List.map_nil]); first | done | rfl | (simp only [List.length_drop, List.length_take]; rfl)) ?_; (with_reducible refine (bits_Mix.calls k a0 a1 t153 _ A7.out).mono ?_); rintro e w' ⟨rfl, ⟨nd, rfl⟩⟩; refine ⟨_, rfl, ?_⟩) | (go_at_call 15; (with_reducible refine (bits_Mix.calls k a1 (IntKind.u64.wrap (a0 + (IntKind.u64.wrap ((IntKind.u64.wrap (a2)) * 281474976710656)))) t154 _ A9.out).mono ?_); rintro e w' ⟨rfl, ⟨nd, rfl⟩⟩) | (go_at_call 15; (with_reducible refine (bits_Mix.calls k a1 a0 t155 _ A10.out).mono ?_); rintro e w' ⟨rfl, ⟨nd, rfl⟩⟩) | (go_at_call 15; (with_reducible refine (bits_Mix.calls k a0 a1 t156 _ A12.out).mono ?_); rintro e w' ⟨rfl, ⟨nd, rfl⟩⟩) | (go_at_call 16; (with_reducible refine (bits_Hex.calls (IntKind.u64.wrap (a0 + (IntKind.u64.wrap ((IntKind.u64.wrap (a2)) * 281474976710656)))) t157 _ A14.out).mono ?_); rintro e w17 ⟨rfl, hb⟩; have n0_ := Aside0.mk (below_step (by repeat (first | (with_reducible first | exact HB.out | apply below_alloc | apply pw_below_drewN | apply below_drew1) | exact HB.out)) hb); clear HB; have HB := n0_; clear n0_; (try clear hb); (try clear hb2); (try clear hk); (try clear hi)) | (go_at_call 16; (with_reducible refine (bits_Hex.calls a0 t158 _ A15.out).mono ?_); rintro e w18 ⟨rfl, hb⟩; have n0_ := Aside0.mk (below_step (by repeat (first | (with_reducible first | exact HB.out | apply below_alloc | apply pw_below_drewN | apply below_drew1) | exact HB.out)) hb); clear HB; have HB := n0_; clear n0_; (try clear hb); (try clear hb2); (try clear hk); (try clear hi)))
          go_ret
          exact ⟨by first | rfl | (simp [errW_none, errW_some] <;> rfl) | (simp [*, errW_none, errW_some] <;> rfl), by repeat (first | (with_reducible first | exact HB.out | apply below_alloc | apply pw_below_drewN | apply below_drew1) | exact HB.out)⟩
        · rw [if_neg c13] at H
          have c13b0 : decide (t156 ≤ 281474976710655) = false := decide_eq_false c13
          clear c13
          obtain rfl := Option.some.inj H
          go_enter Try.func7, Try.ntmps7
          go_wp2_with (first | ((with_reducible refine gate_callee (f := 9) rfl ?_); refine goesL_ (some 8) rfl rfl Try.func9 (by kernel_rfl) rfl #[] rfl (by (try simp only [List.map_toArray, List.map_cons, List.map_nil]); first | done | rfl | (simp only [List.length_drop, List.length_take]; rfl)) ?_; (with_reducible refine (sigillumlaw01_awake.calls k  true _ A4.out).mono ?_); rintro e w19 ⟨rfl, hb⟩; refine ⟨_, rfl, ?_⟩; have n0_ := Aside0.mk (below_step (by repeat (first | (with_reducible first | exact HB.out | apply below_alloc | apply pw_below_drewN | apply below_drew1) | exact HB.out)) hb); clear HB; have HB := n0_; clear n0_; (try clear hb); (try clear hb2); (try clear hk); (try clear hi)) | ((with_reducible refine gate_callee (f := 15) rfl ?_); refine goesL_ (some 17) rfl rfl Try.func15 (by kernel_rfl) rfl #[.int .u64 (IntKind.u64.wrap (a0 + (IntKind.u64.wrap ((IntKind.u64.wrap (a2)) * 281474976710656)))), .int .u64 a1] rfl (by (try simp only [List.map_toArray, List.map_cons, List.map_nil]); first | done | rfl | (simp only [List.length_drop, List.length_take]; rfl)) ?_; (with_reducible refine (bits_Mix.calls k (IntKind.u64.wrap (a0 + (IntKind.u64.wrap ((IntKind.u64.wrap (a2)) * 281474976710656)))) a1 t152 _ A6.out).mono ?_); rintro e w' ⟨rfl, ⟨nd, rfl⟩⟩; refine ⟨_, rfl, ?_⟩) | ((with_reducible refine gate_callee (f := 15) rfl ?_); refine goesL_ (some 20) rfl rfl Try.func15 (by kernel_rfl) rfl #[.int .u64 a0, .int .u64 a1] rfl (by (try simp only [List.map_toArray, List.map_cons, List.map_nil]); first | done | rfl | (simp only [List.length_drop, List.length_take]; rfl)) ?_; (with_reducible refine (bits_Mix.calls k a0 a1 t153 _ A7.out).mono ?_); rintro e w' ⟨rfl, ⟨nd, rfl⟩⟩; refine ⟨_, rfl, ?_⟩) | (go_at_call 15; (with_reducible refine (bits_Mix.calls k a1 (IntKind.u64.wrap (a0 + (IntKind.u64.wrap ((IntKind.u64.wrap (a2)) * 281474976710656)))) t154 _ A9.out).mono ?_); rintro e w' ⟨rfl, ⟨nd, rfl⟩⟩) | (go_at_call 15; (with_reducible refine (bits_Mix.calls k a1 a0 t155 _ A10.out).mono ?_); rintro e w' ⟨rfl, ⟨nd, rfl⟩⟩) | (go_at_call 15; (with_reducible refine (bits_Mix.calls k a0 a1 t156 _ A12.out).mono ?_); rintro e w' ⟨rfl, ⟨nd, rfl⟩⟩))
          go_ret
          exact ⟨by first | rfl | (simp [errW_none, errW_some] <;> rfl) | (simp [*, errW_none, errW_some] <;> rfl), by repeat (first | (with_reducible first | exact HB.out | apply below_alloc | apply pw_below_drewN | apply below_drew1) | exact HB.out)⟩
      · rw [if_neg c11] at H
        have c11b0 : (t154 == t155) = false := beq_eq_false_iff_ne.mpr c11
        have c11b1 : (t154 != t155) = true := bne_iff_ne.mpr c11
        obtain rfl := Option.some.inj H
        go_enter Try.func7, Try.ntmps7
        go_wp2_with (first | ((with_reducible refine gate_callee (f := 9) rfl ?_); refine goesL_ (some 8) rfl rfl Try.func9 (by kernel_rfl) rfl #[] rfl (by (try simp only [List.map_toArray, List.map_cons, List.map_nil]); first | done | rfl | (simp only [List.length_drop, List.length_take]; rfl)) ?_; (with_reducible refine (sigillumlaw01_awake.calls k  true _ A4.out).mono ?_); rintro e w20 ⟨rfl, hb⟩; refine ⟨_, rfl, ?_⟩; have n0_ := Aside0.mk (below_step (by repeat (first | (with_reducible first | exact HB.out | apply below_alloc | apply pw_below_drewN | apply below_drew1) | exact HB.out)) hb); clear HB; have HB := n0_; clear n0_; (try clear hb); (try clear hb2); (try clear hk); (try clear hi)) | ((with_reducible refine gate_callee (f := 15) rfl ?_); refine goesL_ (some 17) rfl rfl Try.func15 (by kernel_rfl) rfl #[.int .u64 (IntKind.u64.wrap (a0 + (IntKind.u64.wrap ((IntKind.u64.wrap (a2)) * 281474976710656)))), .int .u64 a1] rfl (by (try simp only [List.map_toArray, List.map_cons, List.map_nil]); first | done | rfl | (simp only [List.length_drop, List.length_take]; rfl)) ?_; (with_reducible refine (bits_Mix.calls k (IntKind.u64.wrap (a0 + (IntKind.u64.wrap ((IntKind.u64.wrap (a2)) * 281474976710656)))) a1 t152 _ A6.out).mono ?_); rintro e w' ⟨rfl, ⟨nd, rfl⟩⟩; refine ⟨_, rfl, ?_⟩) | ((with_reducible refine gate_callee (f := 15) rfl ?_); refine goesL_ (some 20) rfl rfl Try.func15 (by kernel_rfl) rfl #[.int .u64 a0, .int .u64 a1] rfl (by (try simp only [List.map_toArray, List.map_cons, List.map_nil]); first | done | rfl | (simp only [List.length_drop, List.length_take]; rfl)) ?_; (with_reducible refine (bits_Mix.calls k a0 a1 t153 _ A7.out).mono ?_); rintro e w' ⟨rfl, ⟨nd, rfl⟩⟩; refine ⟨_, rfl, ?_⟩) | (go_at_call 15; (with_reducible refine (bits_Mix.calls k a1 (IntKind.u64.wrap (a0 + (IntKind.u64.wrap ((IntKind.u64.wrap (a2)) * 281474976710656)))) t154 _ A9.out).mono ?_); rintro e w' ⟨rfl, ⟨nd, rfl⟩⟩) | (go_at_call 15; (with_reducible refine (bits_Mix.calls k a1 a0 t155 _ A10.out).mono ?_); rintro e w' ⟨rfl, ⟨nd, rfl⟩⟩))
        go_ret
        exact ⟨by first | rfl | (simp [errW_none, errW_some] <;> rfl) | (simp [*, errW_none, errW_some] <;> rfl), by repeat (first | (with_reducible first | exact HB.out | apply below_alloc | apply pw_below_drewN | apply below_drew1) | exact HB.out)⟩
    · rw [if_neg c8] at H
      have c8b0 : (t152 == t153) = false := beq_eq_false_iff_ne.mpr c8
      have c8b1 : (t152 != t153) = true := bne_iff_ne.mpr c8
      obtain rfl := Option.some.inj H
      go_enter Try.func7, Try.ntmps7
      go_wp2_with (first | ((with_reducible refine gate_callee (f := 9) rfl ?_); refine goesL_ (some 8) rfl rfl Try.func9 (by kernel_rfl) rfl #[] rfl (by (try simp only [List.map_toArray, List.map_cons, List.map_nil]); first | done | rfl | (simp only [List.length_drop, List.length_take]; rfl)) ?_; (with_reducible refine (sigillumlaw01_awake.calls k  true _ A4.out).mono ?_); rintro e w21 ⟨rfl, hb⟩; refine ⟨_, rfl, ?_⟩; have n0_ := Aside0.mk (below_step (by repeat (first | (with_reducible first | exact HB.out | apply below_alloc | apply pw_below_drewN | apply below_drew1) | exact HB.out)) hb); clear HB; have HB := n0_; clear n0_; (try clear hb); (try clear hb2); (try clear hk); (try clear hi)) | ((with_reducible refine gate_callee (f := 15) rfl ?_); refine goesL_ (some 17) rfl rfl Try.func15 (by kernel_rfl) rfl #[.int .u64 (IntKind.u64.wrap (a0 + (IntKind.u64.wrap ((IntKind.u64.wrap (a2)) * 281474976710656)))), .int .u64 a1] rfl (by (try simp only [List.map_toArray, List.map_cons, List.map_nil]); first | done | rfl | (simp only [List.length_drop, List.length_take]; rfl)) ?_; (with_reducible refine (bits_Mix.calls k (IntKind.u64.wrap (a0 + (IntKind.u64.wrap ((IntKind.u64.wrap (a2)) * 281474976710656)))) a1 t152 _ A6.out).mono ?_); rintro e w' ⟨rfl, ⟨nd, rfl⟩⟩; refine ⟨_, rfl, ?_⟩) | ((with_reducible refine gate_callee (f := 15) rfl ?_); refine goesL_ (some 20) rfl rfl Try.func15 (by kernel_rfl) rfl #[.int .u64 a0, .int .u64 a1] rfl (by (try simp only [List.map_toArray, List.map_cons, List.map_nil]); first | done | rfl | (simp only [List.length_drop, List.length_take]; rfl)) ?_; (with_reducible refine (bits_Mix.calls k a0 a1 t153 _ A7.out).mono ?_); rintro e w' ⟨rfl, ⟨nd, rfl⟩⟩; refine ⟨_, rfl, ?_⟩))
      go_ret
      exact ⟨by first | rfl | (simp [errW_none, errW_some] <;> rfl) | (simp [*, errW_none, errW_some] <;> rfl), by repeat (first | (with_reducible first | exact HB.out | apply below_alloc | apply pw_below_drewN | apply below_drew1) | exact HB.out)⟩
  · replace c5 := Bool.eq_false_iff.mpr c5
    subst c5
    have H1 : (some false) = some r := by rw [if_neg (show ¬ (false = true) by decide)] at H; exact H
    clear H
    have H := H1
    clear H1
    obtain rfl := Option.some.inj H
    go_enter Try.func7, Try.ntmps7
    go_wp2_with (first | ((with_reducible refine gate_callee (f := 9) rfl ?_); refine goesL_ (some 8) rfl rfl Try.func9 (by kernel_rfl) rfl #[] rfl (by (try simp only [List.map_toArray, List.map_cons, List.map_nil]); first | done | rfl | (simp only [List.length_drop, List.length_take]; rfl)) ?_; (with_reducible refine (sigillumlaw01_awake.calls k  false _ A4.out).mono ?_); rintro e w22 ⟨rfl, hb⟩; refine ⟨_, rfl, ?_⟩; have n0_ := Aside0.mk (below_step (by repeat (first | (with_reducible first | exact HB.out | apply below_alloc | apply pw_below_drewN | apply below_drew1) | exact HB.out)) hb); clear HB; have HB := n0_; clear n0_; (try clear hb); (try clear hb2); (try clear hk); (try clear hi)))
    go_ret
    exact ⟨by first | rfl | (simp [errW_none, errW_some] <;> rfl) | (simp [*, errW_none, errW_some] <;> rfl), by repeat (first | (with_reducible first | exact HB.out | apply below_alloc | apply pw_below_drewN | apply below_drew1) | exact HB.out)⟩

/-- THE ONE PURE STATEMENT of sigillumlaw01_BitsOne: yours. -/
def sigillumlaw01_BitsOne.Pure : Prop := ∀ (a0 : Int) (a1 : Int) (a2 : Int), (Lit.int .u64 a0).wf = true → (Lit.int .u64 a1).wf = true → (Lit.int .u16 a2).wf = true → ∃ k, sigillumlaw01_BitsOne.f k a0 a1 a2 = some true
theorem sigillumlaw01_BitsOne.walk (P : sigillumlaw01_BitsOne.Pure) (a0 : Int) (a1 : Int) (a2 : Int) (w : World) (w0 : (Lit.int .u64 a0).wf = true) (w1 : (Lit.int .u64 a1).wf = true) (w2 : (Lit.int .u16 a2).wf = true) :
    Calls Try.prog 7 #[.int .u64 a0, .int .u64 a1, .int .u16 a2] w fun e w' => e = .returned (.bool true) ∧ Below w.heap.size w w' := by
  obtain ⟨k, h⟩ := P a0 a1 a2 w0 w1 w2
  refine (sigillumlaw01_BitsOne.calls k a0 a1 a2 true w h).mono ?_
  rintro e w' ⟨rfl, hd⟩
  exact ⟨rfl, hd⟩

end Go.Proofs.Ytmhahelgfkodkaa.PA
