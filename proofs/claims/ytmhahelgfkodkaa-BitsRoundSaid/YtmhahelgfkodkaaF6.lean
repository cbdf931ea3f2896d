-- By a program of this session (after the form of the print; not a text of the print's own)
import Derived.Test.YtmhahelgfkodkaaF0
import Derived.Test.YtmhahelgfkodkaaF10
import Derived.Test.YtmhahelgfkodkaaF13
import Derived.Test.YtmhahelgfkodkaaF11
import Derived.Test.YtmhahelgfkodkaaF12
import Derived.Test.YtmhahelgfkodkaaF9
namespace Go.Proofs.Ytmhahelgfkodkaa.PA
open Go.RowKit Go.Proofs.YtmhahelgfkodkaaW.PrintWords Go.Proofs.YtmhahelgfkodkaaW.PrintLast Go.Proofs.YtmhahelgfkodkaaW.PrintMore
attribute [local go_sem] max2_int min2_int max_two min_two max_three min_three max_four min_four   -- for this text's walks alone
set_option linter.unusedVariables false
set_option linter.unusedSimpArgs false
/-! ### sigillumlaw01_BitsRound: function 6 -/
def sigillumlaw01_BitsRound.f (k : Nat) (a0 : Int) (a1 : Int) (a2 : Int) : Option (Bool) := (sigillumlaw01_awake.f k).bind fun t134 => (if t134 = true then ((bits_Turn.f a0 (wrap64 (a2))).bind fun t135 => ((bits_Turn.f t135 (wrap64 (-(wrap64 (a2))))).bind fun t136 => ((bits_Cut.f a0).bind fun t137 => (if t136 = t137 then ((bits_Turn.f a0 (wrap64 (a2))).bind fun t138 => ((bits_Turn.f a0 (wrap64 ((wrap64 (a2)) + 48))).bind fun t139 => (if t138 = t139 then ((bits_Cut.f a0).bind fun t140 => ((bits_Add.f t140 a1).bind fun t141 => ((bits_Add.f a0 a1).bind fun t142 => (if t141 = t142 then ((bits_Cut.f a1).bind fun t143 => ((bits_Mul.f a0 t143).bind fun t144 => ((bits_Mul.f a0 a1).bind fun t145 => (if t144 = t145 then ((bits_Cut.f a0).bind fun t146 => ((bits_Cut.f a1).bind fun t147 => ((bits_Turn.f (Go.bits .xor .u64 t146 t147) (wrap64 (a2))).bind fun t148 => ((bits_Turn.f a0 (wrap64 (a2))).bind fun t149 => ((bits_Turn.f a1 (wrap64 (a2))).bind fun t150 => (some (t148 == (Go.bits .xor .u64 t149 t150)))))))) else (some false))))) else (some false))))) else (some false)))) else (some false))))) else (some false))
theorem sigillumlaw01_BitsRound.mono : ∀ a0 a1 a2 k, LeO (sigillumlaw01_BitsRound.f k a0 a1 a2) (sigillumlaw01_BitsRound.f (k + 1) a0 a1 a2) := by
  intro a0 a1 a2 k
  unfold sigillumlaw01_BitsRound.f
  repeat' first
      | (with_reducible exact sigillumlaw01_awake.mono _)
      | (with_reducible exact LeO.refl _)
      | (with_reducible exact LeO.none _)
      | (with_reducible refine LeO.ite ?_ ?_)
      | (with_reducible refine LeO.bind ?_ (fun _ => ?_))
      | exact sigillumlaw01_awake.mono _
      | exact LeO.none _
      | refine LeO.ite ?_ ?_
      | refine LeO.bind ?_ (fun _ => ?_)
set_option maxHeartbeats 8000000 in
set_option maxRecDepth 100000 in
theorem sigillumlaw01_BitsRound.calls (k : Nat) (a0 : Int) (a1 : Int) (a2 : Int) (r : Bool) (w : World) (h : sigillumlaw01_BitsRound.f k a0 a1 a2 = some r) :
    Calls Try.prog 6 #[.int .u64 a0, .int .u64 a1, .int .i32 a2] w fun e w' => e = .returned (.bool r) ∧ Below w.heap.size w w' := by
  have HB := Aside0.mk (Below.refl w.heap.size w)
  have H : ((sigillumlaw01_awake.f k).bind fun t134 => (if t134 = true then ((bits_Turn.f a0 (wrap64 (a2))).bind fun t135 => ((bits_Turn.f t135 (wrap64 (-(wrap64 (a2))))).bind fun t136 => ((bits_Cut.f a0).bind fun t137 => (if t136 = t137 then ((bits_Turn.f a0 (wrap64 (a2))).bind fun t138 => ((bits_Turn.f a0 (wrap64 ((wrap64 (a2)) + 48))).bind fun t139 => (if t138 = t139 then ((bits_Cut.f a0).bind fun t140 => ((bits_Add.f t140 a1).bind fun t141 => ((bits_Add.f a0 a1).bind fun t142 => (if t141 = t142 then ((bits_Cut.f a1).bind fun t143 => ((bits_Mul.f a0 t143).bind fun t144 => ((bits_Mul.f a0 a1).bind fun t145 => (if t144 = t145 then ((bits_Cut.f a0).bind fun t146 => ((bits_Cut.f a1).bind fun t147 => ((bits_Turn.f (Go.bits .xor .u64 t146 t147) (wrap64 (a2))).bind fun t148 => ((bits_Turn.f a0 (wrap64 (a2))).bind fun t149 => ((bits_Turn.f a1 (wrap64 (a2))).bind fun t150 => (some (t148 == (Go.bits .xor .u64 t149 t150)))))))) else (some false))))) else (some false))))) else (some false)))) else (some false))))) else (some false))) = some r := h
  clear h
  replace H := Option.bind_eq_some_iff.mp H
  obtain ⟨t134, A40, H⟩ := H
  replace H : (if t134 = true then ((bits_Turn.f a0 (wrap64 (a2))).bind fun t135 => ((bits_Turn.f t135 (wrap64 (-(wrap64 (a2))))).bind fun t136 => ((bits_Cut.f a0).bind fun t137 => (if t136 = t137 then ((bits_Turn.f a0 (wrap64 (a2))).bind fun t138 => ((bits_Turn.f a0 (wrap64 ((wrap64 (a2)) + 48))).bind fun t139 => (if t138 = t139 then ((bits_Cut.f a0).bind fun t140 => ((bits_Add.f t140 a1).bind fun t141 => ((bits_Add.f a0 a1).bind fun t142 => (if t141 = t142 then ((bits_Cut.f a1).bind fun t143 => ((bits_Mul.f a0 t143).bind fun t144 => ((bits_Mul.f a0 a1).bind fun t145 => (if t144 = t145 then ((bits_Cut.f a0).bind fun t146 => ((bits_Cut.f a1).bind fun t147 => ((bits_Turn.f (Go.bits .xor .u64 t146 t147) (wrap64 (a2))).bind fun t148 => ((bits_Turn.f a0 (wrap64 (a2))).bind fun t149 => ((bits_Turn.f a1 (wrap64 (a2))).bind fun t150 => (some (t148 == (Go.bits .xor .u64 t149 t150)))))))) else (some false))))) else (some false))))) else (some false)))) else (some false))))) else (some false)) = some r := H
  have A4 := Aside0.mk A40
  clear A40
  by_cases c5 : t134 = true
  · subst c5
    have H1 : ((bits_Turn.f a0 (wrap64 (a2))).bind fun t135 => ((bits_Turn.f t135 (wrap64 (-(wrap64 (a2))))).bind fun t136 => ((bits_Cut.f a0).bind fun t137 => (if t136 = t137 then ((bits_Turn.f a0 (wrap64 (a2))).bind fun t138 => ((bits_Turn.f a0 (wrap64 ((wrap64 (a2)) + 48))).bind fun t139 => (if t138 = t139 then ((bits_Cut.f a0).bind fun t140 => ((bits_Add.f t140 a1).bind fun t141 => ((bits_Add.f a0 a1).bind fun t142 => (if t141 = t142 then ((bits_Cut.f a1).bind fun t143 => ((bits_Mul.f a0 t143).bind fun t144 => ((bits_Mul.f a0 a1).bind fun t145 => (if t144 = t145 then ((bits_Cut.f a0).bind fun t146 => ((bits_Cut.f a1).bind fun t147 => ((bits_Turn.f (Go.bits .xor .u64 t146 t147) (wrap64 (a2))).bind fun t148 => ((bits_Turn.f a0 (wrap64 (a2))).bind fun t149 => ((bits_Turn.f a1 (wrap64 (a2))).bind fun t150 => (some (t148 == (Go.bits .xor .u64 t149 t150)))))))) else (some false))))) else (some false))))) else (some false)))) else (some false))))) = some r := by rw [if_pos rfl] at H; exact H
    clear H
    have H := H1
    clear H1
    replace H := Option.bind_eq_some_iff.mp H
    obtain ⟨t135, A60, H⟩ := H
    replace H : ((bits_Turn.f t135 (wrap64 (-(wrap64 (a2))))).bind fun t136 => ((bits_Cut.f a0).bind fun t137 => (if t136 = t137 then ((bits_Turn.f a0 (wrap64 (a2))).bind fun t138 => ((bits_Turn.f a0 (wrap64 ((wrap64 (a2)) + 48))).bind fun t139 => (if t138 = t139 then ((bits_Cut.f a0).bind fun t140 => ((bits_Add.f t140 a1).bind fun t141 => ((bits_Add.f a0 a1).bind fun t142 => (if t141 = t142 then ((bits_Cut.f a1).bind fun t143 => ((bits_Mul.f a0 t143).bind fun t144 => ((bits_Mul.f a0 a1).bind fun t145 => (if t144 = t145 then ((bits_Cut.f a0).bind fun t146 => ((bits_Cut.f a1).bind fun t147 => ((bits_Turn.f (Go.bits .xor .u64 t146 t147) (wrap64 (a2))).bind fun t148 => ((bits_Turn.f a0 (wrap64 (a2))).bind fun t149 => ((bits_Turn.f a1 (wrap64 (a2))).bind fun t150 => (some (t148 == (Go.bits .xor .u64 t149 t150)))))))) else (some false))))) else (some false))))) else (some false)))) else (some false)))) = some r := H
    have A6 := Aside0.mk A60
    clear A60
    replace H := Option.bind_eq_some_iff.mp H
    obtain ⟨t136, A70, H⟩ := H
    replace H : ((bits_Cut.f a0).bind fun t137 => (if t136 = t137 then ((bits_Turn.f a0 (wrap64 (a2))).bind fun t138 => ((bits_Turn.f a0 (wrap64 ((wrap64 (a2)) + 48))).bind fun t139 => (if t138 = t139 then ((bits_Cut.f a0).bind fun t140 => ((bits_Add.f t140 a1).bind fun t141 => ((bits_Add.f a0 a1).bind fun t142 => (if t141 = t142 then ((bits_Cut.f a1).bind fun t143 => ((bits_Mul.f a0 t143).bind fun t144 => ((bits_Mul.f a0 a1).bind fun t145 => (if t144 = t145 then ((bits_Cut.f a0).bind fun t146 => ((bits_Cut.f a1).bind fun t147 => ((bits_Turn.f (Go.bits .xor .u64 t146 t147) (wrap64 (a2))).bind fun t148 => ((bits_Turn.f a0 (wrap64 (a2))).bind fun t149 => ((bits_Turn.f a1 (wrap64 (a2))).bind fun t150 => (some (t148 == (Go.bits .xor .u64 t149 t150)))))))) else (some false))))) else (some false))))) else (some false)))) else (some false))) = some r := H
    have A7 := Aside0.mk A70
    clear A70
    replace H := Option.bind_eq_some_iff.mp H
    obtain ⟨t137, A80, H⟩ := H
    replace H : (if t136 = t137 then ((bits_Turn.f a0 (wrap64 (a2))).bind fun t138 => ((bits_Turn.f a0 (wrap64 ((wrap64 (a2)) + 48))).bind fun t139 => (if t138 = t139 then ((bits_Cut.f a0).bind fun t140 => ((bits_Add.f t140 a1).bind fun t141 => ((bits_Add.f a0 a1).bind fun t142 => (if t141 = t142 then ((bits_Cut.f a1).bind fun t143 => ((bits_Mul.f a0 t143).bind fun t144 => ((bits_Mul.f a0 a1).bind fun t145 => (if t144 = t145 then ((bits_Cut.f a0).bind fun t146 => ((bits_Cut.f a1).bind fun t147 => ((bits_Turn.f (Go.bits .xor .u64 t146 t147) (wrap64 (a2))).bind fun t148 => ((bits_Turn.f a0 (wrap64 (a2))).bind fun t149 => ((bits_Turn.f a1 (wrap64 (a2))).bind fun t150 => (some (t148 == (Go.bits .xor .u64 t149 t150)))))))) else (some false))))) else (some false))))) else (some false)))) else (some false)) = some r := H
    have A8 := Aside0.mk A80
    clear A80
    by_cases c9 : t136 = t137
    · rw [if_pos c9] at H
      have c9b0 : (t136 == t137) = true := beq_iff_eq.mpr c9
      have c9b1 : (t136 != t137) = false := bne_eq_false_iff_eq.mpr c9
      clear c9
      replace H := Option.bind_eq_some_iff.mp H
      obtain ⟨t138, A100, H⟩ := H
      replace H : ((bits_Turn.f a0 (wrap64 ((wrap64 (a2)) + 48))).bind fun t139 => (if t138 = t139 then ((bits_Cut.f a0).bind fun t140 => ((bits_Add.f t140 a1).bind fun t141 => ((bits_Add.f a0 a1).bind fun t142 => (if t141 = t142 then ((bits_Cut.f a1).bind fun t143 => ((bits_Mul.f a0 t143).bind fun t144 => ((bits_Mul.f a0 a1).bind fun t145 => (if t144 = t145 then ((bits_Cut.f a0).bind fun t146 => ((bits_Cut.f a1).bind fun t147 => ((bits_Turn.f (Go.bits .xor .u64 t146 t147) (wrap64 (a2))).bind fun t148 => ((bits_Turn.f a0 (wrap64 (a2))).bind fun t149 => ((bits_Turn.f a1 (wrap64 (a2))).bind fun t150 => (some (t148 == (Go.bits .xor .u64 t149 t150)))))))) else (some false))))) else (some false))))) else (some false))) = some r := H
      have A10 := Aside0.mk A100
      clear A100
      obtain rfl := Option.some.inj (A6.out.symm.trans A10.out)
      replace H := Option.bind_eq_some_iff.mp H
      obtain ⟨t139, A110, H⟩ := H
      replace H : (if t135 = t139 then ((bits_Cut.f a0).bind fun t140 => ((bits_Add.f t140 a1).bind fun t141 => ((bits_Add.f a0 a1).bind fun t142 => (if t141 = t142 then ((bits_Cut.f a1).bind fun t143 => ((bits_Mul.f a0 t143).bind fun t144 => ((bits_Mul.f a0 a1).bind fun t145 => (if t144 = t145 then ((bits_Cut.f a0).bind fun t146 => ((bits_Cut.f a1).bind fun t147 => ((bits_Turn.f (Go.bits .xor .u64 t146 t147) (wrap64 (a2))).bind fun t148 => ((bits_Turn.f a0 (wrap64 (a2))).bind fun t149 => ((bits_Turn.f a1 (wrap64 (a2))).bind fun t150 => (some (t148 == (Go.bits .xor .u64 t149 t150)))))))) else (some false))))) else (some false))))) else (some false)) = some r := H
      have A11 := Aside0.mk A110
      clear A110
      by_cases c12 : t135 = t139
      · rw [if_pos c12] at H
        have c12b0 : (t135 == t139) = true := beq_iff_eq.mpr c12
        have c12b1 : (t135 != t139) = false := bne_eq_false_iff_eq.mpr c12
        clear c12
        replace H := Option.bind_eq_some_iff.mp H
        obtain ⟨t140, A130, H⟩ := H
        replace H : ((bits_Add.f t140 a1).bind fun t141 => ((bits_Add.f a0 a1).bind fun t142 => (if t141 = t142 then ((bits_Cut.f a1).bind fun t143 => ((bits_Mul.f a0 t143).bind fun t144 => ((bits_Mul.f a0 a1).bind fun t145 => (if t144 = t145 then ((bits_Cut.f a0).bind fun t146 => ((bits_Cut.f a1).bind fun t147 => ((bits_Turn.f (Go.bits .xor .u64 t146 t147) (wrap64 (a2))).bind fun t148 => ((bits_Turn.f a0 (wrap64 (a2))).bind fun t149 => ((bits_Turn.f a1 (wrap64 (a2))).bind fun t150 => (some (t148 == (Go.bits .xor .u64 t149 t150)))))))) else (some false))))) else (some false)))) = some r := H
        have A13 := Aside0.mk A130
        clear A130
        obtain rfl := Option.some.inj (A8.out.symm.trans A13.out)
        replace H := Option.bind_eq_some_iff.mp H
        obtain ⟨t141, A140, H⟩ := H
        replace H : ((bits_Add.f a0 a1).bind fun t142 => (if t141 = t142 then ((bits_Cut.f a1).bind fun t143 => ((bits_Mul.f a0 t143).bind fun t144 => ((bits_Mul.f a0 a1).bind fun t145 => (if t144 = t145 then ((bits_Cut.f a0).bind fun t146 => ((bits_Cut.f a1).bind fun t147 => ((bits_Turn.f (Go.bits .xor .u64 t146 t147) (wrap64 (a2))).bind fun t148 => ((bits_Turn.f a0 (wrap64 (a2))).bind fun t149 => ((bits_Turn.f a1 (wrap64 (a2))).bind fun t150 => (some (t148 == (Go.bits .xor .u64 t149 t150)))))))) else (some false))))) else (some false))) = some r := H
        have A14 := Aside0.mk A140
        clear A140
        replace H := Option.bind_eq_some_iff.mp H
        obtain ⟨t142, A150, H⟩ := H
        replace H : (if t141 = t142 then ((bits_Cut.f a1).bind fun t143 => ((bits_Mul.f a0 t143).bind fun t144 => ((bits_Mul.f a0 a1).bind fun t145 => (if t144 = t145 then ((bits_Cut.f a0).bind fun t146 => ((bits_Cut.f a1).bind fun t147 => ((bits_Turn.f (Go.bits .xor .u64 t146 t147) (wrap64 (a2))).bind fun t148 => ((bits_Turn.f a0 (wrap64 (a2))).bind fun t149 => ((bits_Turn.f a1 (wrap64 (a2))).bind fun t150 => (some (t148 == (Go.bits .xor .u64 t149 t150)))))))) else (some false))))) else (some false)) = some r := H
        have A15 := Aside0.mk A150
        clear A150
        by_cases c16 : t141 = t142
        · rw [if_pos c16] at H
          have c16b0 : (t141 == t142) = true := beq_iff_eq.mpr c16
          have c16b1 : (t141 != t142) = false := bne_eq_false_iff_eq.mpr c16
          clear c16
          replace H := Option.bind_eq_some_iff.mp H
          obtain ⟨t143, A170, H⟩ := H
          replace H : ((bits_Mul.f a0 t143).bind fun t144 => ((bits_Mul.f a0 a1).bind fun t145 => (if t144 = t145 then ((bits_Cut.f a0).bind fun t146 => ((bits_Cut.f a1).bind fun t147 => ((bits_Turn.f (Go.bits .xor .u64 t146 t147) (wrap64 (a2))).bind fun t148 => ((bits_Turn.f a0 (wrap64 (a2))).bind fun t149 => ((bits_Turn.f a1 (wrap64 (a2))).bind fun t150 => (some (t148 == (Go.bits .xor .u64 t149 t150)))))))) else (some false)))) = some r := H
          have A17 := Aside0.mk A170
          clear A170
          replace H := Option.bind_eq_some_iff.mp H
          obtain ⟨t144, A180, H⟩ := H
          replace H : ((bits_Mul.f a0 a1).bind fun t145 => (if t144 = t145 then ((bits_Cut.f a0).bind fun t146 => ((bits_Cut.f a1).bind fun t147 => ((bits_Turn.f (Go.bits .xor .u64 t146 t147) (wrap64 (a2))).bind fun t148 => ((bits_Turn.f a0 (wrap64 (a2))).bind fun t149 => ((bits_Turn.f a1 (wrap64 (a2))).bind fun t150 => (some (t148 == (Go.bits .xor .u64 t149 t150)))))))) else (some false))) = some r := H
          have A18 := Aside0.mk A180
          clear A180
          replace H := Option.bind_eq_some_iff.mp H
          obtain ⟨t145, A190, H⟩ := H
          replace H : (if t144 = t145 then ((bits_Cut.f a0).bind fun t146 => ((bits_Cut.f a1).bind fun t147 => ((bits_Turn.f (Go.bits .xor .u64 t146 t147) (wrap64 (a2))).bind fun t148 => ((bits_Turn.f a0 (wrap64 (a2))).bind fun t149 => ((bits_Turn.f a1 (wrap64 (a2))).bind fun t150 => (some (t148 == (Go.bits .xor .u64 t149 t150)))))))) else (some false)) = some r := H
          have A19 := Aside0.mk A190
          clear A190
          by_cases c20 : t144 = t145
          · rw [if_pos c20] at H
            have c20b0 : (t144 == t145) = true := beq_iff_eq.mpr c20
            have c20b1 : (t144 != t145) = false := bne_eq_false_iff_eq.mpr c20
            clear c20
            replace H := Option.bind_eq_some_iff.mp H
            obtain ⟨t146, A210, H⟩ := H
            replace H : ((bits_Cut.f a1).bind fun t147 => ((bits_Turn.f (Go.bits .xor .u64 t146 t147) (wrap64 (a2))).bind fun t148 => ((bits_Turn.f a0 (wrap64 (a2))).bind fun t149 => ((bits_Turn.f a1 (wrap64 (a2))).bind fun t150 => (some (t148 == (Go.bits .xor .u64 t149 t150))))))) = some r := H
            have A21 := Aside0.mk A210
            clear A210
            obtain rfl := Option.some.inj (A8.out.symm.trans A21.out)
            replace H := Option.bind_eq_some_iff.mp H
            obtain ⟨t147, A220, H⟩ := H
            replace H : ((bits_Turn.f (Go.bits .xor .u64 t137 t147) (wrap64 (a2))).bind fun t148 => ((bits_Turn.f a0 (wrap64 (a2))).bind fun t149 => ((bits_Turn.f a1 (wrap64 (a2))).bind fun t150 => (some (t148 == (Go.bits .xor .u64 t149 t150)))))) = some r := H
            have A22 := Aside0.mk A220
            clear A220
            obtain rfl := Option.some.inj (A17.out.symm.trans A22.out)
            replace H := Option.bind_eq_some_iff.mp H
            obtain ⟨t148, A230, H⟩ := H
            replace H : ((bits_Turn.f a0 (wrap64 (a2))).bind fun t149 => ((bits_Turn.f a1 (wrap64 (a2))).bind fun t150 => (some (t148 == (Go.bits .xor .u64 t149 t150))))) = some r := H
            have A23 := Aside0.mk A230
            clear A230
            replace H := Option.bind_eq_some_iff.mp H
            obtain ⟨t149, A240, H⟩ := H
            replace H : ((bits_Turn.f a1 (wrap64 (a2))).bind fun t150 => (some (t148 == (Go.bits .xor .u64 t149 t150)))) = some r := H
            have A24 := Aside0.mk A240
            clear A240
            obtain rfl := Option.some.inj (A6.out.symm.trans A24.out)
            replace H := Option.bind_eq_some_iff.mp H
            obtain ⟨t150, A250, H⟩ := H
            replace H : (some (t148 == (Go.bits .xor .u64 t135 t150))) = some r := H
            have A25 := Aside0.mk A250
            clear A250
            obtain rfl := Option.some.inj H
            go_enter Try.func6, Try.ntmps6
            go_wp2_with (first | ((with_reducible refine gate_callee (f := 9) rfl ?_); refine goesL_ (some 8) rfl rfl Try.func9 (by kernel_rfl) rfl #[] rfl (by (try simp only [List.map_toArray, List.map_cons, List.map_nil]); first | done | rfl | (simp only [List.length_drop, List.length_take]; rfl)) ?_; (with_reducible refine (sigillumlaw01_awake.calls k  true _ A4.out).mono ?_); rintro e w26 ⟨rfl, hb⟩; refine ⟨_, rfl, ?_⟩; have n0_ := Aside0.mk (below_step (by repeat (first | (with_reducible first | exact HB.out | apply below_alloc | apply pw_below_drewN | apply below_drew1) | exact HB.out)) hb); clear HB; have HB := n0_; clear n0_; (try clear hb); (try clear hb2); (try clear hk); (try clear hi)) | ((with_reducible refine gate_callee (f := 13) rfl ?_); refine goesL_ (some 14) rfl rfl Try.func13 (by kernel_rfl) rfl #[.int .u64 a0, .int .i64 (wrap64 (a2))] rfl (by (try simp only [List.map_toArray, List.map_cons, List.map_nil]); first | done | rfl | (simp only [List.length_drop, List.length_take]; rfl)) ?_; (with_reducible refine (bits_Turn.calls a0 (wrap64 (a2)) t135 _ A6.out).mono ?_); rintro e w' ⟨rfl, ⟨nd, rfl⟩⟩; refine ⟨_, rfl, ?_⟩) | ((with_reducible refine gate_callee (f := 13) rfl ?_); refine goesL_ (some 17) rfl rfl Try.func13 (by kernel_rfl) rfl #[.int .u64 t135, .int .i64 (wrap64 (-(wrap64 (a2))))] rfl (by (try simp only [List.map_toArray, List.map_cons, List.map_nil]); first | done | rfl | (simp only [List.length_drop, List.length_take]; rfl)) ?_; (with_reducible refine (bits_Turn.calls t135 (wrap64 (-(wrap64 (a2)))) t136 _ A7.out).mono ?_); rintro e w' ⟨rfl, ⟨nd, rfl⟩⟩; refine ⟨_, rfl, ?_⟩) | ((with_reducible refine gate_callee (f := 10) rfl ?_); refine goesL_ (some 19) rfl rfl Try.func10 (by kernel_rfl) rfl #[.int .u64 a0] rfl (by (try simp only [List.map_toArray, List.map_cons, List.map_nil]); first | done | rfl | (simp only [List.length_drop, List.length_take]; rfl)) ?_; (with_reducible refine (bits_Cut.calls a0 t137 _ A8.out).mono ?_); rintro e w' ⟨rfl, ⟨nd, rfl⟩⟩; refine ⟨_, rfl, ?_⟩) | (go_at_call 13; (with_reducible refine (bits_Turn.calls a0 (wrap64 (a2)) t135 _ A10.out).mono ?_); rintro e w' ⟨rfl, ⟨nd, rfl⟩⟩) | (go_at_call 13; (with_reducible refine (bits_Turn.calls a0 (wrap64 ((wrap64 (a2)) + 48)) t139 _ A11.out).mono ?_); rintro e w' ⟨rfl, ⟨nd, rfl⟩⟩) | (go_at_call 10; (with_reducible refine (bits_Cut.calls a0 t137 _ A13.out).mono ?_); rintro e w' ⟨rfl, ⟨nd, rfl⟩⟩) | (go_at_call 11; (with_reducible refine (bits_Add.calls t137 a1 t141 _ A14.out).mono ?_); rintro e w' ⟨rfl, ⟨nd, rfl⟩⟩) | (go_at_call 11; (with_reducible refine (bits_Add.calls a0 a1 t142 _ A15.out).mono ?_); rintro e w' ⟨rfl, ⟨nd, rfl⟩⟩) | (go_at_call 10; (with_reducible refine (bits_Cut.calls a1 t143 _ A17.out).mono ?_); rintro e w' ⟨rfl, ⟨nd, rfl⟩⟩) | (go_at_call 12; (with_reducible refine (bits_Mul.calls a0 t143 t144 _ A18.out).mono ?_); rintro e w' ⟨rfl, ⟨nd, rfl⟩⟩) | (go_at_call 12; (with_reducible refine (bits_Mul.calls a0 a1 t145 _ A19.out).mono ?_); rintro e w' ⟨rfl, ⟨nd, rfl⟩⟩) | (go_at_call 10; (with_reducible refine (bits_Cut.calls a0 t137 _ A21.out).mono ?_); rintro e w' ⟨rfl, ⟨nd, rfl⟩⟩) | (go_at_call 10; (with_reducible refine (bits_Cut.calls a1 t143 _ A22.out).mono ?_); rintro e w' ⟨rfl, ⟨nd, rfl⟩⟩) | (go_at_call 13; (with_reducible refine (bits_Turn.calls (Go.bits .xor .u64 t137 t143) (wrap64 (a2)) t148 _ A23.out).mono ?_); rintro e w' ⟨rfl, ⟨nd, rfl⟩⟩) | (go_at_call 13; (with_reducible refine (bits_Turn.calls a0 (wrap64 (a2)) t135 _ A24.out).mono ?_); rintro e w' ⟨rfl, ⟨nd, rfl⟩⟩) | (go_at_call 13; (with_reducible refine (bits_Turn.calls a1 (wrap64 (a2)) t150 _ A25.out).mono ?_); rintro e w' ⟨rfl, ⟨nd, rfl⟩⟩))
            go_ret
            exact ⟨by first | rfl | (simp [errW_none, errW_some] <;> rfl) | (simp [*, errW_none, errW_some] <;> rfl), by repeat (first | (with_reducible first | exact HB.out | apply below_alloc | apply pw_below_drewN | apply below_drew1) | exact HB.out)⟩
          · rw [if_neg c20] at H
            have c20b0 : (t144 == t145) = false := beq_eq_false_iff_ne.mpr c20
            have c20b1 : (t144 != t145) = true := bne_iff_ne.mpr c20
            obtain rfl := Option.some.inj H
            go_enter Try.func6, Try.ntmps6
            go_wp2_with (first | ((with_reducible refine gate_callee (f := 9) rfl ?_); refine goesL_ (some 8) rfl rfl Try.func9 (by kernel_rfl) rfl #[] rfl (by (try simp only [List.map_toArray, List.map_cons, List.map_nil]); first | done | rfl | (simp only [List.length_drop, List.length_take]; rfl)) ?_; (with_reducible refine (sigillumlaw01_awake.calls k  true _ A4.out).mono ?_); rintro e w27 ⟨rfl, hb⟩; refine ⟨_, rfl, ?_⟩; have n0_ := Aside0.mk (below_step (by repeat (first | (with_reducible first | exact HB.out | apply below_alloc | apply pw_below_drewN | apply below_drew1) | exact HB.out)) hb); clear HB; have HB := n0_; clear n0_; (try clear hb); (try clear hb2); (try clear hk); (try clear hi)) | ((with_reducible refine gate_callee (f := 13) rfl ?_); refine goesL_ (some 14) rfl rfl Try.func13 (by kernel_rfl) rfl #[.int .u64 a0, .int .i64 (wrap64 (a2))] rfl (by (try simp only [List.map_toArray, List.map_cons, List.map_nil]); first | done | rfl | (simp only [List.length_drop, List.length_take]; rfl)) ?_; (with_reducible refine (bits_Turn.calls a0 (wrap64 (a2)) t135 _ A6.out).mono ?_); rintro e w' ⟨rfl, ⟨nd, rfl⟩⟩; refine ⟨_, rfl, ?_⟩) | ((with_reducible refine gate_callee (f := 13) rfl ?_); refine goesL_ (some 17) rfl rfl Try.func13 (by kernel_rfl) rfl #[.int .u64 t135, .int .i64 (wrap64 (-(wrap64 (a2))))] rfl (by (try simp only [List.map_toArray, List.map_cons, List.map_nil]); first | done | rfl | (simp only [List.length_drop, List.length_take]; rfl)) ?_; (with_reducible refine (bits_Turn.calls t135 (wrap64 (-(wrap64 (a2)))) t136 _ A7.out).mono ?_); rintro e w' ⟨rfl, ⟨nd, rfl⟩⟩; refine ⟨_, rfl, ?_⟩) | ((with_reducible refine gate_callee (f := 10) rfl ?_); refine goesL_ (some 19) rfl rfl Try.func10 (by kernel_rfl) rfl #[.int .u64 a0] rfl (by (try simp only [List.map_toArray, List.map_cons, List.map_nil]); first | done | rfl | (simp only [List.length_drop, List.length_take]; rfl)) ?_; (with_reducible refine (bits_Cut.calls a0 t137 _ A8.out).mono ?_); rintro e w' ⟨rfl, ⟨nd, rfl⟩⟩; refine ⟨_, rfl, ?_⟩) | (go_at_call 13; (with_reducible refine (bits_Turn.calls a0 (wrap64 (a2)) t135 _ A10.out).mono ?_); rintro e w' ⟨rfl, ⟨nd, rfl⟩⟩) | (go_at_call 13; (with_reducible refine (bits_Turn.calls a0 (wrap64 ((wrap64 (a2)) + 48)) t139 _ A11.out).mono ?_); rintro e w' ⟨rfl, ⟨nd, rfl⟩⟩) | (go_at_call 10; (with_reducible refine (bits_Cut.calls a0 t137 _ A13.out).mono ?_); rintro e w' ⟨rfl, ⟨nd, rfl⟩⟩) | (go_at_call 11; (with_reducible refine (bits_Add.calls t137 a1 t141 _ A14.out).mono ?_); rintro e w' ⟨rfl, ⟨nd, rfl⟩⟩) | (go_at_call 11; (with_reducible refine (bits_Add.calls a0 a1 t142 _ A15.out).mono ?_); rintro e w' ⟨rfl, ⟨nd, rfl⟩⟩) | (go_at_call 10; (with_reducible refine (bits_Cut.calls a1 t143 _ A17.out).mono ?_); rintro e w' ⟨rfl, ⟨nd, rfl⟩⟩) | (go_at_call 12; (with_reducible refine (bits_Mul.calls a0 t143 t144 _ A18.out).mono ?_); rintro e w' ⟨rfl, ⟨nd, rfl⟩⟩) | (go_at_call 12; (with_reducible refine (bits_Mul.calls a0 a1 t145 _ A19.out).mono ?_); rintro e w' ⟨rfl, ⟨nd, rfl⟩⟩))
            go_ret
            exact ⟨by first | rfl | (simp [errW_none, errW_some] <;> rfl) | (simp [*, errW_none, errW_some] <;> rfl), by repeat (first | (with_reducible first | exact HB.out | apply below_alloc | apply pw_below_drewN | apply below_drew1) | exact HB.out)⟩
        · rw [if_neg c16] at H
          have c16b0 : (t141 == t142) = false := beq_eq_false_iff_ne.mpr c16
          have c16b1 : (t141 != t142) = true := bne_iff_ne.mpr c16
          obtain rfl := Option.some.inj H
          go_enter Try.func6, Try.ntmps6
          go_wp2_with (first | ((with_reducible refine gate_callee (f := 9) rfl ?_); refine goesL_ (some 8) rfl rfl Try.func9 (by kernel_rfl) rfl #[] rfl (by (try simp only [List.map_toArray, List.map_cons, List.map_nil]); first | done | rfl | (simp only [List.length_drop, List.length_take]; rfl)) ?_; (with_reducible refine (sigillumlaw01_awake.calls k  true _ A4.out).mono ?_); rintro e w28 ⟨rfl, hb⟩; refine ⟨_, rfl, ?_⟩; have n0_ := Aside0.mk (below_step (by repeat (first | (with_reducible first | exact HB.out | apply below_alloc | apply pw_below_drewN | apply below_drew1) | exact HB.out)) hb); clear HB; have HB := n0_; clear n0_; (try clear hb); (try clear hb2); (try clear hk); (try clear hi)) | ((with_reducible refine gate_callee (f := 13) rfl ?_); refine goesL_ (some 14) rfl rfl Try.func13 (by kernel_rfl) rfl #[.int .u64 a0, .int .i64 (wrap64 (a2))] rfl (by (try simp only [List.map_toArray, List.map_cons, List.map_nil]); first | done | rfl | (simp only [List.length_drop, List.length_take]; rfl)) ?_; (with_reducible refine (bits_Turn.calls a0 (wrap64 (a2)) t135 _ A6.out).mono ?_); rintro e w' ⟨rfl, ⟨nd, rfl⟩⟩; refine ⟨_, rfl, ?_⟩) | ((with_reducible refine gate_callee (f := 13) rfl ?_); refine goesL_ (some 17) rfl rfl Try.func13 (by kernel_rfl) rfl #[.int .u64 t135, .int .i64 (wrap64 (-(wrap64 (a2))))] rfl (by (try simp only [List.map_toArray, List.map_cons, List.map_nil]); first | done | rfl | (simp only [List.length_drop, List.length_take]; rfl)) ?_; (with_reducible refine (bits_Turn.calls t135 (wrap64 (-(wrap64 (a2)))) t136 _ A7.out).mono ?_); rintro e w' ⟨rfl, ⟨nd, rfl⟩⟩; refine ⟨_, rfl, ?_⟩) | ((with_reducible refine gate_callee (f := 10) rfl ?_); refine goesL_ (some 19) rfl rfl Try.func10 (by kernel_rfl) rfl #[.int .u64 a0] rfl (by (try simp only [List.map_toArray, List.map_cons, List.map_nil]); first | done | rfl | (simp only [List.length_drop, List.length_take]; rfl)) ?_; (with_reducible refine (bits_Cut.calls a0 t137 _ A8.out).mono ?_); rintro e w' ⟨rfl, ⟨nd, rfl⟩⟩; refine ⟨_, rfl, ?_⟩) | (go_at_call 13; (with_reducible refine (bits_Turn.calls a0 (wrap64 (a2)) t135 _ A10.out).mono ?_); rintro e w' ⟨rfl, ⟨nd, rfl⟩⟩) | (go_at_call 13; (with_reducible refine (bits_Turn.calls a0 (wrap64 ((wrap64 (a2)) + 48)) t139 _ A11.out).mono ?_); rintro e w' ⟨rfl, ⟨nd, rfl⟩⟩) | (go_at_call 10; (with_reducible refine (bits_Cut.calls a0 t137 _ A13.out).mono ?_); rintro e w' ⟨rfl, ⟨nd, rfl⟩⟩) | (go_at_call 11; (with_reducible refine (bits_Add.calls t137 a1 t141 _ A14.out).mono ?_); rintro e w' ⟨rfl, ⟨nd, rfl⟩⟩) | (go_at_call 11; (with_reducible refine (bits_Add.calls a0 a1 t142 _ A15.out).mono ?_); rintro e w' ⟨rfl, ⟨nd, rfl⟩⟩))
          go_ret
          exact ⟨by first | rfl | (simp [errW_none, errW_some] <;> rfl) | (simp [*, errW_none, errW_some] <;> rfl), by repeat (first | (with_reducible first | exact HB.out | apply below_alloc | apply pw_below_drewN | apply below_drew1) | exact HB.out)⟩
      · rw [if_neg c12] at H
        have c12b0 : (t135 == t139) = false := beq_eq_false_iff_ne.mpr c12
        have c12b1 : (t135 != t139) = true := bne_iff_ne.mpr c12
        obtain rfl := Option.some.inj H
        go_enter Try.func6, Try.ntmps6
        go_wp2_with (first | ((with_reducible refine gate_callee (f := 9) rfl ?_); refine goesL_ (some 8) rfl rfl Try.func9 (by kernel_rfl) rfl #[] rfl (by (try simp only [List.map_toArray, List.map_cons, List.map_nil]); first | done | rfl | (simp only [List.length_drop, List.length_take]; rfl)) ?_; (with_reducible refine (sigillumlaw01_awake.calls k  true _ A4.out).mono ?_); rintro e w29 ⟨rfl, hb⟩; refine ⟨_, rfl, ?_⟩; have n0_ := Aside0.mk (below_step (by repeat (first | (with_reducible first | exact HB.out | apply below_alloc | apply pw_below_drewN | apply below_drew1) | exact HB.out)) hb); clear HB; have HB := n0_; clear n0_; (try clear hb); (try clear hb2); (try clear hk); (try clear hi)) | ((with_reducible refine gate_callee (f := 13) rfl ?_); refine goesL_ (some 14) rfl rfl Try.func13 (by kernel_rfl) rfl #[.int .u64 a0, .int .i64 (wrap64 (a2))] rfl (by (try simp only [List.map_toArray, List.map_cons, List.map_nil]); first | done | rfl | (simp only [List.length_drop, List.length_take]; rfl)) ?_; (with_reducible refine (bits_Turn.calls a0 (wrap64 (a2)) t135 _ A6.out).mono ?_); rintro e w' ⟨rfl, ⟨nd, rfl⟩⟩; refine ⟨_, rfl, ?_⟩) | ((with_reducible refine gate_callee (f := 13) rfl ?_); refine goesL_ (some 17) rfl rfl Try.func13 (by kernel_rfl) rfl #[.int .u64 t135, .int .i64 (wrap64 (-(wrap64 (a2))))] rfl (by (try simp only [List.map_toArray, List.map_cons, List.map_nil]); first | done | rfl | (simp only [List.length_drop, List.length_take]; rfl)) ?_; (with_reducible refine (bits_Turn.calls t135 (wrap64 (-(wrap64 (a2)))) t136 _ A7.out).mono ?_); rintro e w' ⟨rfl, ⟨nd, rfl⟩⟩; refine ⟨_, rfl, ?_⟩) | ((with_reducible refine gate_callee (f := 10) rfl ?_); refine goesL_ (some 19) rfl rfl Try.func10 (by kernel_rfl) rfl #[.int .u64 a0] rfl (by (try simp only [List.map_toArray, List.map_cons, List.map_nil]); first | done | rfl | (simp only [List.length_drop, List.length_take]; rfl)) ?_; (with_reducible refine (bits_Cut.calls a0 t137 _ A8.out).mono ?_); rintro e w' ⟨rfl, ⟨nd, rfl⟩⟩; refine ⟨_, rfl, ?_⟩) | (go_at_call 13; (with_reducible refine (bits_Turn.calls a0 (wrap64 (a2)) t135 _ A10.out).mono ?_); rintro e w' ⟨rfl, ⟨nd, rfl⟩⟩) | (go_at_call 13; (with_reducible refine (bits_Turn.calls a0 (wrap64 ((wrap64 (a2)) + 48)) t139 _ A11.out).mono ?_); rintro e w' ⟨rfl, ⟨nd, rfl⟩⟩))
        go_ret
        exact ⟨by first | rfl | (simp [errW_none, errW_some] <;> rfl) | (simp [*, errW_none, errW_some] <;> rfl), by repeat (first | (with_reducible first | exact HB.out | apply below_alloc | apply pw_below_drewN | apply below_drew1) | exact HB.out)⟩
    · rw [if_neg c9] at H
      have c9b0 : (t136 == t137) = false := beq_eq_false_iff_ne.mpr c9
      have c9b1 : (t136 != t137) = true := bne_iff_ne.mpr c9
      obtain rfl := Option.some.inj H
      go_enter Try.func6, Try.ntmps6
      go_wp2_with (first | ((with_reducible refine gate_callee (f := 9) rfl ?_); refine goesL_ (some 8) rfl rfl Try.func9 (by kernel_rfl) rfl #[] rfl (by (try simp only [List.map_toArray, List.map_cons, List.map_nil]); first | done | rfl | (simp only [List.length_drop, List.length_take]; rfl)) ?_; (with_reducible refine (sigillumlaw01_awake.calls k  true _ A4.out).mono ?_); rintro e w30 ⟨rfl, hb⟩; refine ⟨_, rfl, ?_⟩; have n0_ := Aside0.mk (below_step (by repeat (first | (with_reducible first | exact HB.out | apply below_alloc | apply pw_below_drewN | apply below_drew1) | exact HB.out)) hb); clear HB; have HB := n0_; clear n0_; (try clear hb); (try clear hb2); (try clear hk); (try clear hi)) | ((with_reducible refine gate_callee (f := 13) rfl ?_); refine goesL_ (some 14) rfl rfl Try.func13 (by kernel_rfl) rfl #[.int .u64 a0, .int .i64 (wrap64 (a2))] rfl (by (try simp only [List.map_toArray, List.map_cons, List.map_nil]); first | done | rfl | (simp only [List.length_drop, List.length_take]; rfl)) ?_; (with_reducible refine (bits_Turn.calls a0 (wrap64 (a2)) t135 _ A6.out).mono ?_); rintro e w' ⟨rfl, ⟨nd, rfl⟩⟩; refine ⟨_, rfl, ?_⟩) | ((with_reducible refine gate_callee (f := 13) rfl ?_); refine goesL_ (some 17) rfl rfl Try.func13 (by kernel_rfl) rfl #[.int .u64 t135, .int .i64 (wrap64 (-(wrap64 (a2))))] rfl (by (try simp only [List.map_toArray, List.map_cons, List.map_nil]); first | done | rfl | (simp only [List.length_drop, List.length_take]; rfl)) ?_; (with_reducible refine (bits_Turn.calls t135 (wrap64 (-(wrap64 (a2)))) t136 _ A7.out).mono ?_); rintro e w' ⟨rfl, ⟨nd, rfl⟩⟩; refine ⟨_, rfl, ?_⟩) | ((with_reducible refine gate_callee (f := 10) rfl ?_); refine goesL_ (some 19) rfl rfl Try.func10 (by kernel_rfl) rfl #[.int .u64 a0] rfl (by (try simp only [List.map_toArray, List.map_cons, List.map_nil]); first | done | rfl | (simp only [List.length_drop, List.length_take]; rfl)) ?_; (with_reducible refine (bits_Cut.calls a0 t137 _ A8.out).mono ?_); rintro e w' ⟨rfl, ⟨nd, rfl⟩⟩; refine ⟨_, rfl, ?_⟩))
      go_ret
      exact ⟨by first | rfl | (simp [errW_none, errW_some] <;> rfl) | (simp [*, errW_none, errW_some] <;> rfl), by repeat (first | (with_reducible first | exact HB.out | apply below_alloc | apply pw_below_drewN | apply below_drew1) | exact HB.out)⟩
  · replace c5 := Bool.eq_false_iff.mpr c5
    subst c5
    have H1 : (some false) = some r := by rw [if_neg (show ¬ (false = true) by decide)] at H; exact H
    clear H
    have H := H1
    clear H1
    obtain rfl := Option.some.inj H
    go_enter Try.func6, Try.ntmps6
    go_wp2_with (first | ((with_reducible refine gate_callee (f := 9) rfl ?_); refine goesL_ (some 8) rfl rfl Try.func9 (by kernel_rfl) rfl #[] rfl (by (try simp only [List.map_toArray, List.map_cons, List.map_nil]); first | done | rfl | (simp only [List.length_drop, List.length_take]; rfl)) ?_; (with_reducible refine (sigillumlaw01_awake.calls k  false _ A4.out).mono ?_); rintro e w31 ⟨rfl, hb⟩; refine ⟨_, rfl, ?_⟩; have n0_ := Aside0.mk (below_step (by repeat (first | (with_reducible first | exact HB.out | apply below_alloc | apply pw_below_drewN | apply below_drew1) | exact HB.out)) hb); clear HB; have HB := n0_; clear n0_; (try clear hb); (try clear hb2); (try clear hk); (try clear hi)))
    go_ret
    exact ⟨by first | rfl | (simp [errW_none, errW_some] <;> rfl) | (simp [*, errW_none, errW_some] <;> rfl), by repeat (first | (with_reducible first | exact HB.out | apply below_alloc | apply pw_below_drewN | apply below_drew1) | exact HB.out)⟩

/-- THE ONE PURE STATEMENT of sigillumlaw01_BitsRound: yours. -/
def sigillumlaw01_BitsRound.Pure : Prop := ∀ (a0 : Int) (a1 : Int) (a2 : Int), (Lit.int .u64 a0).wf = true → (Lit.int .u64 a1).wf = true → (Lit.int .i32 a2).wf = true → ∃ k, sigillumlaw01_BitsRound.f k a0 a1 a2 = some true
theorem sigillumlaw01_BitsRound.walk (P : sigillumlaw01_BitsRound.Pure) (a0 : Int) (a1 : Int) (a2 : Int) (w : World) (w0 : (Lit.int .u64 a0).wf = true) (w1 : (Lit.int .u64 a1).wf = true) (w2 : (Lit.int .i32 a2).wf = true) :
    Calls Try.prog 6 #[.int .u64 a0, .int .u64 a1, .int .i32 a2] w fun e w' => e = .returned (.bool true) ∧ Below w.heap.size w w' := by
  obtain ⟨k, h⟩ := P a0 a1 a2 w0 w1 w2
  refine (sigillumlaw01_BitsRound.calls k a0 a1 a2 true w h).mono ?_
  rintro e w' ⟨rfl, hd⟩
  exact ⟨rfl, hd⟩

end Go.Proofs.Ytmhahelgfkodkaa.PA
