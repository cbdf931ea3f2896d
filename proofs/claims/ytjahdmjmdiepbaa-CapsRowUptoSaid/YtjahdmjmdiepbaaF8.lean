-- By a program of this session (after the form of the print; not a text of the print's own)
import Derived.Test.YtjahdmjmdiepbaaF0
import Derived.Test.YtjahdmjmdiepbaaF12
import Derived.Test.YtjahdmjmdiepbaaF15
namespace Go.Proofs.Ytjahdmjmdiepbaa.PA
open Go.RowKit Go.Proofs.YtjahdmjmdiepbaaW.PrintWords Go.Proofs.YtjahdmjmdiepbaaW.PrintLast Go.Proofs.YtjahdmjmdiepbaaW.PrintMore
attribute [local go_sem] max2_int min2_int max_two min_two max_three min_three max_four min_four   -- for this text's walks alone
set_option linter.unusedVariables false
set_option linter.unusedSimpArgs false
attribute [local go_sem high] eqA25
/-! ### sigillumlaw03_awake: function 8 -/
def sigillumlaw03_awake.f (k : Nat)  : Option (Bool) := (caps_Encode.f k 1 2 3 4).bind fun t123 => (if (strOfNums t123).toList = ([0, 0, 0, 0, 0, 1, 0, 0, 2, 3, 0, 0, 0, 0, 0, 4] : List UInt8) then ((caps_Owns.f 0 0 255 0).bind fun t126 => (some t126)) else (some false))
theorem sigillumlaw03_awake.mono : ∀ k, LeO (sigillumlaw03_awake.f k ) (sigillumlaw03_awake.f (k + 1) ) := by
  intro  k
  unfold sigillumlaw03_awake.f
  repeat' first
      | (with_reducible exact caps_Encode.mono _ _ _ _ _)
      | (with_reducible exact LeO.refl _)
      | (with_reducible exact LeO.none _)
      | (with_reducible refine LeO.ite ?_ ?_)
      | (with_reducible refine LeO.bind ?_ (fun _ => ?_))
      | exact caps_Encode.mono _ _ _ _ _
      | exact LeO.none _
      | refine LeO.ite ?_ ?_
      | refine LeO.bind ?_ (fun _ => ?_)
set_option maxHeartbeats 8000000 in
set_option maxRecDepth 100000 in
theorem sigillumlaw03_awake.calls (k : Nat)  (r : Bool) (w : World) (h : sigillumlaw03_awake.f k  = some r) :
    Calls Try.prog 8 #[] w fun e w' => e = .returned (.bool r) ∧ Below w.heap.size w w' := by
  have hu25 := Try.underlying25
  have HB := Aside0.mk (Below.refl w.heap.size w)
  have H : ((caps_Encode.f k 1 2 3 4).bind fun t123 => (if (strOfNums t123).toList = ([0, 0, 0, 0, 0, 1, 0, 0, 2, 3, 0, 0, 0, 0, 0, 4] : List UInt8) then ((caps_Owns.f 0 0 255 0).bind fun t126 => (some t126)) else (some false))) = some r := h
  clear h
  replace H := Option.bind_eq_some_iff.mp H
  obtain ⟨t123, A10, H⟩ := H
  replace H : (if (strOfNums t123).toList = ([0, 0, 0, 0, 0, 1, 0, 0, 2, 3, 0, 0, 0, 0, 0, 4] : List UInt8) then ((caps_Owns.f 0 0 255 0).bind fun t126 => (some t126)) else (some false)) = some r := H
  have A1 := Aside0.mk A10
  clear A10
  by_cases c2 : (strOfNums t123).toList = ([0, 0, 0, 0, 0, 1, 0, 0, 2, 3, 0, 0, 0, 0, 0, 4] : List UInt8)
  · rw [if_pos c2] at H
    have c2b0 : ((strOfNums t123).toList == ([0, 0, 0, 0, 0, 1, 0, 0, 2, 3, 0, 0, 0, 0, 0, 4] : List UInt8)) = true := beq_iff_eq.mpr c2
    have c2b1 : ((strOfNums t123).toList != ([0, 0, 0, 0, 0, 1, 0, 0, 2, 3, 0, 0, 0, 0, 0, 4] : List UInt8)) = false := bne_eq_false_iff_eq.mpr c2
    clear c2
    replace H := Option.bind_eq_some_iff.mp H
    obtain ⟨t126, A30, H⟩ := H
    replace H : (some t126) = some r := H
    have A3 := Aside0.mk A30
    clear A30
    obtain rfl := Option.some.inj H
    go_enter Try.func8, Try.ntmps8
    go_wp2_with (first | ((with_reducible refine gate_callee (f := 12) rfl ?_); refine goesL_ (some 3) rfl rfl Try.func12 (by kernel_rfl) rfl #[.agg #[.int .u64 1, .int .u32 2, .int .u8 3, .int .u64 4]] rfl (by (try simp only [List.map_toArray, List.map_cons, List.map_nil]); first | done | rfl | (simp only [List.length_drop, List.length_take]; rfl)) ?_; (with_reducible refine (caps_Encode.calls k 1 2 3 4 t123 _ A1.out).mono ?_); rintro e w4 ⟨v124, rfl, ho0, hb⟩; refine ⟨_, rfl, ?_⟩; have n0_ := Aside0.mk (Kd.R_lower ho0 (below_size (by repeat (first | (with_reducible first | exact HB.out | apply below_alloc | apply pw_below_drewN | apply below_drew1) | exact HB.out)))); have n1_ := Aside0.mk (below_step (by repeat (first | (with_reducible first | exact HB.out | apply below_alloc | apply pw_below_drewN | apply below_drew1) | exact HB.out)) hb); clear HB; have HO125 := n0_; have HB := n1_; clear n0_ n1_; (try clear hb); (try clear hb2); (try clear hk); (try clear hi); (try clear ho0); have hcv5 := own_string (P := Try.prog) Try.underlying29 Try.underlying5 Try.underlying9 (Kd.own_of_R HO125.out)) | (go_at_call 15; (with_reducible refine (caps_Owns.calls 0 0 255 0 t126 _ A3.out).mono ?_); rintro e w6 ⟨rfl, hb⟩; have n0_ := Aside0.mk (Kd.R_below (by (with_reducible repeat (first | apply Kd.R_alloc | apply Kd.R_drewN | apply Kd.R_drew)); exact HO125.out) hb); have n1_ := Aside0.mk (below_step (by repeat (first | (with_reducible first | exact HB.out | apply below_alloc | apply pw_below_drewN | apply below_drew1) | exact HB.out)) hb); clear HO125; clear HB; have HO125 := n0_; have HB := n1_; clear n0_ n1_; (try clear hb); (try clear hb2); (try clear hk); (try clear hi)))
    go_ret
    exact ⟨by first | rfl | (simp [errW_none, errW_some] <;> rfl) | (simp [*, errW_none, errW_some] <;> rfl), by repeat (first | (with_reducible first | exact HB.out | apply below_alloc | apply pw_below_drewN | apply below_drew1) | exact HB.out)⟩
  · rw [if_neg c2] at H
    have c2b0 : ((strOfNums t123).toList == ([0, 0, 0, 0, 0, 1, 0, 0, 2, 3, 0, 0, 0, 0, 0, 4] : List UInt8)) = false := beq_eq_false_iff_ne.mpr c2
    have c2b1 : ((strOfNums t123).toList != ([0, 0, 0, 0, 0, 1, 0, 0, 2, 3, 0, 0, 0, 0, 0, 4] : List UInt8)) = true := bne_iff_ne.mpr c2
    obtain rfl := Option.some.inj H
    go_enter Try.func8, Try.ntmps8
    go_wp2_with (first | ((with_reducible refine gate_callee (f := 12) rfl ?_); refine goesL_ (some 3) rfl rfl Try.func12 (by kernel_rfl) rfl #[.agg #[.int .u64 1, .int .u32 2, .int .u8 3, .int .u64 4]] rfl (by (try simp only [List.map_toArray, List.map_cons, List.map_nil]); first | done | rfl | (simp only [List.length_drop, List.length_take]; rfl)) ?_; (with_reducible refine (caps_Encode.calls k 1 2 3 4 t123 _ A1.out).mono ?_); rintro e w7 ⟨v124, rfl, ho0, hb⟩; refine ⟨_, rfl, ?_⟩; have n0_ := Aside0.mk (Kd.R_lower ho0 (below_size (by repeat (first | (with_reducible first | exact HB.out | apply below_alloc | apply pw_below_drewN | apply below_drew1) | exact HB.out)))); have n1_ := Aside0.mk (below_step (by repeat (first | (with_reducible first | exact HB.out | apply below_alloc | apply pw_below_drewN | apply below_drew1) | exact HB.out)) hb); clear HB; have HO125 := n0_; have HB := n1_; clear n0_ n1_; (try clear hb); (try clear hb2); (try clear hk); (try clear hi); (try clear ho0); have hcv8 := own_string (P := Try.prog) Try.underlying29 Try.underlying5 Try.underlying9 (Kd.own_of_R HO125.out)))
    go_ret
    exact ⟨by first | rfl | (simp [errW_none, errW_some] <;> rfl) | (simp [*, errW_none, errW_some] <;> rfl), by repeat (first | (with_reducible first | exact HB.out | apply below_alloc | apply pw_below_drewN | apply below_drew1) | exact HB.out)⟩

end Go.Proofs.Ytjahdmjmdiepbaa.PA
