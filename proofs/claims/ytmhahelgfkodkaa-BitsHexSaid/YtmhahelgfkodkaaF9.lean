-- By a program of this session (after the form of the print; not a text of the print's own)
import Derived.Test.YtmhahelgfkodkaaF0
import Derived.Test.YtmhahelgfkodkaaF10
import Derived.Test.YtmhahelgfkodkaaF13
import Derived.Test.YtmhahelgfkodkaaF15
import Derived.Test.YtmhahelgfkodkaaF16
import Derived.Test.YtmhahelgfkodkaaF17
namespace Go.Proofs.Ytmhahelgfkodkaa.PA
open Go.RowKit Go.Proofs.YtmhahelgfkodkaaW.PrintWords Go.Proofs.YtmhahelgfkodkaaW.PrintLast Go.Proofs.YtmhahelgfkodkaaW.PrintMore
attribute [local go_sem] max2_int min2_int max_two min_two max_three min_three max_four min_four   -- for this text's walks alone
set_option linter.unusedVariables false
set_option linter.unusedSimpArgs false
/-! ### sigillumlaw01_awake: function 9 -/
def sigillumlaw01_awake.f (k : Nat)  : Option (Bool) := (bits_Read.f k (⟨#[102, 102]⟩ : ByteArray)).bind fun bt110 => ((bits_Turn.f 1 (-1)).bind fun t112 => (if t112 = 140737488355328 then ((bits_Turn.f 1 49).bind fun t113 => (if t113 = 2 then ((bits_Hex.f 255).bind fun t114 => (if t114.toList = ([48, 48, 48, 48, 48, 48, 48, 48, 48, 48, 102, 102] : List UInt8) then (if bt110.2 = true then (some false) else ((bits_Mix.f k 0 0).bind fun t115 => (if t115 = 0 then ((bits_Cut.f 281474976710661).bind fun t116 => (some (t116 == 5))) else (some false)))) else (some false))) else (some false))) else (some false)))
theorem sigillumlaw01_awake.mono : ∀ k, LeO (sigillumlaw01_awake.f k ) (sigillumlaw01_awake.f (k + 1) ) := by
  intro  k
  unfold sigillumlaw01_awake.f
  repeat' first
      | (with_reducible exact bits_Mix.mono _ _ _)
      | (with_reducible exact bits_Read.mono _ _)
      | (with_reducible exact LeO.refl _)
      | (with_reducible exact LeO.none _)
      | (with_reducible refine LeO.ite ?_ ?_)
      | (with_reducible refine LeO.bind ?_ (fun _ => ?_))
      | exact bits_Mix.mono _ _ _
      | exact bits_Read.mono _ _
      | exact LeO.none _
      | refine LeO.ite ?_ ?_
      | refine LeO.bind ?_ (fun _ => ?_)
set_option maxHeartbeats 8000000 in
set_option maxRecDepth 100000 in
theorem sigillumlaw01_awake.calls (k : Nat)  (r : Bool) (w : World) (h : sigillumlaw01_awake.f k  = some r) :
    Calls Try.prog 9 #[] w fun e w' => e = .returned (.bool r) ∧ Below w.heap.size w w' := by
  have HB := Aside0.mk (Below.refl w.heap.size w)
  have H : ((bits_Read.f k (⟨#[102, 102]⟩ : ByteArray)).bind fun bt110 => ((bits_Turn.f 1 (-1)).bind fun t112 => (if t112 = 140737488355328 then ((bits_Turn.f 1 49).bind fun t113 => (if t113 = 2 then ((bits_Hex.f 255).bind fun t114 => (if t114.toList = ([48, 48, 48, 48, 48, 48, 48, 48, 48, 48, 102, 102] : List UInt8) then (if bt110.2 = true then (some false) else ((bits_Mix.f k 0 0).bind fun t115 => (if t115 = 0 then ((bits_Cut.f 281474976710661).bind fun t116 => (some (t116 == 5))) else (some false)))) else (some false))) else (some false))) else (some false)))) = some r := h
  clear h
  replace H := Option.bind_eq_some_iff.mp H
  obtain ⟨⟨t110, t111⟩, A10, H⟩ := H
  replace H : ((bits_Turn.f 1 (-1)).bind fun t112 => (if t112 = 140737488355328 then ((bits_Turn.f 1 49).bind fun t113 => (if t113 = 2 then ((bits_Hex.f 255).bind fun t114 => (if t114.toList = ([48, 48, 48, 48, 48, 48, 48, 48, 48, 48, 102, 102] : List UInt8) then (if t111 = true then (some false) else ((bits_Mix.f k 0 0).bind fun t115 => (if t115 = 0 then ((bits_Cut.f 281474976710661).bind fun t116 => (some (t116 == 5))) else (some false)))) else (some false))) else (some false))) else (some false))) = some r := H
  have A1 := Aside0.mk A10
  clear A10
  replace H := Option.bind_eq_some_iff.mp H
  obtain ⟨t112, A20, H⟩ := H
  replace H : (if t112 = 140737488355328 then ((bits_Turn.f 1 49).bind fun t113 => (if t113 = 2 then ((bits_Hex.f 255).bind fun t114 => (if t114.toList = ([48, 48, 48, 48, 48, 48, 48, 48, 48, 48, 102, 102] : List UInt8) then (if t111 = true then (some false) else ((bits_Mix.f k 0 0).bind fun t115 => (if t115 = 0 then ((bits_Cut.f 281474976710661).bind fun t116 => (some (t116 == 5))) else (some false)))) else (some false))) else (some false))) else (some false)) = some r := H
  have A2 := Aside0.mk A20
  clear A20
  by_cases c3 : t112 = 140737488355328
  · rw [if_pos c3] at H
    have c3b0 : (t112 == 140737488355328) = true := beq_iff_eq.mpr c3
    have c3b1 : (t112 != 140737488355328) = false := bne_eq_false_iff_eq.mpr c3
    clear c3
    replace H := Option.bind_eq_some_iff.mp H
    obtain ⟨t113, A40, H⟩ := H
    replace H : (if t113 = 2 then ((bits_Hex.f 255).bind fun t114 => (if t114.toList = ([48, 48, 48, 48, 48, 48, 48, 48, 48, 48, 102, 102] : List UInt8) then (if t111 = true then (some false) else ((bits_Mix.f k 0 0).bind fun t115 => (if t115 = 0 then ((bits_Cut.f 281474976710661).bind fun t116 => (some (t116 == 5))) else (some false)))) else (some false))) else (some false)) = some r := H
    have A4 := Aside0.mk A40
    clear A40
    by_cases c5 : t113 = 2
    · rw [if_pos c5] at H
      have c5b0 : (t113 == 2) = true := beq_iff_eq.mpr c5
      have c5b1 : (t113 != 2) = false := bne_eq_false_iff_eq.mpr c5
      clear c5
      replace H := Option.bind_eq_some_iff.mp H
      obtain ⟨t114, A60, H⟩ := H
      replace H : (if t114.toList = ([48, 48, 48, 48, 48, 48, 48, 48, 48, 48, 102, 102] : List UInt8) then (if t111 = true then (some false) else ((bits_Mix.f k 0 0).bind fun t115 => (if t115 = 0 then ((bits_Cut.f 281474976710661).bind fun t116 => (some (t116 == 5))) else (some false)))) else (some false)) = some r := H
      have A6 := Aside0.mk A60
      clear A60
      by_cases c7 : t114.toList = ([48, 48, 48, 48, 48, 48, 48, 48, 48, 48, 102, 102] : List UInt8)
      · rw [if_pos c7] at H
        have c7b0 : (t114.toList == ([48, 48, 48, 48, 48, 48, 48, 48, 48, 48, 102, 102] : List UInt8)) = true := beq_iff_eq.mpr c7
        have c7b1 : (t114.toList != ([48, 48, 48, 48, 48, 48, 48, 48, 48, 48, 102, 102] : List UInt8)) = false := bne_eq_false_iff_eq.mpr c7
        clear c7
        by_cases c8 : t111 = true
        · subst c8
          have H1 : (some false) = some r := by rw [if_pos rfl] at H; exact H
          clear H
          have H := H1
          clear H1
          obtain rfl := Option.some.inj H
          go_enter Try.func9, Try.ntmps9
          go_wp2_with (first | ((with_reducible refine gate_callee (f := 17) rfl ?_); refine goesL_ (some 4) rfl rfl Try.func17 (by kernel_rfl) rfl #[.string (⟨#[102, 102]⟩ : ByteArray)] rfl (by (try simp only [List.map_toArray, List.map_cons, List.map_nil]); first | done | rfl | (simp only [List.length_drop, List.length_take]; rfl)) ?_; (with_reducible refine (bits_Read.calls k (⟨#[102, 102]⟩ : ByteArray) t110 true _ A1.out).mono ?_); rintro e w' ⟨rfl, ⟨nd, rfl⟩⟩; refine ⟨_, rfl, ?_⟩) | ((with_reducible refine gate_callee (f := 13) rfl ?_); refine goesL_ (some 7) rfl rfl Try.func13 (by kernel_rfl) rfl #[.int .u64 1, .int .i64 (-1)] rfl (by (try simp only [List.map_toArray, List.map_cons, List.map_nil]); first | done | rfl | (simp only [List.length_drop, List.length_take]; rfl)) ?_; (with_reducible refine (bits_Turn.calls 1 (-1) t112 _ A2.out).mono ?_); rintro e w' ⟨rfl, ⟨nd, rfl⟩⟩; refine ⟨_, rfl, ?_⟩) | (go_at_call 13; (with_reducible refine (bits_Turn.calls 1 49 t113 _ A4.out).mono ?_); rintro e w' ⟨rfl, ⟨nd, rfl⟩⟩) | (go_at_call 16; (with_reducible refine (bits_Hex.calls 255 t114 _ A6.out).mono ?_); rintro e w9 ⟨rfl, hb⟩; have n0_ := Aside0.mk (below_step (by repeat (first | (with_reducible first | exact HB.out | apply below_alloc | apply pw_below_drewN | apply below_drew1) | exact HB.out)) hb); clear HB; have HB := n0_; clear n0_; (try clear hb); (try clear hb2); (try clear hk); (try clear hi)))
          go_ret
          exact ⟨by first | rfl | (simp [errW_none, errW_some] <;> rfl) | (simp [*, errW_none, errW_some] <;> rfl), by repeat (first | (with_reducible first | exact HB.out | apply below_alloc | apply pw_below_drewN | apply below_drew1) | exact HB.out)⟩
        · replace c8 := Bool.eq_false_iff.mpr c8
          subst c8
          have H1 : ((bits_Mix.f k 0 0).bind fun t115 => (if t115 = 0 then ((bits_Cut.f 281474976710661).bind fun t116 => (some (t116 == 5))) else (some false))) = some r := by rw [if_neg (show ¬ (false = true) by decide)] at H; exact H
          clear H
          have H := H1
          clear H1
          replace H := Option.bind_eq_some_iff.mp H
          obtain ⟨t115, A100, H⟩ := H
          replace H : (if t115 = 0 then ((bits_Cut.f 281474976710661).bind fun t116 => (some (t116 == 5))) else (some false)) = some r := H
          have A10 := Aside0.mk A100
          clear A100
          by_cases c11 : t115 = 0
          · rw [if_pos c11] at H
            have c11b0 : (t115 == 0) = true := beq_iff_eq.mpr c11
            have c11b1 : (t115 != 0) = false := bne_eq_false_iff_eq.mpr c11
            clear c11
            replace H := Option.bind_eq_some_iff.mp H
            obtain ⟨t116, A120, H⟩ := H
            replace H : (some (t116 == 5)) = some r := H
            have A12 := Aside0.mk A120
            clear A120
            obtain rfl := Option.some.inj H
            go_enter Try.func9, Try.ntmps9
            go_wp2_with (first | ((with_reducible refine gate_callee (f := 17) rfl ?_); refine goesL_ (some 4) rfl rfl Try.func17 (by kernel_rfl) rfl #[.string (⟨#[102, 102]⟩ : ByteArray)] rfl (by (try simp only [List.map_toArray, List.map_cons, List.map_nil]); first | done | rfl | (simp only [List.length_drop, List.length_take]; rfl)) ?_; (with_reducible refine (bits_Read.calls k (⟨#[102, 102]⟩ : ByteArray) t110 false _ A1.out).mono ?_); rintro e w' ⟨rfl, ⟨nd, rfl⟩⟩; refine ⟨_, rfl, ?_⟩) | ((with_reducible refine gate_callee (f := 13) rfl ?_); refine goesL_ (some 7) rfl rfl Try.func13 (by kernel_rfl) rfl #[.int .u64 1, .int .i64 (-1)] rfl (by (try simp only [List.map_toArray, List.map_cons, List.map_nil]); first | done | rfl | (simp only [List.length_drop, List.length_take]; rfl)) ?_; (with_reducible refine (bits_Turn.calls 1 (-1) t112 _ A2.out).mono ?_); rintro e w' ⟨rfl, ⟨nd, rfl⟩⟩; refine ⟨_, rfl, ?_⟩) | (go_at_call 13; (with_reducible refine (bits_Turn.calls 1 49 t113 _ A4.out).mono ?_); rintro e w' ⟨rfl, ⟨nd, rfl⟩⟩) | (go_at_call 16; (with_reducible refine (bits_Hex.calls 255 t114 _ A6.out).mono ?_); rintro e w13 ⟨rfl, hb⟩; have n0_ := Aside0.mk (below_step (by repeat (first | (with_reducible first | exact HB.out | apply below_alloc | apply pw_below_drewN | apply below_drew1) | exact HB.out)) hb); clear HB; have HB := n0_; clear n0_; (try clear hb); (try clear hb2); (try clear hk); (try clear hi)) | (go_at_call 15; (with_reducible refine (bits_Mix.calls k 0 0 t115 _ A10.out).mono ?_); rintro e w' ⟨rfl, ⟨nd, rfl⟩⟩) | (go_at_call 10; (with_reducible refine (bits_Cut.calls 281474976710661 t116 _ A12.out).mono ?_); rintro e w' ⟨rfl, ⟨nd, rfl⟩⟩))
            go_ret
            exact ⟨by first | rfl | (simp [errW_none, errW_some] <;> rfl) | (simp [*, errW_none, errW_some] <;> rfl), by repeat (first | (with_reducible first | exact HB.out | apply below_alloc | apply pw_below_drewN | apply below_drew1) | exact HB.out)⟩
          · rw [if_neg c11] at H
            have c11b0 : (t115 == 0) = false := beq_eq_false_iff_ne.mpr c11
            have c11b1 : (t115 != 0) = true := bne_iff_ne.mpr c11
            obtain rfl := Option.some.inj H
            go_enter Try.func9, Try.ntmps9
            go_wp2_with (first | ((with_reducible refine gate_callee (f := 17) rfl ?_); refine goesL_ (some 4) rfl rfl Try.func17 (by kernel_rfl) rfl #[.string (⟨#[102, 102]⟩ : ByteArray)] rfl (by (try simp only [List.map_toArray, List.map_cons, List.map_nil]); first | done | rfl | (simp only [List.length_drop, List.length_take]; rfl)) ?_; (with_reducible refine (bits_Read.calls k (⟨#[102, 102]⟩ : ByteArray) t110 false _ A1.out).mono ?_); rintro e w' ⟨rfl, ⟨nd, rfl⟩⟩; refine ⟨_, rfl, ?_⟩) | ((with_reducible refine gate_callee (f := 13) rfl ?_); refine goesL_ (some 7) rfl rfl Try.func13 (by kernel_rfl) rfl #[.int .u64 1, .int .i64 (-1)] rfl (by (try simp only [List.map_toArray, List.map_cons, List.map_nil]); first | done | rfl | (simp only [List.length_drop, List.length_take]; rfl)) ?_; (with_reducible refine (bits_Turn.calls 1 (-1) t112 _ A2.out).mono ?_); rintro e w' ⟨rfl, ⟨nd, rfl⟩⟩; refine ⟨_, rfl, ?_⟩) | (go_at_call 13; (with_reducible refine (bits_Turn.calls 1 49 t113 _ A4.out).mono ?_); rintro e w' ⟨rfl, ⟨nd, rfl⟩⟩) | (go_at_call 16; (with_reducible refine (bits_Hex.calls 255 t114 _ A6.out).mono ?_); rintro e w14 ⟨rfl, hb⟩; have n0_ := Aside0.mk (below_step (by repeat (first | (with_reducible first | exact HB.out | apply below_alloc | apply pw_below_drewN | apply below_drew1) | exact HB.out)) hb); clear HB; have HB := n0_; clear n0_; (try clear hb); (try clear hb2); (try clear hk); (try clear hi)) | (go_at_call 15; (with_reducible refine (bits_Mix.calls k 0 0 t115 _ A10.out).mono ?_); rintro e w' ⟨rfl, ⟨nd, rfl⟩⟩))
            go_ret
            exact ⟨by first | rfl | (simp [errW_none, errW_some] <;> rfl) | (simp [*, errW_none, errW_some] <;> rfl), by repeat (first | (with_reducible first | exact HB.out | apply below_alloc | apply pw_below_drewN | apply below_drew1) | exact HB.out)⟩
      · rw [if_neg c7] at H
        have c7b0 : (t114.toList == ([48, 48, 48, 48, 48, 48, 48, 48, 48, 48, 102, 102] : List UInt8)) = false := beq_eq_false_iff_ne.mpr c7
        have c7b1 : (t114.toList != ([48, 48, 48, 48, 48, 48, 48, 48, 48, 48, 102, 102] : List UInt8)) = true := bne_iff_ne.mpr c7
        obtain rfl := Option.some.inj H
        go_enter Try.func9, Try.ntmps9
        go_wp2_with (first | ((with_reducible refine gate_callee (f := 17) rfl ?_); refine goesL_ (some 4) rfl rfl Try.func17 (by kernel_rfl) rfl #[.string (⟨#[102, 102]⟩ : ByteArray)] rfl (by (try simp only [List.map_toArray, List.map_cons, List.map_nil]); first | done | rfl | (simp only [List.length_drop, List.length_take]; rfl)) ?_; (with_reducible refine (bits_Read.calls k (⟨#[102, 102]⟩ : ByteArray) t110 t111 _ A1.out).mono ?_); rintro e w' ⟨rfl, ⟨nd, rfl⟩⟩; refine ⟨_, rfl, ?_⟩) | ((with_reducible refine gate_callee (f := 13) rfl ?_); refine goesL_ (some 7) rfl rfl Try.func13 (by kernel_rfl) rfl #[.int .u64 1, .int .i64 (-1)] rfl (by (try simp only [List.map_toArray, List.map_cons, List.map_nil]); first | done | rfl | (simp only [List.length_drop, List.length_take]; rfl)) ?_; (with_reducible refine (bits_Turn.calls 1 (-1) t112 _ A2.out).mono ?_); rintro e w' ⟨rfl, ⟨nd, rfl⟩⟩; refine ⟨_, rfl, ?_⟩) | (go_at_call 13; (with_reducible refine (bits_Turn.calls 1 49 t113 _ A4.out).mono ?_); rintro e w' ⟨rfl, ⟨nd, rfl⟩⟩) | (go_at_call 16; (with_reducible refine (bits_Hex.calls 255 t114 _ A6.out).mono ?_); rintro e w15 ⟨rfl, hb⟩; have n0_ := Aside0.mk (below_step (by repeat (first | (with_reducible first | exact HB.out | apply below_alloc | apply pw_below_drewN | apply below_drew1) | exact HB.out)) hb); clear HB; have HB := n0_; clear n0_; (try clear hb); (try clear hb2); (try clear hk); (try clear hi)))
        go_ret
        exact ⟨by first | rfl | (simp [errW_none, errW_some] <;> rfl) | (simp [*, errW_none, errW_some] <;> rfl), by repeat (first | (with_reducible first | exact HB.out | apply below_alloc | apply pw_below_drewN | apply below_drew1) | exact HB.out)⟩
    · rw [if_neg c5] at H
      have c5b0 : (t113 == 2) = false := beq_eq_false_iff_ne.mpr c5
      have c5b1 : (t113 != 2) = true := bne_iff_ne.mpr c5
      obtain rfl := Option.some.inj H
      go_enter Try.func9, Try.ntmps9
      go_wp2_with (first | ((with_reducible refine gate_callee (f := 17) rfl ?_); refine goesL_ (some 4) rfl rfl Try.func17 (by kernel_rfl) rfl #[.string (⟨#[102, 102]⟩ : ByteArray)] rfl (by (try simp only [List.map_toArray, List.map_cons, List.map_nil]); first | done | rfl | (simp only [List.length_drop, List.length_take]; rfl)) ?_; (with_reducible refine (bits_Read.calls k (⟨#[102, 102]⟩ : ByteArray) t110 t111 _ A1.out).mono ?_); rintro e w' ⟨rfl, ⟨nd, rfl⟩⟩; refine ⟨_, rfl, ?_⟩) | ((with_reducible refine gate_callee (f := 13) rfl ?_); refine goesL_ (some 7) rfl rfl Try.func13 (by kernel_rfl) rfl #[.int .u64 1, .int .i64 (-1)] rfl (by (try simp only [List.map_toArray, List.map_cons, List.map_nil]); first | done | rfl | (simp only [List.length_drop, List.length_take]; rfl)) ?_; (with_reducible refine (bits_Turn.calls 1 (-1) t112 _ A2.out).mono ?_); rintro e w' ⟨rfl, ⟨nd, rfl⟩⟩; refine ⟨_, rfl, ?_⟩) | (go_at_call 13; (with_reducible refine (bits_Turn.calls 1 49 t113 _ A4.out).mono ?_); rintro e w' ⟨rfl, ⟨nd, rfl⟩⟩))
      go_ret
      exact ⟨by first | rfl | (simp [errW_none, errW_some] <;> rfl) | (simp [*, errW_none, errW_some] <;> rfl), by repeat (first | (with_reducible first | exact HB.out | apply below_alloc | apply pw_below_drewN | apply below_drew1) | exact HB.out)⟩
  · rw [if_neg c3] at H
    have c3b0 : (t112 == 140737488355328) = false := beq_eq_false_iff_ne.mpr c3
    have c3b1 : (t112 != 140737488355328) = true := bne_iff_ne.mpr c3
    obtain rfl := Option.some.inj H
    go_enter Try.func9, Try.ntmps9
    go_wp2_with (first | ((with_reducible refine gate_callee (f := 17) rfl ?_); refine goesL_ (some 4) rfl rfl Try.func17 (by kernel_rfl) rfl #[.string (⟨#[102, 102]⟩ : ByteArray)] rfl (by (try simp only [List.map_toArray, List.map_cons, List.map_nil]); first | done | rfl | (simp only [List.length_drop, List.length_take]; rfl)) ?_; (with_reducible refine (bits_Read.calls k (⟨#[102, 102]⟩ : ByteArray) t110 t111 _ A1.out).mono ?_); rintro e w' ⟨rfl, ⟨nd, rfl⟩⟩; refine ⟨_, rfl, ?_⟩) | ((with_reducible refine gate_callee (f := 13) rfl ?_); refine goesL_ (some 7) rfl rfl Try.func13 (by kernel_rfl) rfl #[.int .u64 1, .int .i64 (-1)] rfl (by (try simp only [List.map_toArray, List.map_cons, List.map_nil]); first | done | rfl | (simp only [List.length_drop, List.length_take]; rfl)) ?_; (with_reducible refine (bits_Turn.calls 1 (-1) t112 _ A2.out).mono ?_); rintro e w' ⟨rfl, ⟨nd, rfl⟩⟩; refine ⟨_, rfl, ?_⟩))
    go_ret
    exact ⟨by first | rfl | (simp [errW_none, errW_some] <;> rfl) | (simp [*, errW_none, errW_some] <;> rfl), by repeat (first | (with_reducible first | exact HB.out | apply below_alloc | apply pw_below_drewN | apply below_drew1) | exact HB.out)⟩

end Go.Proofs.Ytmhahelgfkodkaa.PA
