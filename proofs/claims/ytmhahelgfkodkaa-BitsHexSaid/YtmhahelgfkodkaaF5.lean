-- By a program of this session (after the form of the print; not a text of the print's own)
import Derived.Test.YtmhahelgfkodkaaF0
import Derived.Test.YtmhahelgfkodkaaF16
import Derived.Test.YtmhahelgfkodkaaF17
import Derived.Test.YtmhahelgfkodkaaF9
namespace Go.Proofs.Ytmhahelgfkodkaa.PA
open Go.RowKit Go.Proofs.YtmhahelgfkodkaaW.PrintWords Go.Proofs.YtmhahelgfkodkaaW.PrintLast Go.Proofs.YtmhahelgfkodkaaW.PrintMore
attribute [local go_sem] max2_int min2_int max_two min_two max_three min_three max_four min_four   -- for this text's walks alone
set_option linter.unusedVariables false
set_option linter.unusedSimpArgs false
/-! ### sigillumlaw01_BitsHex: function 5 -/
mutual
def sigillumlaw01_BitsHex.j0 : Nat → Int → ByteArray → ByteArray → Int → Bool → Bool → Option (Bool)
  | 0, _, _, _, _, _, _ => none
  | k + 1, x0, x1, x5, x8, x9, x39 => if x39 = true then (some false) else (sigillumlaw01_BitsHex.l0 k x0 x1 x5 x8 x9 0 0)
def sigillumlaw01_BitsHex.l0 : Nat → Int → ByteArray → ByteArray → Int → Bool → Int → Int → Option (Bool)
  | 0, _, _, _, _, _, _, _ => none
  | k + 1, x0, x1, x5, x8, x9, x10, x11 => if x11 < 12 then (if 0 ≤ x11 then (if x11 < (x5.size : Int) then (if (IntKind.u64.wrap (bt x5 x11)) ≥ 97 then (sigillumlaw01_BitsHex.l0 k x0 x1 x5 x8 x9 (IntKind.u64.wrap ((IntKind.u64.wrap (x10 * 16)) + (IntKind.u64.wrap ((IntKind.u64.wrap ((IntKind.u64.wrap (bt x5 x11)) - 97)) + 10)))) (wrap64 (x11 + 1))) else (sigillumlaw01_BitsHex.l0 k x0 x1 x5 x8 x9 (IntKind.u64.wrap ((IntKind.u64.wrap (x10 * 16)) + (IntKind.u64.wrap ((IntKind.u64.wrap (bt x5 x11)) - 48)))) (wrap64 (x11 + 1)))) else (none)) else (none)) else (if x10 = (Go.bits .and .u64 x0 281474976710655) then (if x9 = true then ((bits_Hex.f x8).bind fun t133 => (if t133.toList = x1.toList then (some true) else (some false))) else (some (x8 == 0))) else (some false))
end
def sigillumlaw01_BitsHex.f (k : Nat) (a0 : Int) (a1 : ByteArray) : Option (Bool) := (sigillumlaw01_awake.f k).bind fun t127 => (if t127 = true then ((bits_Hex.f a0).bind fun t128 => ((bits_Read.f k t128).bind fun bt129 => ((bits_Read.f k a1).bind fun bt131 => (if bt129.2 = true then (if bt129.1 = (Go.bits .and .u64 a0 281474976710655) then (sigillumlaw01_BitsHex.j0 k a0 a1 t128 bt131.1 bt131.2 ((t128.size : Int) != 12)) else (sigillumlaw01_BitsHex.j0 k a0 a1 t128 bt131.1 bt131.2 true)) else (sigillumlaw01_BitsHex.j0 k a0 a1 t128 bt131.1 bt131.2 true))))) else (some false))
theorem sigillumlaw01_BitsHex.mono_l : ∀ k, (∀ y0 y1 y2 y3 y4 y5, LeO (sigillumlaw01_BitsHex.j0 k y0 y1 y2 y3 y4 y5) (sigillumlaw01_BitsHex.j0 (k + 1) y0 y1 y2 y3 y4 y5)) ∧ (∀ y0 y1 y2 y3 y4 y5 y6, LeO (sigillumlaw01_BitsHex.l0 k y0 y1 y2 y3 y4 y5 y6) (sigillumlaw01_BitsHex.l0 (k + 1) y0 y1 y2 y3 y4 y5 y6))
  | 0 => ⟨fun _ _ _ _ _ _ r h => by simp [sigillumlaw01_BitsHex.j0] at h, fun _ _ _ _ _ _ _ r h => by simp [sigillumlaw01_BitsHex.l0] at h⟩
  | k + 1 => by
    obtain ⟨ih0, ih1⟩ := sigillumlaw01_BitsHex.mono_l k
    refine ⟨?_, ?_⟩
    · intro y0 y1 y2 y3 y4 y5
      unfold sigillumlaw01_BitsHex.j0
      repeat' first
      | (with_reducible exact ih0 _ _ _ _ _ _)
      | (with_reducible exact ih1 _ _ _ _ _ _ _)
      | (with_reducible exact bits_Read.mono _ _)
      | (with_reducible exact sigillumlaw01_awake.mono _)
      | (with_reducible exact LeO.refl _)
      | (with_reducible exact LeO.none _)
      | (with_reducible refine LeO.ite ?_ ?_)
      | (with_reducible refine LeO.bind ?_ (fun _ => ?_))
      | exact ih0 _ _ _ _ _ _
      | exact ih1 _ _ _ _ _ _ _
      | exact bits_Read.mono _ _
      | exact sigillumlaw01_awake.mono _
      | exact LeO.none _
      | refine LeO.ite ?_ ?_
      | refine LeO.bind ?_ (fun _ => ?_)
    · intro y0 y1 y2 y3 y4 y5 y6
      unfold sigillumlaw01_BitsHex.l0
      repeat' first
      | (with_reducible exact ih0 _ _ _ _ _ _)
      | (with_reducible exact ih1 _ _ _ _ _ _ _)
      | (with_reducible exact bits_Read.mono _ _)
      | (with_reducible exact sigillumlaw01_awake.mono _)
      | (with_reducible exact LeO.refl _)
      | (with_reducible exact LeO.none _)
      | (with_reducible refine LeO.ite ?_ ?_)
      | (with_reducible refine LeO.bind ?_ (fun _ => ?_))
      | exact ih0 _ _ _ _ _ _
      | exact ih1 _ _ _ _ _ _ _
      | exact bits_Read.mono _ _
      | exact sigillumlaw01_awake.mono _
      | exact LeO.none _
      | refine LeO.ite ?_ ?_
      | refine LeO.bind ?_ (fun _ => ?_)
theorem sigillumlaw01_BitsHex.mono : ∀ a0 a1 k, LeO (sigillumlaw01_BitsHex.f k a0 a1) (sigillumlaw01_BitsHex.f (k + 1) a0 a1) := by
  intro a0 a1 k
  obtain ⟨ih0, ih1⟩ := sigillumlaw01_BitsHex.mono_l k
  unfold sigillumlaw01_BitsHex.f
  repeat' first
      | (with_reducible exact ih0 _ _ _ _ _ _)
      | (with_reducible exact ih1 _ _ _ _ _ _ _)
      | (with_reducible exact bits_Read.mono _ _)
      | (with_reducible exact sigillumlaw01_awake.mono _)
      | (with_reducible exact LeO.refl _)
      | (with_reducible exact LeO.none _)
      | (with_reducible refine LeO.ite ?_ ?_)
      | (with_reducible refine LeO.bind ?_ (fun _ => ?_))
      | exact ih0 _ _ _ _ _ _
      | exact ih1 _ _ _ _ _ _ _
      | exact bits_Read.mono _ _
      | exact sigillumlaw01_awake.mono _
      | exact LeO.none _
      | refine LeO.ite ?_ ?_
      | refine LeO.bind ?_ (fun _ => ?_)
set_option maxHeartbeats 8000000 in
set_option maxRecDepth 100000 in
theorem sigillumlaw01_BitsHex.calls (k : Nat) (a0 : Int) (a1 : ByteArray) (r : Bool) (w : World) (h : sigillumlaw01_BitsHex.f k a0 a1 = some r) :
    Calls Try.prog 5 #[.int .u64 a0, .string a1] w fun e w' => e = .returned (.bool r) ∧ Below w.heap.size w w' := by
  have HB := Aside0.mk (Below.refl w.heap.size w)
  have H : ((sigillumlaw01_awake.f k).bind fun t127 => (if t127 = true then ((bits_Hex.f a0).bind fun t128 => ((bits_Read.f k t128).bind fun bt129 => ((bits_Read.f k a1).bind fun bt131 => (if bt129.2 = true then (if bt129.1 = (Go.bits .and .u64 a0 281474976710655) then (sigillumlaw01_BitsHex.j0 k a0 a1 t128 bt131.1 bt131.2 ((t128.size : Int) != 12)) else (sigillumlaw01_BitsHex.j0 k a0 a1 t128 bt131.1 bt131.2 true)) else (sigillumlaw01_BitsHex.j0 k a0 a1 t128 bt131.1 bt131.2 true))))) else (some false))) = some r := h
  clear h
  replace H := Option.bind_eq_some_iff.mp H
  obtain ⟨t127, A30, H⟩ := H
  replace H : (if t127 = true then ((bits_Hex.f a0).bind fun t128 => ((bits_Read.f k t128).bind fun bt129 => ((bits_Read.f k a1).bind fun bt131 => (if bt129.2 = true then (if bt129.1 = (Go.bits .and .u64 a0 281474976710655) then (sigillumlaw01_BitsHex.j0 k a0 a1 t128 bt131.1 bt131.2 ((t128.size : Int) != 12)) else (sigillumlaw01_BitsHex.j0 k a0 a1 t128 bt131.1 bt131.2 true)) else (sigillumlaw01_BitsHex.j0 k a0 a1 t128 bt131.1 bt131.2 true))))) else (some false)) = some r := H
  have A3 := Aside0.mk A30
  clear A30
  by_cases c4 : t127 = true
  · subst c4
    have H1 : ((bits_Hex.f a0).bind fun t128 => ((bits_Read.f k t128).bind fun bt129 => ((bits_Read.f k a1).bind fun bt131 => (if bt129.2 = true then (if bt129.1 = (Go.bits .and .u64 a0 281474976710655) then (sigillumlaw01_BitsHex.j0 k a0 a1 t128 bt131.1 bt131.2 ((t128.size : Int) != 12)) else (sigillumlaw01_BitsHex.j0 k a0 a1 t128 bt131.1 bt131.2 true)) else (sigillumlaw01_BitsHex.j0 k a0 a1 t128 bt131.1 bt131.2 true))))) = some r := by rw [if_pos rfl] at H; exact H
    clear H
    have H := H1
    clear H1
    replace H := Option.bind_eq_some_iff.mp H
    obtain ⟨t128, A50, H⟩ := H
    replace H : ((bits_Read.f k t128).bind fun bt129 => ((bits_Read.f k a1).bind fun bt131 => (if bt129.2 = true then (if bt129.1 = (Go.bits .and .u64 a0 281474976710655) then (sigillumlaw01_BitsHex.j0 k a0 a1 t128 bt131.1 bt131.2 ((t128.size : Int) != 12)) else (sigillumlaw01_BitsHex.j0 k a0 a1 t128 bt131.1 bt131.2 true)) else (sigillumlaw01_BitsHex.j0 k a0 a1 t128 bt131.1 bt131.2 true)))) = some r := H
    have A5 := Aside0.mk A50
    clear A50
    replace H := Option.bind_eq_some_iff.mp H
    obtain ⟨⟨t129, t130⟩, A60, H⟩ := H
    replace H : ((bits_Read.f k a1).bind fun bt131 => (if t130 = true then (if t129 = (Go.bits .and .u64 a0 281474976710655) then (sigillumlaw01_BitsHex.j0 k a0 a1 t128 bt131.1 bt131.2 ((t128.size : Int) != 12)) else (sigillumlaw01_BitsHex.j0 k a0 a1 t128 bt131.1 bt131.2 true)) else (sigillumlaw01_BitsHex.j0 k a0 a1 t128 bt131.1 bt131.2 true))) = some r := H
    have A6 := Aside0.mk A60
    clear A60
    replace H := Option.bind_eq_some_iff.mp H
    obtain ⟨⟨t131, t132⟩, A70, H⟩ := H
    replace H : (if t130 = true then (if t129 = (Go.bits .and .u64 a0 281474976710655) then (sigillumlaw01_BitsHex.j0 k a0 a1 t128 t131 t132 ((t128.size : Int) != 12)) else (sigillumlaw01_BitsHex.j0 k a0 a1 t128 t131 t132 true)) else (sigillumlaw01_BitsHex.j0 k a0 a1 t128 t131 t132 true)) = some r := H
    have A7 := Aside0.mk A70
    clear A70
    have HC8 := Aside0.mk H
    clear H
    go_enter Try.func5, Try.ntmps5
    go_upto_region 6 with (first | ((with_reducible refine gate_callee (f := 9) rfl ?_); refine goesL_ (some 13) rfl rfl Try.func9 (by kernel_rfl) rfl #[] rfl (by (try simp only [List.map_toArray, List.map_cons, List.map_nil]); first | done | rfl | (simp only [List.length_drop, List.length_take]; rfl)) ?_; (with_reducible refine (sigillumlaw01_awake.calls k  true _ A3.out).mono ?_); rintro e w9 ⟨rfl, hb⟩; refine ⟨_, rfl, ?_⟩; have n0_ := Aside0.mk (below_step (by repeat (first | (with_reducible first | exact HB.out | apply below_alloc | apply pw_below_drewN | apply below_drew1) | exact HB.out)) hb); clear HB; have HB := n0_; clear n0_; (try clear hb); (try clear hb2); (try clear hk); (try clear hi)) | ((with_reducible refine gate_callee (f := 16) rfl ?_); refine goesL_ (some 16) rfl rfl Try.func16 (by kernel_rfl) rfl #[.int .u64 a0] rfl (by (try simp only [List.map_toArray, List.map_cons, List.map_nil]); first | done | rfl | (simp only [List.length_drop, List.length_take]; rfl)) ?_; (with_reducible refine (bits_Hex.calls a0 t128 _ A5.out).mono ?_); rintro e w10 ⟨rfl, hb⟩; refine ⟨_, rfl, ?_⟩; have n0_ := Aside0.mk (below_step (by repeat (first | (with_reducible first | exact HB.out | apply below_alloc | apply pw_below_drewN | apply below_drew1) | exact HB.out)) hb); clear HB; have HB := n0_; clear n0_; (try clear hb); (try clear hb2); (try clear hk); (try clear hi)) | ((with_reducible refine gate_callee (f := 17) rfl ?_); refine goesL_ (some 19) rfl rfl Try.func17 (by kernel_rfl) rfl #[.string t128] rfl (by (try simp only [List.map_toArray, List.map_cons, List.map_nil]); first | done | rfl | (simp only [List.length_drop, List.length_take]; rfl)) ?_; (with_reducible refine (bits_Read.calls k t128 t129 t130 _ A6.out).mono ?_); rintro e w' ⟨rfl, ⟨nd, rfl⟩⟩; refine ⟨_, rfl, ?_⟩) | ((with_reducible refine gate_callee (f := 17) rfl ?_); refine goesL_ (some 24) rfl rfl Try.func17 (by kernel_rfl) rfl #[.string a1] rfl (by (try simp only [List.map_toArray, List.map_cons, List.map_nil]); first | done | rfl | (simp only [List.length_drop, List.length_take]; rfl)) ?_; (with_reducible refine (bits_Read.calls k a1 t131 t132 _ A7.out).mono ?_); rintro e w' ⟨rfl, ⟨nd, rfl⟩⟩; refine ⟨_, rfl, ?_⟩))
    (try simp only [Act.put, List.setIfInBounds_toArray, List.set_cons_zero, List.set_cons_succ])
    go_cut [39] (fun v39 wc => ∃ (kq : Nat) (x39_7 : Bool), v39 = .bool x39_7 ∧ Aside0 (sigillumlaw01_BitsHex.j0 kq a0 a1 t128 t131 t132 x39_7 = some r) ∧ Aside0 (kq ≤ k) ∧ Aside0 (Below w.heap.size w wc))
    case first =>
      have H := HC8.out
      clear HC8
      by_cases c11 : t130 = true
      · subst c11
        have H1 : (if t129 = (Go.bits .and .u64 a0 281474976710655) then (sigillumlaw01_BitsHex.j0 k a0 a1 t128 t131 t132 ((t128.size : Int) != 12)) else (sigillumlaw01_BitsHex.j0 k a0 a1 t128 t131 t132 true)) = some r := by rw [if_pos rfl] at H; exact H
        clear H
        have H := H1
        clear H1
        by_cases c12 : t129 = (Go.bits .and .u64 a0 281474976710655)
        · rw [if_pos c12] at H
          have c12b0 : (t129 == (Go.bits .and .u64 a0 281474976710655)) = true := beq_iff_eq.mpr c12
          have c12b1 : (t129 != (Go.bits .and .u64 a0 281474976710655)) = false := bne_eq_false_iff_eq.mpr c12
          clear c12
          (first | rw [c12b0] | (simp only [i64_w, i32_w]; rw [c12b0]) | skip)
          have H' := Aside0.mk H
          clear H
          go_wp2
          go_meet
          case rel => exact ⟨_, (((t128.size : Int) != 12)), (by first | rfl | (simp; done) | (simp [*]; done)), H', ⟨by first | omega | exact Nat.le_refl _⟩, ⟨by repeat (first | (with_reducible first | exact HB.out | apply below_alloc | apply pw_below_drewN | apply below_drew1) | exact HB.out)⟩⟩
        · rw [if_neg c12] at H
          have c12b0 : (t129 == (Go.bits .and .u64 a0 281474976710655)) = false := beq_eq_false_iff_ne.mpr c12
          have c12b1 : (t129 != (Go.bits .and .u64 a0 281474976710655)) = true := bne_iff_ne.mpr c12
          (first | rw [c12b0] | (simp only [i64_w, i32_w]; rw [c12b0]) | skip)
          have H' := Aside0.mk H
          clear H
          go_wp2
          go_meet
          case rel => exact ⟨_, (true), (by first | rfl | (simp; done) | (simp [*]; done)), H', ⟨by first | omega | exact Nat.le_refl _⟩, ⟨by repeat (first | (with_reducible first | exact HB.out | apply below_alloc | apply pw_below_drewN | apply below_drew1) | exact HB.out)⟩⟩
      · replace c11 := Bool.eq_false_iff.mpr c11
        subst c11
        have H1 : (sigillumlaw01_BitsHex.j0 k a0 a1 t128 t131 t132 true) = some r := by rw [if_neg (show ¬ (false = true) by decide)] at H; exact H
        clear H
        have H := H1
        clear H1
        have H' := Aside0.mk H
        clear H
        go_wp2
        go_meet
        case rel => exact ⟨_, (true), (by first | rfl | (simp; done) | (simp [*]; done)), H', ⟨by first | omega | exact Nat.le_refl _⟩, ⟨by repeat (first | (with_reducible first | exact HB.out | apply below_alloc | apply pw_below_drewN | apply below_drew1) | exact HB.out)⟩⟩
    case rest =>
      clear HC8
      try clear c1
      try clear p2
      try clear c4
      try clear c5
      try clear c9
      try clear c11
      try clear c12
      try clear c12b0
      try clear c12b1
      obtain ⟨kq, x39_7, rfl, HA, HJ7, HB⟩ := hcut
      cases kq with
      | zero => exact absurd HA.out (by simp [sigillumlaw01_BitsHex.j0])
      | succ kj7 =>
        have H := HA.out
        clear HA
        simp only [sigillumlaw01_BitsHex.j0] at H
        by_cases c13 : x39_7 = true
        · subst c13
          have H1 : (some false) = some r := by rw [if_pos rfl] at H; exact H
          clear H
          have H := H1
          clear H1
          obtain rfl := Option.some.inj H
          go_wp2
          go_ret
          exact ⟨by first | rfl | (simp [errW_none, errW_some] <;> rfl) | (simp [*, errW_none, errW_some] <;> rfl), by repeat (first | (with_reducible first | exact HB.out | apply below_alloc | apply pw_below_drewN | apply below_drew1) | exact HB.out)⟩
        · replace c13 := Bool.eq_false_iff.mpr c13
          subst c13
          have H1 : (sigillumlaw01_BitsHex.l0 kj7 a0 a1 t128 t131 t132 0 0) = some r := by rw [if_neg (show ¬ (false = true) by decide)] at H; exact H
          clear H
          have H := H1
          clear H1
          have H' := Aside0.mk H
          clear H
          go_wp2
          go_loopg [10, 11] kj7 (fun kq v10 v11 w' => ∃ (x10_2 : Int) (x11_2 : Int), v10 = .int .u64 x10_2 ∧ v11 = .int .i64 x11_2 ∧ Aside0 (sigillumlaw01_BitsHex.l0 kq a0 a1 t128 t131 t132 x10_2 x11_2 = some r) ∧ Aside0 (kq ≤ kj7) ∧ Aside0 (Below w.heap.size w w'))
          case atStart => exact ⟨(0), (0), (by first | rfl | (simp; done) | (simp [*]; done)), (by first | rfl | (simp; done) | (simp [*]; done)), H', ⟨Nat.le_refl _⟩, ⟨by repeat (first | (with_reducible first | exact HB.out | apply below_alloc | apply pw_below_drewN | apply below_drew1) | exact HB.out)⟩⟩
          case round =>
            clear H'
            try clear c1
            try clear p2
            try clear c4
            try clear c5
            try clear c9
            try clear c11
            try clear c12
            try clear c12b0
            try clear c12b1
            try clear c13
            try clear p2
            obtain ⟨x10_2, x11_2, rfl, rfl, HA, HK2, HB⟩ := hrel
            cases gk with
            | zero => exact absurd HA.out (by simp [sigillumlaw01_BitsHex.l0])
            | succ k2 =>
              have H := HA.out
              clear HA
              simp only [sigillumlaw01_BitsHex.l0] at H
              by_cases c14 : x11_2 < 12
              · rw [if_pos c14] at H
                have c14b0 : decide (x11_2 < 12) = true := decide_eq_true c14
                clear c14
                by_cases c15 : 0 ≤ x11_2
                · rw [if_pos c15] at H
                  have c15b0 : decide (0 ≤ x11_2) = true := decide_eq_true c15
                  clear c15
                  by_cases c16 : x11_2 < (t128.size : Int)
                  · rw [if_pos c16] at H
                    have c16b0 : decide (x11_2 < (t128.size : Int)) = true := decide_eq_true c16
                    clear c16
                    by_cases c18 : (IntKind.u64.wrap (bt t128 x11_2)) ≥ 97
                    · rw [if_pos c18] at H
                      have c18b0 : decide (97 ≤ (IntKind.u64.wrap (bt t128 x11_2))) = true := decide_eq_true c18
                      clear c18
                      have H' := Aside0.mk H
                      clear H
                      have p17 : 0 ≤ (x11_2 : Int) := of_decide_eq_true (by first | (with_reducible assumption) | assumption)
                      have q17 : x11_2 < (t128.size : Int) := of_decide_eq_true (by first | (with_reducible assumption) | assumption)
                      have hx17 := bt_at t128 x11_2
                      replace p17 := eq_true p17
                      replace q17 := eq_true q17
                      go_wp2
                      go_roundg k2
                      case measure => have := HJ7.out; have := HK2.out; omega
                      case rel => exact ⟨(IntKind.u64.wrap ((IntKind.u64.wrap (x10_2 * 16)) + (IntKind.u64.wrap ((IntKind.u64.wrap ((IntKind.u64.wrap (bt t128 x11_2)) - 97)) + 10)))), (wrap64 (x11_2 + 1)), (by first | rfl | (simp; done) | (simp [*]; done)), (by first | rfl | (simp; done) | (simp [*]; done)), H', ⟨by have := HJ7.out; have := HK2.out; omega⟩, ⟨by repeat (first | (with_reducible first | exact HB.out | apply below_alloc | apply pw_below_drewN | apply below_drew1) | exact HB.out)⟩⟩
                    · rw [if_neg c18] at H
                      have c18b0 : decide (97 ≤ (IntKind.u64.wrap (bt t128 x11_2))) = false := decide_eq_false c18
                      clear c18
                      have H' := Aside0.mk H
                      clear H
                      have p17 : 0 ≤ (x11_2 : Int) := of_decide_eq_true (by first | (with_reducible assumption) | assumption)
                      have q17 : x11_2 < (t128.size : Int) := of_decide_eq_true (by first | (with_reducible assumption) | assumption)
                      have hx17 := bt_at t128 x11_2
                      replace p17 := eq_true p17
                      replace q17 := eq_true q17
                      go_wp2
                      go_roundg k2
                      case measure => have := HJ7.out; have := HK2.out; omega
                      case rel => exact ⟨(IntKind.u64.wrap ((IntKind.u64.wrap (x10_2 * 16)) + (IntKind.u64.wrap ((IntKind.u64.wrap (bt t128 x11_2)) - 48)))), (wrap64 (x11_2 + 1)), (by first | rfl | (simp; done) | (simp [*]; done)), (by first | rfl | (simp; done) | (simp [*]; done)), H', ⟨by have := HJ7.out; have := HK2.out; omega⟩, ⟨by repeat (first | (with_reducible first | exact HB.out | apply below_alloc | apply pw_below_drewN | apply below_drew1) | exact HB.out)⟩⟩
                  · rw [if_neg c16] at H
                    exact absurd H (by simp)
                · rw [if_neg c15] at H
                  exact absurd H (by simp)
              · rw [if_neg c14] at H
                have c14b0 : decide (x11_2 < 12) = false := decide_eq_false c14
                clear c14
                by_cases c19 : x10_2 = (Go.bits .and .u64 a0 281474976710655)
                · rw [if_pos c19] at H
                  have c19b0 : (x10_2 == (Go.bits .and .u64 a0 281474976710655)) = true := beq_iff_eq.mpr c19
                  have c19b1 : (x10_2 != (Go.bits .and .u64 a0 281474976710655)) = false := bne_eq_false_iff_eq.mpr c19
                  clear c19
                  by_cases c20 : t132 = true
                  · subst c20
                    have H1 : ((bits_Hex.f t131).bind fun t133 => (if t133.toList = a1.toList then (some true) else (some false))) = some r := by rw [if_pos rfl] at H; exact H
                    clear H
                    have H := H1
                    clear H1
                    replace H := Option.bind_eq_some_iff.mp H
                    obtain ⟨t133, A210, H⟩ := H
                    replace H : (if t133.toList = a1.toList then (some true) else (some false)) = some r := H
                    have A21 := Aside0.mk A210
                    clear A210
                    by_cases c22 : t133.toList = a1.toList
                    · rw [if_pos c22] at H
                      have c22b0 : (t133.toList == a1.toList) = true := beq_iff_eq.mpr c22
                      have c22b1 : (t133.toList != a1.toList) = false := bne_eq_false_iff_eq.mpr c22
                      clear c22
                      obtain rfl := Option.some.inj H
                      go_wp2_with (first | (go_at_call 16; (with_reducible refine (bits_Hex.calls t131 t133 _ A21.out).mono ?_); rintro e w23 ⟨rfl, hb⟩; have n0_ := Aside0.mk (below_step (by repeat (first | (with_reducible first | exact HB.out | apply below_alloc | apply pw_below_drewN | apply below_drew1) | exact HB.out)) hb); clear HB; have HB := n0_; clear n0_; (try clear hb); (try clear hb2); (try clear hk); (try clear hi)))
                      go_ret
                      exact ⟨by first | rfl | (simp [errW_none, errW_some] <;> rfl) | (simp [*, errW_none, errW_some] <;> rfl), by repeat (first | (with_reducible first | exact HB.out | apply below_alloc | apply pw_below_drewN | apply below_drew1) | exact HB.out)⟩
                    · rw [if_neg c22] at H
                      have c22b0 : (t133.toList == a1.toList) = false := beq_eq_false_iff_ne.mpr c22
                      have c22b1 : (t133.toList != a1.toList) = true := bne_iff_ne.mpr c22
                      obtain rfl := Option.some.inj H
                      go_wp2_with (first | (go_at_call 16; (with_reducible refine (bits_Hex.calls t131 t133 _ A21.out).mono ?_); rintro e w24 ⟨rfl, hb⟩; have n0_ := Aside0.mk (below_step (by repeat (first | (with_reducible first | exact HB.out | apply below_alloc | apply pw_below_drewN | apply below_drew1) | exact HB.out)) hb); clear HB; have HB := n0_; clear n0_; (try clear hb); (try clear hb2); (try clear hk); (try clear hi)))
                      go_ret
                      exact ⟨by first | rfl | (simp [errW_none, errW_some] <;> rfl) | (simp [*, errW_none, errW_some] <;> rfl), by repeat (first | (with_reducible first | exact HB.out | apply below_alloc | apply pw_below_drewN | apply below_drew1) | exact HB.out)⟩
                  · replace c20 := Bool.eq_false_iff.mpr c20
                    subst c20
                    have H1 : (some (t131 == 0)) = some r := by rw [if_neg (show ¬ (false = true) by decide)] at H; exact H
                    clear H
                    have H := H1
                    clear H1
                    obtain rfl := Option.some.inj H
                    go_wp2
                    go_ret
                    exact ⟨by first | rfl | (simp [errW_none, errW_some] <;> rfl) | (simp [*, errW_none, errW_some] <;> rfl), by repeat (first | (with_reducible first | exact HB.out | apply below_alloc | apply pw_below_drewN | apply below_drew1) | exact HB.out)⟩
                · rw [if_neg c19] at H
                  have c19b0 : (x10_2 == (Go.bits .and .u64 a0 281474976710655)) = false := beq_eq_false_iff_ne.mpr c19
                  have c19b1 : (x10_2 != (Go.bits .and .u64 a0 281474976710655)) = true := bne_iff_ne.mpr c19
                  obtain rfl := Option.some.inj H
                  go_wp2
                  go_ret
                  exact ⟨by first | rfl | (simp [errW_none, errW_some] <;> rfl) | (simp [*, errW_none, errW_some] <;> rfl), by repeat (first | (with_reducible first | exact HB.out | apply below_alloc | apply pw_below_drewN | apply below_drew1) | exact HB.out)⟩
  · replace c4 := Bool.eq_false_iff.mpr c4
    subst c4
    have H1 : (some false) = some r := by rw [if_neg (show ¬ (false = true) by decide)] at H; exact H
    clear H
    have H := H1
    clear H1
    obtain rfl := Option.some.inj H
    go_enter Try.func5, Try.ntmps5
    go_wp2_with (first | ((with_reducible refine gate_callee (f := 9) rfl ?_); refine goesL_ (some 13) rfl rfl Try.func9 (by kernel_rfl) rfl #[] rfl (by (try simp only [List.map_toArray, List.map_cons, List.map_nil]); first | done | rfl | (simp only [List.length_drop, List.length_take]; rfl)) ?_; (with_reducible refine (sigillumlaw01_awake.calls k  false _ A3.out).mono ?_); rintro e w25 ⟨rfl, hb⟩; refine ⟨_, rfl, ?_⟩; have n0_ := Aside0.mk (below_step (by repeat (first | (with_reducible first | exact HB.out | apply below_alloc | apply pw_below_drewN | apply below_drew1) | exact HB.out)) hb); clear HB; have HB := n0_; clear n0_; (try clear hb); (try clear hb2); (try clear hk); (try clear hi)))
    go_ret
    exact ⟨by first | rfl | (simp [errW_none, errW_some] <;> rfl) | (simp [*, errW_none, errW_some] <;> rfl), by repeat (first | (with_reducible first | exact HB.out | apply below_alloc | apply pw_below_drewN | apply below_drew1) | exact HB.out)⟩

/-- THE ONE PURE STATEMENT of sigillumlaw01_BitsHex: yours. -/
def sigillumlaw01_BitsHex.Pure : Prop := ∀ (a0 : Int) (a1 : ByteArray), (Lit.int .u64 a0).wf = true → a1.size ≤ 140737488351232 → ∃ k, sigillumlaw01_BitsHex.f k a0 a1 = some true
theorem sigillumlaw01_BitsHex.walk (P : sigillumlaw01_BitsHex.Pure) (a0 : Int) (a1 : ByteArray) (w : World) (w0 : (Lit.int .u64 a0).wf = true) (w1 : a1.size ≤ 140737488351232) :
    Calls Try.prog 5 #[.int .u64 a0, .string a1] w fun e w' => e = .returned (.bool true) ∧ Below w.heap.size w w' := by
  obtain ⟨k, h⟩ := P a0 a1 w0 w1
  refine (sigillumlaw01_BitsHex.calls k a0 a1 true w h).mono ?_
  rintro e w' ⟨rfl, hd⟩
  exact ⟨rfl, hd⟩

end Go.Proofs.Ytmhahelgfkodkaa.PA
