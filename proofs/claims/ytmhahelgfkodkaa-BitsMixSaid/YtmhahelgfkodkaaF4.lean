-- By a program of this session (after the form of the print; not a text of the print's own)
import Derived.Test.YtmhahelgfkodkaaF0
import Derived.Test.YtmhahelgfkodkaaF15
import Derived.Test.YtmhahelgfkodkaaF9
import Derived.Test.YtmhahelgfkodkaaF14
namespace Go.Proofs.Ytmhahelgfkodkaa.PA
open Go.RowKit Go.Proofs.YtmhahelgfkodkaaW.PrintWords Go.Proofs.YtmhahelgfkodkaaW.PrintLast Go.Proofs.YtmhahelgfkodkaaW.PrintMore
attribute [local go_sem] max2_int min2_int max_two min_two max_three min_three max_four min_four   -- for this text's walks alone
set_option linter.unusedVariables false
set_option linter.unusedSimpArgs false
/-! ### sigillumlaw01_BitsMix: function 4 -/
def sigillumlaw01_BitsMix.l0 : Nat → Int → Int → Int → Int → Option (Bool)
  | 0, _, _, _, _ => none
  | k + 1, x0, x1, x5, x6 => if x6 ≤ 3 then ((sigillumlaw01_turn.f k x5 (wrap64 (7 * x6))).bind fun t125 => (sigillumlaw01_BitsMix.l0 k x0 x1 (Go.bits .xor .u64 (Go.bits .and .u64 (IntKind.u64.wrap ((IntKind.u64.wrap (x5 * 173961102589771)) + t125)) 281474976710655) (IntKind.u64.wrap (Int.tdiv (Go.bits .and .u64 (IntKind.u64.wrap ((IntKind.u64.wrap (x5 * 173961102589771)) + t125)) 281474976710655) 8388608))) (wrap64 (x6 + 1)))) else ((bits_Mix.f k x0 x1).bind fun t126 => (some (t126 == x5)))
def sigillumlaw01_BitsMix.f (k : Nat) (a0 : Int) (a1 : Int) : Option (Bool) := (sigillumlaw01_awake.f k).bind fun t123 => (if t123 = true then ((sigillumlaw01_turn.f k a1 17).bind fun t124 => (sigillumlaw01_BitsMix.l0 k a0 a1 (Go.bits .xor .u64 (Go.bits .and .u64 a0 281474976710655) t124) 1)) else (some false))
theorem sigillumlaw01_BitsMix.mono_l : ∀ k, (∀ y0 y1 y2 y3, LeO (sigillumlaw01_BitsMix.l0 k y0 y1 y2 y3) (sigillumlaw01_BitsMix.l0 (k + 1) y0 y1 y2 y3))
  | 0 => fun _ _ _ _ r h => by simp [sigillumlaw01_BitsMix.l0] at h
  | k + 1 => by
    have ih0 := sigillumlaw01_BitsMix.mono_l k
    · intro y0 y1 y2 y3
      unfold sigillumlaw01_BitsMix.l0
      repeat' first
      | (with_reducible exact ih0 _ _ _ _)
      | (with_reducible exact bits_Mix.mono _ _ _)
      | (with_reducible exact sigillumlaw01_awake.mono _)
      | (with_reducible exact sigillumlaw01_turn.mono _ _ _)
      | (with_reducible exact LeO.refl _)
      | (with_reducible exact LeO.none _)
      | (with_reducible refine LeO.ite ?_ ?_)
      | (with_reducible refine LeO.bind ?_ (fun _ => ?_))
      | exact ih0 _ _ _ _
      | exact bits_Mix.mono _ _ _
      | exact sigillumlaw01_awake.mono _
      | exact sigillumlaw01_turn.mono _ _ _
      | exact LeO.none _
      | refine LeO.ite ?_ ?_
      | refine LeO.bind ?_ (fun _ => ?_)
theorem sigillumlaw01_BitsMix.mono : ∀ a0 a1 k, LeO (sigillumlaw01_BitsMix.f k a0 a1) (sigillumlaw01_BitsMix.f (k + 1) a0 a1) := by
  intro a0 a1 k
  have ih0 := sigillumlaw01_BitsMix.mono_l k
  unfold sigillumlaw01_BitsMix.f
  repeat' first
      | (with_reducible exact ih0 _ _ _ _)
      | (with_reducible exact bits_Mix.mono _ _ _)
      | (with_reducible exact sigillumlaw01_awake.mono _)
      | (with_reducible exact sigillumlaw01_turn.mono _ _ _)
      | (with_reducible exact LeO.refl _)
      | (with_reducible exact LeO.none _)
      | (with_reducible refine LeO.ite ?_ ?_)
      | (with_reducible refine LeO.bind ?_ (fun _ => ?_))
      | exact ih0 _ _ _ _
      | exact bits_Mix.mono _ _ _
      | exact sigillumlaw01_awake.mono _
      | exact sigillumlaw01_turn.mono _ _ _
      | exact LeO.none _
      | refine LeO.ite ?_ ?_
      | refine LeO.bind ?_ (fun _ => ?_)
set_option maxHeartbeats 8000000 in
set_option maxRecDepth 100000 in
theorem sigillumlaw01_BitsMix.calls (k : Nat) (a0 : Int) (a1 : Int) (r : Bool) (w : World) (h : sigillumlaw01_BitsMix.f k a0 a1 = some r) :
    Calls Try.prog 4 #[.int .u64 a0, .int .u64 a1] w fun e w' => e = .returned (.bool r) ∧ Below w.heap.size w w' := by
  have HB := Aside0.mk (Below.refl w.heap.size w)
  have H : ((sigillumlaw01_awake.f k).bind fun t123 => (if t123 = true then ((sigillumlaw01_turn.f k a1 17).bind fun t124 => (sigillumlaw01_BitsMix.l0 k a0 a1 (Go.bits .xor .u64 (Go.bits .and .u64 a0 281474976710655) t124) 1)) else (some false))) = some r := h
  clear h
  replace H := Option.bind_eq_some_iff.mp H
  obtain ⟨t123, A30, H⟩ := H
  replace H : (if t123 = true then ((sigillumlaw01_turn.f k a1 17).bind fun t124 => (sigillumlaw01_BitsMix.l0 k a0 a1 (Go.bits .xor .u64 (Go.bits .and .u64 a0 281474976710655) t124) 1)) else (some false)) = some r := H
  have A3 := Aside0.mk A30
  clear A30
  by_cases c4 : t123 = true
  · subst c4
    have H1 : ((sigillumlaw01_turn.f k a1 17).bind fun t124 => (sigillumlaw01_BitsMix.l0 k a0 a1 (Go.bits .xor .u64 (Go.bits .and .u64 a0 281474976710655) t124) 1)) = some r := by rw [if_pos rfl] at H; exact H
    clear H
    have H := H1
    clear H1
    replace H := Option.bind_eq_some_iff.mp H
    obtain ⟨t124, A50, H⟩ := H
    replace H : (sigillumlaw01_BitsMix.l0 k a0 a1 (Go.bits .xor .u64 (Go.bits .and .u64 a0 281474976710655) t124) 1) = some r := H
    have A5 := Aside0.mk A50
    clear A50
    have H' := Aside0.mk H
    clear H
    go_enter Try.func4, Try.ntmps4
    go_wp2_with (first | ((with_reducible refine gate_callee (f := 9) rfl ?_); refine goesL_ (some 7) rfl rfl Try.func9 (by kernel_rfl) rfl #[] rfl (by (try simp only [List.map_toArray, List.map_cons, List.map_nil]); first | done | rfl | (simp only [List.length_drop, List.length_take]; rfl)) ?_; (with_reducible refine (sigillumlaw01_awake.calls k  true _ A3.out).mono ?_); rintro e w6 ⟨rfl, hb⟩; refine ⟨_, rfl, ?_⟩; have n0_ := Aside0.mk (below_step (by repeat (first | (with_reducible first | exact HB.out | apply below_alloc | apply pw_below_drewN | apply below_drew1) | exact HB.out)) hb); clear HB; have HB := n0_; clear n0_; (try clear hb); (try clear hb2); (try clear hk); (try clear hi)) | ((with_reducible refine gate_callee (f := 14) rfl ?_); refine goesL_ (some 12) rfl rfl Try.func14 (by kernel_rfl) rfl #[.int .u64 a1, .int .i64 17] rfl (by (try simp only [List.map_toArray, List.map_cons, List.map_nil]); first | done | rfl | (simp only [List.length_drop, List.length_take]; rfl)) ?_; (with_reducible refine (sigillumlaw01_turn.calls k a1 17 t124 _ A5.out).mono ?_); rintro e w' ⟨rfl, ⟨nd, rfl⟩⟩; refine ⟨_, rfl, ?_⟩))
    go_loopg [5, 6] k (fun kq v5 v6 w' => ∃ (x5_1 : Int) (x6_1 : Int), v5 = .int .u64 x5_1 ∧ v6 = .int .i64 x6_1 ∧ Aside0 (sigillumlaw01_BitsMix.l0 kq a0 a1 x5_1 x6_1 = some r) ∧ Aside0 (kq ≤ k) ∧ Aside0 (Below w.heap.size w w'))
    case atStart => exact ⟨(Go.bits .xor .u64 (Go.bits .and .u64 a0 281474976710655) t124), (1), (by first | rfl | (simp; done) | (simp [*]; done)), (by first | rfl | (simp; done) | (simp [*]; done)), H', ⟨Nat.le_refl _⟩, ⟨by repeat (first | (with_reducible first | exact HB.out | apply below_alloc | apply pw_below_drewN | apply below_drew1) | exact HB.out)⟩⟩
    case round =>
      clear H'
      try clear c1
      try clear p2
      try clear c4
      obtain ⟨x5_1, x6_1, rfl, rfl, HA, HK1, HB⟩ := hrel
      cases gk with
      | zero => exact absurd HA.out (by simp [sigillumlaw01_BitsMix.l0])
      | succ k1 =>
        have H := HA.out
        clear HA
        simp only [sigillumlaw01_BitsMix.l0] at H
        by_cases c7 : x6_1 ≤ 3
        · rw [if_pos c7] at H
          have c7b0 : decide (x6_1 ≤ 3) = true := decide_eq_true c7
          clear c7
          replace H := Option.bind_eq_some_iff.mp H
          obtain ⟨t125, A80, H⟩ := H
          replace H : (sigillumlaw01_BitsMix.l0 k1 a0 a1 (Go.bits .xor .u64 (Go.bits .and .u64 (IntKind.u64.wrap ((IntKind.u64.wrap (x5_1 * 173961102589771)) + t125)) 281474976710655) (IntKind.u64.wrap (Int.tdiv (Go.bits .and .u64 (IntKind.u64.wrap ((IntKind.u64.wrap (x5_1 * 173961102589771)) + t125)) 281474976710655) 8388608))) (wrap64 (x6_1 + 1))) = some r := H
          have A8 := Aside0.mk A80
          clear A80
          have H' := Aside0.mk H
          clear H
          go_wp2_with (first | ((with_reducible refine gate_callee (f := 14) rfl ?_); refine goesL_ (some 23) rfl rfl Try.func14 (by kernel_rfl) rfl #[.int .u64 x5_1, .int .i64 (wrap64 (7 * x6_1))] rfl (by (try simp only [List.map_toArray, List.map_cons, List.map_nil]); first | done | rfl | (simp only [List.length_drop, List.length_take]; rfl)) ?_; (with_reducible refine (sigillumlaw01_turn.calls k1 x5_1 (wrap64 (7 * x6_1)) t125 _ A8.out).mono ?_); rintro e w' ⟨rfl, ⟨nd, rfl⟩⟩; refine ⟨_, rfl, ?_⟩))
          go_roundg k1
          case measure => have := HK1.out; omega
          case rel => exact ⟨(Go.bits .xor .u64 (Go.bits .and .u64 (IntKind.u64.wrap ((IntKind.u64.wrap (x5_1 * 173961102589771)) + t125)) 281474976710655) (IntKind.u64.wrap (Int.tdiv (Go.bits .and .u64 (IntKind.u64.wrap ((IntKind.u64.wrap (x5_1 * 173961102589771)) + t125)) 281474976710655) 8388608))), (wrap64 (x6_1 + 1)), (by first | rfl | (simp; done) | (simp [*]; done)), (by first | rfl | (simp; done) | (simp [*]; done)), H', ⟨by have := HK1.out; omega⟩, ⟨by repeat (first | (with_reducible first | exact HB.out | apply below_alloc | apply pw_below_drewN | apply below_drew1) | exact HB.out)⟩⟩
        · rw [if_neg c7] at H
          have c7b0 : decide (x6_1 ≤ 3) = false := decide_eq_false c7
          clear c7
          replace H := Option.bind_eq_some_iff.mp H
          obtain ⟨t126, A90, H⟩ := H
          replace H : (some (t126 == x5_1)) = some r := H
          have A9 := Aside0.mk A90
          clear A90
          obtain rfl := Option.some.inj H
          go_wp2_with (first | ((with_reducible refine gate_callee (f := 15) rfl ?_); refine goesL_ (some 32) rfl rfl Try.func15 (by kernel_rfl) rfl #[.int .u64 a0, .int .u64 a1] rfl (by (try simp only [List.map_toArray, List.map_cons, List.map_nil]); first | done | rfl | (simp only [List.length_drop, List.length_take]; rfl)) ?_; (with_reducible refine (bits_Mix.calls k1 a0 a1 t126 _ A9.out).mono ?_); rintro e w' ⟨rfl, ⟨nd, rfl⟩⟩; refine ⟨_, rfl, ?_⟩))
          go_ret
          exact ⟨by first | rfl | (simp [errW_none, errW_some] <;> rfl) | (simp [*, errW_none, errW_some] <;> rfl), by repeat (first | (with_reducible first | exact HB.out | apply below_alloc | apply pw_below_drewN | apply below_drew1) | exact HB.out)⟩
  · replace c4 := Bool.eq_false_iff.mpr c4
    subst c4
    have H1 : (some false) = some r := by rw [if_neg (show ¬ (false = true) by decide)] at H; exact H
    clear H
    have H := H1
    clear H1
    obtain rfl := Option.some.inj H
    go_enter Try.func4, Try.ntmps4
    go_wp2_with (first | ((with_reducible refine gate_callee (f := 9) rfl ?_); refine goesL_ (some 7) rfl rfl Try.func9 (by kernel_rfl) rfl #[] rfl (by (try simp only [List.map_toArray, List.map_cons, List.map_nil]); first | done | rfl | (simp only [List.length_drop, List.length_take]; rfl)) ?_; (with_reducible refine (sigillumlaw01_awake.calls k  false _ A3.out).mono ?_); rintro e w10 ⟨rfl, hb⟩; refine ⟨_, rfl, ?_⟩; have n0_ := Aside0.mk (below_step (by repeat (first | (with_reducible first | exact HB.out | apply below_alloc | apply pw_below_drewN | apply below_drew1) | exact HB.out)) hb); clear HB; have HB := n0_; clear n0_; (try clear hb); (try clear hb2); (try clear hk); (try clear hi)))
    go_ret
    exact ⟨by first | rfl | (simp [errW_none, errW_some] <;> rfl) | (simp [*, errW_none, errW_some] <;> rfl), by repeat (first | (with_reducible first | exact HB.out | apply below_alloc | apply pw_below_drewN | apply below_drew1) | exact HB.out)⟩

/-- THE ONE PURE STATEMENT of sigillumlaw01_BitsMix: yours. -/
def sigillumlaw01_BitsMix.Pure : Prop := ∀ (a0 : Int) (a1 : Int), (Lit.int .u64 a0).wf = true → (Lit.int .u64 a1).wf = true → ∃ k, sigillumlaw01_BitsMix.f k a0 a1 = some true
theorem sigillumlaw01_BitsMix.walk (P : sigillumlaw01_BitsMix.Pure) (a0 : Int) (a1 : Int) (w : World) (w0 : (Lit.int .u64 a0).wf = true) (w1 : (Lit.int .u64 a1).wf = true) :
    Calls Try.prog 4 #[.int .u64 a0, .int .u64 a1] w fun e w' => e = .returned (.bool true) ∧ Below w.heap.size w w' := by
  obtain ⟨k, h⟩ := P a0 a1 w0 w1
  refine (sigillumlaw01_BitsMix.calls k a0 a1 true w h).mono ?_
  rintro e w' ⟨rfl, hd⟩
  exact ⟨rfl, hd⟩

end Go.Proofs.Ytmhahelgfkodkaa.PA
