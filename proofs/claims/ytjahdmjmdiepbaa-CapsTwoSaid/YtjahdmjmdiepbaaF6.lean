-- By a program of this session (after the form of the print; not a text of the print's own)
import Derived.Test.YtjahdmjmdiepbaaF0
import Derived.Test.YtjahdmjmdiepbaaF8
import Derived.Test.YtjahdmjmdiepbaaF9
import Derived.Test.YtjahdmjmdiepbaaF12
import Derived.Test.YtjahdmjmdiepbaaF16
namespace Go.Proofs.Ytjahdmjmdiepbaa.PA
open Go.RowKit Go.Proofs.YtjahdmjmdiepbaaW.PrintWords Go.Proofs.YtjahdmjmdiepbaaW.PrintLast Go.Proofs.YtjahdmjmdiepbaaW.PrintMore
attribute [local go_sem] max2_int min2_int max_two min_two max_three min_three max_four min_four   -- for this text's walks alone
set_option linter.unusedVariables false
set_option linter.unusedSimpArgs false
attribute [local go_sem high] eqA25
/-! ### sigillumlaw03_CapsTwo: function 6 -/
def sigillumlaw03_CapsTwo.f (k : Nat) (a0_0 : Int) (a0_1 : Int) (a0_2 : Int) (a0_3 : Int) (a1_0 : Int) (a1_1 : Int) (a1_2 : Int) (a1_3 : Int) (a2 : Int) : Option (Bool) := (sigillumlaw03_awake.f k).bind fun t141 => (if t141 = true then ((sigillumlaw03_Make.f a0_0 a0_1 a0_2 a0_3).bind fun bt142 => ((sigillumlaw03_Make.f a1_0 a1_1 a1_2 a1_3).bind fun bt146 => ((caps_Encode.f k bt142.1 bt142.2.1 bt142.2.2.1 bt142.2.2.2).bind fun t152 => (if (t152.length : Int) = 16 then (if 0 ≤ (((Int.tdiv a2 8) % 256) % 16) then (if (((Int.tdiv a2 8) % 256) % 16) < (t152.length : Int) then (if 0 ≤ (Int.tmod a2 8) then ((caps_Decode.f k (t152.set ((((Int.tdiv a2 8) % 256) % 16) : Int).toNat (Go.bits .xor .u8 (rd t152 (((Int.tdiv a2 8) % 256) % 16)) (shl .u8 1 (Int.tmod a2 8))))).bind fun bt157 => (if bt157.2.2.2.2 = true then (if (!(bt157.1 == bt142.1) || (!(bt157.2.1 == bt142.2.1) || (!(bt157.2.2.1 == bt142.2.2.1) || (!(bt157.2.2.2.1 == bt142.2.2.2))))) = true then ((caps_Encode.f k bt142.1 bt142.2.1 bt142.2.2.1 bt142.2.2.2).bind fun t163 => ((caps_Encode.f k bt146.1 bt146.2.1 bt146.2.2.1 bt146.2.2.2).bind fun t166 => (some (((strOfNums t163).toList == (strOfNums t166).toList) == (bt142.1 == bt146.1 && (bt142.2.1 == bt146.2.1 && (bt142.2.2.1 == bt146.2.2.1 && (bt142.2.2.2 == bt146.2.2.2)))))))) else (some false)) else (some false))) else (none)) else (none)) else (none)) else (some false))))) else (some false))
theorem sigillumlaw03_CapsTwo.mono : ∀ a0 a1 a2 a3 a4 a5 a6 a7 a8 k, LeO (sigillumlaw03_CapsTwo.f k a0 a1 a2 a3 a4 a5 a6 a7 a8) (sigillumlaw03_CapsTwo.f (k + 1) a0 a1 a2 a3 a4 a5 a6 a7 a8) := by
  intro a0 a1 a2 a3 a4 a5 a6 a7 a8 k
  unfold sigillumlaw03_CapsTwo.f
  repeat' first
      | (with_reducible exact caps_Decode.mono _ _)
      | (with_reducible exact caps_Encode.mono _ _ _ _ _)
      | (with_reducible exact sigillumlaw03_awake.mono _)
      | (with_reducible exact LeO.refl _)
      | (with_reducible exact LeO.none _)
      | (with_reducible refine LeO.ite ?_ ?_)
      | (with_reducible refine LeO.bind ?_ (fun _ => ?_))
      | exact caps_Decode.mono _ _
      | exact caps_Encode.mono _ _ _ _ _
      | exact sigillumlaw03_awake.mono _
      | exact LeO.none _
      | refine LeO.ite ?_ ?_
      | refine LeO.bind ?_ (fun _ => ?_)
def sigillumlaw03_CapsTwo.T3 : Bool × List (List Nat × List Nat) := (true, [([], []), ([0], [0]), ([], []), ([2, 1], [2]), ([], []), ([], []), ([4, 1, 3, 0, 1, 4, 5], [1, 4]), ([5, 3, 6, 0, 1, 2, 3, 4, 5, 6], [3, 5])])
def sigillumlaw03_CapsTwo.B3 : List Nat := [0, 1, 0, 7, 0, 0, 63, 127]
theorem sigillumlaw03_CapsTwo.tab3 : rtab .any (opsOf Try.f6 3) = sigillumlaw03_CapsTwo.T3 := by kernel_rfl
theorem sigillumlaw03_CapsTwo.bits3 : waitsOk sigillumlaw03_CapsTwo.T3.2 sigillumlaw03_CapsTwo.B3 = true := by kernel_rfl
def sigillumlaw03_CapsTwo.T9 : Bool × List (List Nat × List Nat) := (true, [([], []), ([0], [0]), ([1], [1]), ([1], [1]), ([2, 3, 1], [1, 2, 3]), ([1, 4], [1, 4]), ([5, 1], [5]), ([6], [6]), ([7, 6, 6], [6, 7]), ([8, 6], [6, 8]), ([6], [6]), ([10, 8, 6], [6, 10]), ([11, 6], [6, 11]), ([9, 12, 6], [6, 9, 12]), ([6], [6]), ([6], [6]), ([14, 15, 6], [6, 14, 15]), ([13, 16, 6], [6, 13, 16]), ([6, 17], [6, 17]), ([18, 11, 0, 1, 2, 3, 4, 5, 6, 7, 8, 9, 10, 11, 12, 13, 14, 15, 16, 17, 18], [18])])
def sigillumlaw03_CapsTwo.B9 : List Nat := [0, 1, 3, 3, 15, 31, 63, 127, 255, 511, 127, 1535, 3583, 8191, 127, 127, 49279, 131071, 262143, 524287]
theorem sigillumlaw03_CapsTwo.tab9 : rtab .any (opsOf Try.f6 9) = sigillumlaw03_CapsTwo.T9 := by kernel_rfl
theorem sigillumlaw03_CapsTwo.bits9 : waitsOk sigillumlaw03_CapsTwo.T9.2 sigillumlaw03_CapsTwo.B9 = true := by kernel_rfl
set_option maxHeartbeats 8000000 in
set_option maxRecDepth 100000 in
theorem sigillumlaw03_CapsTwo.calls (k : Nat) (a0_0 : Int) (a0_1 : Int) (a0_2 : Int) (a0_3 : Int) (a1_0 : Int) (a1_1 : Int) (a1_2 : Int) (a1_3 : Int) (a2 : Int) (r : Bool) (w : World) (h : sigillumlaw03_CapsTwo.f k a0_0 a0_1 a0_2 a0_3 a1_0 a1_1 a1_2 a1_3 a2 = some r) (hr : r = true) :
    Calls Try.prog 6 #[.agg #[.int .u64 a0_0, .int .u32 a0_1, .int .u8 a0_2, .int .u64 a0_3], .agg #[.int .u64 a1_0, .int .u32 a1_1, .int .u8 a1_2, .int .u64 a1_3], .int .u8 a2] w fun e w' => e = .returned (.bool r) ∧ Below w.heap.size w w' := by
  have hu25 := Try.underlying25
  have HB := Aside0.mk (Below.refl w.heap.size w)
  have H : ((sigillumlaw03_awake.f k).bind fun t141 => (if t141 = true then ((sigillumlaw03_Make.f a0_0 a0_1 a0_2 a0_3).bind fun bt142 => ((sigillumlaw03_Make.f a1_0 a1_1 a1_2 a1_3).bind fun bt146 => ((caps_Encode.f k bt142.1 bt142.2.1 bt142.2.2.1 bt142.2.2.2).bind fun t152 => (if (t152.length : Int) = 16 then (if 0 ≤ (((Int.tdiv a2 8) % 256) % 16) then (if (((Int.tdiv a2 8) % 256) % 16) < (t152.length : Int) then (if 0 ≤ (Int.tmod a2 8) then ((caps_Decode.f k (t152.set ((((Int.tdiv a2 8) % 256) % 16) : Int).toNat (Go.bits .xor .u8 (rd t152 (((Int.tdiv a2 8) % 256) % 16)) (shl .u8 1 (Int.tmod a2 8))))).bind fun bt157 => (if bt157.2.2.2.2 = true then (if (!(bt157.1 == bt142.1) || (!(bt157.2.1 == bt142.2.1) || (!(bt157.2.2.1 == bt142.2.2.1) || (!(bt157.2.2.2.1 == bt142.2.2.2))))) = true then ((caps_Encode.f k bt142.1 bt142.2.1 bt142.2.2.1 bt142.2.2.2).bind fun t163 => ((caps_Encode.f k bt146.1 bt146.2.1 bt146.2.2.1 bt146.2.2.2).bind fun t166 => (some (((strOfNums t163).toList == (strOfNums t166).toList) == (bt142.1 == bt146.1 && (bt142.2.1 == bt146.2.1 && (bt142.2.2.1 == bt146.2.2.1 && (bt142.2.2.2 == bt146.2.2.2)))))))) else (some false)) else (some false))) else (none)) else (none)) else (none)) else (some false))))) else (some false))) = some r := h
  clear h
  replace H := Option.bind_eq_some_iff.mp H
  obtain ⟨t141, A40, H⟩ := H
  replace H : (if t141 = true then ((sigillumlaw03_Make.f a0_0 a0_1 a0_2 a0_3).bind fun bt142 => ((sigillumlaw03_Make.f a1_0 a1_1 a1_2 a1_3).bind fun bt146 => ((caps_Encode.f k bt142.1 bt142.2.1 bt142.2.2.1 bt142.2.2.2).bind fun t152 => (if (t152.length : Int) = 16 then (if 0 ≤ (((Int.tdiv a2 8) % 256) % 16) then (if (((Int.tdiv a2 8) % 256) % 16) < (t152.length : Int) then (if 0 ≤ (Int.tmod a2 8) then ((caps_Decode.f k (t152.set ((((Int.tdiv a2 8) % 256) % 16) : Int).toNat (Go.bits .xor .u8 (rd t152 (((Int.tdiv a2 8) % 256) % 16)) (shl .u8 1 (Int.tmod a2 8))))).bind fun bt157 => (if bt157.2.2.2.2 = true then (if (!(bt157.1 == bt142.1) || (!(bt157.2.1 == bt142.2.1) || (!(bt157.2.2.1 == bt142.2.2.1) || (!(bt157.2.2.2.1 == bt142.2.2.2))))) = true then ((caps_Encode.f k bt142.1 bt142.2.1 bt142.2.2.1 bt142.2.2.2).bind fun t163 => ((caps_Encode.f k bt146.1 bt146.2.1 bt146.2.2.1 bt146.2.2.2).bind fun t166 => (some (((strOfNums t163).toList == (strOfNums t166).toList) == (bt142.1 == bt146.1 && (bt142.2.1 == bt146.2.1 && (bt142.2.2.1 == bt146.2.2.1 && (bt142.2.2.2 == bt146.2.2.2)))))))) else (some false)) else (some false))) else (none)) else (none)) else (none)) else (some false))))) else (some false)) = some r := H
  have A4 := Aside0.mk A40
  clear A40
  by_cases c5 : t141 = true
  · subst c5
    have H1 : ((sigillumlaw03_Make.f a0_0 a0_1 a0_2 a0_3).bind fun bt142 => ((sigillumlaw03_Make.f a1_0 a1_1 a1_2 a1_3).bind fun bt146 => ((caps_Encode.f k bt142.1 bt142.2.1 bt142.2.2.1 bt142.2.2.2).bind fun t152 => (if (t152.length : Int) = 16 then (if 0 ≤ (((Int.tdiv a2 8) % 256) % 16) then (if (((Int.tdiv a2 8) % 256) % 16) < (t152.length : Int) then (if 0 ≤ (Int.tmod a2 8) then ((caps_Decode.f k (t152.set ((((Int.tdiv a2 8) % 256) % 16) : Int).toNat (Go.bits .xor .u8 (rd t152 (((Int.tdiv a2 8) % 256) % 16)) (shl .u8 1 (Int.tmod a2 8))))).bind fun bt157 => (if bt157.2.2.2.2 = true then (if (!(bt157.1 == bt142.1) || (!(bt157.2.1 == bt142.2.1) || (!(bt157.2.2.1 == bt142.2.2.1) || (!(bt157.2.2.2.1 == bt142.2.2.2))))) = true then ((caps_Encode.f k bt142.1 bt142.2.1 bt142.2.2.1 bt142.2.2.2).bind fun t163 => ((caps_Encode.f k bt146.1 bt146.2.1 bt146.2.2.1 bt146.2.2.2).bind fun t166 => (some (((strOfNums t163).toList == (strOfNums t166).toList) == (bt142.1 == bt146.1 && (bt142.2.1 == bt146.2.1 && (bt142.2.2.1 == bt146.2.2.1 && (bt142.2.2.2 == bt146.2.2.2)))))))) else (some false)) else (some false))) else (none)) else (none)) else (none)) else (some false))))) = some r := by rw [if_pos rfl] at H; exact H
    clear H
    have H := H1
    clear H1
    replace H := Option.bind_eq_some_iff.mp H
    obtain ⟨⟨t142, t143, t144, t145⟩, A60, H⟩ := H
    replace H : ((sigillumlaw03_Make.f a1_0 a1_1 a1_2 a1_3).bind fun bt146 => ((caps_Encode.f k t142 t143 t144 t145).bind fun t152 => (if (t152.length : Int) = 16 then (if 0 ≤ (((Int.tdiv a2 8) % 256) % 16) then (if (((Int.tdiv a2 8) % 256) % 16) < (t152.length : Int) then (if 0 ≤ (Int.tmod a2 8) then ((caps_Decode.f k (t152.set ((((Int.tdiv a2 8) % 256) % 16) : Int).toNat (Go.bits .xor .u8 (rd t152 (((Int.tdiv a2 8) % 256) % 16)) (shl .u8 1 (Int.tmod a2 8))))).bind fun bt157 => (if bt157.2.2.2.2 = true then (if (!(bt157.1 == t142) || (!(bt157.2.1 == t143) || (!(bt157.2.2.1 == t144) || (!(bt157.2.2.2.1 == t145))))) = true then ((caps_Encode.f k t142 t143 t144 t145).bind fun t163 => ((caps_Encode.f k bt146.1 bt146.2.1 bt146.2.2.1 bt146.2.2.2).bind fun t166 => (some (((strOfNums t163).toList == (strOfNums t166).toList) == (t142 == bt146.1 && (t143 == bt146.2.1 && (t144 == bt146.2.2.1 && (t145 == bt146.2.2.2)))))))) else (some false)) else (some false))) else (none)) else (none)) else (none)) else (some false)))) = some r := H
    have A6 := Aside0.mk A60
    clear A60
    replace H := Option.bind_eq_some_iff.mp H
    obtain ⟨⟨t146, t147, t148, t149⟩, A70, H⟩ := H
    replace H : ((caps_Encode.f k t142 t143 t144 t145).bind fun t152 => (if (t152.length : Int) = 16 then (if 0 ≤ (((Int.tdiv a2 8) % 256) % 16) then (if (((Int.tdiv a2 8) % 256) % 16) < (t152.length : Int) then (if 0 ≤ (Int.tmod a2 8) then ((caps_Decode.f k (t152.set ((((Int.tdiv a2 8) % 256) % 16) : Int).toNat (Go.bits .xor .u8 (rd t152 (((Int.tdiv a2 8) % 256) % 16)) (shl .u8 1 (Int.tmod a2 8))))).bind fun bt157 => (if bt157.2.2.2.2 = true then (if (!(bt157.1 == t142) || (!(bt157.2.1 == t143) || (!(bt157.2.2.1 == t144) || (!(bt157.2.2.2.1 == t145))))) = true then ((caps_Encode.f k t142 t143 t144 t145).bind fun t163 => ((caps_Encode.f k t146 t147 t148 t149).bind fun t166 => (some (((strOfNums t163).toList == (strOfNums t166).toList) == (t142 == t146 && (t143 == t147 && (t144 == t148 && (t145 == t149)))))))) else (some false)) else (some false))) else (none)) else (none)) else (none)) else (some false))) = some r := H
    have A7 := Aside0.mk A70
    clear A70
    replace H := Option.bind_eq_some_iff.mp H
    obtain ⟨t152, A80, H⟩ := H
    replace H : (if (t152.length : Int) = 16 then (if 0 ≤ (((Int.tdiv a2 8) % 256) % 16) then (if (((Int.tdiv a2 8) % 256) % 16) < (t152.length : Int) then (if 0 ≤ (Int.tmod a2 8) then ((caps_Decode.f k (t152.set ((((Int.tdiv a2 8) % 256) % 16) : Int).toNat (Go.bits .xor .u8 (rd t152 (((Int.tdiv a2 8) % 256) % 16)) (shl .u8 1 (Int.tmod a2 8))))).bind fun bt157 => (if bt157.2.2.2.2 = true then (if (!(bt157.1 == t142) || (!(bt157.2.1 == t143) || (!(bt157.2.2.1 == t144) || (!(bt157.2.2.2.1 == t145))))) = true then ((caps_Encode.f k t142 t143 t144 t145).bind fun t163 => ((caps_Encode.f k t146 t147 t148 t149).bind fun t166 => (some (((strOfNums t163).toList == (strOfNums t166).toList) == (t142 == t146 && (t143 == t147 && (t144 == t148 && (t145 == t149)))))))) else (some false)) else (some false))) else (none)) else (none)) else (none)) else (some false)) = some r := H
    have A8 := Aside0.mk A80
    clear A80
    by_cases c9 : (t152.length : Int) = 16
    · rw [if_pos c9] at H
      have c9b0 : ((t152.length : Int) == 16) = true := beq_iff_eq.mpr c9
      have c9b1 : ((t152.length : Int) != 16) = false := bne_eq_false_iff_eq.mpr c9
      clear c9
      obtain ⟨ji10, hji10⟩ : ∃ j_ : Int, (((Int.tdiv a2 8) % 256) % 16) = j_ := ⟨_, rfl⟩
      replace H : (if 0 ≤ (ji10) then (if (ji10) < (t152.length : Int) then (if 0 ≤ (Int.tmod a2 8) then ((caps_Decode.f k (t152.set ((ji10) : Int).toNat (Go.bits .xor .u8 (rd t152 (ji10)) (shl .u8 1 (Int.tmod a2 8))))).bind fun bt157 => (if bt157.2.2.2.2 = true then (if (!(bt157.1 == t142) || (!(bt157.2.1 == t143) || (!(bt157.2.2.1 == t144) || (!(bt157.2.2.2.1 == t145))))) = true then ((caps_Encode.f k t142 t143 t144 t145).bind fun t163 => ((caps_Encode.f k t146 t147 t148 t149).bind fun t166 => (some (((strOfNums t163).toList == (strOfNums t166).toList) == (t142 == t146 && (t143 == t147 && (t144 == t148 && (t145 == t149)))))))) else (some false)) else (some false))) else (none)) else (none)) else (none)) = some r := by first | (rw [hji10] at H; exact H) | (simp only [hji10] at H ⊢; exact H)
      (try rw [hji10] at A4)
      (try rw [hji10] at A6)
      (try rw [hji10] at A7)
      (try rw [hji10] at A8)
      by_cases c11 : 0 ≤ (ji10)
      · rw [if_pos c11] at H
        have c11b0 : decide (0 ≤ (ji10)) = true := decide_eq_true c11
        clear c11
        by_cases c12 : (ji10) < (t152.length : Int)
        · rw [if_pos c12] at H
          have c12b0 : decide ((ji10) < (t152.length : Int)) = true := decide_eq_true c12
          clear c12
          obtain ⟨ji13, hji13⟩ : ∃ j_ : Int, (Int.tmod a2 8) = j_ := ⟨_, rfl⟩
          replace H : (if 0 ≤ (ji13) then ((caps_Decode.f k (t152.set ((ji10) : Int).toNat (Go.bits .xor .u8 (rd t152 (ji10)) (shl .u8 1 (ji13))))).bind fun bt157 => (if bt157.2.2.2.2 = true then (if (!(bt157.1 == t142) || (!(bt157.2.1 == t143) || (!(bt157.2.2.1 == t144) || (!(bt157.2.2.2.1 == t145))))) = true then ((caps_Encode.f k t142 t143 t144 t145).bind fun t163 => ((caps_Encode.f k t146 t147 t148 t149).bind fun t166 => (some (((strOfNums t163).toList == (strOfNums t166).toList) == (t142 == t146 && (t143 == t147 && (t144 == t148 && (t145 == t149)))))))) else (some false)) else (some false))) else (none)) = some r := by first | (rw [hji13] at H; exact H) | (simp only [hji13] at H ⊢; exact H)
          (try rw [hji13] at A4)
          (try rw [hji13] at A6)
          (try rw [hji13] at A7)
          (try rw [hji13] at A8)
          by_cases c14 : 0 ≤ (ji13)
          · rw [if_pos c14] at H
            have c14b0 := eq_true c14
            have c14b1 : decide (0 ≤ (ji13)) = true := decide_eq_true c14
            clear c14
            obtain ⟨ji15, hji15⟩ : ∃ j_ : Int, (shl .u8 1 (ji13)) = j_ := ⟨_, rfl⟩
            replace H : ((caps_Decode.f k (t152.set ((ji10) : Int).toNat (Go.bits .xor .u8 (rd t152 (ji10)) (ji15)))).bind fun bt157 => (if bt157.2.2.2.2 = true then (if (!(bt157.1 == t142) || (!(bt157.2.1 == t143) || (!(bt157.2.2.1 == t144) || (!(bt157.2.2.2.1 == t145))))) = true then ((caps_Encode.f k t142 t143 t144 t145).bind fun t163 => ((caps_Encode.f k t146 t147 t148 t149).bind fun t166 => (some (((strOfNums t163).toList == (strOfNums t166).toList) == (t142 == t146 && (t143 == t147 && (t144 == t148 && (t145 == t149)))))))) else (some false)) else (some false))) = some r := by first | (rw [hji15] at H; exact H) | (simp only [hji15] at H ⊢; exact H)
            (try rw [hji15] at A4)
            (try rw [hji15] at A6)
            (try rw [hji15] at A7)
            (try rw [hji15] at A8)
            have hji15_ : (IntKind.u8.wrap (1 * 2 ^ min (ji13).toNat 8)) = ji15 := hji15
            have hji15z : (ji13) ≤ 8 → (IntKind.u8.wrap (1 * 2 ^ (ji13).toNat)) = ji15 := shl_small hji15
            have hji15u : (IntKind.u8.wrap (2 ^ min (ji13).toNat 8)) = ji15 := by have h_ := hji15_; rw [Int.one_mul] at h_; exact h_
            have hji15v : (ji13) ≤ 8 → (IntKind.u8.wrap (2 ^ (ji13).toNat)) = ji15 := fun hle_ => by have h_ := hji15z hle_; rw [Int.one_mul] at h_; exact h_
            obtain ⟨y156, hy156⟩ : ∃ y_ : List Int, y_ = (t152.set ((ji10) : Int).toNat (Go.bits .xor .u8 (rd t152 (ji10)) (ji15))) := ⟨_, rfl⟩
            replace H : ((caps_Decode.f k y156).bind fun bt157 => (if bt157.2.2.2.2 = true then (if (!(bt157.1 == t142) || (!(bt157.2.1 == t143) || (!(bt157.2.2.1 == t144) || (!(bt157.2.2.2.1 == t145))))) = true then ((caps_Encode.f k t142 t143 t144 t145).bind fun t163 => ((caps_Encode.f k t146 t147 t148 t149).bind fun t166 => (some (((strOfNums t163).toList == (strOfNums t166).toList) == (t142 == t146 && (t143 == t147 && (t144 == t148 && (t145 == t149)))))))) else (some false)) else (some false))) = some r := by first | (rw [hy156]; with_reducible exact H) | (have H2_ := (Option.bind_some _ _).symm.trans H; rw [hy156]; with_reducible exact H2_) | (have H2_ := (Option.bind_some _ _).symm.trans H; with_reducible exact H2_) | with_reducible exact H | (rw [hy156]; exact H) | exact H
            have Ny156 := Aside0.mk hy156
            clear hy156
            replace H := Option.bind_eq_some_iff.mp H
            obtain ⟨⟨t157, t158, t159, t160, t161⟩, A170, H⟩ := H
            replace H : (if t161 = true then (if (!(t157 == t142) || (!(t158 == t143) || (!(t159 == t144) || (!(t160 == t145))))) = true then ((caps_Encode.f k t142 t143 t144 t145).bind fun t163 => ((caps_Encode.f k t146 t147 t148 t149).bind fun t166 => (some (((strOfNums t163).toList == (strOfNums t166).toList) == (t142 == t146 && (t143 == t147 && (t144 == t148 && (t145 == t149)))))))) else (some false)) else (some false)) = some r := H
            have A17 := Aside0.mk A170
            clear A170
            by_cases c18 : t161 = true
            · subst c18
              have H1 : (if (!(t157 == t142) || (!(t158 == t143) || (!(t159 == t144) || (!(t160 == t145))))) = true then ((caps_Encode.f k t142 t143 t144 t145).bind fun t163 => ((caps_Encode.f k t146 t147 t148 t149).bind fun t166 => (some (((strOfNums t163).toList == (strOfNums t166).toList) == (t142 == t146 && (t143 == t147 && (t144 == t148 && (t145 == t149)))))))) else (some false)) = some r := by rw [if_pos rfl] at H; exact H
              clear H
              have H := H1
              clear H1
              by_cases c19 : (!(t157 == t142) || (!(t158 == t143) || (!(t159 == t144) || (!(t160 == t145))))) = true
              · rw [if_pos c19] at H
                have c19b0 : (!(t157 == t142) || (!(t158 == t143) || (!(t159 == t144) || (!(t160 == t145))))) = true := c19
                clear c19
                replace H := Option.bind_eq_some_iff.mp H
                obtain ⟨t163, A200, H⟩ := H
                replace H : ((caps_Encode.f k t146 t147 t148 t149).bind fun t166 => (some (((strOfNums t163).toList == (strOfNums t166).toList) == (t142 == t146 && (t143 == t147 && (t144 == t148 && (t145 == t149))))))) = some r := H
                have A20 := Aside0.mk A200
                clear A200
                replace H := Option.bind_eq_some_iff.mp H
                obtain ⟨t166, A210, H⟩ := H
                replace H : (some (((strOfNums t163).toList == (strOfNums t166).toList) == (t142 == t146 && (t143 == t147 && (t144 == t148 && (t145 == t149)))))) = some r := H
                have A21 := Aside0.mk A210
                clear A210
                obtain rfl := Option.some.inj H
                go_enter Try.func6, Try.ntmps6
                try go_wp2_with (first | ((with_reducible refine gate_dst (N := 3) rfl ?_); refine box_event ?hg (N := 3) ?hd (cs := #[.int .u64 a0_0, .int .u32 a0_1, .int .u8 a0_2, .int .u64 a0_3]) (t := 25) ?hr ?_; (case hd => rfl); (case hg => rfl); (case hr => first | (go_simp; done) | (go_simp; rfl)); intro gb139 hg w22 hbox hb; have n0_ := Aside0.mk (below_step (by repeat (first | (with_reducible first | exact HB.out | apply below_alloc | apply pw_below_drewN | apply below_drew1) | exact HB.out)) hb); have n1_ := Aside0.mk (hbox); have n2_ := Aside0.mk ((by rw [hg]; exact (below_size (by repeat (first | (with_reducible first | exact HB.out | apply below_alloc | apply pw_below_drewN | apply below_drew1) | exact HB.out))) : w.heap.size ≤ gb139)); have n3_ := Aside0.mk ((by rw [hg]; exact (below_size (by repeat (first | (with_reducible first | exact HB.out | apply below_alloc | apply pw_below_drewN | apply below_drew1) | exact HB.out))) : w.heap.size ≤ gb139)); clear HB; have HB := n0_; have BK139 := n1_; have GW139 := n2_; have GE139 := n3_; clear n0_ n1_ n2_ n3_; clear hb hbox hg) | ((with_reducible refine gate_dst (N := 4) rfl ?_); refine box_event ?hg (N := 4) ?hd (cs := #[.int .u64 a1_0, .int .u32 a1_1, .int .u8 a1_2, .int .u64 a1_3]) (t := 25) ?hr ?_; (case hd => rfl); (case hg => rfl); (case hr => first | (go_simp; done) | (go_simp; rfl)); intro gb140 hg w23 hbox hb; have n0_ := Aside0.mk (blk_below (g := gb139) (o := .cells #[.int .u64 a0_0, .int .u32 a0_1, .int .u8 a0_2, .int .u64 a0_3] 25 (0, 0)) (by (with_reducible repeat (first | refine blk_drewN ?_ _ | refine blk_drew ?_ | refine blk_alloc ?_ _)); exact BK139.out) hb); have n1_ := Aside0.mk (below_step (by repeat (first | (with_reducible first | exact HB.out | apply below_alloc | apply pw_below_drewN | apply below_drew1 | refine below_set ?_ GE139.out) | exact HB.out)) hb); have n2_ := Aside0.mk (hbox); have n3_ := Aside0.mk ((by rw [hg]; exact (below_size (by repeat (first | (with_reducible first | exact HB.out | apply below_alloc | apply pw_below_drewN | apply below_drew1 | refine below_set ?_ GE139.out) | exact HB.out))) : w.heap.size ≤ gb140)); have n4_ := Aside0.mk ((by rw [hg]; exact (below_size (by repeat (first | (with_reducible first | exact HB.out | apply below_alloc | apply pw_below_drewN | apply below_drew1 | refine below_set ?_ GE139.out) | exact HB.out))) : w.heap.size ≤ gb140)); have n5_ := Aside0.mk ((by rw [hg]; exact Nat.ne_of_lt (blk_lt (g := gb139) (o := .cells #[.int .u64 a0_0, .int .u32 a0_1, .int .u8 a0_2, .int .u64 a0_3] 25 (0, 0)) (by (with_reducible repeat (first | refine blk_drewN ?_ _ | refine blk_drew ?_ | refine blk_alloc ?_ _)); exact BK139.out)) : gb139 ≠ gb140)); have n6_ := Aside0.mk ((by rw [hg]; exact Nat.ne_of_gt (blk_lt (g := gb139) (o := .cells #[.int .u64 a0_0, .int .u32 a0_1, .int .u8 a0_2, .int .u64 a0_3] 25 (0, 0)) (by (with_reducible repeat (first | refine blk_drewN ?_ _ | refine blk_drew ?_ | refine blk_alloc ?_ _)); exact BK139.out)) : gb140 ≠ gb139)); clear BK139; clear HB; have BK139 := n0_; have HB := n1_; have BK140 := n2_; have GW140 := n3_; have GE140 := n4_; have NB139_140 := n5_; have NB140_139 := n6_; clear n0_ n1_ n2_ n3_ n4_ n5_ n6_; clear hb hbox hg) | ((with_reducible refine gate_callee (f := 8) rfl ?_); refine goesL_ (some 12) rfl rfl Try.func8 (by kernel_rfl) rfl #[] rfl (by (try simp only [List.map_toArray, List.map_cons, List.map_nil]); first | done | rfl | (simp only [List.length_drop, List.length_take]; rfl)) ?_; (with_reducible refine (sigillumlaw03_awake.calls k  true _ A4.out).mono ?_); rintro e w24 ⟨rfl, hb⟩; refine ⟨_, rfl, ?_⟩; have n0_ := Aside0.mk (blk_below (g := gb139) (o := .cells #[.int .u64 a0_0, .int .u32 a0_1, .int .u8 a0_2, .int .u64 a0_3] 25 (0, 0)) (by (with_reducible repeat (first | refine blk_drewN ?_ _ | refine blk_drew ?_ | refine blk_alloc ?_ _)); exact BK139.out) hb); have n1_ := Aside0.mk (blk_below (g := gb140) (o := .cells #[.int .u64 a1_0, .int .u32 a1_1, .int .u8 a1_2, .int .u64 a1_3] 25 (0, 0)) (by (with_reducible repeat (first | refine blk_drewN ?_ _ | refine blk_drew ?_ | refine blk_alloc ?_ _)); exact BK140.out) hb); have n2_ := Aside0.mk (below_step (by repeat (first | (with_reducible first | exact HB.out | apply below_alloc | apply pw_below_drewN | apply below_drew1 | refine below_set ?_ GE139.out | refine below_set ?_ GE140.out) | exact HB.out)) hb); clear BK139; clear BK140; clear HB; have BK139 := n0_; have BK140 := n1_; have HB := n2_; clear n0_ n1_ n2_; (try clear hb); (try clear hb2); (try clear hk); (try clear hi)))
                have n0_ := Aside0.mk (blk_drew BK139.out)
                have n1_ := Aside0.mk (blk_drew BK140.out)
                have n2_ := Aside0.mk (below_drew1 HB.out)
                clear BK139
                clear BK140
                clear HB
                have BK139 := n0_
                have BK140 := n1_
                have HB := n2_
                clear n0_ n1_ n2_
                refine start_ (n := 8) (S := fun w' => w'.cell? ⟨gb139, 0, none⟩ = some (.int .u64 a0_0) ∧ w'.cell? ⟨gb139, 1, none⟩ = some (.int .u32 a0_1) ∧ w'.cell? ⟨gb139, 2, none⟩ = some (.int .u8 a0_2) ∧ w'.cell? ⟨gb139, 3, none⟩ = some (.int .u64 a0_3) ∧ w'.cell? ⟨gb140, 0, none⟩ = some (.int .u64 a1_0) ∧ w'.cell? ⟨gb140, 1, none⟩ = some (.int .u32 a1_1) ∧ w'.cell? ⟨gb140, 2, none⟩ = some (.int .u8 a1_2) ∧ w'.cell? ⟨gb140, 3, none⟩ = some (.int .u64 a1_3)) (ds := []) #[false, false, false, false, false, false, false, false] (by kernel_rfl) rfl rfl ⟨(blk_cell BK139.out 0).trans rfl, (blk_cell BK139.out 1).trans rfl, (blk_cell BK139.out 2).trans rfl, (blk_cell BK139.out 3).trans rfl, (blk_cell BK140.out 0).trans rfl, (blk_cell BK140.out 1).trans rfl, (blk_cell BK140.out 2).trans rfl, (blk_cell BK140.out 3).trans rfl⟩ (fun hHeld => ?_); refine with_tabW sigillumlaw03_CapsTwo.tab3 sigillumlaw03_CapsTwo.bits3 (fun HT_ HW_ => ?_)
                generalize w24.drew = w25 at BK139 BK140 HB hHeld ⊢
                refine take_ (i := 0) (N := some 14) (v := ?_) (a' := ?_) #[true, false, false, false, false, false, false, false] rfl rfl (take_ofW HT_.out HW_.out (by kernel_rfl)) (fun _ _ _ h => h) (Or.inl ⟨by rfl, ?_⟩) hHeld ?_ ?_
                rotate_left
                · rintro w' ⟨s0, s1, s2, s3, s4, s5, s6, s7⟩
                  go_simp
                  with_reducible rfl
                rotate_left
                · simp only [Act.put, List.setIfInBounds_toArray, List.set_cons_zero, List.set_cons_succ, i64_w, i32_w]
                  rfl
                refine take_ (i := 2) (N := some 16) (v := ?_) (a' := ?_) #[true, false, true, false, false, false, false, false] rfl rfl (take_ofW HT_.out HW_.out (by kernel_rfl)) (fun _ _ _ h => h) (Or.inl ⟨by rfl, ?_⟩) hHeld ?_ ?_
                rotate_left
                · rintro w' ⟨s0, s1, s2, s3, s4, s5, s6, s7⟩
                  go_simp
                  with_reducible rfl
                rotate_left
                · simp only [Act.put, List.setIfInBounds_toArray, List.set_cons_zero, List.set_cons_succ, i64_w, i32_w]
                  rfl
                refine join_ (σ := Nat × Nat) 2 #[true, true, true, true, true, true, false, false] (fun s_ => [(15, .agg #[.int .u64 t142, .int .u32 t143, .int .u8 t144, .int .u64 t145]), (17, .agg #[.int .u64 t146, .int .u32 t147, .int .u8 t148, .int .u64 t149]), (7, .pointer (some ⟨s_.1, 0, none⟩)), (8, .pointer (some ⟨s_.2, 0, none⟩))]) (fun s_ w' => (w'.cell? ⟨gb139, 0, none⟩ = some (.int .u64 a0_0) ∧ w'.cell? ⟨gb139, 1, none⟩ = some (.int .u32 a0_1) ∧ w'.cell? ⟨gb139, 2, none⟩ = some (.int .u8 a0_2) ∧ w'.cell? ⟨gb139, 3, none⟩ = some (.int .u64 a0_3) ∧ w'.cell? ⟨gb140, 0, none⟩ = some (.int .u64 a1_0) ∧ w'.cell? ⟨gb140, 1, none⟩ = some (.int .u32 a1_1) ∧ w'.cell? ⟨gb140, 2, none⟩ = some (.int .u8 a1_2) ∧ w'.cell? ⟨gb140, 3, none⟩ = some (.int .u64 a1_3)) ∧ (w'.heap[gb139]? = some (.cells #[.int .u64 a0_0, .int .u32 a0_1, .int .u8 a0_2, .int .u64 a0_3] 25 (0, 0))) ∧ (w'.heap[gb140]? = some (.cells #[.int .u64 a1_0, .int .u32 a1_1, .int .u8 a1_2, .int .u64 a1_3] 25 (0, 0))) ∧ (w'.heap[s_.1]? = some (.cells #[.int .u64 0, .int .u32 0, .int .u8 0, .int .u64 0] 25 (0, 0))) ∧ (w'.heap[s_.2]? = some (.cells #[.int .u64 0, .int .u32 0, .int .u8 0, .int .u64 0] 25 (0, 0))) ∧ (w.heap.size ≤ s_.1) ∧ (w.heap.size ≤ s_.1) ∧ (gb139 ≠ s_.1) ∧ (s_.1 ≠ gb139) ∧ (gb140 ≠ s_.1) ∧ (s_.1 ≠ gb140) ∧ (s_.2 ≠ s_.1) ∧ (s_.1 ≠ s_.2) ∧ (w.heap.size ≤ s_.2) ∧ (w.heap.size ≤ s_.2) ∧ (gb139 ≠ s_.2) ∧ (s_.2 ≠ gb139) ∧ (gb140 ≠ s_.2) ∧ (s_.2 ≠ gb140) ∧ (Below w.heap.size w w')) ?_ ?_
                rotate_left
                · intro hJ1_3_4_5
                  refine join_ (σ := Nat) 3 #[true, true, true, true, true, false, false, false] (fun s_ => [(15, .agg #[.int .u64 t142, .int .u32 t143, .int .u8 t144, .int .u64 t145]), (17, .agg #[.int .u64 t146, .int .u32 t147, .int .u8 t148, .int .u64 t149]), (7, .pointer (some ⟨s_, 0, none⟩))]) (fun s_ w' => (w'.cell? ⟨gb139, 0, none⟩ = some (.int .u64 a0_0) ∧ w'.cell? ⟨gb139, 1, none⟩ = some (.int .u32 a0_1) ∧ w'.cell? ⟨gb139, 2, none⟩ = some (.int .u8 a0_2) ∧ w'.cell? ⟨gb139, 3, none⟩ = some (.int .u64 a0_3) ∧ w'.cell? ⟨gb140, 0, none⟩ = some (.int .u64 a1_0) ∧ w'.cell? ⟨gb140, 1, none⟩ = some (.int .u32 a1_1) ∧ w'.cell? ⟨gb140, 2, none⟩ = some (.int .u8 a1_2) ∧ w'.cell? ⟨gb140, 3, none⟩ = some (.int .u64 a1_3)) ∧ (w'.heap[gb139]? = some (.cells #[.int .u64 a0_0, .int .u32 a0_1, .int .u8 a0_2, .int .u64 a0_3] 25 (0, 0))) ∧ (w'.heap[gb140]? = some (.cells #[.int .u64 a1_0, .int .u32 a1_1, .int .u8 a1_2, .int .u64 a1_3] 25 (0, 0))) ∧ (w'.heap[s_]? = some (.cells #[.int .u64 0, .int .u32 0, .int .u8 0, .int .u64 0] 25 (0, 0))) ∧ (w.heap.size ≤ s_) ∧ (w.heap.size ≤ s_) ∧ (gb139 ≠ s_) ∧ (s_ ≠ gb139) ∧ (gb140 ≠ s_) ∧ (s_ ≠ gb140) ∧ (Below w.heap.size w w')) ?_ ?_
                  rotate_left
                  · intro hJ1_3_4
                    refine join_ (σ := Nat) 3 #[true, true, true, true, false, true, false, false] (fun s_ => [(15, .agg #[.int .u64 t142, .int .u32 t143, .int .u8 t144, .int .u64 t145]), (17, .agg #[.int .u64 t146, .int .u32 t147, .int .u8 t148, .int .u64 t149]), (8, .pointer (some ⟨s_, 0, none⟩))]) (fun s_ w' => (w'.cell? ⟨gb139, 0, none⟩ = some (.int .u64 a0_0) ∧ w'.cell? ⟨gb139, 1, none⟩ = some (.int .u32 a0_1) ∧ w'.cell? ⟨gb139, 2, none⟩ = some (.int .u8 a0_2) ∧ w'.cell? ⟨gb139, 3, none⟩ = some (.int .u64 a0_3) ∧ w'.cell? ⟨gb140, 0, none⟩ = some (.int .u64 a1_0) ∧ w'.cell? ⟨gb140, 1, none⟩ = some (.int .u32 a1_1) ∧ w'.cell? ⟨gb140, 2, none⟩ = some (.int .u8 a1_2) ∧ w'.cell? ⟨gb140, 3, none⟩ = some (.int .u64 a1_3)) ∧ (w'.heap[gb139]? = some (.cells #[.int .u64 a0_0, .int .u32 a0_1, .int .u8 a0_2, .int .u64 a0_3] 25 (0, 0))) ∧ (w'.heap[gb140]? = some (.cells #[.int .u64 a1_0, .int .u32 a1_1, .int .u8 a1_2, .int .u64 a1_3] 25 (0, 0))) ∧ (w'.heap[s_]? = some (.cells #[.int .u64 0, .int .u32 0, .int .u8 0, .int .u64 0] 25 (0, 0))) ∧ (w.heap.size ≤ s_) ∧ (w.heap.size ≤ s_) ∧ (gb139 ≠ s_) ∧ (s_ ≠ gb139) ∧ (gb140 ≠ s_) ∧ (s_ ≠ gb140) ∧ (Below w.heap.size w w')) ?_ ?_
                    rotate_left
                    · intro hJ1_3_5
                      refine join_ (σ := Nat × Nat) 3 #[true, true, true, false, true, true, false, false] (fun s_ => [(15, .agg #[.int .u64 t142, .int .u32 t143, .int .u8 t144, .int .u64 t145]), (7, .pointer (some ⟨s_.1, 0, none⟩)), (8, .pointer (some ⟨s_.2, 0, none⟩))]) (fun s_ w' => (w'.cell? ⟨gb139, 0, none⟩ = some (.int .u64 a0_0) ∧ w'.cell? ⟨gb139, 1, none⟩ = some (.int .u32 a0_1) ∧ w'.cell? ⟨gb139, 2, none⟩ = some (.int .u8 a0_2) ∧ w'.cell? ⟨gb139, 3, none⟩ = some (.int .u64 a0_3) ∧ w'.cell? ⟨gb140, 0, none⟩ = some (.int .u64 a1_0) ∧ w'.cell? ⟨gb140, 1, none⟩ = some (.int .u32 a1_1) ∧ w'.cell? ⟨gb140, 2, none⟩ = some (.int .u8 a1_2) ∧ w'.cell? ⟨gb140, 3, none⟩ = some (.int .u64 a1_3)) ∧ (w'.heap[gb139]? = some (.cells #[.int .u64 a0_0, .int .u32 a0_1, .int .u8 a0_2, .int .u64 a0_3] 25 (0, 0))) ∧ (w'.heap[gb140]? = some (.cells #[.int .u64 a1_0, .int .u32 a1_1, .int .u8 a1_2, .int .u64 a1_3] 25 (0, 0))) ∧ (w'.heap[s_.1]? = some (.cells #[.int .u64 0, .int .u32 0, .int .u8 0, .int .u64 0] 25 (0, 0))) ∧ (w'.heap[s_.2]? = some (.cells #[.int .u64 0, .int .u32 0, .int .u8 0, .int .u64 0] 25 (0, 0))) ∧ (w.heap.size ≤ s_.1) ∧ (w.heap.size ≤ s_.1) ∧ (gb139 ≠ s_.1) ∧ (s_.1 ≠ gb139) ∧ (gb140 ≠ s_.1) ∧ (s_.1 ≠ gb140) ∧ (s_.2 ≠ s_.1) ∧ (s_.1 ≠ s_.2) ∧ (w.heap.size ≤ s_.2) ∧ (w.heap.size ≤ s_.2) ∧ (gb139 ≠ s_.2) ∧ (s_.2 ≠ gb139) ∧ (gb140 ≠ s_.2) ∧ (s_.2 ≠ gb140) ∧ (Below w.heap.size w w')) ?_ ?_
                      rotate_left
                      · intro hJ1_4_5
                        refine join_ (σ := Unit) 4 #[true, true, true, true, false, false, false, false] (fun s_ => [(15, .agg #[.int .u64 t142, .int .u32 t143, .int .u8 t144, .int .u64 t145]), (17, .agg #[.int .u64 t146, .int .u32 t147, .int .u8 t148, .int .u64 t149])]) (fun s_ w' => (w'.cell? ⟨gb139, 0, none⟩ = some (.int .u64 a0_0) ∧ w'.cell? ⟨gb139, 1, none⟩ = some (.int .u32 a0_1) ∧ w'.cell? ⟨gb139, 2, none⟩ = some (.int .u8 a0_2) ∧ w'.cell? ⟨gb139, 3, none⟩ = some (.int .u64 a0_3) ∧ w'.cell? ⟨gb140, 0, none⟩ = some (.int .u64 a1_0) ∧ w'.cell? ⟨gb140, 1, none⟩ = some (.int .u32 a1_1) ∧ w'.cell? ⟨gb140, 2, none⟩ = some (.int .u8 a1_2) ∧ w'.cell? ⟨gb140, 3, none⟩ = some (.int .u64 a1_3)) ∧ (w'.heap[gb139]? = some (.cells #[.int .u64 a0_0, .int .u32 a0_1, .int .u8 a0_2, .int .u64 a0_3] 25 (0, 0))) ∧ (w'.heap[gb140]? = some (.cells #[.int .u64 a1_0, .int .u32 a1_1, .int .u8 a1_2, .int .u64 a1_3] 25 (0, 0))) ∧ (Below w.heap.size w w')) ?_ ?_
                        rotate_left
                        · intro hJ1_3
                          refine join_ (σ := Nat) 4 #[true, true, true, false, true, false, false, false] (fun s_ => [(15, .agg #[.int .u64 t142, .int .u32 t143, .int .u8 t144, .int .u64 t145]), (7, .pointer (some ⟨s_, 0, none⟩))]) (fun s_ w' => (w'.cell? ⟨gb139, 0, none⟩ = some (.int .u64 a0_0) ∧ w'.cell? ⟨gb139, 1, none⟩ = some (.int .u32 a0_1) ∧ w'.cell? ⟨gb139, 2, none⟩ = some (.int .u8 a0_2) ∧ w'.cell? ⟨gb139, 3, none⟩ = some (.int .u64 a0_3) ∧ w'.cell? ⟨gb140, 0, none⟩ = some (.int .u64 a1_0) ∧ w'.cell? ⟨gb140, 1, none⟩ = some (.int .u32 a1_1) ∧ w'.cell? ⟨gb140, 2, none⟩ = some (.int .u8 a1_2) ∧ w'.cell? ⟨gb140, 3, none⟩ = some (.int .u64 a1_3)) ∧ (w'.heap[gb139]? = some (.cells #[.int .u64 a0_0, .int .u32 a0_1, .int .u8 a0_2, .int .u64 a0_3] 25 (0, 0))) ∧ (w'.heap[gb140]? = some (.cells #[.int .u64 a1_0, .int .u32 a1_1, .int .u8 a1_2, .int .u64 a1_3] 25 (0, 0))) ∧ (w'.heap[s_]? = some (.cells #[.int .u64 0, .int .u32 0, .int .u8 0, .int .u64 0] 25 (0, 0))) ∧ (w.heap.size ≤ s_) ∧ (w.heap.size ≤ s_) ∧ (gb139 ≠ s_) ∧ (s_ ≠ gb139) ∧ (gb140 ≠ s_) ∧ (s_ ≠ gb140) ∧ (Below w.heap.size w w')) ?_ ?_
                          rotate_left
                          · intro hJ1_4
                            refine join_ (σ := Nat) 4 #[true, true, true, false, false, true, false, false] (fun s_ => [(15, .agg #[.int .u64 t142, .int .u32 t143, .int .u8 t144, .int .u64 t145]), (8, .pointer (some ⟨s_, 0, none⟩))]) (fun s_ w' => (w'.cell? ⟨gb139, 0, none⟩ = some (.int .u64 a0_0) ∧ w'.cell? ⟨gb139, 1, none⟩ = some (.int .u32 a0_1) ∧ w'.cell? ⟨gb139, 2, none⟩ = some (.int .u8 a0_2) ∧ w'.cell? ⟨gb139, 3, none⟩ = some (.int .u64 a0_3) ∧ w'.cell? ⟨gb140, 0, none⟩ = some (.int .u64 a1_0) ∧ w'.cell? ⟨gb140, 1, none⟩ = some (.int .u32 a1_1) ∧ w'.cell? ⟨gb140, 2, none⟩ = some (.int .u8 a1_2) ∧ w'.cell? ⟨gb140, 3, none⟩ = some (.int .u64 a1_3)) ∧ (w'.heap[gb139]? = some (.cells #[.int .u64 a0_0, .int .u32 a0_1, .int .u8 a0_2, .int .u64 a0_3] 25 (0, 0))) ∧ (w'.heap[gb140]? = some (.cells #[.int .u64 a1_0, .int .u32 a1_1, .int .u8 a1_2, .int .u64 a1_3] 25 (0, 0))) ∧ (w'.heap[s_]? = some (.cells #[.int .u64 0, .int .u32 0, .int .u8 0, .int .u64 0] 25 (0, 0))) ∧ (w.heap.size ≤ s_) ∧ (w.heap.size ≤ s_) ∧ (gb139 ≠ s_) ∧ (s_ ≠ gb139) ∧ (gb140 ≠ s_) ∧ (s_ ≠ gb140) ∧ (Below w.heap.size w w')) ?_ ?_
                            rotate_left
                            · intro hJ1_5
                              refine join_ (σ := Nat × Nat) 4 #[true, false, true, false, true, true, false, false] (fun s_ => [(7, .pointer (some ⟨s_.1, 0, none⟩)), (8, .pointer (some ⟨s_.2, 0, none⟩))]) (fun s_ w' => (w'.cell? ⟨gb139, 0, none⟩ = some (.int .u64 a0_0) ∧ w'.cell? ⟨gb139, 1, none⟩ = some (.int .u32 a0_1) ∧ w'.cell? ⟨gb139, 2, none⟩ = some (.int .u8 a0_2) ∧ w'.cell? ⟨gb139, 3, none⟩ = some (.int .u64 a0_3) ∧ w'.cell? ⟨gb140, 0, none⟩ = some (.int .u64 a1_0) ∧ w'.cell? ⟨gb140, 1, none⟩ = some (.int .u32 a1_1) ∧ w'.cell? ⟨gb140, 2, none⟩ = some (.int .u8 a1_2) ∧ w'.cell? ⟨gb140, 3, none⟩ = some (.int .u64 a1_3)) ∧ (w'.heap[gb139]? = some (.cells #[.int .u64 a0_0, .int .u32 a0_1, .int .u8 a0_2, .int .u64 a0_3] 25 (0, 0))) ∧ (w'.heap[gb140]? = some (.cells #[.int .u64 a1_0, .int .u32 a1_1, .int .u8 a1_2, .int .u64 a1_3] 25 (0, 0))) ∧ (w'.heap[s_.1]? = some (.cells #[.int .u64 0, .int .u32 0, .int .u8 0, .int .u64 0] 25 (0, 0))) ∧ (w'.heap[s_.2]? = some (.cells #[.int .u64 0, .int .u32 0, .int .u8 0, .int .u64 0] 25 (0, 0))) ∧ (w.heap.size ≤ s_.1) ∧ (w.heap.size ≤ s_.1) ∧ (gb139 ≠ s_.1) ∧ (s_.1 ≠ gb139) ∧ (gb140 ≠ s_.1) ∧ (s_.1 ≠ gb140) ∧ (s_.2 ≠ s_.1) ∧ (s_.1 ≠ s_.2) ∧ (w.heap.size ≤ s_.2) ∧ (w.heap.size ≤ s_.2) ∧ (gb139 ≠ s_.2) ∧ (s_.2 ≠ gb139) ∧ (gb140 ≠ s_.2) ∧ (s_.2 ≠ gb140) ∧ (Below w.heap.size w w')) ?_ ?_
                              rotate_left
                              · intro hJ4_5
                                refine join_ (σ := Unit) 5 #[true, true, true, false, false, false, false, false] (fun s_ => [(15, .agg #[.int .u64 t142, .int .u32 t143, .int .u8 t144, .int .u64 t145])]) (fun s_ w' => (w'.cell? ⟨gb139, 0, none⟩ = some (.int .u64 a0_0) ∧ w'.cell? ⟨gb139, 1, none⟩ = some (.int .u32 a0_1) ∧ w'.cell? ⟨gb139, 2, none⟩ = some (.int .u8 a0_2) ∧ w'.cell? ⟨gb139, 3, none⟩ = some (.int .u64 a0_3) ∧ w'.cell? ⟨gb140, 0, none⟩ = some (.int .u64 a1_0) ∧ w'.cell? ⟨gb140, 1, none⟩ = some (.int .u32 a1_1) ∧ w'.cell? ⟨gb140, 2, none⟩ = some (.int .u8 a1_2) ∧ w'.cell? ⟨gb140, 3, none⟩ = some (.int .u64 a1_3)) ∧ (w'.heap[gb139]? = some (.cells #[.int .u64 a0_0, .int .u32 a0_1, .int .u8 a0_2, .int .u64 a0_3] 25 (0, 0))) ∧ (w'.heap[gb140]? = some (.cells #[.int .u64 a1_0, .int .u32 a1_1, .int .u8 a1_2, .int .u64 a1_3] 25 (0, 0))) ∧ (Below w.heap.size w w')) ?_ ?_
                                rotate_left
                                · intro hJ1
                                  refine join_ (σ := Nat) 5 #[true, false, true, false, true, false, false, false] (fun s_ => [(7, .pointer (some ⟨s_, 0, none⟩))]) (fun s_ w' => (w'.cell? ⟨gb139, 0, none⟩ = some (.int .u64 a0_0) ∧ w'.cell? ⟨gb139, 1, none⟩ = some (.int .u32 a0_1) ∧ w'.cell? ⟨gb139, 2, none⟩ = some (.int .u8 a0_2) ∧ w'.cell? ⟨gb139, 3, none⟩ = some (.int .u64 a0_3) ∧ w'.cell? ⟨gb140, 0, none⟩ = some (.int .u64 a1_0) ∧ w'.cell? ⟨gb140, 1, none⟩ = some (.int .u32 a1_1) ∧ w'.cell? ⟨gb140, 2, none⟩ = some (.int .u8 a1_2) ∧ w'.cell? ⟨gb140, 3, none⟩ = some (.int .u64 a1_3)) ∧ (w'.heap[gb139]? = some (.cells #[.int .u64 a0_0, .int .u32 a0_1, .int .u8 a0_2, .int .u64 a0_3] 25 (0, 0))) ∧ (w'.heap[gb140]? = some (.cells #[.int .u64 a1_0, .int .u32 a1_1, .int .u8 a1_2, .int .u64 a1_3] 25 (0, 0))) ∧ (w'.heap[s_]? = some (.cells #[.int .u64 0, .int .u32 0, .int .u8 0, .int .u64 0] 25 (0, 0))) ∧ (w.heap.size ≤ s_) ∧ (w.heap.size ≤ s_) ∧ (gb139 ≠ s_) ∧ (s_ ≠ gb139) ∧ (gb140 ≠ s_) ∧ (s_ ≠ gb140) ∧ (Below w.heap.size w w')) ?_ ?_
                                  rotate_left
                                  · intro hJ4
                                    refine join_ (σ := Nat) 5 #[true, false, true, false, false, true, false, false] (fun s_ => [(8, .pointer (some ⟨s_, 0, none⟩))]) (fun s_ w' => (w'.cell? ⟨gb139, 0, none⟩ = some (.int .u64 a0_0) ∧ w'.cell? ⟨gb139, 1, none⟩ = some (.int .u32 a0_1) ∧ w'.cell? ⟨gb139, 2, none⟩ = some (.int .u8 a0_2) ∧ w'.cell? ⟨gb139, 3, none⟩ = some (.int .u64 a0_3) ∧ w'.cell? ⟨gb140, 0, none⟩ = some (.int .u64 a1_0) ∧ w'.cell? ⟨gb140, 1, none⟩ = some (.int .u32 a1_1) ∧ w'.cell? ⟨gb140, 2, none⟩ = some (.int .u8 a1_2) ∧ w'.cell? ⟨gb140, 3, none⟩ = some (.int .u64 a1_3)) ∧ (w'.heap[gb139]? = some (.cells #[.int .u64 a0_0, .int .u32 a0_1, .int .u8 a0_2, .int .u64 a0_3] 25 (0, 0))) ∧ (w'.heap[gb140]? = some (.cells #[.int .u64 a1_0, .int .u32 a1_1, .int .u8 a1_2, .int .u64 a1_3] 25 (0, 0))) ∧ (w'.heap[s_]? = some (.cells #[.int .u64 0, .int .u32 0, .int .u8 0, .int .u64 0] 25 (0, 0))) ∧ (w.heap.size ≤ s_) ∧ (w.heap.size ≤ s_) ∧ (gb139 ≠ s_) ∧ (s_ ≠ gb139) ∧ (gb140 ≠ s_) ∧ (s_ ≠ gb140) ∧ (Below w.heap.size w w')) ?_ ?_
                                    rotate_left
                                    · intro hJ5
                                      refine three_ (i := 1) (j := 4) (k := 5) (Ni := some 15) (Nj := some 7) (Nk := some 8) #[true, true, true, false, false, false, false, false] #[true, false, true, false, true, false, false, false] #[true, false, true, false, false, true, false, false] rfl rfl rfl rfl rfl rfl (three_of HT_.out (by kernel_rfl)) (by decide) (by decide) (by decide) (fun K hK => ?_) (fun K hK => ?_) (fun K hK => ?_)
                                      · skip
                                        refine goes_ Try.func9 (by kernel_rfl) rfl #[.agg #[.int .u64 a0_0, .int .u32 a0_1, .int .u8 a0_2, .int .u64 a0_3]] (by rfl) rfl rfl (by (try simp only [List.map_toArray, List.map_cons, List.map_nil]); first | done | rfl | (simp only [List.length_drop, List.length_take]; rfl)) ?_
                                        with_reducible refine (sigillumlaw03_Make.calls a0_0 a0_1 a0_2 a0_3 t142 t143 t144 t145 _ A6.out).mono ?_
                                        rintro e w26 ⟨rfl, hb⟩
                                        refine ⟨_, rfl, ?_⟩
                                        have n0_ := Aside0.mk (blk_below (g := gb139) (o := .cells #[.int .u64 a0_0, .int .u32 a0_1, .int .u8 a0_2, .int .u64 a0_3] 25 (0, 0)) (by (with_reducible repeat (first | refine blk_drewN ?_ _ | refine blk_drew ?_ | refine blk_alloc ?_ _)); exact BK139.out) hb)
                                        have n1_ := Aside0.mk (blk_below (g := gb140) (o := .cells #[.int .u64 a1_0, .int .u32 a1_1, .int .u8 a1_2, .int .u64 a1_3] 25 (0, 0)) (by (with_reducible repeat (first | refine blk_drewN ?_ _ | refine blk_drew ?_ | refine blk_alloc ?_ _)); exact BK140.out) hb)
                                        have n2_ := Aside0.mk (below_step (by repeat (first | (with_reducible first | exact HB.out | apply below_alloc | apply pw_below_drewN | apply below_drew1 | refine below_set ?_ GE139.out | refine below_set ?_ GE140.out) | exact HB.out)) hb)
                                        clear BK139
                                        clear BK140
                                        clear HB
                                        have BK139 := n0_
                                        have BK140 := n1_
                                        have HB := n2_
                                        clear n0_ n1_ n2_
                                        (try clear hb)
                                        (try clear hb2)
                                        (try clear hk)
                                        (try clear hi)
                                        refine hK.out _ _ ⟨(blk_cell BK139.out 0).trans rfl, (blk_cell BK139.out 1).trans rfl, (blk_cell BK139.out 2).trans rfl, (blk_cell BK139.out 3).trans rfl, (blk_cell BK140.out 0).trans rfl, (blk_cell BK140.out 1).trans rfl, (blk_cell BK140.out 2).trans rfl, (blk_cell BK140.out 3).trans rfl⟩ (fun hHeld => ?_)
                                        clear hK K
                                        refine norm_ (a' := ?_) ?_ ?_
                                        rotate_left
                                        · show Act.put _ (some 15) _ = _
                                          simp only [Act.put, List.setIfInBounds_toArray, List.set_cons_zero, List.set_cons_succ, i64_w, i32_w]
                                          rfl
                                        exact norm_ (by first | (simp only [putAll, Act.put, List.setIfInBounds_toArray, List.set_cons_zero, List.set_cons_succ]; done) | (simp only [putAll, Act.put, List.setIfInBounds_toArray, List.set_cons_zero, List.set_cons_succ]; rfl)) (hJ1 () _ ⟨hHeld, (by (with_reducible repeat (first | refine blk_drewN ?_ _ | refine blk_drew ?_ | refine blk_alloc ?_ _)); exact BK139.out), (by (with_reducible repeat (first | refine blk_drewN ?_ _ | refine blk_drew ?_ | refine blk_alloc ?_ _)); exact BK140.out), (by repeat (first | (with_reducible first | exact HB.out | apply below_alloc | apply pw_below_drewN | apply below_drew1 | refine below_set ?_ GE139.out | refine below_set ?_ GE140.out) | exact HB.out))⟩)
                                      · skip
                                        refine box_step ?hg (N := 7) ?hd (cs := #[.int .u64 0, .int .u32 0, .int .u8 0, .int .u64 0]) (t := 25) ?hr ?_; (case hd => rfl); (case hg => rfl); (case hr => first | (go_simp; done) | (go_simp; rfl))
                                        intro gb150 hg w26 hbox hb
                                        have n0_ := Aside0.mk (blk_below (g := gb139) (o := .cells #[.int .u64 a0_0, .int .u32 a0_1, .int .u8 a0_2, .int .u64 a0_3] 25 (0, 0)) (by (with_reducible repeat (first | refine blk_drewN ?_ _ | refine blk_drew ?_ | refine blk_alloc ?_ _)); exact BK139.out) hb)
                                        have n1_ := Aside0.mk (blk_below (g := gb140) (o := .cells #[.int .u64 a1_0, .int .u32 a1_1, .int .u8 a1_2, .int .u64 a1_3] 25 (0, 0)) (by (with_reducible repeat (first | refine blk_drewN ?_ _ | refine blk_drew ?_ | refine blk_alloc ?_ _)); exact BK140.out) hb)
                                        have n2_ := Aside0.mk (below_step (by repeat (first | (with_reducible first | exact HB.out | apply below_alloc | apply pw_below_drewN | apply below_drew1 | refine below_set ?_ GE139.out | refine below_set ?_ GE140.out) | exact HB.out)) hb)
                                        have n3_ := Aside0.mk (hbox)
                                        have n4_ := Aside0.mk ((by rw [hg]; exact (below_size (by repeat (first | (with_reducible first | exact HB.out | apply below_alloc | apply pw_below_drewN | apply below_drew1 | refine below_set ?_ GE139.out | refine below_set ?_ GE140.out) | exact HB.out))) : w.heap.size ≤ gb150))
                                        have n5_ := Aside0.mk ((by rw [hg]; exact (below_size (by repeat (first | (with_reducible first | exact HB.out | apply below_alloc | apply pw_below_drewN | apply below_drew1 | refine below_set ?_ GE139.out | refine below_set ?_ GE140.out) | exact HB.out))) : w.heap.size ≤ gb150))
                                        have n6_ := Aside0.mk ((by rw [hg]; exact Nat.ne_of_lt (blk_lt (g := gb139) (o := .cells #[.int .u64 a0_0, .int .u32 a0_1, .int .u8 a0_2, .int .u64 a0_3] 25 (0, 0)) (by (with_reducible repeat (first | refine blk_drewN ?_ _ | refine blk_drew ?_ | refine blk_alloc ?_ _)); exact BK139.out)) : gb139 ≠ gb150))
                                        have n7_ := Aside0.mk ((by rw [hg]; exact Nat.ne_of_gt (blk_lt (g := gb139) (o := .cells #[.int .u64 a0_0, .int .u32 a0_1, .int .u8 a0_2, .int .u64 a0_3] 25 (0, 0)) (by (with_reducible repeat (first | refine blk_drewN ?_ _ | refine blk_drew ?_ | refine blk_alloc ?_ _)); exact BK139.out)) : gb150 ≠ gb139))
                                        have n8_ := Aside0.mk ((by rw [hg]; exact Nat.ne_of_lt (blk_lt (g := gb140) (o := .cells #[.int .u64 a1_0, .int .u32 a1_1, .int .u8 a1_2, .int .u64 a1_3] 25 (0, 0)) (by (with_reducible repeat (first | refine blk_drewN ?_ _ | refine blk_drew ?_ | refine blk_alloc ?_ _)); exact BK140.out)) : gb140 ≠ gb150))
                                        have n9_ := Aside0.mk ((by rw [hg]; exact Nat.ne_of_gt (blk_lt (g := gb140) (o := .cells #[.int .u64 a1_0, .int .u32 a1_1, .int .u8 a1_2, .int .u64 a1_3] 25 (0, 0)) (by (with_reducible repeat (first | refine blk_drewN ?_ _ | refine blk_drew ?_ | refine blk_alloc ?_ _)); exact BK140.out)) : gb150 ≠ gb140))
                                        clear BK139
                                        clear BK140
                                        clear HB
                                        have BK139 := n0_
                                        have BK140 := n1_
                                        have HB := n2_
                                        have BK150 := n3_
                                        have GW150 := n4_
                                        have GE150 := n5_
                                        have NB139_150 := n6_
                                        have NB150_139 := n7_
                                        have NB140_150 := n8_
                                        have NB150_140 := n9_
                                        clear n0_ n1_ n2_ n3_ n4_ n5_ n6_ n7_ n8_ n9_
                                        clear hb hbox hg
                                        refine hK.out _ _ ⟨(blk_cell BK139.out 0).trans rfl, (blk_cell BK139.out 1).trans rfl, (blk_cell BK139.out 2).trans rfl, (blk_cell BK139.out 3).trans rfl, (blk_cell BK140.out 0).trans rfl, (blk_cell BK140.out 1).trans rfl, (blk_cell BK140.out 2).trans rfl, (blk_cell BK140.out 3).trans rfl⟩ (fun hHeld => ?_)
                                        clear hK K
                                        refine norm_ (a' := ?_) ?_ ?_
                                        rotate_left
                                        · show Act.put _ (some 7) _ = _
                                          simp only [Act.put, List.setIfInBounds_toArray, List.set_cons_zero, List.set_cons_succ, i64_w, i32_w]
                                          rfl
                                        exact norm_ (by first | (simp only [putAll, Act.put, List.setIfInBounds_toArray, List.set_cons_zero, List.set_cons_succ]; done) | (simp only [putAll, Act.put, List.setIfInBounds_toArray, List.set_cons_zero, List.set_cons_succ]; rfl)) (hJ4 (gb150) _ ⟨hHeld, (by (with_reducible repeat (first | refine blk_drewN ?_ _ | refine blk_drew ?_ | refine blk_alloc ?_ _)); exact BK139.out), (by (with_reducible repeat (first | refine blk_drewN ?_ _ | refine blk_drew ?_ | refine blk_alloc ?_ _)); exact BK140.out), (by (with_reducible repeat (first | refine blk_drewN ?_ _ | refine blk_drew ?_ | refine blk_alloc ?_ _)); exact BK150.out), GW150.out, GE150.out, NB139_150.out, NB150_139.out, NB140_150.out, NB150_140.out, (by repeat (first | (with_reducible first | exact HB.out | apply below_alloc | apply pw_below_drewN | apply below_drew1 | refine below_set ?_ GE139.out | refine below_set ?_ GE140.out | refine below_set ?_ GE150.out) | exact HB.out))⟩)
                                      · skip
                                        refine box_step ?hg (N := 8) ?hd (cs := #[.int .u64 0, .int .u32 0, .int .u8 0, .int .u64 0]) (t := 25) ?hr ?_; (case hd => rfl); (case hg => rfl); (case hr => first | (go_simp; done) | (go_simp; rfl))
                                        intro gb151 hg w26 hbox hb
                                        have n0_ := Aside0.mk (blk_below (g := gb139) (o := .cells #[.int .u64 a0_0, .int .u32 a0_1, .int .u8 a0_2, .int .u64 a0_3] 25 (0, 0)) (by (with_reducible repeat (first | refine blk_drewN ?_ _ | refine blk_drew ?_ | refine blk_alloc ?_ _)); exact BK139.out) hb)
                                        have n1_ := Aside0.mk (blk_below (g := gb140) (o := .cells #[.int .u64 a1_0, .int .u32 a1_1, .int .u8 a1_2, .int .u64 a1_3] 25 (0, 0)) (by (with_reducible repeat (first | refine blk_drewN ?_ _ | refine blk_drew ?_ | refine blk_alloc ?_ _)); exact BK140.out) hb)
                                        have n2_ := Aside0.mk (below_step (by repeat (first | (with_reducible first | exact HB.out | apply below_alloc | apply pw_below_drewN | apply below_drew1 | refine below_set ?_ GE139.out | refine below_set ?_ GE140.out) | exact HB.out)) hb)
                                        have n3_ := Aside0.mk (hbox)
                                        have n4_ := Aside0.mk ((by rw [hg]; exact (below_size (by repeat (first | (with_reducible first | exact HB.out | apply below_alloc | apply pw_below_drewN | apply below_drew1 | refine below_set ?_ GE139.out | refine below_set ?_ GE140.out) | exact HB.out))) : w.heap.size ≤ gb151))
                                        have n5_ := Aside0.mk ((by rw [hg]; exact (below_size (by repeat (first | (with_reducible first | exact HB.out | apply below_alloc | apply pw_below_drewN | apply below_drew1 | refine below_set ?_ GE139.out | refine below_set ?_ GE140.out) | exact HB.out))) : w.heap.size ≤ gb151))
                                        have n6_ := Aside0.mk ((by rw [hg]; exact Nat.ne_of_lt (blk_lt (g := gb139) (o := .cells #[.int .u64 a0_0, .int .u32 a0_1, .int .u8 a0_2, .int .u64 a0_3] 25 (0, 0)) (by (with_reducible repeat (first | refine blk_drewN ?_ _ | refine blk_drew ?_ | refine blk_alloc ?_ _)); exact BK139.out)) : gb139 ≠ gb151))
                                        have n7_ := Aside0.mk ((by rw [hg]; exact Nat.ne_of_gt (blk_lt (g := gb139) (o := .cells #[.int .u64 a0_0, .int .u32 a0_1, .int .u8 a0_2, .int .u64 a0_3] 25 (0, 0)) (by (with_reducible repeat (first | refine blk_drewN ?_ _ | refine blk_drew ?_ | refine blk_alloc ?_ _)); exact BK139.out)) : gb151 ≠ gb139))
                                        have n8_ := Aside0.mk ((by rw [hg]; exact Nat.ne_of_lt (blk_lt (g := gb140) (o := .cells #[.int .u64 a1_0, .int .u32 a1_1, .int .u8 a1_2, .int .u64 a1_3] 25 (0, 0)) (by (with_reducible repeat (first | refine blk_drewN ?_ _ | refine blk_drew ?_ | refine blk_alloc ?_ _)); exact BK140.out)) : gb140 ≠ gb151))
                                        have n9_ := Aside0.mk ((by rw [hg]; exact Nat.ne_of_gt (blk_lt (g := gb140) (o := .cells #[.int .u64 a1_0, .int .u32 a1_1, .int .u8 a1_2, .int .u64 a1_3] 25 (0, 0)) (by (with_reducible repeat (first | refine blk_drewN ?_ _ | refine blk_drew ?_ | refine blk_alloc ?_ _)); exact BK140.out)) : gb151 ≠ gb140))
                                        clear BK139
                                        clear BK140
                                        clear HB
                                        have BK139 := n0_
                                        have BK140 := n1_
                                        have HB := n2_
                                        have BK151 := n3_
                                        have GW151 := n4_
                                        have GE151 := n5_
                                        have NB139_151 := n6_
                                        have NB151_139 := n7_
                                        have NB140_151 := n8_
                                        have NB151_140 := n9_
                                        clear n0_ n1_ n2_ n3_ n4_ n5_ n6_ n7_ n8_ n9_
                                        clear hb hbox hg
                                        refine hK.out _ _ ⟨(blk_cell BK139.out 0).trans rfl, (blk_cell BK139.out 1).trans rfl, (blk_cell BK139.out 2).trans rfl, (blk_cell BK139.out 3).trans rfl, (blk_cell BK140.out 0).trans rfl, (blk_cell BK140.out 1).trans rfl, (blk_cell BK140.out 2).trans rfl, (blk_cell BK140.out 3).trans rfl⟩ (fun hHeld => ?_)
                                        clear hK K
                                        refine norm_ (a' := ?_) ?_ ?_
                                        rotate_left
                                        · show Act.put _ (some 8) _ = _
                                          simp only [Act.put, List.setIfInBounds_toArray, List.set_cons_zero, List.set_cons_succ, i64_w, i32_w]
                                          rfl
                                        exact norm_ (by first | (simp only [putAll, Act.put, List.setIfInBounds_toArray, List.set_cons_zero, List.set_cons_succ]; done) | (simp only [putAll, Act.put, List.setIfInBounds_toArray, List.set_cons_zero, List.set_cons_succ]; rfl)) (hJ5 (gb151) _ ⟨hHeld, (by (with_reducible repeat (first | refine blk_drewN ?_ _ | refine blk_drew ?_ | refine blk_alloc ?_ _)); exact BK139.out), (by (with_reducible repeat (first | refine blk_drewN ?_ _ | refine blk_drew ?_ | refine blk_alloc ?_ _)); exact BK140.out), (by (with_reducible repeat (first | refine blk_drewN ?_ _ | refine blk_drew ?_ | refine blk_alloc ?_ _)); exact BK151.out), GW151.out, GE151.out, NB139_151.out, NB151_139.out, NB140_151.out, NB151_140.out, (by repeat (first | (with_reducible first | exact HB.out | apply below_alloc | apply pw_below_drewN | apply below_drew1 | refine below_set ?_ GE139.out | refine below_set ?_ GE140.out | refine below_set ?_ GE151.out) | exact HB.out))⟩)
                                    · skip
                                      rintro gb151 w27 ⟨hS_, h0_, h1_, h2_, h3_, h4_, h5_, h6_, h7_, h8_, h9_⟩
                                      have n0_ : Aside0 (w27.heap[gb139]? = some (.cells #[.int .u64 a0_0, .int .u32 a0_1, .int .u8 a0_2, .int .u64 a0_3] 25 (0, 0))) := ⟨h0_⟩
                                      have n1_ : Aside0 (w27.heap[gb140]? = some (.cells #[.int .u64 a1_0, .int .u32 a1_1, .int .u8 a1_2, .int .u64 a1_3] 25 (0, 0))) := ⟨h1_⟩
                                      have n2_ : Aside0 (w27.heap[gb151]? = some (.cells #[.int .u64 0, .int .u32 0, .int .u8 0, .int .u64 0] 25 (0, 0))) := ⟨h2_⟩
                                      have n3_ : Aside0 (w.heap.size ≤ gb151) := ⟨h3_⟩
                                      have n4_ : Aside0 (w.heap.size ≤ gb151) := ⟨h4_⟩
                                      have n5_ : Aside0 (gb139 ≠ gb151) := ⟨h5_⟩
                                      have n6_ : Aside0 (gb151 ≠ gb139) := ⟨h6_⟩
                                      have n7_ : Aside0 (gb140 ≠ gb151) := ⟨h7_⟩
                                      have n8_ : Aside0 (gb151 ≠ gb140) := ⟨h8_⟩
                                      have n9_ : Aside0 (Below w.heap.size w w27) := ⟨h9_⟩
                                      clear BK139
                                      clear BK140
                                      clear HB
                                      clear h0_ h1_ h2_ h3_ h4_ h5_ h6_ h7_ h8_ h9_
                                      have BK139 := n0_
                                      have BK140 := n1_
                                      have BK151 := n2_
                                      have GW151 := n3_
                                      have GE151 := n4_
                                      have NB139_151 := n5_
                                      have NB151_139 := n6_
                                      have NB140_151 := n7_
                                      have NB151_140 := n8_
                                      have HB := n9_
                                      clear n0_ n1_ n2_ n3_ n4_ n5_ n6_ n7_ n8_ n9_
                                      have hHeld : w27.cell? ⟨gb139, 0, none⟩ = some (.int .u64 a0_0) ∧ w27.cell? ⟨gb139, 1, none⟩ = some (.int .u32 a0_1) ∧ w27.cell? ⟨gb139, 2, none⟩ = some (.int .u8 a0_2) ∧ w27.cell? ⟨gb139, 3, none⟩ = some (.int .u64 a0_3) ∧ w27.cell? ⟨gb140, 0, none⟩ = some (.int .u64 a1_0) ∧ w27.cell? ⟨gb140, 1, none⟩ = some (.int .u32 a1_1) ∧ w27.cell? ⟨gb140, 2, none⟩ = some (.int .u8 a1_2) ∧ w27.cell? ⟨gb140, 3, none⟩ = some (.int .u64 a1_3) := hS_
                                      refine norm_ (a' := ?_) ?_ ?_
                                      rotate_left
                                      · simp only [putAll, Act.put, List.setIfInBounds_toArray, List.set_cons_zero, List.set_cons_succ]
                                        rfl
                                      refine two_ (i := 1) (j := 4) (Ni := some 15) (Nj := some 7) #[true, true, true, false, false, true, false, false] #[true, false, true, false, true, true, false, false] rfl rfl rfl rfl (two_of HT_.out (by kernel_rfl)) (by decide) (by decide) (fun K hK => ?_) (fun K hK => ?_)
                                      · skip
                                        refine goes_ Try.func9 (by kernel_rfl) rfl #[.agg #[.int .u64 a0_0, .int .u32 a0_1, .int .u8 a0_2, .int .u64 a0_3]] (by rfl) rfl rfl (by (try simp only [List.map_toArray, List.map_cons, List.map_nil]); first | done | rfl | (simp only [List.length_drop, List.length_take]; rfl)) ?_
                                        with_reducible refine (sigillumlaw03_Make.calls a0_0 a0_1 a0_2 a0_3 t142 t143 t144 t145 _ A6.out).mono ?_
                                        rintro e w28 ⟨rfl, hb⟩
                                        refine ⟨_, rfl, ?_⟩
                                        have n0_ := Aside0.mk (blk_below (g := gb139) (o := .cells #[.int .u64 a0_0, .int .u32 a0_1, .int .u8 a0_2, .int .u64 a0_3] 25 (0, 0)) (by (with_reducible repeat (first | refine blk_drewN ?_ _ | refine blk_drew ?_ | refine blk_alloc ?_ _)); exact BK139.out) hb)
                                        have n1_ := Aside0.mk (blk_below (g := gb140) (o := .cells #[.int .u64 a1_0, .int .u32 a1_1, .int .u8 a1_2, .int .u64 a1_3] 25 (0, 0)) (by (with_reducible repeat (first | refine blk_drewN ?_ _ | refine blk_drew ?_ | refine blk_alloc ?_ _)); exact BK140.out) hb)
                                        have n2_ := Aside0.mk (blk_below (g := gb151) (o := .cells #[.int .u64 0, .int .u32 0, .int .u8 0, .int .u64 0] 25 (0, 0)) (by (with_reducible repeat (first | refine blk_drewN ?_ _ | refine blk_drew ?_ | refine blk_alloc ?_ _)); exact BK151.out) hb)
                                        have n3_ := Aside0.mk (below_step (by repeat (first | (with_reducible first | exact HB.out | apply below_alloc | apply pw_below_drewN | apply below_drew1 | refine below_set ?_ GE139.out | refine below_set ?_ GE140.out | refine below_set ?_ GE151.out) | exact HB.out)) hb)
                                        clear BK139
                                        clear BK140
                                        clear BK151
                                        clear HB
                                        have BK139 := n0_
                                        have BK140 := n1_
                                        have BK151 := n2_
                                        have HB := n3_
                                        clear n0_ n1_ n2_ n3_
                                        (try clear hb)
                                        (try clear hb2)
                                        (try clear hk)
                                        (try clear hi)
                                        refine hK.out _ _ ⟨(blk_cell BK139.out 0).trans rfl, (blk_cell BK139.out 1).trans rfl, (blk_cell BK139.out 2).trans rfl, (blk_cell BK139.out 3).trans rfl, (blk_cell BK140.out 0).trans rfl, (blk_cell BK140.out 1).trans rfl, (blk_cell BK140.out 2).trans rfl, (blk_cell BK140.out 3).trans rfl⟩ (fun hHeld => ?_)
                                        clear hK K
                                        refine norm_ (a' := ?_) ?_ ?_
                                        rotate_left
                                        · show Act.put _ (some 15) _ = _
                                          simp only [Act.put, List.setIfInBounds_toArray, List.set_cons_zero, List.set_cons_succ, i64_w, i32_w]
                                          rfl
                                        exact norm_ (by first | (simp only [putAll, Act.put, List.setIfInBounds_toArray, List.set_cons_zero, List.set_cons_succ]; done) | (simp only [putAll, Act.put, List.setIfInBounds_toArray, List.set_cons_zero, List.set_cons_succ]; rfl)) (hJ1_5 (gb151) _ ⟨hHeld, (by (with_reducible repeat (first | refine blk_drewN ?_ _ | refine blk_drew ?_ | refine blk_alloc ?_ _)); exact BK139.out), (by (with_reducible repeat (first | refine blk_drewN ?_ _ | refine blk_drew ?_ | refine blk_alloc ?_ _)); exact BK140.out), (by (with_reducible repeat (first | refine blk_drewN ?_ _ | refine blk_drew ?_ | refine blk_alloc ?_ _)); exact BK151.out), GW151.out, GE151.out, NB139_151.out, NB151_139.out, NB140_151.out, NB151_140.out, (by repeat (first | (with_reducible first | exact HB.out | apply below_alloc | apply pw_below_drewN | apply below_drew1 | refine below_set ?_ GE139.out | refine below_set ?_ GE140.out | refine below_set ?_ GE151.out) | exact HB.out))⟩)
                                      · skip
                                        refine box_step ?hg (N := 7) ?hd (cs := #[.int .u64 0, .int .u32 0, .int .u8 0, .int .u64 0]) (t := 25) ?hr ?_; (case hd => rfl); (case hg => rfl); (case hr => first | (go_simp; done) | (go_simp; rfl))
                                        intro gb150 hg w28 hbox hb
                                        have n0_ := Aside0.mk (blk_below (g := gb139) (o := .cells #[.int .u64 a0_0, .int .u32 a0_1, .int .u8 a0_2, .int .u64 a0_3] 25 (0, 0)) (by (with_reducible repeat (first | refine blk_drewN ?_ _ | refine blk_drew ?_ | refine blk_alloc ?_ _)); exact BK139.out) hb)
                                        have n1_ := Aside0.mk (blk_below (g := gb140) (o := .cells #[.int .u64 a1_0, .int .u32 a1_1, .int .u8 a1_2, .int .u64 a1_3] 25 (0, 0)) (by (with_reducible repeat (first | refine blk_drewN ?_ _ | refine blk_drew ?_ | refine blk_alloc ?_ _)); exact BK140.out) hb)
                                        have n2_ := Aside0.mk (blk_below (g := gb151) (o := .cells #[.int .u64 0, .int .u32 0, .int .u8 0, .int .u64 0] 25 (0, 0)) (by (with_reducible repeat (first | refine blk_drewN ?_ _ | refine blk_drew ?_ | refine blk_alloc ?_ _)); exact BK151.out) hb)
                                        have n3_ := Aside0.mk (below_step (by repeat (first | (with_reducible first | exact HB.out | apply below_alloc | apply pw_below_drewN | apply below_drew1 | refine below_set ?_ GE139.out | refine below_set ?_ GE140.out | refine below_set ?_ GE151.out) | exact HB.out)) hb)
                                        have n4_ := Aside0.mk (hbox)
                                        have n5_ := Aside0.mk ((by rw [hg]; exact (below_size (by repeat (first | (with_reducible first | exact HB.out | apply below_alloc | apply pw_below_drewN | apply below_drew1 | refine below_set ?_ GE139.out | refine below_set ?_ GE140.out | refine below_set ?_ GE151.out) | exact HB.out))) : w.heap.size ≤ gb150))
                                        have n6_ := Aside0.mk ((by rw [hg]; exact (below_size (by repeat (first | (with_reducible first | exact HB.out | apply below_alloc | apply pw_below_drewN | apply below_drew1 | refine below_set ?_ GE139.out | refine below_set ?_ GE140.out | refine below_set ?_ GE151.out) | exact HB.out))) : w.heap.size ≤ gb150))
                                        have n7_ := Aside0.mk ((by rw [hg]; exact Nat.ne_of_lt (blk_lt (g := gb139) (o := .cells #[.int .u64 a0_0, .int .u32 a0_1, .int .u8 a0_2, .int .u64 a0_3] 25 (0, 0)) (by (with_reducible repeat (first | refine blk_drewN ?_ _ | refine blk_drew ?_ | refine blk_alloc ?_ _)); exact BK139.out)) : gb139 ≠ gb150))
                                        have n8_ := Aside0.mk ((by rw [hg]; exact Nat.ne_of_gt (blk_lt (g := gb139) (o := .cells #[.int .u64 a0_0, .int .u32 a0_1, .int .u8 a0_2, .int .u64 a0_3] 25 (0, 0)) (by (with_reducible repeat (first | refine blk_drewN ?_ _ | refine blk_drew ?_ | refine blk_alloc ?_ _)); exact BK139.out)) : gb150 ≠ gb139))
                                        have n9_ := Aside0.mk ((by rw [hg]; exact Nat.ne_of_lt (blk_lt (g := gb140) (o := .cells #[.int .u64 a1_0, .int .u32 a1_1, .int .u8 a1_2, .int .u64 a1_3] 25 (0, 0)) (by (with_reducible repeat (first | refine blk_drewN ?_ _ | refine blk_drew ?_ | refine blk_alloc ?_ _)); exact BK140.out)) : gb140 ≠ gb150))
                                        have n10_ := Aside0.mk ((by rw [hg]; exact Nat.ne_of_gt (blk_lt (g := gb140) (o := .cells #[.int .u64 a1_0, .int .u32 a1_1, .int .u8 a1_2, .int .u64 a1_3] 25 (0, 0)) (by (with_reducible repeat (first | refine blk_drewN ?_ _ | refine blk_drew ?_ | refine blk_alloc ?_ _)); exact BK140.out)) : gb150 ≠ gb140))
                                        have n11_ := Aside0.mk ((by rw [hg]; exact Nat.ne_of_lt (blk_lt (g := gb151) (o := .cells #[.int .u64 0, .int .u32 0, .int .u8 0, .int .u64 0] 25 (0, 0)) (by (with_reducible repeat (first | refine blk_drewN ?_ _ | refine blk_drew ?_ | refine blk_alloc ?_ _)); exact BK151.out)) : gb151 ≠ gb150))
                                        have n12_ := Aside0.mk ((by rw [hg]; exact Nat.ne_of_gt (blk_lt (g := gb151) (o := .cells #[.int .u64 0, .int .u32 0, .int .u8 0, .int .u64 0] 25 (0, 0)) (by (with_reducible repeat (first | refine blk_drewN ?_ _ | refine blk_drew ?_ | refine blk_alloc ?_ _)); exact BK151.out)) : gb150 ≠ gb151))
                                        clear BK139
                                        clear BK140
                                        clear BK151
                                        clear HB
                                        have BK139 := n0_
                                        have BK140 := n1_
                                        have BK151 := n2_
                                        have HB := n3_
                                        have BK150 := n4_
                                        have GW150 := n5_
                                        have GE150 := n6_
                                        have NB139_150 := n7_
                                        have NB150_139 := n8_
                                        have NB140_150 := n9_
                                        have NB150_140 := n10_
                                        have NB151_150 := n11_
                                        have NB150_151 := n12_
                                        clear n0_ n1_ n2_ n3_ n4_ n5_ n6_ n7_ n8_ n9_ n10_ n11_ n12_
                                        clear hb hbox hg
                                        refine hK.out _ _ ⟨(blk_cell BK139.out 0).trans rfl, (blk_cell BK139.out 1).trans rfl, (blk_cell BK139.out 2).trans rfl, (blk_cell BK139.out 3).trans rfl, (blk_cell BK140.out 0).trans rfl, (blk_cell BK140.out 1).trans rfl, (blk_cell BK140.out 2).trans rfl, (blk_cell BK140.out 3).trans rfl⟩ (fun hHeld => ?_)
                                        clear hK K
                                        refine norm_ (a' := ?_) ?_ ?_
                                        rotate_left
                                        · show Act.put _ (some 7) _ = _
                                          simp only [Act.put, List.setIfInBounds_toArray, List.set_cons_zero, List.set_cons_succ, i64_w, i32_w]
                                          rfl
                                        exact norm_ (by first | (simp only [putAll, Act.put, List.setIfInBounds_toArray, List.set_cons_zero, List.set_cons_succ]; done) | (simp only [putAll, Act.put, List.setIfInBounds_toArray, List.set_cons_zero, List.set_cons_succ]; rfl)) (hJ4_5 (gb150, gb151) _ ⟨hHeld, (by (with_reducible repeat (first | refine blk_drewN ?_ _ | refine blk_drew ?_ | refine blk_alloc ?_ _)); exact BK139.out), (by (with_reducible repeat (first | refine blk_drewN ?_ _ | refine blk_drew ?_ | refine blk_alloc ?_ _)); exact BK140.out), (by (with_reducible repeat (first | refine blk_drewN ?_ _ | refine blk_drew ?_ | refine blk_alloc ?_ _)); exact BK150.out), (by (with_reducible repeat (first | refine blk_drewN ?_ _ | refine blk_drew ?_ | refine blk_alloc ?_ _)); exact BK151.out), GW150.out, GE150.out, NB139_150.out, NB150_139.out, NB140_150.out, NB150_140.out, NB151_150.out, NB150_151.out, GW151.out, GE151.out, NB139_151.out, NB151_139.out, NB140_151.out, NB151_140.out, (by repeat (first | (with_reducible first | exact HB.out | apply below_alloc | apply pw_below_drewN | apply below_drew1 | refine below_set ?_ GE139.out | refine below_set ?_ GE140.out | refine below_set ?_ GE151.out | refine below_set ?_ GE150.out) | exact HB.out))⟩)
                                  · skip
                                    rintro gb150 w27 ⟨hS_, h0_, h1_, h2_, h3_, h4_, h5_, h6_, h7_, h8_, h9_⟩
                                    have n0_ : Aside0 (w27.heap[gb139]? = some (.cells #[.int .u64 a0_0, .int .u32 a0_1, .int .u8 a0_2, .int .u64 a0_3] 25 (0, 0))) := ⟨h0_⟩
                                    have n1_ : Aside0 (w27.heap[gb140]? = some (.cells #[.int .u64 a1_0, .int .u32 a1_1, .int .u8 a1_2, .int .u64 a1_3] 25 (0, 0))) := ⟨h1_⟩
                                    have n2_ : Aside0 (w27.heap[gb150]? = some (.cells #[.int .u64 0, .int .u32 0, .int .u8 0, .int .u64 0] 25 (0, 0))) := ⟨h2_⟩
                                    have n3_ : Aside0 (w.heap.size ≤ gb150) := ⟨h3_⟩
                                    have n4_ : Aside0 (w.heap.size ≤ gb150) := ⟨h4_⟩
                                    have n5_ : Aside0 (gb139 ≠ gb150) := ⟨h5_⟩
                                    have n6_ : Aside0 (gb150 ≠ gb139) := ⟨h6_⟩
                                    have n7_ : Aside0 (gb140 ≠ gb150) := ⟨h7_⟩
                                    have n8_ : Aside0 (gb150 ≠ gb140) := ⟨h8_⟩
                                    have n9_ : Aside0 (Below w.heap.size w w27) := ⟨h9_⟩
                                    clear BK139
                                    clear BK140
                                    clear HB
                                    clear h0_ h1_ h2_ h3_ h4_ h5_ h6_ h7_ h8_ h9_
                                    have BK139 := n0_
                                    have BK140 := n1_
                                    have BK150 := n2_
                                    have GW150 := n3_
                                    have GE150 := n4_
                                    have NB139_150 := n5_
                                    have NB150_139 := n6_
                                    have NB140_150 := n7_
                                    have NB150_140 := n8_
                                    have HB := n9_
                                    clear n0_ n1_ n2_ n3_ n4_ n5_ n6_ n7_ n8_ n9_
                                    have hHeld : w27.cell? ⟨gb139, 0, none⟩ = some (.int .u64 a0_0) ∧ w27.cell? ⟨gb139, 1, none⟩ = some (.int .u32 a0_1) ∧ w27.cell? ⟨gb139, 2, none⟩ = some (.int .u8 a0_2) ∧ w27.cell? ⟨gb139, 3, none⟩ = some (.int .u64 a0_3) ∧ w27.cell? ⟨gb140, 0, none⟩ = some (.int .u64 a1_0) ∧ w27.cell? ⟨gb140, 1, none⟩ = some (.int .u32 a1_1) ∧ w27.cell? ⟨gb140, 2, none⟩ = some (.int .u8 a1_2) ∧ w27.cell? ⟨gb140, 3, none⟩ = some (.int .u64 a1_3) := hS_
                                    refine norm_ (a' := ?_) ?_ ?_
                                    rotate_left
                                    · simp only [putAll, Act.put, List.setIfInBounds_toArray, List.set_cons_zero, List.set_cons_succ]
                                      rfl
                                    refine two_ (i := 1) (j := 5) (Ni := some 15) (Nj := some 8) #[true, true, true, false, true, false, false, false] #[true, false, true, false, true, true, false, false] rfl rfl rfl rfl (two_of HT_.out (by kernel_rfl)) (by decide) (by decide) (fun K hK => ?_) (fun K hK => ?_)
                                    · skip
                                      refine goes_ Try.func9 (by kernel_rfl) rfl #[.agg #[.int .u64 a0_0, .int .u32 a0_1, .int .u8 a0_2, .int .u64 a0_3]] (by rfl) rfl rfl (by (try simp only [List.map_toArray, List.map_cons, List.map_nil]); first | done | rfl | (simp only [List.length_drop, List.length_take]; rfl)) ?_
                                      with_reducible refine (sigillumlaw03_Make.calls a0_0 a0_1 a0_2 a0_3 t142 t143 t144 t145 _ A6.out).mono ?_
                                      rintro e w28 ⟨rfl, hb⟩
                                      refine ⟨_, rfl, ?_⟩
                                      have n0_ := Aside0.mk (blk_below (g := gb139) (o := .cells #[.int .u64 a0_0, .int .u32 a0_1, .int .u8 a0_2, .int .u64 a0_3] 25 (0, 0)) (by (with_reducible repeat (first | refine blk_drewN ?_ _ | refine blk_drew ?_ | refine blk_alloc ?_ _)); exact BK139.out) hb)
                                      have n1_ := Aside0.mk (blk_below (g := gb140) (o := .cells #[.int .u64 a1_0, .int .u32 a1_1, .int .u8 a1_2, .int .u64 a1_3] 25 (0, 0)) (by (with_reducible repeat (first | refine blk_drewN ?_ _ | refine blk_drew ?_ | refine blk_alloc ?_ _)); exact BK140.out) hb)
                                      have n2_ := Aside0.mk (blk_below (g := gb150) (o := .cells #[.int .u64 0, .int .u32 0, .int .u8 0, .int .u64 0] 25 (0, 0)) (by (with_reducible repeat (first | refine blk_drewN ?_ _ | refine blk_drew ?_ | refine blk_alloc ?_ _)); exact BK150.out) hb)
                                      have n3_ := Aside0.mk (below_step (by repeat (first | (with_reducible first | exact HB.out | apply below_alloc | apply pw_below_drewN | apply below_drew1 | refine below_set ?_ GE139.out | refine below_set ?_ GE140.out | refine below_set ?_ GE150.out) | exact HB.out)) hb)
                                      clear BK139
                                      clear BK140
                                      clear BK150
                                      clear HB
                                      have BK139 := n0_
                                      have BK140 := n1_
                                      have BK150 := n2_
                                      have HB := n3_
                                      clear n0_ n1_ n2_ n3_
                                      (try clear hb)
                                      (try clear hb2)
                                      (try clear hk)
                                      (try clear hi)
                                      refine hK.out _ _ ⟨(blk_cell BK139.out 0).trans rfl, (blk_cell BK139.out 1).trans rfl, (blk_cell BK139.out 2).trans rfl, (blk_cell BK139.out 3).trans rfl, (blk_cell BK140.out 0).trans rfl, (blk_cell BK140.out 1).trans rfl, (blk_cell BK140.out 2).trans rfl, (blk_cell BK140.out 3).trans rfl⟩ (fun hHeld => ?_)
                                      clear hK K
                                      refine norm_ (a' := ?_) ?_ ?_
                                      rotate_left
                                      · show Act.put _ (some 15) _ = _
                                        simp only [Act.put, List.setIfInBounds_toArray, List.set_cons_zero, List.set_cons_succ, i64_w, i32_w]
                                        rfl
                                      exact norm_ (by first | (simp only [putAll, Act.put, List.setIfInBounds_toArray, List.set_cons_zero, List.set_cons_succ]; done) | (simp only [putAll, Act.put, List.setIfInBounds_toArray, List.set_cons_zero, List.set_cons_succ]; rfl)) (hJ1_4 (gb150) _ ⟨hHeld, (by (with_reducible repeat (first | refine blk_drewN ?_ _ | refine blk_drew ?_ | refine blk_alloc ?_ _)); exact BK139.out), (by (with_reducible repeat (first | refine blk_drewN ?_ _ | refine blk_drew ?_ | refine blk_alloc ?_ _)); exact BK140.out), (by (with_reducible repeat (first | refine blk_drewN ?_ _ | refine blk_drew ?_ | refine blk_alloc ?_ _)); exact BK150.out), GW150.out, GE150.out, NB139_150.out, NB150_139.out, NB140_150.out, NB150_140.out, (by repeat (first | (with_reducible first | exact HB.out | apply below_alloc | apply pw_below_drewN | apply below_drew1 | refine below_set ?_ GE139.out | refine below_set ?_ GE140.out | refine below_set ?_ GE150.out) | exact HB.out))⟩)
                                    · skip
                                      refine box_step ?hg (N := 8) ?hd (cs := #[.int .u64 0, .int .u32 0, .int .u8 0, .int .u64 0]) (t := 25) ?hr ?_; (case hd => rfl); (case hg => rfl); (case hr => first | (go_simp; done) | (go_simp; rfl))
                                      intro gb151 hg w28 hbox hb
                                      have n0_ := Aside0.mk (blk_below (g := gb139) (o := .cells #[.int .u64 a0_0, .int .u32 a0_1, .int .u8 a0_2, .int .u64 a0_3] 25 (0, 0)) (by (with_reducible repeat (first | refine blk_drewN ?_ _ | refine blk_drew ?_ | refine blk_alloc ?_ _)); exact BK139.out) hb)
                                      have n1_ := Aside0.mk (blk_below (g := gb140) (o := .cells #[.int .u64 a1_0, .int .u32 a1_1, .int .u8 a1_2, .int .u64 a1_3] 25 (0, 0)) (by (with_reducible repeat (first | refine blk_drewN ?_ _ | refine blk_drew ?_ | refine blk_alloc ?_ _)); exact BK140.out) hb)
                                      have n2_ := Aside0.mk (blk_below (g := gb150) (o := .cells #[.int .u64 0, .int .u32 0, .int .u8 0, .int .u64 0] 25 (0, 0)) (by (with_reducible repeat (first | refine blk_drewN ?_ _ | refine blk_drew ?_ | refine blk_alloc ?_ _)); exact BK150.out) hb)
                                      have n3_ := Aside0.mk (below_step (by repeat (first | (with_reducible first | exact HB.out | apply below_alloc | apply pw_below_drewN | apply below_drew1 | refine below_set ?_ GE139.out | refine below_set ?_ GE140.out | refine below_set ?_ GE150.out) | exact HB.out)) hb)
                                      have n4_ := Aside0.mk (hbox)
                                      have n5_ := Aside0.mk ((by rw [hg]; exact (below_size (by repeat (first | (with_reducible first | exact HB.out | apply below_alloc | apply pw_below_drewN | apply below_drew1 | refine below_set ?_ GE139.out | refine below_set ?_ GE140.out | refine below_set ?_ GE150.out) | exact HB.out))) : w.heap.size ≤ gb151))
                                      have n6_ := Aside0.mk ((by rw [hg]; exact (below_size (by repeat (first | (with_reducible first | exact HB.out | apply below_alloc | apply pw_below_drewN | apply below_drew1 | refine below_set ?_ GE139.out | refine below_set ?_ GE140.out | refine below_set ?_ GE150.out) | exact HB.out))) : w.heap.size ≤ gb151))
                                      have n7_ := Aside0.mk ((by rw [hg]; exact Nat.ne_of_lt (blk_lt (g := gb139) (o := .cells #[.int .u64 a0_0, .int .u32 a0_1, .int .u8 a0_2, .int .u64 a0_3] 25 (0, 0)) (by (with_reducible repeat (first | refine blk_drewN ?_ _ | refine blk_drew ?_ | refine blk_alloc ?_ _)); exact BK139.out)) : gb139 ≠ gb151))
                                      have n8_ := Aside0.mk ((by rw [hg]; exact Nat.ne_of_gt (blk_lt (g := gb139) (o := .cells #[.int .u64 a0_0, .int .u32 a0_1, .int .u8 a0_2, .int .u64 a0_3] 25 (0, 0)) (by (with_reducible repeat (first | refine blk_drewN ?_ _ | refine blk_drew ?_ | refine blk_alloc ?_ _)); exact BK139.out)) : gb151 ≠ gb139))
                                      have n9_ := Aside0.mk ((by rw [hg]; exact Nat.ne_of_lt (blk_lt (g := gb140) (o := .cells #[.int .u64 a1_0, .int .u32 a1_1, .int .u8 a1_2, .int .u64 a1_3] 25 (0, 0)) (by (with_reducible repeat (first | refine blk_drewN ?_ _ | refine blk_drew ?_ | refine blk_alloc ?_ _)); exact BK140.out)) : gb140 ≠ gb151))
                                      have n10_ := Aside0.mk ((by rw [hg]; exact Nat.ne_of_gt (blk_lt (g := gb140) (o := .cells #[.int .u64 a1_0, .int .u32 a1_1, .int .u8 a1_2, .int .u64 a1_3] 25 (0, 0)) (by (with_reducible repeat (first | refine blk_drewN ?_ _ | refine blk_drew ?_ | refine blk_alloc ?_ _)); exact BK140.out)) : gb151 ≠ gb140))
                                      have n11_ := Aside0.mk ((by rw [hg]; exact Nat.ne_of_lt (blk_lt (g := gb150) (o := .cells #[.int .u64 0, .int .u32 0, .int .u8 0, .int .u64 0] 25 (0, 0)) (by (with_reducible repeat (first | refine blk_drewN ?_ _ | refine blk_drew ?_ | refine blk_alloc ?_ _)); exact BK150.out)) : gb150 ≠ gb151))
                                      have n12_ := Aside0.mk ((by rw [hg]; exact Nat.ne_of_gt (blk_lt (g := gb150) (o := .cells #[.int .u64 0, .int .u32 0, .int .u8 0, .int .u64 0] 25 (0, 0)) (by (with_reducible repeat (first | refine blk_drewN ?_ _ | refine blk_drew ?_ | refine blk_alloc ?_ _)); exact BK150.out)) : gb151 ≠ gb150))
                                      clear BK139
                                      clear BK140
                                      clear BK150
                                      clear HB
                                      have BK139 := n0_
                                      have BK140 := n1_
                                      have BK150 := n2_
                                      have HB := n3_
                                      have BK151 := n4_
                                      have GW151 := n5_
                                      have GE151 := n6_
                                      have NB139_151 := n7_
                                      have NB151_139 := n8_
                                      have NB140_151 := n9_
                                      have NB151_140 := n10_
                                      have NB150_151 := n11_
                                      have NB151_150 := n12_
                                      clear n0_ n1_ n2_ n3_ n4_ n5_ n6_ n7_ n8_ n9_ n10_ n11_ n12_
                                      clear hb hbox hg
                                      refine hK.out _ _ ⟨(blk_cell BK139.out 0).trans rfl, (blk_cell BK139.out 1).trans rfl, (blk_cell BK139.out 2).trans rfl, (blk_cell BK139.out 3).trans rfl, (blk_cell BK140.out 0).trans rfl, (blk_cell BK140.out 1).trans rfl, (blk_cell BK140.out 2).trans rfl, (blk_cell BK140.out 3).trans rfl⟩ (fun hHeld => ?_)
                                      clear hK K
                                      refine norm_ (a' := ?_) ?_ ?_
                                      rotate_left
                                      · show Act.put _ (some 8) _ = _
                                        simp only [Act.put, List.setIfInBounds_toArray, List.set_cons_zero, List.set_cons_succ, i64_w, i32_w]
                                        rfl
                                      exact norm_ (by first | (simp only [putAll, Act.put, List.setIfInBounds_toArray, List.set_cons_zero, List.set_cons_succ]; done) | (simp only [putAll, Act.put, List.setIfInBounds_toArray, List.set_cons_zero, List.set_cons_succ]; rfl)) (hJ4_5 (gb150, gb151) _ ⟨hHeld, (by (with_reducible repeat (first | refine blk_drewN ?_ _ | refine blk_drew ?_ | refine blk_alloc ?_ _)); exact BK139.out), (by (with_reducible repeat (first | refine blk_drewN ?_ _ | refine blk_drew ?_ | refine blk_alloc ?_ _)); exact BK140.out), (by (with_reducible repeat (first | refine blk_drewN ?_ _ | refine blk_drew ?_ | refine blk_alloc ?_ _)); exact BK150.out), (by (with_reducible repeat (first | refine blk_drewN ?_ _ | refine blk_drew ?_ | refine blk_alloc ?_ _)); exact BK151.out), GW150.out, GE150.out, NB139_150.out, NB150_139.out, NB140_150.out, NB150_140.out, NB151_150.out, NB150_151.out, GW151.out, GE151.out, NB139_151.out, NB151_139.out, NB140_151.out, NB151_140.out, (by repeat (first | (with_reducible first | exact HB.out | apply below_alloc | apply pw_below_drewN | apply below_drew1 | refine below_set ?_ GE139.out | refine below_set ?_ GE140.out | refine below_set ?_ GE150.out | refine below_set ?_ GE151.out) | exact HB.out))⟩)
                                · skip
                                  rintro _ w27 ⟨hS_, h0_, h1_, h2_⟩
                                  have n0_ : Aside0 (w27.heap[gb139]? = some (.cells #[.int .u64 a0_0, .int .u32 a0_1, .int .u8 a0_2, .int .u64 a0_3] 25 (0, 0))) := ⟨h0_⟩
                                  have n1_ : Aside0 (w27.heap[gb140]? = some (.cells #[.int .u64 a1_0, .int .u32 a1_1, .int .u8 a1_2, .int .u64 a1_3] 25 (0, 0))) := ⟨h1_⟩
                                  have n2_ : Aside0 (Below w.heap.size w w27) := ⟨h2_⟩
                                  clear BK139
                                  clear BK140
                                  clear HB
                                  clear h0_ h1_ h2_
                                  have BK139 := n0_
                                  have BK140 := n1_
                                  have HB := n2_
                                  clear n0_ n1_ n2_
                                  have hHeld : w27.cell? ⟨gb139, 0, none⟩ = some (.int .u64 a0_0) ∧ w27.cell? ⟨gb139, 1, none⟩ = some (.int .u32 a0_1) ∧ w27.cell? ⟨gb139, 2, none⟩ = some (.int .u8 a0_2) ∧ w27.cell? ⟨gb139, 3, none⟩ = some (.int .u64 a0_3) ∧ w27.cell? ⟨gb140, 0, none⟩ = some (.int .u64 a1_0) ∧ w27.cell? ⟨gb140, 1, none⟩ = some (.int .u32 a1_1) ∧ w27.cell? ⟨gb140, 2, none⟩ = some (.int .u8 a1_2) ∧ w27.cell? ⟨gb140, 3, none⟩ = some (.int .u64 a1_3) := hS_
                                  refine norm_ (a' := ?_) ?_ ?_
                                  rotate_left
                                  · simp only [putAll, Act.put, List.setIfInBounds_toArray, List.set_cons_zero, List.set_cons_succ]
                                    rfl
                                  refine three_ (i := 3) (j := 4) (k := 5) (Ni := some 17) (Nj := some 7) (Nk := some 8) #[true, true, true, true, false, false, false, false] #[true, true, true, false, true, false, false, false] #[true, true, true, false, false, true, false, false] rfl rfl rfl rfl rfl rfl (three_of HT_.out (by kernel_rfl)) (by decide) (by decide) (by decide) (fun K hK => ?_) (fun K hK => ?_) (fun K hK => ?_)
                                  · skip
                                    refine goes_ Try.func9 (by kernel_rfl) rfl #[.agg #[.int .u64 a1_0, .int .u32 a1_1, .int .u8 a1_2, .int .u64 a1_3]] (by rfl) rfl rfl (by (try simp only [List.map_toArray, List.map_cons, List.map_nil]); first | done | rfl | (simp only [List.length_drop, List.length_take]; rfl)) ?_
                                    with_reducible refine (sigillumlaw03_Make.calls a1_0 a1_1 a1_2 a1_3 t146 t147 t148 t149 _ A7.out).mono ?_
                                    rintro e w28 ⟨rfl, hb⟩
                                    refine ⟨_, rfl, ?_⟩
                                    have n0_ := Aside0.mk (blk_below (g := gb139) (o := .cells #[.int .u64 a0_0, .int .u32 a0_1, .int .u8 a0_2, .int .u64 a0_3] 25 (0, 0)) (by (with_reducible repeat (first | refine blk_drewN ?_ _ | refine blk_drew ?_ | refine blk_alloc ?_ _)); exact BK139.out) hb)
                                    have n1_ := Aside0.mk (blk_below (g := gb140) (o := .cells #[.int .u64 a1_0, .int .u32 a1_1, .int .u8 a1_2, .int .u64 a1_3] 25 (0, 0)) (by (with_reducible repeat (first | refine blk_drewN ?_ _ | refine blk_drew ?_ | refine blk_alloc ?_ _)); exact BK140.out) hb)
                                    have n2_ := Aside0.mk (below_step (by repeat (first | (with_reducible first | exact HB.out | apply below_alloc | apply pw_below_drewN | apply below_drew1 | refine below_set ?_ GE139.out | refine below_set ?_ GE140.out) | exact HB.out)) hb)
                                    clear BK139
                                    clear BK140
                                    clear HB
                                    have BK139 := n0_
                                    have BK140 := n1_
                                    have HB := n2_
                                    clear n0_ n1_ n2_
                                    (try clear hb)
                                    (try clear hb2)
                                    (try clear hk)
                                    (try clear hi)
                                    refine hK.out _ _ ⟨(blk_cell BK139.out 0).trans rfl, (blk_cell BK139.out 1).trans rfl, (blk_cell BK139.out 2).trans rfl, (blk_cell BK139.out 3).trans rfl, (blk_cell BK140.out 0).trans rfl, (blk_cell BK140.out 1).trans rfl, (blk_cell BK140.out 2).trans rfl, (blk_cell BK140.out 3).trans rfl⟩ (fun hHeld => ?_)
                                    clear hK K
                                    refine norm_ (a' := ?_) ?_ ?_
                                    rotate_left
                                    · show Act.put _ (some 17) _ = _
                                      simp only [Act.put, List.setIfInBounds_toArray, List.set_cons_zero, List.set_cons_succ, i64_w, i32_w]
                                      rfl
                                    exact norm_ (by first | (simp only [putAll, Act.put, List.setIfInBounds_toArray, List.set_cons_zero, List.set_cons_succ]; done) | (simp only [putAll, Act.put, List.setIfInBounds_toArray, List.set_cons_zero, List.set_cons_succ]; rfl)) (hJ1_3 () _ ⟨hHeld, (by (with_reducible repeat (first | refine blk_drewN ?_ _ | refine blk_drew ?_ | refine blk_alloc ?_ _)); exact BK139.out), (by (with_reducible repeat (first | refine blk_drewN ?_ _ | refine blk_drew ?_ | refine blk_alloc ?_ _)); exact BK140.out), (by repeat (first | (with_reducible first | exact HB.out | apply below_alloc | apply pw_below_drewN | apply below_drew1 | refine below_set ?_ GE139.out | refine below_set ?_ GE140.out) | exact HB.out))⟩)
                                  · skip
                                    refine box_step ?hg (N := 7) ?hd (cs := #[.int .u64 0, .int .u32 0, .int .u8 0, .int .u64 0]) (t := 25) ?hr ?_; (case hd => rfl); (case hg => rfl); (case hr => first | (go_simp; done) | (go_simp; rfl))
                                    intro gb150 hg w28 hbox hb
                                    have n0_ := Aside0.mk (blk_below (g := gb139) (o := .cells #[.int .u64 a0_0, .int .u32 a0_1, .int .u8 a0_2, .int .u64 a0_3] 25 (0, 0)) (by (with_reducible repeat (first | refine blk_drewN ?_ _ | refine blk_drew ?_ | refine blk_alloc ?_ _)); exact BK139.out) hb)
                                    have n1_ := Aside0.mk (blk_below (g := gb140) (o := .cells #[.int .u64 a1_0, .int .u32 a1_1, .int .u8 a1_2, .int .u64 a1_3] 25 (0, 0)) (by (with_reducible repeat (first | refine blk_drewN ?_ _ | refine blk_drew ?_ | refine blk_alloc ?_ _)); exact BK140.out) hb)
                                    have n2_ := Aside0.mk (below_step (by repeat (first | (with_reducible first | exact HB.out | apply below_alloc | apply pw_below_drewN | apply below_drew1 | refine below_set ?_ GE139.out | refine below_set ?_ GE140.out) | exact HB.out)) hb)
                                    have n3_ := Aside0.mk (hbox)
                                    have n4_ := Aside0.mk ((by rw [hg]; exact (below_size (by repeat (first | (with_reducible first | exact HB.out | apply below_alloc | apply pw_below_drewN | apply below_drew1 | refine below_set ?_ GE139.out | refine below_set ?_ GE140.out) | exact HB.out))) : w.heap.size ≤ gb150))
                                    have n5_ := Aside0.mk ((by rw [hg]; exact (below_size (by repeat (first | (with_reducible first | exact HB.out | apply below_alloc | apply pw_below_drewN | apply below_drew1 | refine below_set ?_ GE139.out | refine below_set ?_ GE140.out) | exact HB.out))) : w.heap.size ≤ gb150))
                                    have n6_ := Aside0.mk ((by rw [hg]; exact Nat.ne_of_lt (blk_lt (g := gb139) (o := .cells #[.int .u64 a0_0, .int .u32 a0_1, .int .u8 a0_2, .int .u64 a0_3] 25 (0, 0)) (by (with_reducible repeat (first | refine blk_drewN ?_ _ | refine blk_drew ?_ | refine blk_alloc ?_ _)); exact BK139.out)) : gb139 ≠ gb150))
                                    have n7_ := Aside0.mk ((by rw [hg]; exact Nat.ne_of_gt (blk_lt (g := gb139) (o := .cells #[.int .u64 a0_0, .int .u32 a0_1, .int .u8 a0_2, .int .u64 a0_3] 25 (0, 0)) (by (with_reducible repeat (first | refine blk_drewN ?_ _ | refine blk_drew ?_ | refine blk_alloc ?_ _)); exact BK139.out)) : gb150 ≠ gb139))
                                    have n8_ := Aside0.mk ((by rw [hg]; exact Nat.ne_of_lt (blk_lt (g := gb140) (o := .cells #[.int .u64 a1_0, .int .u32 a1_1, .int .u8 a1_2, .int .u64 a1_3] 25 (0, 0)) (by (with_reducible repeat (first | refine blk_drewN ?_ _ | refine blk_drew ?_ | refine blk_alloc ?_ _)); exact BK140.out)) : gb140 ≠ gb150))
                                    have n9_ := Aside0.mk ((by rw [hg]; exact Nat.ne_of_gt (blk_lt (g := gb140) (o := .cells #[.int .u64 a1_0, .int .u32 a1_1, .int .u8 a1_2, .int .u64 a1_3] 25 (0, 0)) (by (with_reducible repeat (first | refine blk_drewN ?_ _ | refine blk_drew ?_ | refine blk_alloc ?_ _)); exact BK140.out)) : gb150 ≠ gb140))
                                    clear BK139
                                    clear BK140
                                    clear HB
                                    have BK139 := n0_
                                    have BK140 := n1_
                                    have HB := n2_
                                    have BK150 := n3_
                                    have GW150 := n4_
                                    have GE150 := n5_
                                    have NB139_150 := n6_
                                    have NB150_139 := n7_
                                    have NB140_150 := n8_
                                    have NB150_140 := n9_
                                    clear n0_ n1_ n2_ n3_ n4_ n5_ n6_ n7_ n8_ n9_
                                    clear hb hbox hg
                                    refine hK.out _ _ ⟨(blk_cell BK139.out 0).trans rfl, (blk_cell BK139.out 1).trans rfl, (blk_cell BK139.out 2).trans rfl, (blk_cell BK139.out 3).trans rfl, (blk_cell BK140.out 0).trans rfl, (blk_cell BK140.out 1).trans rfl, (blk_cell BK140.out 2).trans rfl, (blk_cell BK140.out 3).trans rfl⟩ (fun hHeld => ?_)
                                    clear hK K
                                    refine norm_ (a' := ?_) ?_ ?_
                                    rotate_left
                                    · show Act.put _ (some 7) _ = _
                                      simp only [Act.put, List.setIfInBounds_toArray, List.set_cons_zero, List.set_cons_succ, i64_w, i32_w]
                                      rfl
                                    exact norm_ (by first | (simp only [putAll, Act.put, List.setIfInBounds_toArray, List.set_cons_zero, List.set_cons_succ]; done) | (simp only [putAll, Act.put, List.setIfInBounds_toArray, List.set_cons_zero, List.set_cons_succ]; rfl)) (hJ1_4 (gb150) _ ⟨hHeld, (by (with_reducible repeat (first | refine blk_drewN ?_ _ | refine blk_drew ?_ | refine blk_alloc ?_ _)); exact BK139.out), (by (with_reducible repeat (first | refine blk_drewN ?_ _ | refine blk_drew ?_ | refine blk_alloc ?_ _)); exact BK140.out), (by (with_reducible repeat (first | refine blk_drewN ?_ _ | refine blk_drew ?_ | refine blk_alloc ?_ _)); exact BK150.out), GW150.out, GE150.out, NB139_150.out, NB150_139.out, NB140_150.out, NB150_140.out, (by repeat (first | (with_reducible first | exact HB.out | apply below_alloc | apply pw_below_drewN | apply below_drew1 | refine below_set ?_ GE139.out | refine below_set ?_ GE140.out | refine below_set ?_ GE150.out) | exact HB.out))⟩)
                                  · skip
                                    refine box_step ?hg (N := 8) ?hd (cs := #[.int .u64 0, .int .u32 0, .int .u8 0, .int .u64 0]) (t := 25) ?hr ?_; (case hd => rfl); (case hg => rfl); (case hr => first | (go_simp; done) | (go_simp; rfl))
                                    intro gb151 hg w28 hbox hb
                                    have n0_ := Aside0.mk (blk_below (g := gb139) (o := .cells #[.int .u64 a0_0, .int .u32 a0_1, .int .u8 a0_2, .int .u64 a0_3] 25 (0, 0)) (by (with_reducible repeat (first | refine blk_drewN ?_ _ | refine blk_drew ?_ | refine blk_alloc ?_ _)); exact BK139.out) hb)
                                    have n1_ := Aside0.mk (blk_below (g := gb140) (o := .cells #[.int .u64 a1_0, .int .u32 a1_1, .int .u8 a1_2, .int .u64 a1_3] 25 (0, 0)) (by (with_reducible repeat (first | refine blk_drewN ?_ _ | refine blk_drew ?_ | refine blk_alloc ?_ _)); exact BK140.out) hb)
                                    have n2_ := Aside0.mk (below_step (by repeat (first | (with_reducible first | exact HB.out | apply below_alloc | apply pw_below_drewN | apply below_drew1 | refine below_set ?_ GE139.out | refine below_set ?_ GE140.out) | exact HB.out)) hb)
                                    have n3_ := Aside0.mk (hbox)
                                    have n4_ := Aside0.mk ((by rw [hg]; exact (below_size (by repeat (first | (with_reducible first | exact HB.out | apply below_alloc | apply pw_below_drewN | apply below_drew1 | refine below_set ?_ GE139.out | refine below_set ?_ GE140.out) | exact HB.out))) : w.heap.size ≤ gb151))
                                    have n5_ := Aside0.mk ((by rw [hg]; exact (below_size (by repeat (first | (with_reducible first | exact HB.out | apply below_alloc | apply pw_below_drewN | apply below_drew1 | refine below_set ?_ GE139.out | refine below_set ?_ GE140.out) | exact HB.out))) : w.heap.size ≤ gb151))
                                    have n6_ := Aside0.mk ((by rw [hg]; exact Nat.ne_of_lt (blk_lt (g := gb139) (o := .cells #[.int .u64 a0_0, .int .u32 a0_1, .int .u8 a0_2, .int .u64 a0_3] 25 (0, 0)) (by (with_reducible repeat (first | refine blk_drewN ?_ _ | refine blk_drew ?_ | refine blk_alloc ?_ _)); exact BK139.out)) : gb139 ≠ gb151))
                                    have n7_ := Aside0.mk ((by rw [hg]; exact Nat.ne_of_gt (blk_lt (g := gb139) (o := .cells #[.int .u64 a0_0, .int .u32 a0_1, .int .u8 a0_2, .int .u64 a0_3] 25 (0, 0)) (by (with_reducible repeat (first | refine blk_drewN ?_ _ | refine blk_drew ?_ | refine blk_alloc ?_ _)); exact BK139.out)) : gb151 ≠ gb139))
                                    have n8_ := Aside0.mk ((by rw [hg]; exact Nat.ne_of_lt (blk_lt (g := gb140) (o := .cells #[.int .u64 a1_0, .int .u32 a1_1, .int .u8 a1_2, .int .u64 a1_3] 25 (0, 0)) (by (with_reducible repeat (first | refine blk_drewN ?_ _ | refine blk_drew ?_ | refine blk_alloc ?_ _)); exact BK140.out)) : gb140 ≠ gb151))
                                    have n9_ := Aside0.mk ((by rw [hg]; exact Nat.ne_of_gt (blk_lt (g := gb140) (o := .cells #[.int .u64 a1_0, .int .u32 a1_1, .int .u8 a1_2, .int .u64 a1_3] 25 (0, 0)) (by (with_reducible repeat (first | refine blk_drewN ?_ _ | refine blk_drew ?_ | refine blk_alloc ?_ _)); exact BK140.out)) : gb151 ≠ gb140))
                                    clear BK139
                                    clear BK140
                                    clear HB
                                    have BK139 := n0_
                                    have BK140 := n1_
                                    have HB := n2_
                                    have BK151 := n3_
                                    have GW151 := n4_
                                    have GE151 := n5_
                                    have NB139_151 := n6_
                                    have NB151_139 := n7_
                                    have NB140_151 := n8_
                                    have NB151_140 := n9_
                                    clear n0_ n1_ n2_ n3_ n4_ n5_ n6_ n7_ n8_ n9_
                                    clear hb hbox hg
                                    refine hK.out _ _ ⟨(blk_cell BK139.out 0).trans rfl, (blk_cell BK139.out 1).trans rfl, (blk_cell BK139.out 2).trans rfl, (blk_cell BK139.out 3).trans rfl, (blk_cell BK140.out 0).trans rfl, (blk_cell BK140.out 1).trans rfl, (blk_cell BK140.out 2).trans rfl, (blk_cell BK140.out 3).trans rfl⟩ (fun hHeld => ?_)
                                    clear hK K
                                    refine norm_ (a' := ?_) ?_ ?_
                                    rotate_left
                                    · show Act.put _ (some 8) _ = _
                                      simp only [Act.put, List.setIfInBounds_toArray, List.set_cons_zero, List.set_cons_succ, i64_w, i32_w]
                                      rfl
                                    exact norm_ (by first | (simp only [putAll, Act.put, List.setIfInBounds_toArray, List.set_cons_zero, List.set_cons_succ]; done) | (simp only [putAll, Act.put, List.setIfInBounds_toArray, List.set_cons_zero, List.set_cons_succ]; rfl)) (hJ1_5 (gb151) _ ⟨hHeld, (by (with_reducible repeat (first | refine blk_drewN ?_ _ | refine blk_drew ?_ | refine blk_alloc ?_ _)); exact BK139.out), (by (with_reducible repeat (first | refine blk_drewN ?_ _ | refine blk_drew ?_ | refine blk_alloc ?_ _)); exact BK140.out), (by (with_reducible repeat (first | refine blk_drewN ?_ _ | refine blk_drew ?_ | refine blk_alloc ?_ _)); exact BK151.out), GW151.out, GE151.out, NB139_151.out, NB151_139.out, NB140_151.out, NB151_140.out, (by repeat (first | (with_reducible first | exact HB.out | apply below_alloc | apply pw_below_drewN | apply below_drew1 | refine below_set ?_ GE139.out | refine below_set ?_ GE140.out | refine below_set ?_ GE151.out) | exact HB.out))⟩)
                              · skip
                                rintro ⟨gb150, gb151⟩ w28 ⟨hS_, h0_, h1_, h2_, h3_, h4_, h5_, h6_, h7_, h8_, h9_, h10_, h11_, h12_, h13_, h14_, h15_, h16_, h17_, h18_⟩
                                have n0_ : Aside0 (w28.heap[gb139]? = some (.cells #[.int .u64 a0_0, .int .u32 a0_1, .int .u8 a0_2, .int .u64 a0_3] 25 (0, 0))) := ⟨h0_⟩
                                have n1_ : Aside0 (w28.heap[gb140]? = some (.cells #[.int .u64 a1_0, .int .u32 a1_1, .int .u8 a1_2, .int .u64 a1_3] 25 (0, 0))) := ⟨h1_⟩
                                have n2_ : Aside0 (w28.heap[gb150]? = some (.cells #[.int .u64 0, .int .u32 0, .int .u8 0, .int .u64 0] 25 (0, 0))) := ⟨h2_⟩
                                have n3_ : Aside0 (w28.heap[gb151]? = some (.cells #[.int .u64 0, .int .u32 0, .int .u8 0, .int .u64 0] 25 (0, 0))) := ⟨h3_⟩
                                have n4_ : Aside0 (w.heap.size ≤ gb150) := ⟨h4_⟩
                                have n5_ : Aside0 (w.heap.size ≤ gb150) := ⟨h5_⟩
                                have n6_ : Aside0 (gb139 ≠ gb150) := ⟨h6_⟩
                                have n7_ : Aside0 (gb150 ≠ gb139) := ⟨h7_⟩
                                have n8_ : Aside0 (gb140 ≠ gb150) := ⟨h8_⟩
                                have n9_ : Aside0 (gb150 ≠ gb140) := ⟨h9_⟩
                                have n10_ : Aside0 (gb151 ≠ gb150) := ⟨h10_⟩
                                have n11_ : Aside0 (gb150 ≠ gb151) := ⟨h11_⟩
                                have n12_ : Aside0 (w.heap.size ≤ gb151) := ⟨h12_⟩
                                have n13_ : Aside0 (w.heap.size ≤ gb151) := ⟨h13_⟩
                                have n14_ : Aside0 (gb139 ≠ gb151) := ⟨h14_⟩
                                have n15_ : Aside0 (gb151 ≠ gb139) := ⟨h15_⟩
                                have n16_ : Aside0 (gb140 ≠ gb151) := ⟨h16_⟩
                                have n17_ : Aside0 (gb151 ≠ gb140) := ⟨h17_⟩
                                have n18_ : Aside0 (Below w.heap.size w w28) := ⟨h18_⟩
                                clear BK139
                                clear BK140
                                clear HB
                                clear h0_ h1_ h2_ h3_ h4_ h5_ h6_ h7_ h8_ h9_ h10_ h11_ h12_ h13_ h14_ h15_ h16_ h17_ h18_
                                have BK139 := n0_
                                have BK140 := n1_
                                have BK150 := n2_
                                have BK151 := n3_
                                have GW150 := n4_
                                have GE150 := n5_
                                have NB139_150 := n6_
                                have NB150_139 := n7_
                                have NB140_150 := n8_
                                have NB150_140 := n9_
                                have NB151_150 := n10_
                                have NB150_151 := n11_
                                have GW151 := n12_
                                have GE151 := n13_
                                have NB139_151 := n14_
                                have NB151_139 := n15_
                                have NB140_151 := n16_
                                have NB151_140 := n17_
                                have HB := n18_
                                clear n0_ n1_ n2_ n3_ n4_ n5_ n6_ n7_ n8_ n9_ n10_ n11_ n12_ n13_ n14_ n15_ n16_ n17_ n18_
                                have hHeld : w28.cell? ⟨gb139, 0, none⟩ = some (.int .u64 a0_0) ∧ w28.cell? ⟨gb139, 1, none⟩ = some (.int .u32 a0_1) ∧ w28.cell? ⟨gb139, 2, none⟩ = some (.int .u8 a0_2) ∧ w28.cell? ⟨gb139, 3, none⟩ = some (.int .u64 a0_3) ∧ w28.cell? ⟨gb140, 0, none⟩ = some (.int .u64 a1_0) ∧ w28.cell? ⟨gb140, 1, none⟩ = some (.int .u32 a1_1) ∧ w28.cell? ⟨gb140, 2, none⟩ = some (.int .u8 a1_2) ∧ w28.cell? ⟨gb140, 3, none⟩ = some (.int .u64 a1_3) := hS_
                                refine norm_ (a' := ?_) ?_ ?_
                                rotate_left
                                · simp only [putAll, Act.put, List.setIfInBounds_toArray, List.set_cons_zero, List.set_cons_succ]
                                  rfl
                                refine one_ (i := 1) (N := some 15) #[true, true, true, false, true, true, false, false] rfl rfl (one_of HT_.out (by kernel_rfl)) (by decide) (fun K hK => ?_)
                                refine goes_ Try.func9 (by kernel_rfl) rfl #[.agg #[.int .u64 a0_0, .int .u32 a0_1, .int .u8 a0_2, .int .u64 a0_3]] (by rfl) rfl rfl (by (try simp only [List.map_toArray, List.map_cons, List.map_nil]); first | done | rfl | (simp only [List.length_drop, List.length_take]; rfl)) ?_
                                with_reducible refine (sigillumlaw03_Make.calls a0_0 a0_1 a0_2 a0_3 t142 t143 t144 t145 _ A6.out).mono ?_
                                rintro e w29 ⟨rfl, hb⟩
                                refine ⟨_, rfl, ?_⟩
                                have n0_ := Aside0.mk (blk_below (g := gb139) (o := .cells #[.int .u64 a0_0, .int .u32 a0_1, .int .u8 a0_2, .int .u64 a0_3] 25 (0, 0)) (by (with_reducible repeat (first | refine blk_drewN ?_ _ | refine blk_drew ?_ | refine blk_alloc ?_ _)); exact BK139.out) hb)
                                have n1_ := Aside0.mk (blk_below (g := gb140) (o := .cells #[.int .u64 a1_0, .int .u32 a1_1, .int .u8 a1_2, .int .u64 a1_3] 25 (0, 0)) (by (with_reducible repeat (first | refine blk_drewN ?_ _ | refine blk_drew ?_ | refine blk_alloc ?_ _)); exact BK140.out) hb)
                                have n2_ := Aside0.mk (blk_below (g := gb150) (o := .cells #[.int .u64 0, .int .u32 0, .int .u8 0, .int .u64 0] 25 (0, 0)) (by (with_reducible repeat (first | refine blk_drewN ?_ _ | refine blk_drew ?_ | refine blk_alloc ?_ _)); exact BK150.out) hb)
                                have n3_ := Aside0.mk (blk_below (g := gb151) (o := .cells #[.int .u64 0, .int .u32 0, .int .u8 0, .int .u64 0] 25 (0, 0)) (by (with_reducible repeat (first | refine blk_drewN ?_ _ | refine blk_drew ?_ | refine blk_alloc ?_ _)); exact BK151.out) hb)
                                have n4_ := Aside0.mk (below_step (by repeat (first | (with_reducible first | exact HB.out | apply below_alloc | apply pw_below_drewN | apply below_drew1 | refine below_set ?_ GE139.out | refine below_set ?_ GE140.out | refine below_set ?_ GE150.out | refine below_set ?_ GE151.out) | exact HB.out)) hb)
                                clear BK139
                                clear BK140
                                clear BK150
                                clear BK151
                                clear HB
                                have BK139 := n0_
                                have BK140 := n1_
                                have BK150 := n2_
                                have BK151 := n3_
                                have HB := n4_
                                clear n0_ n1_ n2_ n3_ n4_
                                (try clear hb)
                                (try clear hb2)
                                (try clear hk)
                                (try clear hi)
                                refine hK.out _ _ ⟨(blk_cell BK139.out 0).trans rfl, (blk_cell BK139.out 1).trans rfl, (blk_cell BK139.out 2).trans rfl, (blk_cell BK139.out 3).trans rfl, (blk_cell BK140.out 0).trans rfl, (blk_cell BK140.out 1).trans rfl, (blk_cell BK140.out 2).trans rfl, (blk_cell BK140.out 3).trans rfl⟩ (fun hHeld => ?_)
                                clear hK K
                                refine norm_ (a' := ?_) ?_ ?_
                                rotate_left
                                · show Act.put _ (some 15) _ = _
                                  simp only [Act.put, List.setIfInBounds_toArray, List.set_cons_zero, List.set_cons_succ, i64_w, i32_w]
                                  rfl
                                exact norm_ (by first | (simp only [putAll, Act.put, List.setIfInBounds_toArray, List.set_cons_zero, List.set_cons_succ]; done) | (simp only [putAll, Act.put, List.setIfInBounds_toArray, List.set_cons_zero, List.set_cons_succ]; rfl)) (hJ1_4_5 (gb150, gb151) _ ⟨hHeld, (by (with_reducible repeat (first | refine blk_drewN ?_ _ | refine blk_drew ?_ | refine blk_alloc ?_ _)); exact BK139.out), (by (with_reducible repeat (first | refine blk_drewN ?_ _ | refine blk_drew ?_ | refine blk_alloc ?_ _)); exact BK140.out), (by (with_reducible repeat (first | refine blk_drewN ?_ _ | refine blk_drew ?_ | refine blk_alloc ?_ _)); exact BK150.out), (by (with_reducible repeat (first | refine blk_drewN ?_ _ | refine blk_drew ?_ | refine blk_alloc ?_ _)); exact BK151.out), GW150.out, GE150.out, NB139_150.out, NB150_139.out, NB140_150.out, NB150_140.out, NB151_150.out, NB150_151.out, GW151.out, GE151.out, NB139_151.out, NB151_139.out, NB140_151.out, NB151_140.out, (by repeat (first | (with_reducible first | exact HB.out | apply below_alloc | apply pw_below_drewN | apply below_drew1 | refine below_set ?_ GE139.out | refine below_set ?_ GE140.out | refine below_set ?_ GE150.out | refine below_set ?_ GE151.out) | exact HB.out))⟩)
                            · skip
                              rintro gb151 w28 ⟨hS_, h0_, h1_, h2_, h3_, h4_, h5_, h6_, h7_, h8_, h9_⟩
                              have n0_ : Aside0 (w28.heap[gb139]? = some (.cells #[.int .u64 a0_0, .int .u32 a0_1, .int .u8 a0_2, .int .u64 a0_3] 25 (0, 0))) := ⟨h0_⟩
                              have n1_ : Aside0 (w28.heap[gb140]? = some (.cells #[.int .u64 a1_0, .int .u32 a1_1, .int .u8 a1_2, .int .u64 a1_3] 25 (0, 0))) := ⟨h1_⟩
                              have n2_ : Aside0 (w28.heap[gb151]? = some (.cells #[.int .u64 0, .int .u32 0, .int .u8 0, .int .u64 0] 25 (0, 0))) := ⟨h2_⟩
                              have n3_ : Aside0 (w.heap.size ≤ gb151) := ⟨h3_⟩
                              have n4_ : Aside0 (w.heap.size ≤ gb151) := ⟨h4_⟩
                              have n5_ : Aside0 (gb139 ≠ gb151) := ⟨h5_⟩
                              have n6_ : Aside0 (gb151 ≠ gb139) := ⟨h6_⟩
                              have n7_ : Aside0 (gb140 ≠ gb151) := ⟨h7_⟩
                              have n8_ : Aside0 (gb151 ≠ gb140) := ⟨h8_⟩
                              have n9_ : Aside0 (Below w.heap.size w w28) := ⟨h9_⟩
                              clear BK139
                              clear BK140
                              clear HB
                              clear h0_ h1_ h2_ h3_ h4_ h5_ h6_ h7_ h8_ h9_
                              have BK139 := n0_
                              have BK140 := n1_
                              have BK151 := n2_
                              have GW151 := n3_
                              have GE151 := n4_
                              have NB139_151 := n5_
                              have NB151_139 := n6_
                              have NB140_151 := n7_
                              have NB151_140 := n8_
                              have HB := n9_
                              clear n0_ n1_ n2_ n3_ n4_ n5_ n6_ n7_ n8_ n9_
                              have hHeld : w28.cell? ⟨gb139, 0, none⟩ = some (.int .u64 a0_0) ∧ w28.cell? ⟨gb139, 1, none⟩ = some (.int .u32 a0_1) ∧ w28.cell? ⟨gb139, 2, none⟩ = some (.int .u8 a0_2) ∧ w28.cell? ⟨gb139, 3, none⟩ = some (.int .u64 a0_3) ∧ w28.cell? ⟨gb140, 0, none⟩ = some (.int .u64 a1_0) ∧ w28.cell? ⟨gb140, 1, none⟩ = some (.int .u32 a1_1) ∧ w28.cell? ⟨gb140, 2, none⟩ = some (.int .u8 a1_2) ∧ w28.cell? ⟨gb140, 3, none⟩ = some (.int .u64 a1_3) := hS_
                              refine norm_ (a' := ?_) ?_ ?_
                              rotate_left
                              · simp only [putAll, Act.put, List.setIfInBounds_toArray, List.set_cons_zero, List.set_cons_succ]
                                rfl
                              refine two_ (i := 3) (j := 4) (Ni := some 17) (Nj := some 7) #[true, true, true, true, false, true, false, false] #[true, true, true, false, true, true, false, false] rfl rfl rfl rfl (two_of HT_.out (by kernel_rfl)) (by decide) (by decide) (fun K hK => ?_) (fun K hK => ?_)
                              · skip
                                refine goes_ Try.func9 (by kernel_rfl) rfl #[.agg #[.int .u64 a1_0, .int .u32 a1_1, .int .u8 a1_2, .int .u64 a1_3]] (by rfl) rfl rfl (by (try simp only [List.map_toArray, List.map_cons, List.map_nil]); first | done | rfl | (simp only [List.length_drop, List.length_take]; rfl)) ?_
                                with_reducible refine (sigillumlaw03_Make.calls a1_0 a1_1 a1_2 a1_3 t146 t147 t148 t149 _ A7.out).mono ?_
                                rintro e w29 ⟨rfl, hb⟩
                                refine ⟨_, rfl, ?_⟩
                                have n0_ := Aside0.mk (blk_below (g := gb139) (o := .cells #[.int .u64 a0_0, .int .u32 a0_1, .int .u8 a0_2, .int .u64 a0_3] 25 (0, 0)) (by (with_reducible repeat (first | refine blk_drewN ?_ _ | refine blk_drew ?_ | refine blk_alloc ?_ _)); exact BK139.out) hb)
                                have n1_ := Aside0.mk (blk_below (g := gb140) (o := .cells #[.int .u64 a1_0, .int .u32 a1_1, .int .u8 a1_2, .int .u64 a1_3] 25 (0, 0)) (by (with_reducible repeat (first | refine blk_drewN ?_ _ | refine blk_drew ?_ | refine blk_alloc ?_ _)); exact BK140.out) hb)
                                have n2_ := Aside0.mk (blk_below (g := gb151) (o := .cells #[.int .u64 0, .int .u32 0, .int .u8 0, .int .u64 0] 25 (0, 0)) (by (with_reducible repeat (first | refine blk_drewN ?_ _ | refine blk_drew ?_ | refine blk_alloc ?_ _)); exact BK151.out) hb)
                                have n3_ := Aside0.mk (below_step (by repeat (first | (with_reducible first | exact HB.out | apply below_alloc | apply pw_below_drewN | apply below_drew1 | refine below_set ?_ GE139.out | refine below_set ?_ GE140.out | refine below_set ?_ GE151.out) | exact HB.out)) hb)
                                clear BK139
                                clear BK140
                                clear BK151
                                clear HB
                                have BK139 := n0_
                                have BK140 := n1_
                                have BK151 := n2_
                                have HB := n3_
                                clear n0_ n1_ n2_ n3_
                                (try clear hb)
                                (try clear hb2)
                                (try clear hk)
                                (try clear hi)
                                refine hK.out _ _ ⟨(blk_cell BK139.out 0).trans rfl, (blk_cell BK139.out 1).trans rfl, (blk_cell BK139.out 2).trans rfl, (blk_cell BK139.out 3).trans rfl, (blk_cell BK140.out 0).trans rfl, (blk_cell BK140.out 1).trans rfl, (blk_cell BK140.out 2).trans rfl, (blk_cell BK140.out 3).trans rfl⟩ (fun hHeld => ?_)
                                clear hK K
                                refine norm_ (a' := ?_) ?_ ?_
                                rotate_left
                                · show Act.put _ (some 17) _ = _
                                  simp only [Act.put, List.setIfInBounds_toArray, List.set_cons_zero, List.set_cons_succ, i64_w, i32_w]
                                  rfl
                                exact norm_ (by first | (simp only [putAll, Act.put, List.setIfInBounds_toArray, List.set_cons_zero, List.set_cons_succ]; done) | (simp only [putAll, Act.put, List.setIfInBounds_toArray, List.set_cons_zero, List.set_cons_succ]; rfl)) (hJ1_3_5 (gb151) _ ⟨hHeld, (by (with_reducible repeat (first | refine blk_drewN ?_ _ | refine blk_drew ?_ | refine blk_alloc ?_ _)); exact BK139.out), (by (with_reducible repeat (first | refine blk_drewN ?_ _ | refine blk_drew ?_ | refine blk_alloc ?_ _)); exact BK140.out), (by (with_reducible repeat (first | refine blk_drewN ?_ _ | refine blk_drew ?_ | refine blk_alloc ?_ _)); exact BK151.out), GW151.out, GE151.out, NB139_151.out, NB151_139.out, NB140_151.out, NB151_140.out, (by repeat (first | (with_reducible first | exact HB.out | apply below_alloc | apply pw_below_drewN | apply below_drew1 | refine below_set ?_ GE139.out | refine below_set ?_ GE140.out | refine below_set ?_ GE151.out) | exact HB.out))⟩)
                              · skip
                                refine box_step ?hg (N := 7) ?hd (cs := #[.int .u64 0, .int .u32 0, .int .u8 0, .int .u64 0]) (t := 25) ?hr ?_; (case hd => rfl); (case hg => rfl); (case hr => first | (go_simp; done) | (go_simp; rfl))
                                intro gb150 hg w29 hbox hb
                                have n0_ := Aside0.mk (blk_below (g := gb139) (o := .cells #[.int .u64 a0_0, .int .u32 a0_1, .int .u8 a0_2, .int .u64 a0_3] 25 (0, 0)) (by (with_reducible repeat (first | refine blk_drewN ?_ _ | refine blk_drew ?_ | refine blk_alloc ?_ _)); exact BK139.out) hb)
                                have n1_ := Aside0.mk (blk_below (g := gb140) (o := .cells #[.int .u64 a1_0, .int .u32 a1_1, .int .u8 a1_2, .int .u64 a1_3] 25 (0, 0)) (by (with_reducible repeat (first | refine blk_drewN ?_ _ | refine blk_drew ?_ | refine blk_alloc ?_ _)); exact BK140.out) hb)
                                have n2_ := Aside0.mk (blk_below (g := gb151) (o := .cells #[.int .u64 0, .int .u32 0, .int .u8 0, .int .u64 0] 25 (0, 0)) (by (with_reducible repeat (first | refine blk_drewN ?_ _ | refine blk_drew ?_ | refine blk_alloc ?_ _)); exact BK151.out) hb)
                                have n3_ := Aside0.mk (below_step (by repeat (first | (with_reducible first | exact HB.out | apply below_alloc | apply pw_below_drewN | apply below_drew1 | refine below_set ?_ GE139.out | refine below_set ?_ GE140.out | refine below_set ?_ GE151.out) | exact HB.out)) hb)
                                have n4_ := Aside0.mk (hbox)
                                have n5_ := Aside0.mk ((by rw [hg]; exact (below_size (by repeat (first | (with_reducible first | exact HB.out | apply below_alloc | apply pw_below_drewN | apply below_drew1 | refine below_set ?_ GE139.out | refine below_set ?_ GE140.out | refine below_set ?_ GE151.out) | exact HB.out))) : w.heap.size ≤ gb150))
                                have n6_ := Aside0.mk ((by rw [hg]; exact (below_size (by repeat (first | (with_reducible first | exact HB.out | apply below_alloc | apply pw_below_drewN | apply below_drew1 | refine below_set ?_ GE139.out | refine below_set ?_ GE140.out | refine below_set ?_ GE151.out) | exact HB.out))) : w.heap.size ≤ gb150))
                                have n7_ := Aside0.mk ((by rw [hg]; exact Nat.ne_of_lt (blk_lt (g := gb139) (o := .cells #[.int .u64 a0_0, .int .u32 a0_1, .int .u8 a0_2, .int .u64 a0_3] 25 (0, 0)) (by (with_reducible repeat (first | refine blk_drewN ?_ _ | refine blk_drew ?_ | refine blk_alloc ?_ _)); exact BK139.out)) : gb139 ≠ gb150))
                                have n8_ := Aside0.mk ((by rw [hg]; exact Nat.ne_of_gt (blk_lt (g := gb139) (o := .cells #[.int .u64 a0_0, .int .u32 a0_1, .int .u8 a0_2, .int .u64 a0_3] 25 (0, 0)) (by (with_reducible repeat (first | refine blk_drewN ?_ _ | refine blk_drew ?_ | refine blk_alloc ?_ _)); exact BK139.out)) : gb150 ≠ gb139))
                                have n9_ := Aside0.mk ((by rw [hg]; exact Nat.ne_of_lt (blk_lt (g := gb140) (o := .cells #[.int .u64 a1_0, .int .u32 a1_1, .int .u8 a1_2, .int .u64 a1_3] 25 (0, 0)) (by (with_reducible repeat (first | refine blk_drewN ?_ _ | refine blk_drew ?_ | refine blk_alloc ?_ _)); exact BK140.out)) : gb140 ≠ gb150))
                                have n10_ := Aside0.mk ((by rw [hg]; exact Nat.ne_of_gt (blk_lt (g := gb140) (o := .cells #[.int .u64 a1_0, .int .u32 a1_1, .int .u8 a1_2, .int .u64 a1_3] 25 (0, 0)) (by (with_reducible repeat (first | refine blk_drewN ?_ _ | refine blk_drew ?_ | refine blk_alloc ?_ _)); exact BK140.out)) : gb150 ≠ gb140))
                                have n11_ := Aside0.mk ((by rw [hg]; exact Nat.ne_of_lt (blk_lt (g := gb151) (o := .cells #[.int .u64 0, .int .u32 0, .int .u8 0, .int .u64 0] 25 (0, 0)) (by (with_reducible repeat (first | refine blk_drewN ?_ _ | refine blk_drew ?_ | refine blk_alloc ?_ _)); exact BK151.out)) : gb151 ≠ gb150))
                                have n12_ := Aside0.mk ((by rw [hg]; exact Nat.ne_of_gt (blk_lt (g := gb151) (o := .cells #[.int .u64 0, .int .u32 0, .int .u8 0, .int .u64 0] 25 (0, 0)) (by (with_reducible repeat (first | refine blk_drewN ?_ _ | refine blk_drew ?_ | refine blk_alloc ?_ _)); exact BK151.out)) : gb150 ≠ gb151))
                                clear BK139
                                clear BK140
                                clear BK151
                                clear HB
                                have BK139 := n0_
                                have BK140 := n1_
                                have BK151 := n2_
                                have HB := n3_
                                have BK150 := n4_
                                have GW150 := n5_
                                have GE150 := n6_
                                have NB139_150 := n7_
                                have NB150_139 := n8_
                                have NB140_150 := n9_
                                have NB150_140 := n10_
                                have NB151_150 := n11_
                                have NB150_151 := n12_
                                clear n0_ n1_ n2_ n3_ n4_ n5_ n6_ n7_ n8_ n9_ n10_ n11_ n12_
                                clear hb hbox hg
                                refine hK.out _ _ ⟨(blk_cell BK139.out 0).trans rfl, (blk_cell BK139.out 1).trans rfl, (blk_cell BK139.out 2).trans rfl, (blk_cell BK139.out 3).trans rfl, (blk_cell BK140.out 0).trans rfl, (blk_cell BK140.out 1).trans rfl, (blk_cell BK140.out 2).trans rfl, (blk_cell BK140.out 3).trans rfl⟩ (fun hHeld => ?_)
                                clear hK K
                                refine norm_ (a' := ?_) ?_ ?_
                                rotate_left
                                · show Act.put _ (some 7) _ = _
                                  simp only [Act.put, List.setIfInBounds_toArray, List.set_cons_zero, List.set_cons_succ, i64_w, i32_w]
                                  rfl
                                exact norm_ (by first | (simp only [putAll, Act.put, List.setIfInBounds_toArray, List.set_cons_zero, List.set_cons_succ]; done) | (simp only [putAll, Act.put, List.setIfInBounds_toArray, List.set_cons_zero, List.set_cons_succ]; rfl)) (hJ1_4_5 (gb150, gb151) _ ⟨hHeld, (by (with_reducible repeat (first | refine blk_drewN ?_ _ | refine blk_drew ?_ | refine blk_alloc ?_ _)); exact BK139.out), (by (with_reducible repeat (first | refine blk_drewN ?_ _ | refine blk_drew ?_ | refine blk_alloc ?_ _)); exact BK140.out), (by (with_reducible repeat (first | refine blk_drewN ?_ _ | refine blk_drew ?_ | refine blk_alloc ?_ _)); exact BK150.out), (by (with_reducible repeat (first | refine blk_drewN ?_ _ | refine blk_drew ?_ | refine blk_alloc ?_ _)); exact BK151.out), GW150.out, GE150.out, NB139_150.out, NB150_139.out, NB140_150.out, NB150_140.out, NB151_150.out, NB150_151.out, GW151.out, GE151.out, NB139_151.out, NB151_139.out, NB140_151.out, NB151_140.out, (by repeat (first | (with_reducible first | exact HB.out | apply below_alloc | apply pw_below_drewN | apply below_drew1 | refine below_set ?_ GE139.out | refine below_set ?_ GE140.out | refine below_set ?_ GE151.out | refine below_set ?_ GE150.out) | exact HB.out))⟩)
                          · skip
                            rintro gb150 w28 ⟨hS_, h0_, h1_, h2_, h3_, h4_, h5_, h6_, h7_, h8_, h9_⟩
                            have n0_ : Aside0 (w28.heap[gb139]? = some (.cells #[.int .u64 a0_0, .int .u32 a0_1, .int .u8 a0_2, .int .u64 a0_3] 25 (0, 0))) := ⟨h0_⟩
                            have n1_ : Aside0 (w28.heap[gb140]? = some (.cells #[.int .u64 a1_0, .int .u32 a1_1, .int .u8 a1_2, .int .u64 a1_3] 25 (0, 0))) := ⟨h1_⟩
                            have n2_ : Aside0 (w28.heap[gb150]? = some (.cells #[.int .u64 0, .int .u32 0, .int .u8 0, .int .u64 0] 25 (0, 0))) := ⟨h2_⟩
                            have n3_ : Aside0 (w.heap.size ≤ gb150) := ⟨h3_⟩
                            have n4_ : Aside0 (w.heap.size ≤ gb150) := ⟨h4_⟩
                            have n5_ : Aside0 (gb139 ≠ gb150) := ⟨h5_⟩
                            have n6_ : Aside0 (gb150 ≠ gb139) := ⟨h6_⟩
                            have n7_ : Aside0 (gb140 ≠ gb150) := ⟨h7_⟩
                            have n8_ : Aside0 (gb150 ≠ gb140) := ⟨h8_⟩
                            have n9_ : Aside0 (Below w.heap.size w w28) := ⟨h9_⟩
                            clear BK139
                            clear BK140
                            clear HB
                            clear h0_ h1_ h2_ h3_ h4_ h5_ h6_ h7_ h8_ h9_
                            have BK139 := n0_
                            have BK140 := n1_
                            have BK150 := n2_
                            have GW150 := n3_
                            have GE150 := n4_
                            have NB139_150 := n5_
                            have NB150_139 := n6_
                            have NB140_150 := n7_
                            have NB150_140 := n8_
                            have HB := n9_
                            clear n0_ n1_ n2_ n3_ n4_ n5_ n6_ n7_ n8_ n9_
                            have hHeld : w28.cell? ⟨gb139, 0, none⟩ = some (.int .u64 a0_0) ∧ w28.cell? ⟨gb139, 1, none⟩ = some (.int .u32 a0_1) ∧ w28.cell? ⟨gb139, 2, none⟩ = some (.int .u8 a0_2) ∧ w28.cell? ⟨gb139, 3, none⟩ = some (.int .u64 a0_3) ∧ w28.cell? ⟨gb140, 0, none⟩ = some (.int .u64 a1_0) ∧ w28.cell? ⟨gb140, 1, none⟩ = some (.int .u32 a1_1) ∧ w28.cell? ⟨gb140, 2, none⟩ = some (.int .u8 a1_2) ∧ w28.cell? ⟨gb140, 3, none⟩ = some (.int .u64 a1_3) := hS_
                            refine norm_ (a' := ?_) ?_ ?_
                            rotate_left
                            · simp only [putAll, Act.put, List.setIfInBounds_toArray, List.set_cons_zero, List.set_cons_succ]
                              rfl
                            refine two_ (i := 3) (j := 5) (Ni := some 17) (Nj := some 8) #[true, true, true, true, true, false, false, false] #[true, true, true, false, true, true, false, false] rfl rfl rfl rfl (two_of HT_.out (by kernel_rfl)) (by decide) (by decide) (fun K hK => ?_) (fun K hK => ?_)
                            · skip
                              refine goes_ Try.func9 (by kernel_rfl) rfl #[.agg #[.int .u64 a1_0, .int .u32 a1_1, .int .u8 a1_2, .int .u64 a1_3]] (by rfl) rfl rfl (by (try simp only [List.map_toArray, List.map_cons, List.map_nil]); first | done | rfl | (simp only [List.length_drop, List.length_take]; rfl)) ?_
                              with_reducible refine (sigillumlaw03_Make.calls a1_0 a1_1 a1_2 a1_3 t146 t147 t148 t149 _ A7.out).mono ?_
                              rintro e w29 ⟨rfl, hb⟩
                              refine ⟨_, rfl, ?_⟩
                              have n0_ := Aside0.mk (blk_below (g := gb139) (o := .cells #[.int .u64 a0_0, .int .u32 a0_1, .int .u8 a0_2, .int .u64 a0_3] 25 (0, 0)) (by (with_reducible repeat (first | refine blk_drewN ?_ _ | refine blk_drew ?_ | refine blk_alloc ?_ _)); exact BK139.out) hb)
                              have n1_ := Aside0.mk (blk_below (g := gb140) (o := .cells #[.int .u64 a1_0, .int .u32 a1_1, .int .u8 a1_2, .int .u64 a1_3] 25 (0, 0)) (by (with_reducible repeat (first | refine blk_drewN ?_ _ | refine blk_drew ?_ | refine blk_alloc ?_ _)); exact BK140.out) hb)
                              have n2_ := Aside0.mk (blk_below (g := gb150) (o := .cells #[.int .u64 0, .int .u32 0, .int .u8 0, .int .u64 0] 25 (0, 0)) (by (with_reducible repeat (first | refine blk_drewN ?_ _ | refine blk_drew ?_ | refine blk_alloc ?_ _)); exact BK150.out) hb)
                              have n3_ := Aside0.mk (below_step (by repeat (first | (with_reducible first | exact HB.out | apply below_alloc | apply pw_below_drewN | apply below_drew1 | refine below_set ?_ GE139.out | refine below_set ?_ GE140.out | refine below_set ?_ GE150.out) | exact HB.out)) hb)
                              clear BK139
                              clear BK140
                              clear BK150
                              clear HB
                              have BK139 := n0_
                              have BK140 := n1_
                              have BK150 := n2_
                              have HB := n3_
                              clear n0_ n1_ n2_ n3_
                              (try clear hb)
                              (try clear hb2)
                              (try clear hk)
                              (try clear hi)
                              refine hK.out _ _ ⟨(blk_cell BK139.out 0).trans rfl, (blk_cell BK139.out 1).trans rfl, (blk_cell BK139.out 2).trans rfl, (blk_cell BK139.out 3).trans rfl, (blk_cell BK140.out 0).trans rfl, (blk_cell BK140.out 1).trans rfl, (blk_cell BK140.out 2).trans rfl, (blk_cell BK140.out 3).trans rfl⟩ (fun hHeld => ?_)
                              clear hK K
                              refine norm_ (a' := ?_) ?_ ?_
                              rotate_left
                              · show Act.put _ (some 17) _ = _
                                simp only [Act.put, List.setIfInBounds_toArray, List.set_cons_zero, List.set_cons_succ, i64_w, i32_w]
                                rfl
                              exact norm_ (by first | (simp only [putAll, Act.put, List.setIfInBounds_toArray, List.set_cons_zero, List.set_cons_succ]; done) | (simp only [putAll, Act.put, List.setIfInBounds_toArray, List.set_cons_zero, List.set_cons_succ]; rfl)) (hJ1_3_4 (gb150) _ ⟨hHeld, (by (with_reducible repeat (first | refine blk_drewN ?_ _ | refine blk_drew ?_ | refine blk_alloc ?_ _)); exact BK139.out), (by (with_reducible repeat (first | refine blk_drewN ?_ _ | refine blk_drew ?_ | refine blk_alloc ?_ _)); exact BK140.out), (by (with_reducible repeat (first | refine blk_drewN ?_ _ | refine blk_drew ?_ | refine blk_alloc ?_ _)); exact BK150.out), GW150.out, GE150.out, NB139_150.out, NB150_139.out, NB140_150.out, NB150_140.out, (by repeat (first | (with_reducible first | exact HB.out | apply below_alloc | apply pw_below_drewN | apply below_drew1 | refine below_set ?_ GE139.out | refine below_set ?_ GE140.out | refine below_set ?_ GE150.out) | exact HB.out))⟩)
                            · skip
                              refine box_step ?hg (N := 8) ?hd (cs := #[.int .u64 0, .int .u32 0, .int .u8 0, .int .u64 0]) (t := 25) ?hr ?_; (case hd => rfl); (case hg => rfl); (case hr => first | (go_simp; done) | (go_simp; rfl))
                              intro gb151 hg w29 hbox hb
                              have n0_ := Aside0.mk (blk_below (g := gb139) (o := .cells #[.int .u64 a0_0, .int .u32 a0_1, .int .u8 a0_2, .int .u64 a0_3] 25 (0, 0)) (by (with_reducible repeat (first | refine blk_drewN ?_ _ | refine blk_drew ?_ | refine blk_alloc ?_ _)); exact BK139.out) hb)
                              have n1_ := Aside0.mk (blk_below (g := gb140) (o := .cells #[.int .u64 a1_0, .int .u32 a1_1, .int .u8 a1_2, .int .u64 a1_3] 25 (0, 0)) (by (with_reducible repeat (first | refine blk_drewN ?_ _ | refine blk_drew ?_ | refine blk_alloc ?_ _)); exact BK140.out) hb)
                              have n2_ := Aside0.mk (blk_below (g := gb150) (o := .cells #[.int .u64 0, .int .u32 0, .int .u8 0, .int .u64 0] 25 (0, 0)) (by (with_reducible repeat (first | refine blk_drewN ?_ _ | refine blk_drew ?_ | refine blk_alloc ?_ _)); exact BK150.out) hb)
                              have n3_ := Aside0.mk (below_step (by repeat (first | (with_reducible first | exact HB.out | apply below_alloc | apply pw_below_drewN | apply below_drew1 | refine below_set ?_ GE139.out | refine below_set ?_ GE140.out | refine below_set ?_ GE150.out) | exact HB.out)) hb)
                              have n4_ := Aside0.mk (hbox)
                              have n5_ := Aside0.mk ((by rw [hg]; exact (below_size (by repeat (first | (with_reducible first | exact HB.out | apply below_alloc | apply pw_below_drewN | apply below_drew1 | refine below_set ?_ GE139.out | refine below_set ?_ GE140.out | refine below_set ?_ GE150.out) | exact HB.out))) : w.heap.size ≤ gb151))
                              have n6_ := Aside0.mk ((by rw [hg]; exact (below_size (by repeat (first | (with_reducible first | exact HB.out | apply below_alloc | apply pw_below_drewN | apply below_drew1 | refine below_set ?_ GE139.out | refine below_set ?_ GE140.out | refine below_set ?_ GE150.out) | exact HB.out))) : w.heap.size ≤ gb151))
                              have n7_ := Aside0.mk ((by rw [hg]; exact Nat.ne_of_lt (blk_lt (g := gb139) (o := .cells #[.int .u64 a0_0, .int .u32 a0_1, .int .u8 a0_2, .int .u64 a0_3] 25 (0, 0)) (by (with_reducible repeat (first | refine blk_drewN ?_ _ | refine blk_drew ?_ | refine blk_alloc ?_ _)); exact BK139.out)) : gb139 ≠ gb151))
                              have n8_ := Aside0.mk ((by rw [hg]; exact Nat.ne_of_gt (blk_lt (g := gb139) (o := .cells #[.int .u64 a0_0, .int .u32 a0_1, .int .u8 a0_2, .int .u64 a0_3] 25 (0, 0)) (by (with_reducible repeat (first | refine blk_drewN ?_ _ | refine blk_drew ?_ | refine blk_alloc ?_ _)); exact BK139.out)) : gb151 ≠ gb139))
                              have n9_ := Aside0.mk ((by rw [hg]; exact Nat.ne_of_lt (blk_lt (g := gb140) (o := .cells #[.int .u64 a1_0, .int .u32 a1_1, .int .u8 a1_2, .int .u64 a1_3] 25 (0, 0)) (by (with_reducible repeat (first | refine blk_drewN ?_ _ | refine blk_drew ?_ | refine blk_alloc ?_ _)); exact BK140.out)) : gb140 ≠ gb151))
                              have n10_ := Aside0.mk ((by rw [hg]; exact Nat.ne_of_gt (blk_lt (g := gb140) (o := .cells #[.int .u64 a1_0, .int .u32 a1_1, .int .u8 a1_2, .int .u64 a1_3] 25 (0, 0)) (by (with_reducible repeat (first | refine blk_drewN ?_ _ | refine blk_drew ?_ | refine blk_alloc ?_ _)); exact BK140.out)) : gb151 ≠ gb140))
                              have n11_ := Aside0.mk ((by rw [hg]; exact Nat.ne_of_lt (blk_lt (g := gb150) (o := .cells #[.int .u64 0, .int .u32 0, .int .u8 0, .int .u64 0] 25 (0, 0)) (by (with_reducible repeat (first | refine blk_drewN ?_ _ | refine blk_drew ?_ | refine blk_alloc ?_ _)); exact BK150.out)) : gb150 ≠ gb151))
                              have n12_ := Aside0.mk ((by rw [hg]; exact Nat.ne_of_gt (blk_lt (g := gb150) (o := .cells #[.int .u64 0, .int .u32 0, .int .u8 0, .int .u64 0] 25 (0, 0)) (by (with_reducible repeat (first | refine blk_drewN ?_ _ | refine blk_drew ?_ | refine blk_alloc ?_ _)); exact BK150.out)) : gb151 ≠ gb150))
                              clear BK139
                              clear BK140
                              clear BK150
                              clear HB
                              have BK139 := n0_
                              have BK140 := n1_
                              have BK150 := n2_
                              have HB := n3_
                              have BK151 := n4_
                              have GW151 := n5_
                              have GE151 := n6_
                              have NB139_151 := n7_
                              have NB151_139 := n8_
                              have NB140_151 := n9_
                              have NB151_140 := n10_
                              have NB150_151 := n11_
                              have NB151_150 := n12_
                              clear n0_ n1_ n2_ n3_ n4_ n5_ n6_ n7_ n8_ n9_ n10_ n11_ n12_
                              clear hb hbox hg
                              refine hK.out _ _ ⟨(blk_cell BK139.out 0).trans rfl, (blk_cell BK139.out 1).trans rfl, (blk_cell BK139.out 2).trans rfl, (blk_cell BK139.out 3).trans rfl, (blk_cell BK140.out 0).trans rfl, (blk_cell BK140.out 1).trans rfl, (blk_cell BK140.out 2).trans rfl, (blk_cell BK140.out 3).trans rfl⟩ (fun hHeld => ?_)
                              clear hK K
                              refine norm_ (a' := ?_) ?_ ?_
                              rotate_left
                              · show Act.put _ (some 8) _ = _
                                simp only [Act.put, List.setIfInBounds_toArray, List.set_cons_zero, List.set_cons_succ, i64_w, i32_w]
                                rfl
                              exact norm_ (by first | (simp only [putAll, Act.put, List.setIfInBounds_toArray, List.set_cons_zero, List.set_cons_succ]; done) | (simp only [putAll, Act.put, List.setIfInBounds_toArray, List.set_cons_zero, List.set_cons_succ]; rfl)) (hJ1_4_5 (gb150, gb151) _ ⟨hHeld, (by (with_reducible repeat (first | refine blk_drewN ?_ _ | refine blk_drew ?_ | refine blk_alloc ?_ _)); exact BK139.out), (by (with_reducible repeat (first | refine blk_drewN ?_ _ | refine blk_drew ?_ | refine blk_alloc ?_ _)); exact BK140.out), (by (with_reducible repeat (first | refine blk_drewN ?_ _ | refine blk_drew ?_ | refine blk_alloc ?_ _)); exact BK150.out), (by (with_reducible repeat (first | refine blk_drewN ?_ _ | refine blk_drew ?_ | refine blk_alloc ?_ _)); exact BK151.out), GW150.out, GE150.out, NB139_150.out, NB150_139.out, NB140_150.out, NB150_140.out, NB151_150.out, NB150_151.out, GW151.out, GE151.out, NB139_151.out, NB151_139.out, NB140_151.out, NB151_140.out, (by repeat (first | (with_reducible first | exact HB.out | apply below_alloc | apply pw_below_drewN | apply below_drew1 | refine below_set ?_ GE139.out | refine below_set ?_ GE140.out | refine below_set ?_ GE150.out | refine below_set ?_ GE151.out) | exact HB.out))⟩)
                        · skip
                          rintro _ w28 ⟨hS_, h0_, h1_, h2_⟩
                          have n0_ : Aside0 (w28.heap[gb139]? = some (.cells #[.int .u64 a0_0, .int .u32 a0_1, .int .u8 a0_2, .int .u64 a0_3] 25 (0, 0))) := ⟨h0_⟩
                          have n1_ : Aside0 (w28.heap[gb140]? = some (.cells #[.int .u64 a1_0, .int .u32 a1_1, .int .u8 a1_2, .int .u64 a1_3] 25 (0, 0))) := ⟨h1_⟩
                          have n2_ : Aside0 (Below w.heap.size w w28) := ⟨h2_⟩
                          clear BK139
                          clear BK140
                          clear HB
                          clear h0_ h1_ h2_
                          have BK139 := n0_
                          have BK140 := n1_
                          have HB := n2_
                          clear n0_ n1_ n2_
                          have hHeld : w28.cell? ⟨gb139, 0, none⟩ = some (.int .u64 a0_0) ∧ w28.cell? ⟨gb139, 1, none⟩ = some (.int .u32 a0_1) ∧ w28.cell? ⟨gb139, 2, none⟩ = some (.int .u8 a0_2) ∧ w28.cell? ⟨gb139, 3, none⟩ = some (.int .u64 a0_3) ∧ w28.cell? ⟨gb140, 0, none⟩ = some (.int .u64 a1_0) ∧ w28.cell? ⟨gb140, 1, none⟩ = some (.int .u32 a1_1) ∧ w28.cell? ⟨gb140, 2, none⟩ = some (.int .u8 a1_2) ∧ w28.cell? ⟨gb140, 3, none⟩ = some (.int .u64 a1_3) := hS_
                          refine norm_ (a' := ?_) ?_ ?_
                          rotate_left
                          · simp only [putAll, Act.put, List.setIfInBounds_toArray, List.set_cons_zero, List.set_cons_succ]
                            rfl
                          refine two_ (i := 4) (j := 5) (Ni := some 7) (Nj := some 8) #[true, true, true, true, true, false, false, false] #[true, true, true, true, false, true, false, false] rfl rfl rfl rfl (two_of HT_.out (by kernel_rfl)) (by decide) (by decide) (fun K hK => ?_) (fun K hK => ?_)
                          · skip
                            refine box_step ?hg (N := 7) ?hd (cs := #[.int .u64 0, .int .u32 0, .int .u8 0, .int .u64 0]) (t := 25) ?hr ?_; (case hd => rfl); (case hg => rfl); (case hr => first | (go_simp; done) | (go_simp; rfl))
                            intro gb150 hg w29 hbox hb
                            have n0_ := Aside0.mk (blk_below (g := gb139) (o := .cells #[.int .u64 a0_0, .int .u32 a0_1, .int .u8 a0_2, .int .u64 a0_3] 25 (0, 0)) (by (with_reducible repeat (first | refine blk_drewN ?_ _ | refine blk_drew ?_ | refine blk_alloc ?_ _)); exact BK139.out) hb)
                            have n1_ := Aside0.mk (blk_below (g := gb140) (o := .cells #[.int .u64 a1_0, .int .u32 a1_1, .int .u8 a1_2, .int .u64 a1_3] 25 (0, 0)) (by (with_reducible repeat (first | refine blk_drewN ?_ _ | refine blk_drew ?_ | refine blk_alloc ?_ _)); exact BK140.out) hb)
                            have n2_ := Aside0.mk (below_step (by repeat (first | (with_reducible first | exact HB.out | apply below_alloc | apply pw_below_drewN | apply below_drew1 | refine below_set ?_ GE139.out | refine below_set ?_ GE140.out) | exact HB.out)) hb)
                            have n3_ := Aside0.mk (hbox)
                            have n4_ := Aside0.mk ((by rw [hg]; exact (below_size (by repeat (first | (with_reducible first | exact HB.out | apply below_alloc | apply pw_below_drewN | apply below_drew1 | refine below_set ?_ GE139.out | refine below_set ?_ GE140.out) | exact HB.out))) : w.heap.size ≤ gb150))
                            have n5_ := Aside0.mk ((by rw [hg]; exact (below_size (by repeat (first | (with_reducible first | exact HB.out | apply below_alloc | apply pw_below_drewN | apply below_drew1 | refine below_set ?_ GE139.out | refine below_set ?_ GE140.out) | exact HB.out))) : w.heap.size ≤ gb150))
                            have n6_ := Aside0.mk ((by rw [hg]; exact Nat.ne_of_lt (blk_lt (g := gb139) (o := .cells #[.int .u64 a0_0, .int .u32 a0_1, .int .u8 a0_2, .int .u64 a0_3] 25 (0, 0)) (by (with_reducible repeat (first | refine blk_drewN ?_ _ | refine blk_drew ?_ | refine blk_alloc ?_ _)); exact BK139.out)) : gb139 ≠ gb150))
                            have n7_ := Aside0.mk ((by rw [hg]; exact Nat.ne_of_gt (blk_lt (g := gb139) (o := .cells #[.int .u64 a0_0, .int .u32 a0_1, .int .u8 a0_2, .int .u64 a0_3] 25 (0, 0)) (by (with_reducible repeat (first | refine blk_drewN ?_ _ | refine blk_drew ?_ | refine blk_alloc ?_ _)); exact BK139.out)) : gb150 ≠ gb139))
                            have n8_ := Aside0.mk ((by rw [hg]; exact Nat.ne_of_lt (blk_lt (g := gb140) (o := .cells #[.int .u64 a1_0, .int .u32 a1_1, .int .u8 a1_2, .int .u64 a1_3] 25 (0, 0)) (by (with_reducible repeat (first | refine blk_drewN ?_ _ | refine blk_drew ?_ | refine blk_alloc ?_ _)); exact BK140.out)) : gb140 ≠ gb150))
                            have n9_ := Aside0.mk ((by rw [hg]; exact Nat.ne_of_gt (blk_lt (g := gb140) (o := .cells #[.int .u64 a1_0, .int .u32 a1_1, .int .u8 a1_2, .int .u64 a1_3] 25 (0, 0)) (by (with_reducible repeat (first | refine blk_drewN ?_ _ | refine blk_drew ?_ | refine blk_alloc ?_ _)); exact BK140.out)) : gb150 ≠ gb140))
                            clear BK139
                            clear BK140
                            clear HB
                            have BK139 := n0_
                            have BK140 := n1_
                            have HB := n2_
                            have BK150 := n3_
                            have GW150 := n4_
                            have GE150 := n5_
                            have NB139_150 := n6_
                            have NB150_139 := n7_
                            have NB140_150 := n8_
                            have NB150_140 := n9_
                            clear n0_ n1_ n2_ n3_ n4_ n5_ n6_ n7_ n8_ n9_
                            clear hb hbox hg
                            refine hK.out _ _ ⟨(blk_cell BK139.out 0).trans rfl, (blk_cell BK139.out 1).trans rfl, (blk_cell BK139.out 2).trans rfl, (blk_cell BK139.out 3).trans rfl, (blk_cell BK140.out 0).trans rfl, (blk_cell BK140.out 1).trans rfl, (blk_cell BK140.out 2).trans rfl, (blk_cell BK140.out 3).trans rfl⟩ (fun hHeld => ?_)
                            clear hK K
                            refine norm_ (a' := ?_) ?_ ?_
                            rotate_left
                            · show Act.put _ (some 7) _ = _
                              simp only [Act.put, List.setIfInBounds_toArray, List.set_cons_zero, List.set_cons_succ, i64_w, i32_w]
                              rfl
                            exact norm_ (by first | (simp only [putAll, Act.put, List.setIfInBounds_toArray, List.set_cons_zero, List.set_cons_succ]; done) | (simp only [putAll, Act.put, List.setIfInBounds_toArray, List.set_cons_zero, List.set_cons_succ]; rfl)) (hJ1_3_4 (gb150) _ ⟨hHeld, (by (with_reducible repeat (first | refine blk_drewN ?_ _ | refine blk_drew ?_ | refine blk_alloc ?_ _)); exact BK139.out), (by (with_reducible repeat (first | refine blk_drewN ?_ _ | refine blk_drew ?_ | refine blk_alloc ?_ _)); exact BK140.out), (by (with_reducible repeat (first | refine blk_drewN ?_ _ | refine blk_drew ?_ | refine blk_alloc ?_ _)); exact BK150.out), GW150.out, GE150.out, NB139_150.out, NB150_139.out, NB140_150.out, NB150_140.out, (by repeat (first | (with_reducible first | exact HB.out | apply below_alloc | apply pw_below_drewN | apply below_drew1 | refine below_set ?_ GE139.out | refine below_set ?_ GE140.out | refine below_set ?_ GE150.out) | exact HB.out))⟩)
                          · skip
                            refine box_step ?hg (N := 8) ?hd (cs := #[.int .u64 0, .int .u32 0, .int .u8 0, .int .u64 0]) (t := 25) ?hr ?_; (case hd => rfl); (case hg => rfl); (case hr => first | (go_simp; done) | (go_simp; rfl))
                            intro gb151 hg w29 hbox hb
                            have n0_ := Aside0.mk (blk_below (g := gb139) (o := .cells #[.int .u64 a0_0, .int .u32 a0_1, .int .u8 a0_2, .int .u64 a0_3] 25 (0, 0)) (by (with_reducible repeat (first | refine blk_drewN ?_ _ | refine blk_drew ?_ | refine blk_alloc ?_ _)); exact BK139.out) hb)
                            have n1_ := Aside0.mk (blk_below (g := gb140) (o := .cells #[.int .u64 a1_0, .int .u32 a1_1, .int .u8 a1_2, .int .u64 a1_3] 25 (0, 0)) (by (with_reducible repeat (first | refine blk_drewN ?_ _ | refine blk_drew ?_ | refine blk_alloc ?_ _)); exact BK140.out) hb)
                            have n2_ := Aside0.mk (below_step (by repeat (first | (with_reducible first | exact HB.out | apply below_alloc | apply pw_below_drewN | apply below_drew1 | refine below_set ?_ GE139.out | refine below_set ?_ GE140.out) | exact HB.out)) hb)
                            have n3_ := Aside0.mk (hbox)
                            have n4_ := Aside0.mk ((by rw [hg]; exact (below_size (by repeat (first | (with_reducible first | exact HB.out | apply below_alloc | apply pw_below_drewN | apply below_drew1 | refine below_set ?_ GE139.out | refine below_set ?_ GE140.out) | exact HB.out))) : w.heap.size ≤ gb151))
                            have n5_ := Aside0.mk ((by rw [hg]; exact (below_size (by repeat (first | (with_reducible first | exact HB.out | apply below_alloc | apply pw_below_drewN | apply below_drew1 | refine below_set ?_ GE139.out | refine below_set ?_ GE140.out) | exact HB.out))) : w.heap.size ≤ gb151))
                            have n6_ := Aside0.mk ((by rw [hg]; exact Nat.ne_of_lt (blk_lt (g := gb139) (o := .cells #[.int .u64 a0_0, .int .u32 a0_1, .int .u8 a0_2, .int .u64 a0_3] 25 (0, 0)) (by (with_reducible repeat (first | refine blk_drewN ?_ _ | refine blk_drew ?_ | refine blk_alloc ?_ _)); exact BK139.out)) : gb139 ≠ gb151))
                            have n7_ := Aside0.mk ((by rw [hg]; exact Nat.ne_of_gt (blk_lt (g := gb139) (o := .cells #[.int .u64 a0_0, .int .u32 a0_1, .int .u8 a0_2, .int .u64 a0_3] 25 (0, 0)) (by (with_reducible repeat (first | refine blk_drewN ?_ _ | refine blk_drew ?_ | refine blk_alloc ?_ _)); exact BK139.out)) : gb151 ≠ gb139))
                            have n8_ := Aside0.mk ((by rw [hg]; exact Nat.ne_of_lt (blk_lt (g := gb140) (o := .cells #[.int .u64 a1_0, .int .u32 a1_1, .int .u8 a1_2, .int .u64 a1_3] 25 (0, 0)) (by (with_reducible repeat (first | refine blk_drewN ?_ _ | refine blk_drew ?_ | refine blk_alloc ?_ _)); exact BK140.out)) : gb140 ≠ gb151))
                            have n9_ := Aside0.mk ((by rw [hg]; exact Nat.ne_of_gt (blk_lt (g := gb140) (o := .cells #[.int .u64 a1_0, .int .u32 a1_1, .int .u8 a1_2, .int .u64 a1_3] 25 (0, 0)) (by (with_reducible repeat (first | refine blk_drewN ?_ _ | refine blk_drew ?_ | refine blk_alloc ?_ _)); exact BK140.out)) : gb151 ≠ gb140))
                            clear BK139
                            clear BK140
                            clear HB
                            have BK139 := n0_
                            have BK140 := n1_
                            have HB := n2_
                            have BK151 := n3_
                            have GW151 := n4_
                            have GE151 := n5_
                            have NB139_151 := n6_
                            have NB151_139 := n7_
                            have NB140_151 := n8_
                            have NB151_140 := n9_
                            clear n0_ n1_ n2_ n3_ n4_ n5_ n6_ n7_ n8_ n9_
                            clear hb hbox hg
                            refine hK.out _ _ ⟨(blk_cell BK139.out 0).trans rfl, (blk_cell BK139.out 1).trans rfl, (blk_cell BK139.out 2).trans rfl, (blk_cell BK139.out 3).trans rfl, (blk_cell BK140.out 0).trans rfl, (blk_cell BK140.out 1).trans rfl, (blk_cell BK140.out 2).trans rfl, (blk_cell BK140.out 3).trans rfl⟩ (fun hHeld => ?_)
                            clear hK K
                            refine norm_ (a' := ?_) ?_ ?_
                            rotate_left
                            · show Act.put _ (some 8) _ = _
                              simp only [Act.put, List.setIfInBounds_toArray, List.set_cons_zero, List.set_cons_succ, i64_w, i32_w]
                              rfl
                            exact norm_ (by first | (simp only [putAll, Act.put, List.setIfInBounds_toArray, List.set_cons_zero, List.set_cons_succ]; done) | (simp only [putAll, Act.put, List.setIfInBounds_toArray, List.set_cons_zero, List.set_cons_succ]; rfl)) (hJ1_3_5 (gb151) _ ⟨hHeld, (by (with_reducible repeat (first | refine blk_drewN ?_ _ | refine blk_drew ?_ | refine blk_alloc ?_ _)); exact BK139.out), (by (with_reducible repeat (first | refine blk_drewN ?_ _ | refine blk_drew ?_ | refine blk_alloc ?_ _)); exact BK140.out), (by (with_reducible repeat (first | refine blk_drewN ?_ _ | refine blk_drew ?_ | refine blk_alloc ?_ _)); exact BK151.out), GW151.out, GE151.out, NB139_151.out, NB151_139.out, NB140_151.out, NB151_140.out, (by repeat (first | (with_reducible first | exact HB.out | apply below_alloc | apply pw_below_drewN | apply below_drew1 | refine below_set ?_ GE139.out | refine below_set ?_ GE140.out | refine below_set ?_ GE151.out) | exact HB.out))⟩)
                      · skip
                        rintro ⟨gb150, gb151⟩ w29 ⟨hS_, h0_, h1_, h2_, h3_, h4_, h5_, h6_, h7_, h8_, h9_, h10_, h11_, h12_, h13_, h14_, h15_, h16_, h17_, h18_⟩
                        have n0_ : Aside0 (w29.heap[gb139]? = some (.cells #[.int .u64 a0_0, .int .u32 a0_1, .int .u8 a0_2, .int .u64 a0_3] 25 (0, 0))) := ⟨h0_⟩
                        have n1_ : Aside0 (w29.heap[gb140]? = some (.cells #[.int .u64 a1_0, .int .u32 a1_1, .int .u8 a1_2, .int .u64 a1_3] 25 (0, 0))) := ⟨h1_⟩
                        have n2_ : Aside0 (w29.heap[gb150]? = some (.cells #[.int .u64 0, .int .u32 0, .int .u8 0, .int .u64 0] 25 (0, 0))) := ⟨h2_⟩
                        have n3_ : Aside0 (w29.heap[gb151]? = some (.cells #[.int .u64 0, .int .u32 0, .int .u8 0, .int .u64 0] 25 (0, 0))) := ⟨h3_⟩
                        have n4_ : Aside0 (w.heap.size ≤ gb150) := ⟨h4_⟩
                        have n5_ : Aside0 (w.heap.size ≤ gb150) := ⟨h5_⟩
                        have n6_ : Aside0 (gb139 ≠ gb150) := ⟨h6_⟩
                        have n7_ : Aside0 (gb150 ≠ gb139) := ⟨h7_⟩
                        have n8_ : Aside0 (gb140 ≠ gb150) := ⟨h8_⟩
                        have n9_ : Aside0 (gb150 ≠ gb140) := ⟨h9_⟩
                        have n10_ : Aside0 (gb151 ≠ gb150) := ⟨h10_⟩
                        have n11_ : Aside0 (gb150 ≠ gb151) := ⟨h11_⟩
                        have n12_ : Aside0 (w.heap.size ≤ gb151) := ⟨h12_⟩
                        have n13_ : Aside0 (w.heap.size ≤ gb151) := ⟨h13_⟩
                        have n14_ : Aside0 (gb139 ≠ gb151) := ⟨h14_⟩
                        have n15_ : Aside0 (gb151 ≠ gb139) := ⟨h15_⟩
                        have n16_ : Aside0 (gb140 ≠ gb151) := ⟨h16_⟩
                        have n17_ : Aside0 (gb151 ≠ gb140) := ⟨h17_⟩
                        have n18_ : Aside0 (Below w.heap.size w w29) := ⟨h18_⟩
                        clear BK139
                        clear BK140
                        clear HB
                        clear h0_ h1_ h2_ h3_ h4_ h5_ h6_ h7_ h8_ h9_ h10_ h11_ h12_ h13_ h14_ h15_ h16_ h17_ h18_
                        have BK139 := n0_
                        have BK140 := n1_
                        have BK150 := n2_
                        have BK151 := n3_
                        have GW150 := n4_
                        have GE150 := n5_
                        have NB139_150 := n6_
                        have NB150_139 := n7_
                        have NB140_150 := n8_
                        have NB150_140 := n9_
                        have NB151_150 := n10_
                        have NB150_151 := n11_
                        have GW151 := n12_
                        have GE151 := n13_
                        have NB139_151 := n14_
                        have NB151_139 := n15_
                        have NB140_151 := n16_
                        have NB151_140 := n17_
                        have HB := n18_
                        clear n0_ n1_ n2_ n3_ n4_ n5_ n6_ n7_ n8_ n9_ n10_ n11_ n12_ n13_ n14_ n15_ n16_ n17_ n18_
                        have hHeld : w29.cell? ⟨gb139, 0, none⟩ = some (.int .u64 a0_0) ∧ w29.cell? ⟨gb139, 1, none⟩ = some (.int .u32 a0_1) ∧ w29.cell? ⟨gb139, 2, none⟩ = some (.int .u8 a0_2) ∧ w29.cell? ⟨gb139, 3, none⟩ = some (.int .u64 a0_3) ∧ w29.cell? ⟨gb140, 0, none⟩ = some (.int .u64 a1_0) ∧ w29.cell? ⟨gb140, 1, none⟩ = some (.int .u32 a1_1) ∧ w29.cell? ⟨gb140, 2, none⟩ = some (.int .u8 a1_2) ∧ w29.cell? ⟨gb140, 3, none⟩ = some (.int .u64 a1_3) := hS_
                        refine norm_ (a' := ?_) ?_ ?_
                        rotate_left
                        · simp only [putAll, Act.put, List.setIfInBounds_toArray, List.set_cons_zero, List.set_cons_succ]
                          rfl
                        refine one_ (i := 3) (N := some 17) #[true, true, true, true, true, true, false, false] rfl rfl (one_of HT_.out (by kernel_rfl)) (by decide) (fun K hK => ?_)
                        refine goes_ Try.func9 (by kernel_rfl) rfl #[.agg #[.int .u64 a1_0, .int .u32 a1_1, .int .u8 a1_2, .int .u64 a1_3]] (by rfl) rfl rfl (by (try simp only [List.map_toArray, List.map_cons, List.map_nil]); first | done | rfl | (simp only [List.length_drop, List.length_take]; rfl)) ?_
                        with_reducible refine (sigillumlaw03_Make.calls a1_0 a1_1 a1_2 a1_3 t146 t147 t148 t149 _ A7.out).mono ?_
                        rintro e w30 ⟨rfl, hb⟩
                        refine ⟨_, rfl, ?_⟩
                        have n0_ := Aside0.mk (blk_below (g := gb139) (o := .cells #[.int .u64 a0_0, .int .u32 a0_1, .int .u8 a0_2, .int .u64 a0_3] 25 (0, 0)) (by (with_reducible repeat (first | refine blk_drewN ?_ _ | refine blk_drew ?_ | refine blk_alloc ?_ _)); exact BK139.out) hb)
                        have n1_ := Aside0.mk (blk_below (g := gb140) (o := .cells #[.int .u64 a1_0, .int .u32 a1_1, .int .u8 a1_2, .int .u64 a1_3] 25 (0, 0)) (by (with_reducible repeat (first | refine blk_drewN ?_ _ | refine blk_drew ?_ | refine blk_alloc ?_ _)); exact BK140.out) hb)
                        have n2_ := Aside0.mk (blk_below (g := gb150) (o := .cells #[.int .u64 0, .int .u32 0, .int .u8 0, .int .u64 0] 25 (0, 0)) (by (with_reducible repeat (first | refine blk_drewN ?_ _ | refine blk_drew ?_ | refine blk_alloc ?_ _)); exact BK150.out) hb)
                        have n3_ := Aside0.mk (blk_below (g := gb151) (o := .cells #[.int .u64 0, .int .u32 0, .int .u8 0, .int .u64 0] 25 (0, 0)) (by (with_reducible repeat (first | refine blk_drewN ?_ _ | refine blk_drew ?_ | refine blk_alloc ?_ _)); exact BK151.out) hb)
                        have n4_ := Aside0.mk (below_step (by repeat (first | (with_reducible first | exact HB.out | apply below_alloc | apply pw_below_drewN | apply below_drew1 | refine below_set ?_ GE139.out | refine below_set ?_ GE140.out | refine below_set ?_ GE150.out | refine below_set ?_ GE151.out) | exact HB.out)) hb)
                        clear BK139
                        clear BK140
                        clear BK150
                        clear BK151
                        clear HB
                        have BK139 := n0_
                        have BK140 := n1_
                        have BK150 := n2_
                        have BK151 := n3_
                        have HB := n4_
                        clear n0_ n1_ n2_ n3_ n4_
                        (try clear hb)
                        (try clear hb2)
                        (try clear hk)
                        (try clear hi)
                        refine hK.out _ _ ⟨(blk_cell BK139.out 0).trans rfl, (blk_cell BK139.out 1).trans rfl, (blk_cell BK139.out 2).trans rfl, (blk_cell BK139.out 3).trans rfl, (blk_cell BK140.out 0).trans rfl, (blk_cell BK140.out 1).trans rfl, (blk_cell BK140.out 2).trans rfl, (blk_cell BK140.out 3).trans rfl⟩ (fun hHeld => ?_)
                        clear hK K
                        refine norm_ (a' := ?_) ?_ ?_
                        rotate_left
                        · show Act.put _ (some 17) _ = _
                          simp only [Act.put, List.setIfInBounds_toArray, List.set_cons_zero, List.set_cons_succ, i64_w, i32_w]
                          rfl
                        exact norm_ (by first | (simp only [putAll, Act.put, List.setIfInBounds_toArray, List.set_cons_zero, List.set_cons_succ]; done) | (simp only [putAll, Act.put, List.setIfInBounds_toArray, List.set_cons_zero, List.set_cons_succ]; rfl)) (hJ1_3_4_5 (gb150, gb151) _ ⟨hHeld, (by (with_reducible repeat (first | refine blk_drewN ?_ _ | refine blk_drew ?_ | refine blk_alloc ?_ _)); exact BK139.out), (by (with_reducible repeat (first | refine blk_drewN ?_ _ | refine blk_drew ?_ | refine blk_alloc ?_ _)); exact BK140.out), (by (with_reducible repeat (first | refine blk_drewN ?_ _ | refine blk_drew ?_ | refine blk_alloc ?_ _)); exact BK150.out), (by (with_reducible repeat (first | refine blk_drewN ?_ _ | refine blk_drew ?_ | refine blk_alloc ?_ _)); exact BK151.out), GW150.out, GE150.out, NB139_150.out, NB150_139.out, NB140_150.out, NB150_140.out, NB151_150.out, NB150_151.out, GW151.out, GE151.out, NB139_151.out, NB151_139.out, NB140_151.out, NB151_140.out, (by repeat (first | (with_reducible first | exact HB.out | apply below_alloc | apply pw_below_drewN | apply below_drew1 | refine below_set ?_ GE139.out | refine below_set ?_ GE140.out | refine below_set ?_ GE150.out | refine below_set ?_ GE151.out) | exact HB.out))⟩)
                    · skip
                      rintro gb151 w29 ⟨hS_, h0_, h1_, h2_, h3_, h4_, h5_, h6_, h7_, h8_, h9_⟩
                      have n0_ : Aside0 (w29.heap[gb139]? = some (.cells #[.int .u64 a0_0, .int .u32 a0_1, .int .u8 a0_2, .int .u64 a0_3] 25 (0, 0))) := ⟨h0_⟩
                      have n1_ : Aside0 (w29.heap[gb140]? = some (.cells #[.int .u64 a1_0, .int .u32 a1_1, .int .u8 a1_2, .int .u64 a1_3] 25 (0, 0))) := ⟨h1_⟩
                      have n2_ : Aside0 (w29.heap[gb151]? = some (.cells #[.int .u64 0, .int .u32 0, .int .u8 0, .int .u64 0] 25 (0, 0))) := ⟨h2_⟩
                      have n3_ : Aside0 (w.heap.size ≤ gb151) := ⟨h3_⟩
                      have n4_ : Aside0 (w.heap.size ≤ gb151) := ⟨h4_⟩
                      have n5_ : Aside0 (gb139 ≠ gb151) := ⟨h5_⟩
                      have n6_ : Aside0 (gb151 ≠ gb139) := ⟨h6_⟩
                      have n7_ : Aside0 (gb140 ≠ gb151) := ⟨h7_⟩
                      have n8_ : Aside0 (gb151 ≠ gb140) := ⟨h8_⟩
                      have n9_ : Aside0 (Below w.heap.size w w29) := ⟨h9_⟩
                      clear BK139
                      clear BK140
                      clear HB
                      clear h0_ h1_ h2_ h3_ h4_ h5_ h6_ h7_ h8_ h9_
                      have BK139 := n0_
                      have BK140 := n1_
                      have BK151 := n2_
                      have GW151 := n3_
                      have GE151 := n4_
                      have NB139_151 := n5_
                      have NB151_139 := n6_
                      have NB140_151 := n7_
                      have NB151_140 := n8_
                      have HB := n9_
                      clear n0_ n1_ n2_ n3_ n4_ n5_ n6_ n7_ n8_ n9_
                      have hHeld : w29.cell? ⟨gb139, 0, none⟩ = some (.int .u64 a0_0) ∧ w29.cell? ⟨gb139, 1, none⟩ = some (.int .u32 a0_1) ∧ w29.cell? ⟨gb139, 2, none⟩ = some (.int .u8 a0_2) ∧ w29.cell? ⟨gb139, 3, none⟩ = some (.int .u64 a0_3) ∧ w29.cell? ⟨gb140, 0, none⟩ = some (.int .u64 a1_0) ∧ w29.cell? ⟨gb140, 1, none⟩ = some (.int .u32 a1_1) ∧ w29.cell? ⟨gb140, 2, none⟩ = some (.int .u8 a1_2) ∧ w29.cell? ⟨gb140, 3, none⟩ = some (.int .u64 a1_3) := hS_
                      refine norm_ (a' := ?_) ?_ ?_
                      rotate_left
                      · simp only [putAll, Act.put, List.setIfInBounds_toArray, List.set_cons_zero, List.set_cons_succ]
                        rfl
                      refine one_ (i := 4) (N := some 7) #[true, true, true, true, true, true, false, false] rfl rfl (one_of HT_.out (by kernel_rfl)) (by decide) (fun K hK => ?_)
                      refine box_step ?hg (N := 7) ?hd (cs := #[.int .u64 0, .int .u32 0, .int .u8 0, .int .u64 0]) (t := 25) ?hr ?_; (case hd => rfl); (case hg => rfl); (case hr => first | (go_simp; done) | (go_simp; rfl))
                      intro gb150 hg w30 hbox hb
                      have n0_ := Aside0.mk (blk_below (g := gb139) (o := .cells #[.int .u64 a0_0, .int .u32 a0_1, .int .u8 a0_2, .int .u64 a0_3] 25 (0, 0)) (by (with_reducible repeat (first | refine blk_drewN ?_ _ | refine blk_drew ?_ | refine blk_alloc ?_ _)); exact BK139.out) hb)
                      have n1_ := Aside0.mk (blk_below (g := gb140) (o := .cells #[.int .u64 a1_0, .int .u32 a1_1, .int .u8 a1_2, .int .u64 a1_3] 25 (0, 0)) (by (with_reducible repeat (first | refine blk_drewN ?_ _ | refine blk_drew ?_ | refine blk_alloc ?_ _)); exact BK140.out) hb)
                      have n2_ := Aside0.mk (blk_below (g := gb151) (o := .cells #[.int .u64 0, .int .u32 0, .int .u8 0, .int .u64 0] 25 (0, 0)) (by (with_reducible repeat (first | refine blk_drewN ?_ _ | refine blk_drew ?_ | refine blk_alloc ?_ _)); exact BK151.out) hb)
                      have n3_ := Aside0.mk (below_step (by repeat (first | (with_reducible first | exact HB.out | apply below_alloc | apply pw_below_drewN | apply below_drew1 | refine below_set ?_ GE139.out | refine below_set ?_ GE140.out | refine below_set ?_ GE151.out) | exact HB.out)) hb)
                      have n4_ := Aside0.mk (hbox)
                      have n5_ := Aside0.mk ((by rw [hg]; exact (below_size (by repeat (first | (with_reducible first | exact HB.out | apply below_alloc | apply pw_below_drewN | apply below_drew1 | refine below_set ?_ GE139.out | refine below_set ?_ GE140.out | refine below_set ?_ GE151.out) | exact HB.out))) : w.heap.size ≤ gb150))
                      have n6_ := Aside0.mk ((by rw [hg]; exact (below_size (by repeat (first | (with_reducible first | exact HB.out | apply below_alloc | apply pw_below_drewN | apply below_drew1 | refine below_set ?_ GE139.out | refine below_set ?_ GE140.out | refine below_set ?_ GE151.out) | exact HB.out))) : w.heap.size ≤ gb150))
                      have n7_ := Aside0.mk ((by rw [hg]; exact Nat.ne_of_lt (blk_lt (g := gb139) (o := .cells #[.int .u64 a0_0, .int .u32 a0_1, .int .u8 a0_2, .int .u64 a0_3] 25 (0, 0)) (by (with_reducible repeat (first | refine blk_drewN ?_ _ | refine blk_drew ?_ | refine blk_alloc ?_ _)); exact BK139.out)) : gb139 ≠ gb150))
                      have n8_ := Aside0.mk ((by rw [hg]; exact Nat.ne_of_gt (blk_lt (g := gb139) (o := .cells #[.int .u64 a0_0, .int .u32 a0_1, .int .u8 a0_2, .int .u64 a0_3] 25 (0, 0)) (by (with_reducible repeat (first | refine blk_drewN ?_ _ | refine blk_drew ?_ | refine blk_alloc ?_ _)); exact BK139.out)) : gb150 ≠ gb139))
                      have n9_ := Aside0.mk ((by rw [hg]; exact Nat.ne_of_lt (blk_lt (g := gb140) (o := .cells #[.int .u64 a1_0, .int .u32 a1_1, .int .u8 a1_2, .int .u64 a1_3] 25 (0, 0)) (by (with_reducible repeat (first | refine blk_drewN ?_ _ | refine blk_drew ?_ | refine blk_alloc ?_ _)); exact BK140.out)) : gb140 ≠ gb150))
                      have n10_ := Aside0.mk ((by rw [hg]; exact Nat.ne_of_gt (blk_lt (g := gb140) (o := .cells #[.int .u64 a1_0, .int .u32 a1_1, .int .u8 a1_2, .int .u64 a1_3] 25 (0, 0)) (by (with_reducible repeat (first | refine blk_drewN ?_ _ | refine blk_drew ?_ | refine blk_alloc ?_ _)); exact BK140.out)) : gb150 ≠ gb140))
                      have n11_ := Aside0.mk ((by rw [hg]; exact Nat.ne_of_lt (blk_lt (g := gb151) (o := .cells #[.int .u64 0, .int .u32 0, .int .u8 0, .int .u64 0] 25 (0, 0)) (by (with_reducible repeat (first | refine blk_drewN ?_ _ | refine blk_drew ?_ | refine blk_alloc ?_ _)); exact BK151.out)) : gb151 ≠ gb150))
                      have n12_ := Aside0.mk ((by rw [hg]; exact Nat.ne_of_gt (blk_lt (g := gb151) (o := .cells #[.int .u64 0, .int .u32 0, .int .u8 0, .int .u64 0] 25 (0, 0)) (by (with_reducible repeat (first | refine blk_drewN ?_ _ | refine blk_drew ?_ | refine blk_alloc ?_ _)); exact BK151.out)) : gb150 ≠ gb151))
                      clear BK139
                      clear BK140
                      clear BK151
                      clear HB
                      have BK139 := n0_
                      have BK140 := n1_
                      have BK151 := n2_
                      have HB := n3_
                      have BK150 := n4_
                      have GW150 := n5_
                      have GE150 := n6_
                      have NB139_150 := n7_
                      have NB150_139 := n8_
                      have NB140_150 := n9_
                      have NB150_140 := n10_
                      have NB151_150 := n11_
                      have NB150_151 := n12_
                      clear n0_ n1_ n2_ n3_ n4_ n5_ n6_ n7_ n8_ n9_ n10_ n11_ n12_
                      clear hb hbox hg
                      refine hK.out _ _ ⟨(blk_cell BK139.out 0).trans rfl, (blk_cell BK139.out 1).trans rfl, (blk_cell BK139.out 2).trans rfl, (blk_cell BK139.out 3).trans rfl, (blk_cell BK140.out 0).trans rfl, (blk_cell BK140.out 1).trans rfl, (blk_cell BK140.out 2).trans rfl, (blk_cell BK140.out 3).trans rfl⟩ (fun hHeld => ?_)
                      clear hK K
                      refine norm_ (a' := ?_) ?_ ?_
                      rotate_left
                      · show Act.put _ (some 7) _ = _
                        simp only [Act.put, List.setIfInBounds_toArray, List.set_cons_zero, List.set_cons_succ, i64_w, i32_w]
                        rfl
                      exact norm_ (by first | (simp only [putAll, Act.put, List.setIfInBounds_toArray, List.set_cons_zero, List.set_cons_succ]; done) | (simp only [putAll, Act.put, List.setIfInBounds_toArray, List.set_cons_zero, List.set_cons_succ]; rfl)) (hJ1_3_4_5 (gb150, gb151) _ ⟨hHeld, (by (with_reducible repeat (first | refine blk_drewN ?_ _ | refine blk_drew ?_ | refine blk_alloc ?_ _)); exact BK139.out), (by (with_reducible repeat (first | refine blk_drewN ?_ _ | refine blk_drew ?_ | refine blk_alloc ?_ _)); exact BK140.out), (by (with_reducible repeat (first | refine blk_drewN ?_ _ | refine blk_drew ?_ | refine blk_alloc ?_ _)); exact BK150.out), (by (with_reducible repeat (first | refine blk_drewN ?_ _ | refine blk_drew ?_ | refine blk_alloc ?_ _)); exact BK151.out), GW150.out, GE150.out, NB139_150.out, NB150_139.out, NB140_150.out, NB150_140.out, NB151_150.out, NB150_151.out, GW151.out, GE151.out, NB139_151.out, NB151_139.out, NB140_151.out, NB151_140.out, (by repeat (first | (with_reducible first | exact HB.out | apply below_alloc | apply pw_below_drewN | apply below_drew1 | refine below_set ?_ GE139.out | refine below_set ?_ GE140.out | refine below_set ?_ GE151.out | refine below_set ?_ GE150.out) | exact HB.out))⟩)
                  · skip
                    rintro gb150 w29 ⟨hS_, h0_, h1_, h2_, h3_, h4_, h5_, h6_, h7_, h8_, h9_⟩
                    have n0_ : Aside0 (w29.heap[gb139]? = some (.cells #[.int .u64 a0_0, .int .u32 a0_1, .int .u8 a0_2, .int .u64 a0_3] 25 (0, 0))) := ⟨h0_⟩
                    have n1_ : Aside0 (w29.heap[gb140]? = some (.cells #[.int .u64 a1_0, .int .u32 a1_1, .int .u8 a1_2, .int .u64 a1_3] 25 (0, 0))) := ⟨h1_⟩
                    have n2_ : Aside0 (w29.heap[gb150]? = some (.cells #[.int .u64 0, .int .u32 0, .int .u8 0, .int .u64 0] 25 (0, 0))) := ⟨h2_⟩
                    have n3_ : Aside0 (w.heap.size ≤ gb150) := ⟨h3_⟩
                    have n4_ : Aside0 (w.heap.size ≤ gb150) := ⟨h4_⟩
                    have n5_ : Aside0 (gb139 ≠ gb150) := ⟨h5_⟩
                    have n6_ : Aside0 (gb150 ≠ gb139) := ⟨h6_⟩
                    have n7_ : Aside0 (gb140 ≠ gb150) := ⟨h7_⟩
                    have n8_ : Aside0 (gb150 ≠ gb140) := ⟨h8_⟩
                    have n9_ : Aside0 (Below w.heap.size w w29) := ⟨h9_⟩
                    clear BK139
                    clear BK140
                    clear HB
                    clear h0_ h1_ h2_ h3_ h4_ h5_ h6_ h7_ h8_ h9_
                    have BK139 := n0_
                    have BK140 := n1_
                    have BK150 := n2_
                    have GW150 := n3_
                    have GE150 := n4_
                    have NB139_150 := n5_
                    have NB150_139 := n6_
                    have NB140_150 := n7_
                    have NB150_140 := n8_
                    have HB := n9_
                    clear n0_ n1_ n2_ n3_ n4_ n5_ n6_ n7_ n8_ n9_
                    have hHeld : w29.cell? ⟨gb139, 0, none⟩ = some (.int .u64 a0_0) ∧ w29.cell? ⟨gb139, 1, none⟩ = some (.int .u32 a0_1) ∧ w29.cell? ⟨gb139, 2, none⟩ = some (.int .u8 a0_2) ∧ w29.cell? ⟨gb139, 3, none⟩ = some (.int .u64 a0_3) ∧ w29.cell? ⟨gb140, 0, none⟩ = some (.int .u64 a1_0) ∧ w29.cell? ⟨gb140, 1, none⟩ = some (.int .u32 a1_1) ∧ w29.cell? ⟨gb140, 2, none⟩ = some (.int .u8 a1_2) ∧ w29.cell? ⟨gb140, 3, none⟩ = some (.int .u64 a1_3) := hS_
                    refine norm_ (a' := ?_) ?_ ?_
                    rotate_left
                    · simp only [putAll, Act.put, List.setIfInBounds_toArray, List.set_cons_zero, List.set_cons_succ]
                      rfl
                    refine one_ (i := 5) (N := some 8) #[true, true, true, true, true, true, false, false] rfl rfl (one_of HT_.out (by kernel_rfl)) (by decide) (fun K hK => ?_)
                    refine box_step ?hg (N := 8) ?hd (cs := #[.int .u64 0, .int .u32 0, .int .u8 0, .int .u64 0]) (t := 25) ?hr ?_; (case hd => rfl); (case hg => rfl); (case hr => first | (go_simp; done) | (go_simp; rfl))
                    intro gb151 hg w30 hbox hb
                    have n0_ := Aside0.mk (blk_below (g := gb139) (o := .cells #[.int .u64 a0_0, .int .u32 a0_1, .int .u8 a0_2, .int .u64 a0_3] 25 (0, 0)) (by (with_reducible repeat (first | refine blk_drewN ?_ _ | refine blk_drew ?_ | refine blk_alloc ?_ _)); exact BK139.out) hb)
                    have n1_ := Aside0.mk (blk_below (g := gb140) (o := .cells #[.int .u64 a1_0, .int .u32 a1_1, .int .u8 a1_2, .int .u64 a1_3] 25 (0, 0)) (by (with_reducible repeat (first | refine blk_drewN ?_ _ | refine blk_drew ?_ | refine blk_alloc ?_ _)); exact BK140.out) hb)
                    have n2_ := Aside0.mk (blk_below (g := gb150) (o := .cells #[.int .u64 0, .int .u32 0, .int .u8 0, .int .u64 0] 25 (0, 0)) (by (with_reducible repeat (first | refine blk_drewN ?_ _ | refine blk_drew ?_ | refine blk_alloc ?_ _)); exact BK150.out) hb)
                    have n3_ := Aside0.mk (below_step (by repeat (first | (with_reducible first | exact HB.out | apply below_alloc | apply pw_below_drewN | apply below_drew1 | refine below_set ?_ GE139.out | refine below_set ?_ GE140.out | refine below_set ?_ GE150.out) | exact HB.out)) hb)
                    have n4_ := Aside0.mk (hbox)
                    have n5_ := Aside0.mk ((by rw [hg]; exact (below_size (by repeat (first | (with_reducible first | exact HB.out | apply below_alloc | apply pw_below_drewN | apply below_drew1 | refine below_set ?_ GE139.out | refine below_set ?_ GE140.out | refine below_set ?_ GE150.out) | exact HB.out))) : w.heap.size ≤ gb151))
                    have n6_ := Aside0.mk ((by rw [hg]; exact (below_size (by repeat (first | (with_reducible first | exact HB.out | apply below_alloc | apply pw_below_drewN | apply below_drew1 | refine below_set ?_ GE139.out | refine below_set ?_ GE140.out | refine below_set ?_ GE150.out) | exact HB.out))) : w.heap.size ≤ gb151))
                    have n7_ := Aside0.mk ((by rw [hg]; exact Nat.ne_of_lt (blk_lt (g := gb139) (o := .cells #[.int .u64 a0_0, .int .u32 a0_1, .int .u8 a0_2, .int .u64 a0_3] 25 (0, 0)) (by (with_reducible repeat (first | refine blk_drewN ?_ _ | refine blk_drew ?_ | refine blk_alloc ?_ _)); exact BK139.out)) : gb139 ≠ gb151))
                    have n8_ := Aside0.mk ((by rw [hg]; exact Nat.ne_of_gt (blk_lt (g := gb139) (o := .cells #[.int .u64 a0_0, .int .u32 a0_1, .int .u8 a0_2, .int .u64 a0_3] 25 (0, 0)) (by (with_reducible repeat (first | refine blk_drewN ?_ _ | refine blk_drew ?_ | refine blk_alloc ?_ _)); exact BK139.out)) : gb151 ≠ gb139))
                    have n9_ := Aside0.mk ((by rw [hg]; exact Nat.ne_of_lt (blk_lt (g := gb140) (o := .cells #[.int .u64 a1_0, .int .u32 a1_1, .int .u8 a1_2, .int .u64 a1_3] 25 (0, 0)) (by (with_reducible repeat (first | refine blk_drewN ?_ _ | refine blk_drew ?_ | refine blk_alloc ?_ _)); exact BK140.out)) : gb140 ≠ gb151))
                    have n10_ := Aside0.mk ((by rw [hg]; exact Nat.ne_of_gt (blk_lt (g := gb140) (o := .cells #[.int .u64 a1_0, .int .u32 a1_1, .int .u8 a1_2, .int .u64 a1_3] 25 (0, 0)) (by (with_reducible repeat (first | refine blk_drewN ?_ _ | refine blk_drew ?_ | refine blk_alloc ?_ _)); exact BK140.out)) : gb151 ≠ gb140))
                    have n11_ := Aside0.mk ((by rw [hg]; exact Nat.ne_of_lt (blk_lt (g := gb150) (o := .cells #[.int .u64 0, .int .u32 0, .int .u8 0, .int .u64 0] 25 (0, 0)) (by (with_reducible repeat (first | refine blk_drewN ?_ _ | refine blk_drew ?_ | refine blk_alloc ?_ _)); exact BK150.out)) : gb150 ≠ gb151))
                    have n12_ := Aside0.mk ((by rw [hg]; exact Nat.ne_of_gt (blk_lt (g := gb150) (o := .cells #[.int .u64 0, .int .u32 0, .int .u8 0, .int .u64 0] 25 (0, 0)) (by (with_reducible repeat (first | refine blk_drewN ?_ _ | refine blk_drew ?_ | refine blk_alloc ?_ _)); exact BK150.out)) : gb151 ≠ gb150))
                    clear BK139
                    clear BK140
                    clear BK150
                    clear HB
                    have BK139 := n0_
                    have BK140 := n1_
                    have BK150 := n2_
                    have HB := n3_
                    have BK151 := n4_
                    have GW151 := n5_
                    have GE151 := n6_
                    have NB139_151 := n7_
                    have NB151_139 := n8_
                    have NB140_151 := n9_
                    have NB151_140 := n10_
                    have NB150_151 := n11_
                    have NB151_150 := n12_
                    clear n0_ n1_ n2_ n3_ n4_ n5_ n6_ n7_ n8_ n9_ n10_ n11_ n12_
                    clear hb hbox hg
                    refine hK.out _ _ ⟨(blk_cell BK139.out 0).trans rfl, (blk_cell BK139.out 1).trans rfl, (blk_cell BK139.out 2).trans rfl, (blk_cell BK139.out 3).trans rfl, (blk_cell BK140.out 0).trans rfl, (blk_cell BK140.out 1).trans rfl, (blk_cell BK140.out 2).trans rfl, (blk_cell BK140.out 3).trans rfl⟩ (fun hHeld => ?_)
                    clear hK K
                    refine norm_ (a' := ?_) ?_ ?_
                    rotate_left
                    · show Act.put _ (some 8) _ = _
                      simp only [Act.put, List.setIfInBounds_toArray, List.set_cons_zero, List.set_cons_succ, i64_w, i32_w]
                      rfl
                    exact norm_ (by first | (simp only [putAll, Act.put, List.setIfInBounds_toArray, List.set_cons_zero, List.set_cons_succ]; done) | (simp only [putAll, Act.put, List.setIfInBounds_toArray, List.set_cons_zero, List.set_cons_succ]; rfl)) (hJ1_3_4_5 (gb150, gb151) _ ⟨hHeld, (by (with_reducible repeat (first | refine blk_drewN ?_ _ | refine blk_drew ?_ | refine blk_alloc ?_ _)); exact BK139.out), (by (with_reducible repeat (first | refine blk_drewN ?_ _ | refine blk_drew ?_ | refine blk_alloc ?_ _)); exact BK140.out), (by (with_reducible repeat (first | refine blk_drewN ?_ _ | refine blk_drew ?_ | refine blk_alloc ?_ _)); exact BK150.out), (by (with_reducible repeat (first | refine blk_drewN ?_ _ | refine blk_drew ?_ | refine blk_alloc ?_ _)); exact BK151.out), GW150.out, GE150.out, NB139_150.out, NB150_139.out, NB140_150.out, NB150_140.out, NB151_150.out, NB150_151.out, GW151.out, GE151.out, NB139_151.out, NB151_139.out, NB140_151.out, NB151_140.out, (by repeat (first | (with_reducible first | exact HB.out | apply below_alloc | apply pw_below_drewN | apply below_drew1 | refine below_set ?_ GE139.out | refine below_set ?_ GE140.out | refine below_set ?_ GE150.out | refine below_set ?_ GE151.out) | exact HB.out))⟩)
                rintro ⟨gb150, gb151⟩ w30 ⟨hS_, h0_, h1_, h2_, h3_, h4_, h5_, h6_, h7_, h8_, h9_, h10_, h11_, h12_, h13_, h14_, h15_, h16_, h17_, h18_⟩
                have n0_ : Aside0 (w30.heap[gb139]? = some (.cells #[.int .u64 a0_0, .int .u32 a0_1, .int .u8 a0_2, .int .u64 a0_3] 25 (0, 0))) := ⟨h0_⟩
                have n1_ : Aside0 (w30.heap[gb140]? = some (.cells #[.int .u64 a1_0, .int .u32 a1_1, .int .u8 a1_2, .int .u64 a1_3] 25 (0, 0))) := ⟨h1_⟩
                have n2_ : Aside0 (w30.heap[gb150]? = some (.cells #[.int .u64 0, .int .u32 0, .int .u8 0, .int .u64 0] 25 (0, 0))) := ⟨h2_⟩
                have n3_ : Aside0 (w30.heap[gb151]? = some (.cells #[.int .u64 0, .int .u32 0, .int .u8 0, .int .u64 0] 25 (0, 0))) := ⟨h3_⟩
                have n4_ : Aside0 (w.heap.size ≤ gb150) := ⟨h4_⟩
                have n5_ : Aside0 (w.heap.size ≤ gb150) := ⟨h5_⟩
                have n6_ : Aside0 (gb139 ≠ gb150) := ⟨h6_⟩
                have n7_ : Aside0 (gb150 ≠ gb139) := ⟨h7_⟩
                have n8_ : Aside0 (gb140 ≠ gb150) := ⟨h8_⟩
                have n9_ : Aside0 (gb150 ≠ gb140) := ⟨h9_⟩
                have n10_ : Aside0 (gb151 ≠ gb150) := ⟨h10_⟩
                have n11_ : Aside0 (gb150 ≠ gb151) := ⟨h11_⟩
                have n12_ : Aside0 (w.heap.size ≤ gb151) := ⟨h12_⟩
                have n13_ : Aside0 (w.heap.size ≤ gb151) := ⟨h13_⟩
                have n14_ : Aside0 (gb139 ≠ gb151) := ⟨h14_⟩
                have n15_ : Aside0 (gb151 ≠ gb139) := ⟨h15_⟩
                have n16_ : Aside0 (gb140 ≠ gb151) := ⟨h16_⟩
                have n17_ : Aside0 (gb151 ≠ gb140) := ⟨h17_⟩
                have n18_ : Aside0 (Below w.heap.size w w30) := ⟨h18_⟩
                clear BK139
                clear BK140
                clear HB
                clear h0_ h1_ h2_ h3_ h4_ h5_ h6_ h7_ h8_ h9_ h10_ h11_ h12_ h13_ h14_ h15_ h16_ h17_ h18_
                have BK139 := n0_
                have BK140 := n1_
                have BK150 := n2_
                have BK151 := n3_
                have GW150 := n4_
                have GE150 := n5_
                have NB139_150 := n6_
                have NB150_139 := n7_
                have NB140_150 := n8_
                have NB150_140 := n9_
                have NB151_150 := n10_
                have NB150_151 := n11_
                have GW151 := n12_
                have GE151 := n13_
                have NB139_151 := n14_
                have NB151_139 := n15_
                have NB140_151 := n16_
                have NB151_140 := n17_
                have HB := n18_
                clear n0_ n1_ n2_ n3_ n4_ n5_ n6_ n7_ n8_ n9_ n10_ n11_ n12_ n13_ n14_ n15_ n16_ n17_ n18_
                have hHeld : w30.cell? ⟨gb139, 0, none⟩ = some (.int .u64 a0_0) ∧ w30.cell? ⟨gb139, 1, none⟩ = some (.int .u32 a0_1) ∧ w30.cell? ⟨gb139, 2, none⟩ = some (.int .u8 a0_2) ∧ w30.cell? ⟨gb139, 3, none⟩ = some (.int .u64 a0_3) ∧ w30.cell? ⟨gb140, 0, none⟩ = some (.int .u64 a1_0) ∧ w30.cell? ⟨gb140, 1, none⟩ = some (.int .u32 a1_1) ∧ w30.cell? ⟨gb140, 2, none⟩ = some (.int .u8 a1_2) ∧ w30.cell? ⟨gb140, 3, none⟩ = some (.int .u64 a1_3) := hS_
                refine norm_ (a' := ?_) ?_ ?_
                rotate_left
                · simp only [putAll, Act.put, List.setIfInBounds_toArray, List.set_cons_zero, List.set_cons_succ]
                  rfl
                refine one_ (i := 6) (N := none) #[true, true, true, true, true, true, true, false] rfl rfl (one_of HT_.out (by kernel_rfl)) (by decide) (fun K hK => ?_)
                have hs31 : w30.cell? ⟨gb150, 0, none⟩ = some (.int .u64 0) := (blk_cell BK150.out 0).trans rfl
                have hfs31 := blk_frozen BK150.out 0
                have hns31_0 := NB139_150.out
                have hns31_1 := NB140_150.out
                have hns31_3 := NB151_150.out
                have hms31_0 := NB150_139.out
                have hms31_1 := NB150_140.out
                have hms31_3 := NB150_151.out
                have hs32 : w30.cell? ⟨gb150, 1, none⟩ = some (.int .u32 0) := (blk_cell BK150.out 1).trans rfl
                have hfs32 := blk_frozen BK150.out 1
                have hns32_0 := NB139_150.out
                have hns32_1 := NB140_150.out
                have hns32_3 := NB151_150.out
                have hms32_0 := NB150_139.out
                have hms32_1 := NB150_140.out
                have hms32_3 := NB150_151.out
                have hs33 : w30.cell? ⟨gb150, 2, none⟩ = some (.int .u8 0) := (blk_cell BK150.out 2).trans rfl
                have hfs33 := blk_frozen BK150.out 2
                have hns33_0 := NB139_150.out
                have hns33_1 := NB140_150.out
                have hns33_3 := NB151_150.out
                have hms33_0 := NB150_139.out
                have hms33_1 := NB150_140.out
                have hms33_3 := NB150_151.out
                have hs34 : w30.cell? ⟨gb150, 3, none⟩ = some (.int .u64 0) := (blk_cell BK150.out 3).trans rfl
                have hfs34 := blk_frozen BK150.out 3
                have hns34_0 := NB139_150.out
                have hns34_1 := NB140_150.out
                have hns34_3 := NB151_150.out
                have hms34_0 := NB150_139.out
                have hms34_1 := NB150_140.out
                have hms34_3 := NB150_151.out
                refine skip_ (w1 := ?_) (by rfl) rfl ?_ ?_
                rotate_left
                · go_simp
                  rfl
                refine hK.out _ _ ⟨((cell_far (p := ⟨gb150, _, none⟩) NB139_150.out _).trans (((cell_far (p := ⟨gb150, _, none⟩) NB139_150.out _).trans (((cell_far (p := ⟨gb150, _, none⟩) NB139_150.out _).trans (((cell_far (p := ⟨gb150, _, none⟩) NB139_150.out _).trans (hHeld.1)))))))), ((cell_far (p := ⟨gb150, _, none⟩) NB139_150.out _).trans (((cell_far (p := ⟨gb150, _, none⟩) NB139_150.out _).trans (((cell_far (p := ⟨gb150, _, none⟩) NB139_150.out _).trans (((cell_far (p := ⟨gb150, _, none⟩) NB139_150.out _).trans (hHeld.2.1)))))))), ((cell_far (p := ⟨gb150, _, none⟩) NB139_150.out _).trans (((cell_far (p := ⟨gb150, _, none⟩) NB139_150.out _).trans (((cell_far (p := ⟨gb150, _, none⟩) NB139_150.out _).trans (((cell_far (p := ⟨gb150, _, none⟩) NB139_150.out _).trans (hHeld.2.2.1)))))))), ((cell_far (p := ⟨gb150, _, none⟩) NB139_150.out _).trans (((cell_far (p := ⟨gb150, _, none⟩) NB139_150.out _).trans (((cell_far (p := ⟨gb150, _, none⟩) NB139_150.out _).trans (((cell_far (p := ⟨gb150, _, none⟩) NB139_150.out _).trans (hHeld.2.2.2.1)))))))), ((cell_far (p := ⟨gb150, _, none⟩) NB140_150.out _).trans (((cell_far (p := ⟨gb150, _, none⟩) NB140_150.out _).trans (((cell_far (p := ⟨gb150, _, none⟩) NB140_150.out _).trans (((cell_far (p := ⟨gb150, _, none⟩) NB140_150.out _).trans (hHeld.2.2.2.2.1)))))))), ((cell_far (p := ⟨gb150, _, none⟩) NB140_150.out _).trans (((cell_far (p := ⟨gb150, _, none⟩) NB140_150.out _).trans (((cell_far (p := ⟨gb150, _, none⟩) NB140_150.out _).trans (((cell_far (p := ⟨gb150, _, none⟩) NB140_150.out _).trans (hHeld.2.2.2.2.2.1)))))))), ((cell_far (p := ⟨gb150, _, none⟩) NB140_150.out _).trans (((cell_far (p := ⟨gb150, _, none⟩) NB140_150.out _).trans (((cell_far (p := ⟨gb150, _, none⟩) NB140_150.out _).trans (((cell_far (p := ⟨gb150, _, none⟩) NB140_150.out _).trans (hHeld.2.2.2.2.2.2.1)))))))), ((cell_far (p := ⟨gb150, _, none⟩) NB140_150.out _).trans (((cell_far (p := ⟨gb150, _, none⟩) NB140_150.out _).trans (((cell_far (p := ⟨gb150, _, none⟩) NB140_150.out _).trans (((cell_far (p := ⟨gb150, _, none⟩) NB140_150.out _).trans (hHeld.2.2.2.2.2.2.2))))))))⟩ (fun hHeld => ?_)
                clear hK K
                refine one_ (i := 7) (N := none) #[true, true, true, true, true, true, true, true] rfl rfl (one_of HT_.out (by kernel_rfl)) (by decide) (fun K hK => ?_)
                have hs35 : w30.cell? ⟨gb151, 0, none⟩ = some (.int .u64 0) := (blk_cell BK151.out 0).trans rfl
                have hfs35 := blk_frozen BK151.out 0
                have hns35_0 := NB139_151.out
                have hns35_1 := NB140_151.out
                have hns35_2 := NB150_151.out
                have hms35_0 := NB151_139.out
                have hms35_1 := NB151_140.out
                have hms35_2 := NB151_150.out
                have hs36 : w30.cell? ⟨gb151, 1, none⟩ = some (.int .u32 0) := (blk_cell BK151.out 1).trans rfl
                have hfs36 := blk_frozen BK151.out 1
                have hns36_0 := NB139_151.out
                have hns36_1 := NB140_151.out
                have hns36_2 := NB150_151.out
                have hms36_0 := NB151_139.out
                have hms36_1 := NB151_140.out
                have hms36_2 := NB151_150.out
                have hs37 : w30.cell? ⟨gb151, 2, none⟩ = some (.int .u8 0) := (blk_cell BK151.out 2).trans rfl
                have hfs37 := blk_frozen BK151.out 2
                have hns37_0 := NB139_151.out
                have hns37_1 := NB140_151.out
                have hns37_2 := NB150_151.out
                have hms37_0 := NB151_139.out
                have hms37_1 := NB151_140.out
                have hms37_2 := NB151_150.out
                have hs38 : w30.cell? ⟨gb151, 3, none⟩ = some (.int .u64 0) := (blk_cell BK151.out 3).trans rfl
                have hfs38 := blk_frozen BK151.out 3
                have hns38_0 := NB139_151.out
                have hns38_1 := NB140_151.out
                have hns38_2 := NB150_151.out
                have hms38_0 := NB151_139.out
                have hms38_1 := NB151_140.out
                have hms38_2 := NB151_150.out
                refine skip_ (w1 := ?_) (by rfl) rfl ?_ ?_
                rotate_left
                · go_simp
                  rfl
                refine hK.out _ _ ⟨((cell_far (p := ⟨gb151, _, none⟩) NB139_151.out _).trans (((cell_far (p := ⟨gb151, _, none⟩) NB139_151.out _).trans (((cell_far (p := ⟨gb151, _, none⟩) NB139_151.out _).trans (((cell_far (p := ⟨gb151, _, none⟩) NB139_151.out _).trans (hHeld.1)))))))), ((cell_far (p := ⟨gb151, _, none⟩) NB139_151.out _).trans (((cell_far (p := ⟨gb151, _, none⟩) NB139_151.out _).trans (((cell_far (p := ⟨gb151, _, none⟩) NB139_151.out _).trans (((cell_far (p := ⟨gb151, _, none⟩) NB139_151.out _).trans (hHeld.2.1)))))))), ((cell_far (p := ⟨gb151, _, none⟩) NB139_151.out _).trans (((cell_far (p := ⟨gb151, _, none⟩) NB139_151.out _).trans (((cell_far (p := ⟨gb151, _, none⟩) NB139_151.out _).trans (((cell_far (p := ⟨gb151, _, none⟩) NB139_151.out _).trans (hHeld.2.2.1)))))))), ((cell_far (p := ⟨gb151, _, none⟩) NB139_151.out _).trans (((cell_far (p := ⟨gb151, _, none⟩) NB139_151.out _).trans (((cell_far (p := ⟨gb151, _, none⟩) NB139_151.out _).trans (((cell_far (p := ⟨gb151, _, none⟩) NB139_151.out _).trans (hHeld.2.2.2.1)))))))), ((cell_far (p := ⟨gb151, _, none⟩) NB140_151.out _).trans (((cell_far (p := ⟨gb151, _, none⟩) NB140_151.out _).trans (((cell_far (p := ⟨gb151, _, none⟩) NB140_151.out _).trans (((cell_far (p := ⟨gb151, _, none⟩) NB140_151.out _).trans (hHeld.2.2.2.2.1)))))))), ((cell_far (p := ⟨gb151, _, none⟩) NB140_151.out _).trans (((cell_far (p := ⟨gb151, _, none⟩) NB140_151.out _).trans (((cell_far (p := ⟨gb151, _, none⟩) NB140_151.out _).trans (((cell_far (p := ⟨gb151, _, none⟩) NB140_151.out _).trans (hHeld.2.2.2.2.2.1)))))))), ((cell_far (p := ⟨gb151, _, none⟩) NB140_151.out _).trans (((cell_far (p := ⟨gb151, _, none⟩) NB140_151.out _).trans (((cell_far (p := ⟨gb151, _, none⟩) NB140_151.out _).trans (((cell_far (p := ⟨gb151, _, none⟩) NB140_151.out _).trans (hHeld.2.2.2.2.2.2.1)))))))), ((cell_far (p := ⟨gb151, _, none⟩) NB140_151.out _).trans (((cell_far (p := ⟨gb151, _, none⟩) NB140_151.out _).trans (((cell_far (p := ⟨gb151, _, none⟩) NB140_151.out _).trans (((cell_far (p := ⟨gb151, _, none⟩) NB140_151.out _).trans (hHeld.2.2.2.2.2.2.2))))))))⟩ (fun hHeld => ?_)
                clear hK K
                refine done_ (done_of HT_.out (by kernel_rfl)) ?_
                have hnb39 := NB150_139.out
                have hnc39 := NB139_150.out
                have hnb40 := NB150_140.out
                have hnc40 := NB140_150.out
                have hnb41 := NB150_151.out
                have hnc41 := NB151_150.out
                have hcz42_0 : w30.cell? ⟨gb150, 0, none⟩ = some (.int .u64 0) := (blk_cell BK150.out 0).trans rfl
                have hcz42_1 : w30.cell? ⟨gb150, 1, none⟩ = some (.int .u32 0) := (blk_cell BK150.out 1).trans rfl
                have hcz42_2 : w30.cell? ⟨gb150, 2, none⟩ = some (.int .u8 0) := (blk_cell BK150.out 2).trans rfl
                have hcz42_3 : w30.cell? ⟨gb150, 3, none⟩ = some (.int .u64 0) := (blk_cell BK150.out 3).trans rfl
                have hfz42_0 := blk_frozen BK150.out 0
                have hfz42_1 := blk_frozen BK150.out 1
                have hfz42_2 := blk_frozen BK150.out 2
                have hfz42_3 := blk_frozen BK150.out 3
                try go_wp2_with (first | ((with_reducible refine gate_callee (f := 12) rfl ?_); refine goesL_ (some 19) rfl rfl Try.func12 (by kernel_rfl) rfl #[.agg #[.int .u64 t142, .int .u32 t143, .int .u8 t144, .int .u64 t145]] rfl (by (try simp only [List.map_toArray, List.map_cons, List.map_nil]); first | done | rfl | (simp only [List.length_drop, List.length_take]; rfl)) ?_; (with_reducible refine (caps_Encode.calls k t142 t143 t144 t145 t152 _ A8.out).mono ?_); rintro e w43 ⟨v153, rfl, ho0, hb⟩; refine ⟨_, rfl, ?_⟩; have n0_ := Aside0.mk (Kd.R_lower ho0 (below_size (by repeat (first | (with_reducible first | exact HB.out | apply below_alloc | apply pw_below_drewN | apply below_drew1 | refine below_set ?_ GE139.out | refine below_set ?_ GE140.out | refine below_set ?_ GE150.out | refine below_set ?_ GE151.out) | exact HB.out)))); have n1_ := Aside0.mk (blk_below (g := gb139) (o := .cells #[.int .u64 a0_0, .int .u32 a0_1, .int .u8 a0_2, .int .u64 a0_3] 25 (0, 0)) (by (with_reducible repeat (first | refine blk_drewN ?_ _ | refine blk_drew ?_ | refine blk_alloc ?_ _)); refine blk_far ?_ NB139_151.out _; (with_reducible repeat (first | refine blk_drewN ?_ _ | refine blk_drew ?_ | refine blk_alloc ?_ _)); refine blk_far ?_ NB139_151.out _; (with_reducible repeat (first | refine blk_drewN ?_ _ | refine blk_drew ?_ | refine blk_alloc ?_ _)); refine blk_far ?_ NB139_151.out _; (with_reducible repeat (first | refine blk_drewN ?_ _ | refine blk_drew ?_ | refine blk_alloc ?_ _)); refine blk_far ?_ NB139_151.out _; (with_reducible repeat (first | refine blk_drewN ?_ _ | refine blk_drew ?_ | refine blk_alloc ?_ _)); refine blk_far ?_ NB139_150.out _; (with_reducible repeat (first | refine blk_drewN ?_ _ | refine blk_drew ?_ | refine blk_alloc ?_ _)); refine blk_far ?_ NB139_150.out _; (with_reducible repeat (first | refine blk_drewN ?_ _ | refine blk_drew ?_ | refine blk_alloc ?_ _)); refine blk_far ?_ NB139_150.out _; (with_reducible repeat (first | refine blk_drewN ?_ _ | refine blk_drew ?_ | refine blk_alloc ?_ _)); refine blk_far ?_ NB139_150.out _; (with_reducible repeat (first | refine blk_drewN ?_ _ | refine blk_drew ?_ | refine blk_alloc ?_ _)); exact BK139.out) hb); have n2_ := Aside0.mk (blk_below (g := gb140) (o := .cells #[.int .u64 a1_0, .int .u32 a1_1, .int .u8 a1_2, .int .u64 a1_3] 25 (0, 0)) (by (with_reducible repeat (first | refine blk_drewN ?_ _ | refine blk_drew ?_ | refine blk_alloc ?_ _)); refine blk_far ?_ NB140_151.out _; (with_reducible repeat (first | refine blk_drewN ?_ _ | refine blk_drew ?_ | refine blk_alloc ?_ _)); refine blk_far ?_ NB140_151.out _; (with_reducible repeat (first | refine blk_drewN ?_ _ | refine blk_drew ?_ | refine blk_alloc ?_ _)); refine blk_far ?_ NB140_151.out _; (with_reducible repeat (first | refine blk_drewN ?_ _ | refine blk_drew ?_ | refine blk_alloc ?_ _)); refine blk_far ?_ NB140_151.out _; (with_reducible repeat (first | refine blk_drewN ?_ _ | refine blk_drew ?_ | refine blk_alloc ?_ _)); refine blk_far ?_ NB140_150.out _; (with_reducible repeat (first | refine blk_drewN ?_ _ | refine blk_drew ?_ | refine blk_alloc ?_ _)); refine blk_far ?_ NB140_150.out _; (with_reducible repeat (first | refine blk_drewN ?_ _ | refine blk_drew ?_ | refine blk_alloc ?_ _)); refine blk_far ?_ NB140_150.out _; (with_reducible repeat (first | refine blk_drewN ?_ _ | refine blk_drew ?_ | refine blk_alloc ?_ _)); refine blk_far ?_ NB140_150.out _; (with_reducible repeat (first | refine blk_drewN ?_ _ | refine blk_drew ?_ | refine blk_alloc ?_ _)); exact BK140.out) hb); have n3_ := Aside0.mk (blk_below (g := gb150) (o := .cells #[.int .u64 t142, .int .u32 t143, .int .u8 t144, .int .u64 t145] 25 (0, 0)) (by (with_reducible repeat (first | refine blk_drewN ?_ _ | refine blk_drew ?_ | refine blk_alloc ?_ _)); refine blk_far ?_ NB150_151.out _; (with_reducible repeat (first | refine blk_drewN ?_ _ | refine blk_drew ?_ | refine blk_alloc ?_ _)); refine blk_far ?_ NB150_151.out _; (with_reducible repeat (first | refine blk_drewN ?_ _ | refine blk_drew ?_ | refine blk_alloc ?_ _)); refine blk_far ?_ NB150_151.out _; (with_reducible repeat (first | refine blk_drewN ?_ _ | refine blk_drew ?_ | refine blk_alloc ?_ _)); refine blk_far ?_ NB150_151.out _; (with_reducible repeat (first | refine blk_drewN ?_ _ | refine blk_drew ?_ | refine blk_alloc ?_ _)); refine blk_put (cs := #[.int .u64 t142, .int .u32 t143, .int .u8 t144, .int .u64 0]) ?_ 3 _ rfl; (with_reducible repeat (first | refine blk_drewN ?_ _ | refine blk_drew ?_ | refine blk_alloc ?_ _)); refine blk_put (cs := #[.int .u64 t142, .int .u32 t143, .int .u8 0, .int .u64 0]) ?_ 2 _ rfl; (with_reducible repeat (first | refine blk_drewN ?_ _ | refine blk_drew ?_ | refine blk_alloc ?_ _)); refine blk_put (cs := #[.int .u64 t142, .int .u32 0, .int .u8 0, .int .u64 0]) ?_ 1 _ rfl; (with_reducible repeat (first | refine blk_drewN ?_ _ | refine blk_drew ?_ | refine blk_alloc ?_ _)); refine blk_put (cs := #[.int .u64 0, .int .u32 0, .int .u8 0, .int .u64 0]) ?_ 0 _ rfl; (with_reducible repeat (first | refine blk_drewN ?_ _ | refine blk_drew ?_ | refine blk_alloc ?_ _)); exact BK150.out) hb); have n4_ := Aside0.mk (blk_below (g := gb151) (o := .cells #[.int .u64 t146, .int .u32 t147, .int .u8 t148, .int .u64 t149] 25 (0, 0)) (by (with_reducible repeat (first | refine blk_drewN ?_ _ | refine blk_drew ?_ | refine blk_alloc ?_ _)); refine blk_put (cs := #[.int .u64 t146, .int .u32 t147, .int .u8 t148, .int .u64 0]) ?_ 3 _ rfl; (with_reducible repeat (first | refine blk_drewN ?_ _ | refine blk_drew ?_ | refine blk_alloc ?_ _)); refine blk_put (cs := #[.int .u64 t146, .int .u32 t147, .int .u8 0, .int .u64 0]) ?_ 2 _ rfl; (with_reducible repeat (first | refine blk_drewN ?_ _ | refine blk_drew ?_ | refine blk_alloc ?_ _)); refine blk_put (cs := #[.int .u64 t146, .int .u32 0, .int .u8 0, .int .u64 0]) ?_ 1 _ rfl; (with_reducible repeat (first | refine blk_drewN ?_ _ | refine blk_drew ?_ | refine blk_alloc ?_ _)); refine blk_put (cs := #[.int .u64 0, .int .u32 0, .int .u8 0, .int .u64 0]) ?_ 0 _ rfl; (with_reducible repeat (first | refine blk_drewN ?_ _ | refine blk_drew ?_ | refine blk_alloc ?_ _)); refine blk_far ?_ NB151_150.out _; (with_reducible repeat (first | refine blk_drewN ?_ _ | refine blk_drew ?_ | refine blk_alloc ?_ _)); refine blk_far ?_ NB151_150.out _; (with_reducible repeat (first | refine blk_drewN ?_ _ | refine blk_drew ?_ | refine blk_alloc ?_ _)); refine blk_far ?_ NB151_150.out _; (with_reducible repeat (first | refine blk_drewN ?_ _ | refine blk_drew ?_ | refine blk_alloc ?_ _)); refine blk_far ?_ NB151_150.out _; (with_reducible repeat (first | refine blk_drewN ?_ _ | refine blk_drew ?_ | refine blk_alloc ?_ _)); exact BK151.out) hb); have n5_ := Aside0.mk (below_step (by repeat (first | (with_reducible first | exact HB.out | apply below_alloc | apply pw_below_drewN | apply below_drew1 | refine below_set ?_ GE139.out | refine below_set ?_ GE140.out | refine below_set ?_ GE150.out | refine below_set ?_ GE151.out) | exact HB.out)) hb); clear BK139; clear BK140; clear BK150; clear BK151; clear HB; have HO154 := n0_; have BK139 := n1_; have BK140 := n2_; have BK150 := n3_; have BK151 := n4_; have HB := n5_; clear n0_ n1_ n2_ n3_ n4_ n5_; (try clear hb); (try clear hb2); (try clear hk); (try clear hi); (try clear ho0); obtain ⟨Ao44, co44, eo44⟩ := Kd.R_slice HO154.out; subst eo44; have p155 : 0 ≤ ((ji10) : Int) := of_decide_eq_true (by first | (with_reducible assumption) | assumption); have q155 : (ji10) < (t152.length : Int) := of_decide_eq_true (by first | (with_reducible assumption) | assumption); obtain ⟨ad155, e155, hx155_0⟩ := Kd.at_int (Kd.R_reads' HO154.out).2.2 (ji10) p155 q155; cases e155; replace p155 := eq_true p155; replace q155 := eq_true q155; have p16 : 0 ≤ ((ji10) : Int) := of_decide_eq_true (by first | (with_reducible assumption) | assumption); have q16 : ((ji10) : Int) < ((t152.length : Int) : Int) := of_decide_eq_true (by first | (with_reducible assumption) | assumption); obtain ⟨go16, co16, eo16, gb16, gl16, cl16, HG16⟩ := Kd.R_form HO154.out (by omega); (first | cases eo16 | (injection eo16 with ea_ en_ ec_; (first | subst ea_ | (injection ea_ with ea_; subst ea_)); subst ec_; clear en_)); have GB16 := Aside0.mk gb16; have GG16 := Aside0.mk HG16; clear gb16 gl16 HG16; (first | simp only [add_plain] at hx155_0 | skip); obtain ⟨hx16_0, hf16_0⟩ := Kd.R_celln 0 HO154.out ((ji10) : Int) p16 q16; replace p16 := eq_true p16; replace q16 := eq_true q16; obtain ⟨hy45_, hz45_⟩ := Kd.R_celln 0 HO154.out ((ji10) : Int) (of_decide_eq_true (by first | (with_reducible assumption) | assumption)) (of_decide_eq_true (by first | (with_reducible assumption) | assumption)); have HP45 := Kd.R_putg HO154.out ((ji10) : Int) (Go.bits .xor .u8 (rd t152 (ji10)) (ji15))) | ((with_reducible refine gate_store (t := 5) (p := 33) rfl ?_); refine store_event (t := 5) (p := 33) (v := ?vo_w46) (w1 := (w43.setCell ⟨go16, ((ji10) : Int).toNat, none⟩ (.int .u8 (Go.bits .xor .u8 (rd t152 (ji10)) (ji15))))) ?hg ?ho ?hn ?hr ?_; (case ho => rfl); (case hg => rfl); (case hn => rfl); (case hr => first | (go_simp; done) | (go_simp; rfl)); intro w46 hw; have hg : w43.grownBy w46 (some go16) := (by rw [hw]; exact HP45.2); have hp_ : Kd.R (Kd.int .u8) 5 w46 w.heap.size (fun _ => True) (.slice (some ⟨go16, 0, none⟩) t152.length co44) y156 := (by rw [hw, Ny156.out]; exact HP45.1); clear HP45; have n0_ := Aside0.mk (blk_grown (g := gb139) (o := .cells #[.int .u64 a0_0, .int .u32 a0_1, .int .u8 a0_2, .int .u64 a0_3] 25 (0, 0)) (by (with_reducible repeat (first | refine blk_drewN ?_ _ | refine blk_drew ?_ | refine blk_alloc ?_ _)); exact BK139.out) hg (Kd.R_ne HO154.out BK139.out (by decide))); have n1_ := Aside0.mk (blk_grown (g := gb140) (o := .cells #[.int .u64 a1_0, .int .u32 a1_1, .int .u8 a1_2, .int .u64 a1_3] 25 (0, 0)) (by (with_reducible repeat (first | refine blk_drewN ?_ _ | refine blk_drew ?_ | refine blk_alloc ?_ _)); exact BK140.out) hg (Kd.R_ne HO154.out BK140.out (by decide))); have n2_ := Aside0.mk (blk_grown (g := gb150) (o := .cells #[.int .u64 t142, .int .u32 t143, .int .u8 t144, .int .u64 t145] 25 (0, 0)) (by (with_reducible repeat (first | refine blk_drewN ?_ _ | refine blk_drew ?_ | refine blk_alloc ?_ _)); exact BK150.out) hg (Kd.R_ne HO154.out BK150.out (by decide))); have n3_ := Aside0.mk (blk_grown (g := gb151) (o := .cells #[.int .u64 t146, .int .u32 t147, .int .u8 t148, .int .u64 t149] 25 (0, 0)) (by (with_reducible repeat (first | refine blk_drewN ?_ _ | refine blk_drew ?_ | refine blk_alloc ?_ _)); exact BK151.out) hg (Kd.R_ne HO154.out BK151.out (by decide))); have n4_ := Aside0.mk (hp_); have n5_ := Aside0.mk ((by rw [hw]; exact below_set (HB.out) GB16.out : Below w.heap.size w w46)); clear BK139; clear BK140; clear BK150; clear BK151; clear HO154; clear HB; have BK139 := n0_; have BK140 := n1_; have BK150 := n2_; have BK151 := n3_; have HO154 := n4_; have HB := n5_; clear n0_ n1_ n2_ n3_ n4_ n5_; clear hg hw hp_) | ((with_reducible refine gate_callee (f := 16) rfl ?_); refine goesL_ (some 36) rfl rfl Try.func16 (by kernel_rfl) rfl #[.slice (some ⟨go16, 0, none⟩) y156.length co44] rfl (by (try simp only [List.map_toArray, List.map_cons, List.map_nil]); first | done | (rw [show y156.length = t152.length from (Kd.R_reads' HO154.out).1.symm] <;> rfl) | rfl | (simp only [List.length_drop, List.length_take]; rfl)) ?_; (with_reducible refine (caps_Decode.calls k _ _ y156 t157 t158 t159 t160 true _ ?side1 ?side2 A17.out).mono ?_); (case side1 => repeat (first | exact (Kd.R_reads' HO154.out).2.2 | (with_reducible refine Kd.C_alloc ?_ _) | (with_reducible refine Kd.C_drewN ?_ _) | (with_reducible refine Kd.C_drew ?_))); (case side2 => rw [show y156.length = t152.length from (Kd.R_reads' HO154.out).1.symm]; exact (Kd.R_reads' HO154.out).2.1); rintro e w47 ⟨rfl, hb⟩; refine ⟨_, rfl, ?_⟩; have n0_ := Aside0.mk (Kd.R_below (by (with_reducible repeat (first | apply Kd.R_alloc | apply Kd.R_drewN | apply Kd.R_drew)); exact HO154.out) hb); have n1_ := Aside0.mk (blk_below (g := gb139) (o := .cells #[.int .u64 a0_0, .int .u32 a0_1, .int .u8 a0_2, .int .u64 a0_3] 25 (0, 0)) (by (with_reducible repeat (first | refine blk_drewN ?_ _ | refine blk_drew ?_ | refine blk_alloc ?_ _)); exact BK139.out) hb); have n2_ := Aside0.mk (blk_below (g := gb140) (o := .cells #[.int .u64 a1_0, .int .u32 a1_1, .int .u8 a1_2, .int .u64 a1_3] 25 (0, 0)) (by (with_reducible repeat (first | refine blk_drewN ?_ _ | refine blk_drew ?_ | refine blk_alloc ?_ _)); exact BK140.out) hb); have n3_ := Aside0.mk (blk_below (g := gb150) (o := .cells #[.int .u64 t142, .int .u32 t143, .int .u8 t144, .int .u64 t145] 25 (0, 0)) (by (with_reducible repeat (first | refine blk_drewN ?_ _ | refine blk_drew ?_ | refine blk_alloc ?_ _)); exact BK150.out) hb); have n4_ := Aside0.mk (blk_below (g := gb151) (o := .cells #[.int .u64 t146, .int .u32 t147, .int .u8 t148, .int .u64 t149] 25 (0, 0)) (by (with_reducible repeat (first | refine blk_drewN ?_ _ | refine blk_drew ?_ | refine blk_alloc ?_ _)); exact BK151.out) hb); have n5_ := Aside0.mk (below_step (by repeat (first | (with_reducible first | exact HB.out | apply below_alloc | apply pw_below_drewN | apply below_drew1 | refine below_set ?_ GE139.out | refine below_set ?_ GE140.out | refine below_set ?_ GE150.out | refine below_set ?_ GE151.out) | exact HB.out)) hb); clear HO154; clear BK139; clear BK140; clear BK150; clear BK151; clear HB; have HO154 := n0_; have BK139 := n1_; have BK140 := n2_; have BK150 := n3_; have BK151 := n4_; have HB := n5_; clear n0_ n1_ n2_ n3_ n4_ n5_; (try clear hb); (try clear hb2); (try clear hk); (try clear hi)) | ((with_reducible refine gate_dst (N := 10) rfl ?_); refine box_event ?hg (N := 10) ?hd (cs := #[.int .u64 0, .int .u32 0, .int .u8 0, .int .u64 0]) (t := 25) ?hr ?_; (case hd => rfl); (case hg => rfl); (case hr => first | (go_simp; done) | (go_simp; rfl)); intro gb162 hg w48 hbox hb; have n0_ := Aside0.mk (Kd.R_below (by (with_reducible repeat (first | apply Kd.R_alloc | apply Kd.R_drewN | apply Kd.R_drew)); exact HO154.out) hb); have n1_ := Aside0.mk (blk_below (g := gb139) (o := .cells #[.int .u64 a0_0, .int .u32 a0_1, .int .u8 a0_2, .int .u64 a0_3] 25 (0, 0)) (by (with_reducible repeat (first | refine blk_drewN ?_ _ | refine blk_drew ?_ | refine blk_alloc ?_ _)); exact BK139.out) hb); have n2_ := Aside0.mk (blk_below (g := gb140) (o := .cells #[.int .u64 a1_0, .int .u32 a1_1, .int .u8 a1_2, .int .u64 a1_3] 25 (0, 0)) (by (with_reducible repeat (first | refine blk_drewN ?_ _ | refine blk_drew ?_ | refine blk_alloc ?_ _)); exact BK140.out) hb); have n3_ := Aside0.mk (blk_below (g := gb150) (o := .cells #[.int .u64 t142, .int .u32 t143, .int .u8 t144, .int .u64 t145] 25 (0, 0)) (by (with_reducible repeat (first | refine blk_drewN ?_ _ | refine blk_drew ?_ | refine blk_alloc ?_ _)); exact BK150.out) hb); have n4_ := Aside0.mk (blk_below (g := gb151) (o := .cells #[.int .u64 t146, .int .u32 t147, .int .u8 t148, .int .u64 t149] 25 (0, 0)) (by (with_reducible repeat (first | refine blk_drewN ?_ _ | refine blk_drew ?_ | refine blk_alloc ?_ _)); exact BK151.out) hb); have n5_ := Aside0.mk (below_step (by repeat (first | (with_reducible first | exact HB.out | apply below_alloc | apply pw_below_drewN | apply below_drew1 | refine below_set ?_ GE139.out | refine below_set ?_ GE140.out | refine below_set ?_ GE150.out | refine below_set ?_ GE151.out) | exact HB.out)) hb); have n6_ := Aside0.mk (hbox); have n7_ := Aside0.mk ((by rw [hg]; exact (below_size (by repeat (first | (with_reducible first | exact HB.out | apply below_alloc | apply pw_below_drewN | apply below_drew1 | refine below_set ?_ GE139.out | refine below_set ?_ GE140.out | refine below_set ?_ GE150.out | refine below_set ?_ GE151.out) | exact HB.out))) : w.heap.size ≤ gb162)); have n8_ := Aside0.mk ((by rw [hg]; exact (below_size (by repeat (first | (with_reducible first | exact HB.out | apply below_alloc | apply pw_below_drewN | apply below_drew1 | refine below_set ?_ GE139.out | refine below_set ?_ GE140.out | refine below_set ?_ GE150.out | refine below_set ?_ GE151.out) | exact HB.out))) : w.heap.size ≤ gb162)); have n9_ := Aside0.mk ((by rw [hg]; exact Nat.ne_of_lt (blk_lt (g := gb139) (o := .cells #[.int .u64 a0_0, .int .u32 a0_1, .int .u8 a0_2, .int .u64 a0_3] 25 (0, 0)) (by (with_reducible repeat (first | refine blk_drewN ?_ _ | refine blk_drew ?_ | refine blk_alloc ?_ _)); exact BK139.out)) : gb139 ≠ gb162)); have n10_ := Aside0.mk ((by rw [hg]; exact Nat.ne_of_gt (blk_lt (g := gb139) (o := .cells #[.int .u64 a0_0, .int .u32 a0_1, .int .u8 a0_2, .int .u64 a0_3] 25 (0, 0)) (by (with_reducible repeat (first | refine blk_drewN ?_ _ | refine blk_drew ?_ | refine blk_alloc ?_ _)); exact BK139.out)) : gb162 ≠ gb139)); have n11_ := Aside0.mk ((by rw [hg]; exact Nat.ne_of_lt (blk_lt (g := gb140) (o := .cells #[.int .u64 a1_0, .int .u32 a1_1, .int .u8 a1_2, .int .u64 a1_3] 25 (0, 0)) (by (with_reducible repeat (first | refine blk_drewN ?_ _ | refine blk_drew ?_ | refine blk_alloc ?_ _)); exact BK140.out)) : gb140 ≠ gb162)); have n12_ := Aside0.mk ((by rw [hg]; exact Nat.ne_of_gt (blk_lt (g := gb140) (o := .cells #[.int .u64 a1_0, .int .u32 a1_1, .int .u8 a1_2, .int .u64 a1_3] 25 (0, 0)) (by (with_reducible repeat (first | refine blk_drewN ?_ _ | refine blk_drew ?_ | refine blk_alloc ?_ _)); exact BK140.out)) : gb162 ≠ gb140)); have n13_ := Aside0.mk ((by rw [hg]; exact Nat.ne_of_lt (blk_lt (g := gb150) (o := .cells #[.int .u64 t142, .int .u32 t143, .int .u8 t144, .int .u64 t145] 25 (0, 0)) (by (with_reducible repeat (first | refine blk_drewN ?_ _ | refine blk_drew ?_ | refine blk_alloc ?_ _)); exact BK150.out)) : gb150 ≠ gb162)); have n14_ := Aside0.mk ((by rw [hg]; exact Nat.ne_of_gt (blk_lt (g := gb150) (o := .cells #[.int .u64 t142, .int .u32 t143, .int .u8 t144, .int .u64 t145] 25 (0, 0)) (by (with_reducible repeat (first | refine blk_drewN ?_ _ | refine blk_drew ?_ | refine blk_alloc ?_ _)); exact BK150.out)) : gb162 ≠ gb150)); have n15_ := Aside0.mk ((by rw [hg]; exact Nat.ne_of_lt (blk_lt (g := gb151) (o := .cells #[.int .u64 t146, .int .u32 t147, .int .u8 t148, .int .u64 t149] 25 (0, 0)) (by (with_reducible repeat (first | refine blk_drewN ?_ _ | refine blk_drew ?_ | refine blk_alloc ?_ _)); exact BK151.out)) : gb151 ≠ gb162)); have n16_ := Aside0.mk ((by rw [hg]; exact Nat.ne_of_gt (blk_lt (g := gb151) (o := .cells #[.int .u64 t146, .int .u32 t147, .int .u8 t148, .int .u64 t149] 25 (0, 0)) (by (with_reducible repeat (first | refine blk_drewN ?_ _ | refine blk_drew ?_ | refine blk_alloc ?_ _)); exact BK151.out)) : gb162 ≠ gb151)); clear HO154; clear BK139; clear BK140; clear BK150; clear BK151; clear HB; have HO154 := n0_; have BK139 := n1_; have BK140 := n2_; have BK150 := n3_; have BK151 := n4_; have HB := n5_; have BK162 := n6_; have GW162 := n7_; have GE162 := n8_; have NB139_162 := n9_; have NB162_139 := n10_; have NB140_162 := n11_; have NB162_140 := n12_; have NB150_162 := n13_; have NB162_150 := n14_; have NB151_162 := n15_; have NB162_151 := n16_; clear n0_ n1_ n2_ n3_ n4_ n5_ n6_ n7_ n8_ n9_ n10_ n11_ n12_ n13_ n14_ n15_ n16_; clear hb hbox hg; have hnb49 := NB162_139.out; have hnc49 := NB139_162.out; have hnb50 := NB162_140.out; have hnc50 := NB140_162.out; have hnb51 := NB162_150.out; have hnc51 := NB150_162.out; have hnb52 := NB162_151.out; have hnc52 := NB151_162.out; have hcz53_0 : w48.cell? ⟨gb162, 0, none⟩ = some (.int .u64 0) := (blk_cell BK162.out 0).trans rfl; have hcz53_1 : w48.cell? ⟨gb162, 1, none⟩ = some (.int .u32 0) := (blk_cell BK162.out 1).trans rfl; have hcz53_2 : w48.cell? ⟨gb162, 2, none⟩ = some (.int .u8 0) := (blk_cell BK162.out 2).trans rfl; have hcz53_3 : w48.cell? ⟨gb162, 3, none⟩ = some (.int .u64 0) := (blk_cell BK162.out 3).trans rfl; have hfz53_0 := blk_frozen BK162.out 0; have hfz53_1 := blk_frozen BK162.out 1; have hfz53_2 := blk_frozen BK162.out 2; have hfz53_3 := blk_frozen BK162.out 3))
                have n0_ : Aside0 (Kd.R (Kd.int .u8) 5 ((((w48.setCell ⟨gb162, 0, none⟩ (.int .u64 t157)).setCell ⟨gb162, 1, none⟩ (.int .u32 t158)).setCell ⟨gb162, 2, none⟩ (.int .u8 t159)).setCell ⟨gb162, 3, none⟩ (.int .u64 t160)) w.heap.size (fun _ => True) (.slice (some ⟨go16, 0, none⟩) t152.length co44) y156) := ⟨by (with_reducible repeat (first | apply Kd.R_alloc | apply Kd.R_drewN | apply Kd.R_drew)); exact Kd.R_mono (Kd.R_far (p := ⟨gb162, 3, none⟩) (Kd.R_far (p := ⟨gb162, 2, none⟩) (Kd.R_far (p := ⟨gb162, 1, none⟩) (Kd.R_far (p := ⟨gb162, 0, none⟩) (Kd.R_types HO154.out BK162.out (by decide)) (fun _ hk => hk.2) (.int .u64 t157)) (fun _ hk => hk.2) (.int .u32 t158)) (fun _ hk => hk.2) (.int .u8 t159)) (fun _ hk => hk.2) (.int .u64 t160)) (fun _ hk => trivial)⟩
                have n1_ : Aside0 (((((w48.setCell ⟨gb162, 0, none⟩ (.int .u64 t157)).setCell ⟨gb162, 1, none⟩ (.int .u32 t158)).setCell ⟨gb162, 2, none⟩ (.int .u8 t159)).setCell ⟨gb162, 3, none⟩ (.int .u64 t160)).heap[gb139]? = some (.cells #[.int .u64 a0_0, .int .u32 a0_1, .int .u8 a0_2, .int .u64 a0_3] 25 (0, 0))) := ⟨by (with_reducible repeat (first | refine blk_drewN ?_ _ | refine blk_drew ?_ | refine blk_alloc ?_ _)); refine blk_far ?_ NB139_162.out _; (with_reducible repeat (first | refine blk_drewN ?_ _ | refine blk_drew ?_ | refine blk_alloc ?_ _)); refine blk_far ?_ NB139_162.out _; (with_reducible repeat (first | refine blk_drewN ?_ _ | refine blk_drew ?_ | refine blk_alloc ?_ _)); refine blk_far ?_ NB139_162.out _; (with_reducible repeat (first | refine blk_drewN ?_ _ | refine blk_drew ?_ | refine blk_alloc ?_ _)); refine blk_far ?_ NB139_162.out _; (with_reducible repeat (first | refine blk_drewN ?_ _ | refine blk_drew ?_ | refine blk_alloc ?_ _)); exact BK139.out⟩
                have n2_ : Aside0 (((((w48.setCell ⟨gb162, 0, none⟩ (.int .u64 t157)).setCell ⟨gb162, 1, none⟩ (.int .u32 t158)).setCell ⟨gb162, 2, none⟩ (.int .u8 t159)).setCell ⟨gb162, 3, none⟩ (.int .u64 t160)).heap[gb140]? = some (.cells #[.int .u64 a1_0, .int .u32 a1_1, .int .u8 a1_2, .int .u64 a1_3] 25 (0, 0))) := ⟨by (with_reducible repeat (first | refine blk_drewN ?_ _ | refine blk_drew ?_ | refine blk_alloc ?_ _)); refine blk_far ?_ NB140_162.out _; (with_reducible repeat (first | refine blk_drewN ?_ _ | refine blk_drew ?_ | refine blk_alloc ?_ _)); refine blk_far ?_ NB140_162.out _; (with_reducible repeat (first | refine blk_drewN ?_ _ | refine blk_drew ?_ | refine blk_alloc ?_ _)); refine blk_far ?_ NB140_162.out _; (with_reducible repeat (first | refine blk_drewN ?_ _ | refine blk_drew ?_ | refine blk_alloc ?_ _)); refine blk_far ?_ NB140_162.out _; (with_reducible repeat (first | refine blk_drewN ?_ _ | refine blk_drew ?_ | refine blk_alloc ?_ _)); exact BK140.out⟩
                have n3_ : Aside0 (((((w48.setCell ⟨gb162, 0, none⟩ (.int .u64 t157)).setCell ⟨gb162, 1, none⟩ (.int .u32 t158)).setCell ⟨gb162, 2, none⟩ (.int .u8 t159)).setCell ⟨gb162, 3, none⟩ (.int .u64 t160)).heap[gb150]? = some (.cells #[.int .u64 t142, .int .u32 t143, .int .u8 t144, .int .u64 t145] 25 (0, 0))) := ⟨by (with_reducible repeat (first | refine blk_drewN ?_ _ | refine blk_drew ?_ | refine blk_alloc ?_ _)); refine blk_far ?_ NB150_162.out _; (with_reducible repeat (first | refine blk_drewN ?_ _ | refine blk_drew ?_ | refine blk_alloc ?_ _)); refine blk_far ?_ NB150_162.out _; (with_reducible repeat (first | refine blk_drewN ?_ _ | refine blk_drew ?_ | refine blk_alloc ?_ _)); refine blk_far ?_ NB150_162.out _; (with_reducible repeat (first | refine blk_drewN ?_ _ | refine blk_drew ?_ | refine blk_alloc ?_ _)); refine blk_far ?_ NB150_162.out _; (with_reducible repeat (first | refine blk_drewN ?_ _ | refine blk_drew ?_ | refine blk_alloc ?_ _)); exact BK150.out⟩
                have n4_ : Aside0 (((((w48.setCell ⟨gb162, 0, none⟩ (.int .u64 t157)).setCell ⟨gb162, 1, none⟩ (.int .u32 t158)).setCell ⟨gb162, 2, none⟩ (.int .u8 t159)).setCell ⟨gb162, 3, none⟩ (.int .u64 t160)).heap[gb151]? = some (.cells #[.int .u64 t146, .int .u32 t147, .int .u8 t148, .int .u64 t149] 25 (0, 0))) := ⟨by (with_reducible repeat (first | refine blk_drewN ?_ _ | refine blk_drew ?_ | refine blk_alloc ?_ _)); refine blk_far ?_ NB151_162.out _; (with_reducible repeat (first | refine blk_drewN ?_ _ | refine blk_drew ?_ | refine blk_alloc ?_ _)); refine blk_far ?_ NB151_162.out _; (with_reducible repeat (first | refine blk_drewN ?_ _ | refine blk_drew ?_ | refine blk_alloc ?_ _)); refine blk_far ?_ NB151_162.out _; (with_reducible repeat (first | refine blk_drewN ?_ _ | refine blk_drew ?_ | refine blk_alloc ?_ _)); refine blk_far ?_ NB151_162.out _; (with_reducible repeat (first | refine blk_drewN ?_ _ | refine blk_drew ?_ | refine blk_alloc ?_ _)); exact BK151.out⟩
                have n5_ : Aside0 (((((w48.setCell ⟨gb162, 0, none⟩ (.int .u64 t157)).setCell ⟨gb162, 1, none⟩ (.int .u32 t158)).setCell ⟨gb162, 2, none⟩ (.int .u8 t159)).setCell ⟨gb162, 3, none⟩ (.int .u64 t160)).heap[gb162]? = some (.cells #[.int .u64 t157, .int .u32 t158, .int .u8 t159, .int .u64 t160] 25 (0, 0))) := ⟨by (with_reducible repeat (first | refine blk_drewN ?_ _ | refine blk_drew ?_ | refine blk_alloc ?_ _)); refine blk_put (cs := #[.int .u64 t157, .int .u32 t158, .int .u8 t159, .int .u64 0]) ?_ 3 _ rfl; (with_reducible repeat (first | refine blk_drewN ?_ _ | refine blk_drew ?_ | refine blk_alloc ?_ _)); refine blk_put (cs := #[.int .u64 t157, .int .u32 t158, .int .u8 0, .int .u64 0]) ?_ 2 _ rfl; (with_reducible repeat (first | refine blk_drewN ?_ _ | refine blk_drew ?_ | refine blk_alloc ?_ _)); refine blk_put (cs := #[.int .u64 t157, .int .u32 0, .int .u8 0, .int .u64 0]) ?_ 1 _ rfl; (with_reducible repeat (first | refine blk_drewN ?_ _ | refine blk_drew ?_ | refine blk_alloc ?_ _)); refine blk_put (cs := #[.int .u64 0, .int .u32 0, .int .u8 0, .int .u64 0]) ?_ 0 _ rfl; (with_reducible repeat (first | refine blk_drewN ?_ _ | refine blk_drew ?_ | refine blk_alloc ?_ _)); exact BK162.out⟩
                have n6_ : Aside0 (Below w.heap.size w ((((w48.setCell ⟨gb162, 0, none⟩ (.int .u64 t157)).setCell ⟨gb162, 1, none⟩ (.int .u32 t158)).setCell ⟨gb162, 2, none⟩ (.int .u8 t159)).setCell ⟨gb162, 3, none⟩ (.int .u64 t160))) := ⟨by repeat (first | (with_reducible first | exact HB.out | apply below_alloc | apply pw_below_drewN | apply below_drew1 | refine below_set ?_ GE139.out | refine below_set ?_ GE140.out | refine below_set ?_ GE150.out | refine below_set ?_ GE151.out | refine below_set ?_ GE162.out) | exact HB.out)⟩
                (try clear HO154)
                (try clear BK139)
                (try clear BK140)
                (try clear BK150)
                (try clear BK151)
                (try clear BK162)
                (try clear HB)
                generalize ((((w48.setCell ⟨gb162, 0, none⟩ (.int .u64 t157)).setCell ⟨gb162, 1, none⟩ (.int .u32 t158)).setCell ⟨gb162, 2, none⟩ (.int .u8 t159)).setCell ⟨gb162, 3, none⟩ (.int .u64 t160)) = w54 at n0_ n1_ n2_ n3_ n4_ n5_ n6_ ⊢
                have HO154 := n0_
                have BK139 := n1_
                have BK140 := n2_
                have BK150 := n3_
                have BK151 := n4_
                have BK162 := n5_
                have HB := n6_
                clear n0_ n1_ n2_ n3_ n4_ n5_ n6_
                have n0_ := Aside0.mk (Kd.R_drew HO154.out)
                have n1_ := Aside0.mk (blk_drew BK139.out)
                have n2_ := Aside0.mk (blk_drew BK140.out)
                have n3_ := Aside0.mk (blk_drew BK150.out)
                have n4_ := Aside0.mk (blk_drew BK151.out)
                have n5_ := Aside0.mk (blk_drew BK162.out)
                have n6_ := Aside0.mk (below_drew1 HB.out)
                clear HO154
                clear BK139
                clear BK140
                clear BK150
                clear BK151
                clear BK162
                clear HB
                have HO154 := n0_
                have BK139 := n1_
                have BK140 := n2_
                have BK150 := n3_
                have BK151 := n4_
                have BK162 := n5_
                have HB := n6_
                clear n0_ n1_ n2_ n3_ n4_ n5_ n6_
                refine start_ (n := 20) (S := fun w' => w'.cell? ⟨gb162, 0, none⟩ = some (.int .u64 t157) ∧ w'.cell? ⟨gb162, 1, none⟩ = some (.int .u32 t158) ∧ w'.cell? ⟨gb162, 2, none⟩ = some (.int .u8 t159) ∧ w'.cell? ⟨gb162, 3, none⟩ = some (.int .u64 t160) ∧ w'.cell? ⟨gb150, 0, none⟩ = some (.int .u64 t142) ∧ w'.cell? ⟨gb150, 1, none⟩ = some (.int .u32 t143) ∧ w'.cell? ⟨gb150, 2, none⟩ = some (.int .u8 t144) ∧ w'.cell? ⟨gb150, 3, none⟩ = some (.int .u64 t145) ∧ w'.cell? ⟨gb151, 0, none⟩ = some (.int .u64 t146) ∧ w'.cell? ⟨gb151, 1, none⟩ = some (.int .u32 t147) ∧ w'.cell? ⟨gb151, 2, none⟩ = some (.int .u8 t148) ∧ w'.cell? ⟨gb151, 3, none⟩ = some (.int .u64 t149)) (ds := []) #[false, false, false, false, false, false, false, false, false, false, false, false, false, false, false, false, false, false, false, false] (by kernel_rfl) rfl rfl ⟨(blk_cell BK162.out 0).trans rfl, (blk_cell BK162.out 1).trans rfl, (blk_cell BK162.out 2).trans rfl, (blk_cell BK162.out 3).trans rfl, (blk_cell BK150.out 0).trans rfl, (blk_cell BK150.out 1).trans rfl, (blk_cell BK150.out 2).trans rfl, (blk_cell BK150.out 3).trans rfl, (blk_cell BK151.out 0).trans rfl, (blk_cell BK151.out 1).trans rfl, (blk_cell BK151.out 2).trans rfl, (blk_cell BK151.out 3).trans rfl⟩ (fun hHeld => ?_); refine with_tabW sigillumlaw03_CapsTwo.tab9 sigillumlaw03_CapsTwo.bits9 (fun HT_ HW_ => ?_)
                generalize w54.drew = w55 at HO154 BK139 BK140 BK150 BK151 BK162 HB hHeld ⊢
                refine pure_ (i := 0) (N := some 39) (v := ?_) (a' := ?_) #[true, false, false, false, false, false, false, false, false, false, false, false, false, false, false, false, false, false, false, false] rfl rfl (any_of HT_.out (by kernel_rfl)) (fun _ _ _ h => h) (Or.inl ⟨by rfl, ?_⟩) ?_ ?_
                rotate_left
                · intro w'
                  go_simp
                  with_reducible rfl
                rotate_left
                · simp only [Act.put, List.setIfInBounds_toArray, List.set_cons_zero, List.set_cons_succ, i64_w, i32_w]
                  rfl
                refine pure_ (i := 1) (N := some 40) (v := ?_) (a' := ?_) #[true, true, false, false, false, false, false, false, false, false, false, false, false, false, false, false, false, false, false, false] rfl rfl (any_of HT_.out (by kernel_rfl)) (fun _ _ _ h => h) (Or.inl ⟨by rfl, ?_⟩) ?_ ?_
                rotate_left
                · intro w'
                  go_simp
                  with_reducible rfl
                rotate_left
                · simp only [Act.put, List.setIfInBounds_toArray, List.set_cons_zero, List.set_cons_succ, i64_w, i32_w]
                  rfl
                refine take_ (i := 2) (N := some 41) (v := ?_) (a' := ?_) #[true, true, true, false, false, false, false, false, false, false, false, false, false, false, false, false, false, false, false, false] rfl rfl (take_ofW HT_.out HW_.out (by kernel_rfl)) (fun _ _ _ h => h) (Or.inl ⟨by rfl, ?_⟩) hHeld ?_ ?_
                rotate_left
                · rintro w' ⟨s0, s1, s2, s3, s4, s5, s6, s7, s8, s9, s10, s11⟩
                  go_simp
                  with_reducible rfl
                rotate_left
                · simp only [Act.put, List.setIfInBounds_toArray, List.set_cons_zero, List.set_cons_succ, i64_w, i32_w]
                  rfl
                refine take_ (i := 3) (N := some 42) (v := ?_) (a' := ?_) #[true, true, true, true, false, false, false, false, false, false, false, false, false, false, false, false, false, false, false, false] rfl rfl (take_ofW HT_.out HW_.out (by kernel_rfl)) (fun _ _ _ h => h) (Or.inl ⟨by rfl, ?_⟩) hHeld ?_ ?_
                rotate_left
                · rintro w' ⟨s0, s1, s2, s3, s4, s5, s6, s7, s8, s9, s10, s11⟩
                  go_simp
                  with_reducible rfl
                rotate_left
                · simp only [Act.put, List.setIfInBounds_toArray, List.set_cons_zero, List.set_cons_succ, i64_w, i32_w]
                  rfl
                refine pure_ (i := 4) (N := some 43) (v := ?_) (a' := ?_) #[true, true, true, true, true, false, false, false, false, false, false, false, false, false, false, false, false, false, false, false] rfl rfl (any_of HT_.out (by kernel_rfl)) (fun _ _ _ h => h) (Or.inl ⟨by rfl, ?_⟩) ?_ ?_
                rotate_left
                · intro w'
                  go_simp
                  with_reducible rfl
                rotate_left
                · simp only [Act.put, List.setIfInBounds_toArray, List.set_cons_zero, List.set_cons_succ, i64_w, i32_w]
                  rfl
                refine pure_ (i := 5) (N := some 44) (v := ?_) (a' := ?_) #[true, true, true, true, true, true, false, false, false, false, false, false, false, false, false, false, false, false, false, false] rfl rfl (any_of HT_.out (by kernel_rfl)) (fun _ _ _ h => h) (Or.inl ⟨by rfl, ?_⟩) ?_ ?_
                rotate_left
                · intro w'
                  go_simp
                  with_reducible rfl
                rotate_left
                · simp only [Act.put, List.setIfInBounds_toArray, List.set_cons_zero, List.set_cons_succ, i64_w, i32_w]
                  rfl
                refine pure_ (i := 6) (N := some 45) (v := ?_) (a' := ?_) #[true, true, true, true, true, true, true, false, false, false, false, false, false, false, false, false, false, false, false, false] rfl rfl (any_of HT_.out (by kernel_rfl)) (fun _ _ _ h => h) (Or.inl ⟨by rfl, ?_⟩) ?_ ?_
                rotate_left
                · intro w'
                  go_simp
                  with_reducible rfl
                rotate_left
                · simp only [Act.put, List.setIfInBounds_toArray, List.set_cons_zero, List.set_cons_succ, i64_w, i32_w]
                  rfl
                refine take_ (i := 7) (N := some 46) (v := ?_) (a' := ?_) #[true, true, true, true, true, true, true, true, false, false, false, false, false, false, false, false, false, false, false, false] rfl rfl (take_ofW HT_.out HW_.out (by kernel_rfl)) (fun _ _ _ h => h) (Or.inl ⟨by rfl, ?_⟩) hHeld ?_ ?_
                rotate_left
                · rintro w' ⟨s0, s1, s2, s3, s4, s5, s6, s7, s8, s9, s10, s11⟩
                  go_simp
                  with_reducible rfl
                rotate_left
                · simp only [Act.put, List.setIfInBounds_toArray, List.set_cons_zero, List.set_cons_succ, i64_w, i32_w]
                  rfl
                refine take_ (i := 10) (N := some 49) (v := ?_) (a' := ?_) #[true, true, true, true, true, true, true, true, false, false, true, false, false, false, false, false, false, false, false, false] rfl rfl (take_ofW HT_.out HW_.out (by kernel_rfl)) (fun _ _ _ h => h) (Or.inl ⟨by rfl, ?_⟩) hHeld ?_ ?_
                rotate_left
                · rintro w' ⟨s0, s1, s2, s3, s4, s5, s6, s7, s8, s9, s10, s11⟩
                  go_simp
                  with_reducible rfl
                rotate_left
                · simp only [Act.put, List.setIfInBounds_toArray, List.set_cons_zero, List.set_cons_succ, i64_w, i32_w]
                  rfl
                refine take_ (i := 14) (N := some 53) (v := ?_) (a' := ?_) #[true, true, true, true, true, true, true, true, false, false, true, false, false, false, true, false, false, false, false, false] rfl rfl (take_ofW HT_.out HW_.out (by kernel_rfl)) (fun _ _ _ h => h) (Or.inl ⟨by rfl, ?_⟩) hHeld ?_ ?_
                rotate_left
                · rintro w' ⟨s0, s1, s2, s3, s4, s5, s6, s7, s8, s9, s10, s11⟩
                  go_simp
                  with_reducible rfl
                rotate_left
                · simp only [Act.put, List.setIfInBounds_toArray, List.set_cons_zero, List.set_cons_succ, i64_w, i32_w]
                  rfl
                refine take_ (i := 15) (N := some 54) (v := ?_) (a' := ?_) #[true, true, true, true, true, true, true, true, false, false, true, false, false, false, true, true, false, false, false, false] rfl rfl (take_ofW HT_.out HW_.out (by kernel_rfl)) (fun _ _ _ h => h) (Or.inl ⟨by rfl, ?_⟩) hHeld ?_ ?_
                rotate_left
                · rintro w' ⟨s0, s1, s2, s3, s4, s5, s6, s7, s8, s9, s10, s11⟩
                  go_simp
                  with_reducible rfl
                rotate_left
                · simp only [Act.put, List.setIfInBounds_toArray, List.set_cons_zero, List.set_cons_succ, i64_w, i32_w]
                  rfl
                refine pure_ (i := 16) (N := some 55) (v := ?_) (a' := ?_) #[true, true, true, true, true, true, true, true, false, false, true, false, false, false, true, true, true, false, false, false] rfl rfl (any_of HT_.out (by kernel_rfl)) (fun _ _ _ h => h) (Or.inl ⟨by rfl, ?_⟩) ?_ ?_
                rotate_left
                · intro w'
                  go_simp
                  with_reducible rfl
                rotate_left
                · simp only [Act.put, List.setIfInBounds_toArray, List.set_cons_zero, List.set_cons_succ, i64_w, i32_w]
                  rfl
                refine one_ (i := 8) (N := some 47) #[true, true, true, true, true, true, true, true, true, false, true, false, false, false, true, true, true, false, false, false] rfl rfl (one_of HT_.out (by kernel_rfl)) (by decide) (fun K hK => ?_)
                refine goes_ Try.func12 (by kernel_rfl) rfl #[.agg #[.int .u64 t142, .int .u32 t143, .int .u8 t144, .int .u64 t145]] (by rfl) rfl rfl (by (try simp only [List.map_toArray, List.map_cons, List.map_nil]); first | done | rfl | (simp only [List.length_drop, List.length_take]; rfl)) ?_
                with_reducible refine (caps_Encode.calls k t142 t143 t144 t145 t163 _ A20.out).mono ?_
                rintro e w56 ⟨v164, rfl, ho0, hb⟩
                refine ⟨_, rfl, ?_⟩
                have n0_ := Aside0.mk (Kd.R_elder' (by (with_reducible repeat (first | apply Kd.R_alloc | apply Kd.R_drewN | apply Kd.R_drew)); exact HO154.out) (Kd.R_base ho0) hb)
                have n1_ := Aside0.mk (Kd.R_lower (Kd.R_new' ho0 (Kd.R_lt (by (with_reducible repeat (first | apply Kd.R_alloc | apply Kd.R_drewN | apply Kd.R_drew)); exact HO154.out))) (below_size (by repeat (first | (with_reducible first | exact HB.out | apply below_alloc | apply pw_below_drewN | apply below_drew1 | refine below_set ?_ GE139.out | refine below_set ?_ GE140.out | refine below_set ?_ GE150.out | refine below_set ?_ GE151.out | refine below_set ?_ GE162.out) | exact HB.out))))
                have n2_ := Aside0.mk (blk_below (g := gb139) (o := .cells #[.int .u64 a0_0, .int .u32 a0_1, .int .u8 a0_2, .int .u64 a0_3] 25 (0, 0)) (by (with_reducible repeat (first | refine blk_drewN ?_ _ | refine blk_drew ?_ | refine blk_alloc ?_ _)); exact BK139.out) hb)
                have n3_ := Aside0.mk (blk_below (g := gb140) (o := .cells #[.int .u64 a1_0, .int .u32 a1_1, .int .u8 a1_2, .int .u64 a1_3] 25 (0, 0)) (by (with_reducible repeat (first | refine blk_drewN ?_ _ | refine blk_drew ?_ | refine blk_alloc ?_ _)); exact BK140.out) hb)
                have n4_ := Aside0.mk (blk_below (g := gb150) (o := .cells #[.int .u64 t142, .int .u32 t143, .int .u8 t144, .int .u64 t145] 25 (0, 0)) (by (with_reducible repeat (first | refine blk_drewN ?_ _ | refine blk_drew ?_ | refine blk_alloc ?_ _)); exact BK150.out) hb)
                have n5_ := Aside0.mk (blk_below (g := gb151) (o := .cells #[.int .u64 t146, .int .u32 t147, .int .u8 t148, .int .u64 t149] 25 (0, 0)) (by (with_reducible repeat (first | refine blk_drewN ?_ _ | refine blk_drew ?_ | refine blk_alloc ?_ _)); exact BK151.out) hb)
                have n6_ := Aside0.mk (blk_below (g := gb162) (o := .cells #[.int .u64 t157, .int .u32 t158, .int .u8 t159, .int .u64 t160] 25 (0, 0)) (by (with_reducible repeat (first | refine blk_drewN ?_ _ | refine blk_drew ?_ | refine blk_alloc ?_ _)); exact BK162.out) hb)
                have n7_ := Aside0.mk (below_step (by repeat (first | (with_reducible first | exact HB.out | apply below_alloc | apply pw_below_drewN | apply below_drew1 | refine below_set ?_ GE139.out | refine below_set ?_ GE140.out | refine below_set ?_ GE150.out | refine below_set ?_ GE151.out | refine below_set ?_ GE162.out) | exact HB.out)) hb)
                clear HO154
                clear BK139
                clear BK140
                clear BK150
                clear BK151
                clear BK162
                clear HB
                have HO154 := n0_
                have HO165 := n1_
                have BK139 := n2_
                have BK140 := n3_
                have BK150 := n4_
                have BK151 := n5_
                have BK162 := n6_
                have HB := n7_
                clear n0_ n1_ n2_ n3_ n4_ n5_ n6_ n7_
                (try clear hb)
                (try clear hb2)
                (try clear hk)
                (try clear hi)
                (try clear ho0)
                refine hK.out _ _ ⟨(blk_cell BK162.out 0).trans rfl, (blk_cell BK162.out 1).trans rfl, (blk_cell BK162.out 2).trans rfl, (blk_cell BK162.out 3).trans rfl, (blk_cell BK150.out 0).trans rfl, (blk_cell BK150.out 1).trans rfl, (blk_cell BK150.out 2).trans rfl, (blk_cell BK150.out 3).trans rfl, (blk_cell BK151.out 0).trans rfl, (blk_cell BK151.out 1).trans rfl, (blk_cell BK151.out 2).trans rfl, (blk_cell BK151.out 3).trans rfl⟩ (fun hHeld => ?_)
                clear hK K
                refine norm_ (a' := ?_) ?_ ?_
                rotate_left
                · show Act.put _ (some 47) _ = _
                  simp only [Act.put, List.setIfInBounds_toArray, List.set_cons_zero, List.set_cons_succ, i64_w, i32_w]
                  rfl
                refine join_ (σ := Value) 4 #[true, true, true, true, true, true, true, true, true, true, true, true, true, false, true, true, true, false, false, false] (fun s_ => [(48, .string (strOfNums t163)), (50, s_), (51, .string (strOfNums t166))]) (fun s_ w' => (w'.cell? ⟨gb162, 0, none⟩ = some (.int .u64 t157) ∧ w'.cell? ⟨gb162, 1, none⟩ = some (.int .u32 t158) ∧ w'.cell? ⟨gb162, 2, none⟩ = some (.int .u8 t159) ∧ w'.cell? ⟨gb162, 3, none⟩ = some (.int .u64 t160) ∧ w'.cell? ⟨gb150, 0, none⟩ = some (.int .u64 t142) ∧ w'.cell? ⟨gb150, 1, none⟩ = some (.int .u32 t143) ∧ w'.cell? ⟨gb150, 2, none⟩ = some (.int .u8 t144) ∧ w'.cell? ⟨gb150, 3, none⟩ = some (.int .u64 t145) ∧ w'.cell? ⟨gb151, 0, none⟩ = some (.int .u64 t146) ∧ w'.cell? ⟨gb151, 1, none⟩ = some (.int .u32 t147) ∧ w'.cell? ⟨gb151, 2, none⟩ = some (.int .u8 t148) ∧ w'.cell? ⟨gb151, 3, none⟩ = some (.int .u64 t149)) ∧ (Kd.R (Kd.int .u8) 5 w' w.heap.size (fun k_ => some k_ ≠ (v164 : Value).ownBlock ∧ some k_ ≠ (s_ : Value).ownBlock) (.slice (some ⟨go16, 0, none⟩) t152.length co44) y156) ∧ (Kd.R (Kd.int .u8) 5 w' w.heap.size (fun k_ => some k_ ≠ (.slice (some ⟨go16, 0, none⟩) t152.length co44 : Value).ownBlock ∧ some k_ ≠ (s_ : Value).ownBlock) v164 t163) ∧ (Kd.R (Kd.int .u8) 5 w' w.heap.size (fun k_ => some k_ ≠ (.slice (some ⟨go16, 0, none⟩) t152.length co44 : Value).ownBlock ∧ some k_ ≠ (v164 : Value).ownBlock) s_ t166) ∧ (w'.heap[gb139]? = some (.cells #[.int .u64 a0_0, .int .u32 a0_1, .int .u8 a0_2, .int .u64 a0_3] 25 (0, 0))) ∧ (w'.heap[gb140]? = some (.cells #[.int .u64 a1_0, .int .u32 a1_1, .int .u8 a1_2, .int .u64 a1_3] 25 (0, 0))) ∧ (w'.heap[gb150]? = some (.cells #[.int .u64 t142, .int .u32 t143, .int .u8 t144, .int .u64 t145] 25 (0, 0))) ∧ (w'.heap[gb151]? = some (.cells #[.int .u64 t146, .int .u32 t147, .int .u8 t148, .int .u64 t149] 25 (0, 0))) ∧ (w'.heap[gb162]? = some (.cells #[.int .u64 t157, .int .u32 t158, .int .u8 t159, .int .u64 t160] 25 (0, 0))) ∧ (Below w.heap.size w w')) ?_ ?_
                rotate_left
                · intro hCont
                  refine two_ (i := 9) (j := 11) (Ni := some 48) (Nj := some 50) #[true, true, true, true, true, true, true, true, true, true, true, false, false, false, true, true, true, false, false, false] #[true, true, true, true, true, true, true, true, true, false, true, true, false, false, true, true, true, false, false, false] rfl rfl rfl rfl (two_of HT_.out (by kernel_rfl)) (by decide) (by decide) (fun K hK => ?_) (fun K hK => ?_)
                  · skip
                    have hcv57 := own_string (P := Try.prog) Try.underlying29 Try.underlying5 Try.underlying9 (Kd.own_of_R HO165.out)
                    refine value_ (w1 := ?_) (v := ?_) (by rfl) rfl ?_ ?_
                    rotate_left 2
                    · go_simp
                      constructor
                      · rfl
                      · rfl
                    clear hcv57
                    refine hK.out _ _ ⟨(blk_cell BK162.out 0).trans rfl, (blk_cell BK162.out 1).trans rfl, (blk_cell BK162.out 2).trans rfl, (blk_cell BK162.out 3).trans rfl, (blk_cell BK150.out 0).trans rfl, (blk_cell BK150.out 1).trans rfl, (blk_cell BK150.out 2).trans rfl, (blk_cell BK150.out 3).trans rfl, (blk_cell BK151.out 0).trans rfl, (blk_cell BK151.out 1).trans rfl, (blk_cell BK151.out 2).trans rfl, (blk_cell BK151.out 3).trans rfl⟩ (fun hHeld => ?_)
                    clear hK K
                    refine norm_ (a' := ?_) ?_ ?_
                    rotate_left
                    · show Act.put _ (some 48) _ = _
                      simp only [Act.put, List.setIfInBounds_toArray, List.set_cons_zero, List.set_cons_succ, i64_w, i32_w]
                      rfl
                    refine one_ (i := 11) (N := some 50) #[true, true, true, true, true, true, true, true, true, true, true, true, false, false, true, true, true, false, false, false] rfl rfl (one_of HT_.out (by kernel_rfl)) (by decide) (fun K hK => ?_)
                    refine goes_ Try.func12 (by kernel_rfl) rfl #[.agg #[.int .u64 t146, .int .u32 t147, .int .u8 t148, .int .u64 t149]] (by rfl) rfl rfl (by (try simp only [List.map_toArray, List.map_cons, List.map_nil]); first | done | rfl | (simp only [List.length_drop, List.length_take]; rfl)) ?_
                    with_reducible refine (caps_Encode.calls k t146 t147 t148 t149 t166 _ A21.out).mono ?_
                    rintro e w58 ⟨v167, rfl, ho0, hb⟩
                    refine ⟨_, rfl, ?_⟩
                    have n0_ := Aside0.mk (Kd.R_elder' (by (with_reducible repeat (first | apply Kd.R_alloc | apply Kd.R_drewN | apply Kd.R_drew)); exact HO154.out) (Kd.R_base ho0) hb)
                    have n1_ := Aside0.mk (Kd.R_elder' (by (with_reducible repeat (first | apply Kd.R_alloc | apply Kd.R_drewN | apply Kd.R_drew)); exact HO165.out) (Kd.R_base ho0) hb)
                    have n2_ := Aside0.mk (Kd.R_lower (Kd.R_new' (Kd.R_new' ho0 (Kd.R_lt (by (with_reducible repeat (first | apply Kd.R_alloc | apply Kd.R_drewN | apply Kd.R_drew)); exact HO154.out))) (Kd.R_lt (by (with_reducible repeat (first | apply Kd.R_alloc | apply Kd.R_drewN | apply Kd.R_drew)); exact HO165.out))) (below_size (by repeat (first | (with_reducible first | exact HB.out | apply below_alloc | apply pw_below_drewN | apply below_drew1 | refine below_set ?_ GE139.out | refine below_set ?_ GE140.out | refine below_set ?_ GE150.out | refine below_set ?_ GE151.out | refine below_set ?_ GE162.out) | exact HB.out))))
                    have n3_ := Aside0.mk (blk_below (g := gb139) (o := .cells #[.int .u64 a0_0, .int .u32 a0_1, .int .u8 a0_2, .int .u64 a0_3] 25 (0, 0)) (by (with_reducible repeat (first | refine blk_drewN ?_ _ | refine blk_drew ?_ | refine blk_alloc ?_ _)); exact BK139.out) hb)
                    have n4_ := Aside0.mk (blk_below (g := gb140) (o := .cells #[.int .u64 a1_0, .int .u32 a1_1, .int .u8 a1_2, .int .u64 a1_3] 25 (0, 0)) (by (with_reducible repeat (first | refine blk_drewN ?_ _ | refine blk_drew ?_ | refine blk_alloc ?_ _)); exact BK140.out) hb)
                    have n5_ := Aside0.mk (blk_below (g := gb150) (o := .cells #[.int .u64 t142, .int .u32 t143, .int .u8 t144, .int .u64 t145] 25 (0, 0)) (by (with_reducible repeat (first | refine blk_drewN ?_ _ | refine blk_drew ?_ | refine blk_alloc ?_ _)); exact BK150.out) hb)
                    have n6_ := Aside0.mk (blk_below (g := gb151) (o := .cells #[.int .u64 t146, .int .u32 t147, .int .u8 t148, .int .u64 t149] 25 (0, 0)) (by (with_reducible repeat (first | refine blk_drewN ?_ _ | refine blk_drew ?_ | refine blk_alloc ?_ _)); exact BK151.out) hb)
                    have n7_ := Aside0.mk (blk_below (g := gb162) (o := .cells #[.int .u64 t157, .int .u32 t158, .int .u8 t159, .int .u64 t160] 25 (0, 0)) (by (with_reducible repeat (first | refine blk_drewN ?_ _ | refine blk_drew ?_ | refine blk_alloc ?_ _)); exact BK162.out) hb)
                    have n8_ := Aside0.mk (below_step (by repeat (first | (with_reducible first | exact HB.out | apply below_alloc | apply pw_below_drewN | apply below_drew1 | refine below_set ?_ GE139.out | refine below_set ?_ GE140.out | refine below_set ?_ GE150.out | refine below_set ?_ GE151.out | refine below_set ?_ GE162.out) | exact HB.out)) hb)
                    clear HO154
                    clear HO165
                    clear BK139
                    clear BK140
                    clear BK150
                    clear BK151
                    clear BK162
                    clear HB
                    have HO154 := n0_
                    have HO165 := n1_
                    have HO168 := n2_
                    have BK139 := n3_
                    have BK140 := n4_
                    have BK150 := n5_
                    have BK151 := n6_
                    have BK162 := n7_
                    have HB := n8_
                    clear n0_ n1_ n2_ n3_ n4_ n5_ n6_ n7_ n8_
                    (try clear hb)
                    (try clear hb2)
                    (try clear hk)
                    (try clear hi)
                    (try clear ho0)
                    refine hK.out _ _ ⟨(blk_cell BK162.out 0).trans rfl, (blk_cell BK162.out 1).trans rfl, (blk_cell BK162.out 2).trans rfl, (blk_cell BK162.out 3).trans rfl, (blk_cell BK150.out 0).trans rfl, (blk_cell BK150.out 1).trans rfl, (blk_cell BK150.out 2).trans rfl, (blk_cell BK150.out 3).trans rfl, (blk_cell BK151.out 0).trans rfl, (blk_cell BK151.out 1).trans rfl, (blk_cell BK151.out 2).trans rfl, (blk_cell BK151.out 3).trans rfl⟩ (fun hHeld => ?_)
                    clear hK K
                    refine norm_ (a' := ?_) ?_ ?_
                    rotate_left
                    · show Act.put _ (some 50) _ = _
                      simp only [Act.put, List.setIfInBounds_toArray, List.set_cons_zero, List.set_cons_succ, i64_w, i32_w]
                      rfl
                    refine one_ (i := 12) (N := some 51) #[true, true, true, true, true, true, true, true, true, true, true, true, true, false, true, true, true, false, false, false] rfl rfl (one_of HT_.out (by kernel_rfl)) (by decide) (fun K hK => ?_)
                    have hcv59 := own_string (P := Try.prog) Try.underlying29 Try.underlying5 Try.underlying9 (Kd.own_of_R HO168.out)
                    refine value_ (w1 := ?_) (v := ?_) (by rfl) rfl ?_ ?_
                    rotate_left 2
                    · go_simp
                      constructor
                      · rfl
                      · rfl
                    clear hcv59
                    refine hK.out _ _ ⟨(blk_cell BK162.out 0).trans rfl, (blk_cell BK162.out 1).trans rfl, (blk_cell BK162.out 2).trans rfl, (blk_cell BK162.out 3).trans rfl, (blk_cell BK150.out 0).trans rfl, (blk_cell BK150.out 1).trans rfl, (blk_cell BK150.out 2).trans rfl, (blk_cell BK150.out 3).trans rfl, (blk_cell BK151.out 0).trans rfl, (blk_cell BK151.out 1).trans rfl, (blk_cell BK151.out 2).trans rfl, (blk_cell BK151.out 3).trans rfl⟩ (fun hHeld => ?_)
                    clear hK K
                    refine norm_ (a' := ?_) ?_ ?_
                    rotate_left
                    · show Act.put _ (some 51) _ = _
                      simp only [Act.put, List.setIfInBounds_toArray, List.set_cons_zero, List.set_cons_succ, i64_w, i32_w]
                      rfl
                    exact norm_ (by simp only [putAll, Act.put, List.setIfInBounds_toArray, List.set_cons_zero, List.set_cons_succ]) (hCont (v167) _ ⟨hHeld, (by (with_reducible repeat (first | apply Kd.R_alloc | apply Kd.R_drewN | apply Kd.R_drew)); exact Kd.R_mono HO154.out (fun _ hk => ⟨hk.1.2, hk.2⟩)), (by (with_reducible repeat (first | apply Kd.R_alloc | apply Kd.R_drewN | apply Kd.R_drew)); exact Kd.R_mono HO165.out (fun _ hk => ⟨hk.1.2, hk.2⟩)), (by (with_reducible repeat (first | apply Kd.R_alloc | apply Kd.R_drewN | apply Kd.R_drew)); exact Kd.R_mono HO168.out (fun _ hk => ⟨hk.1.2, hk.2⟩)), (by (with_reducible repeat (first | refine blk_drewN ?_ _ | refine blk_drew ?_ | refine blk_alloc ?_ _)); exact BK139.out), (by (with_reducible repeat (first | refine blk_drewN ?_ _ | refine blk_drew ?_ | refine blk_alloc ?_ _)); exact BK140.out), (by (with_reducible repeat (first | refine blk_drewN ?_ _ | refine blk_drew ?_ | refine blk_alloc ?_ _)); exact BK150.out), (by (with_reducible repeat (first | refine blk_drewN ?_ _ | refine blk_drew ?_ | refine blk_alloc ?_ _)); exact BK151.out), (by (with_reducible repeat (first | refine blk_drewN ?_ _ | refine blk_drew ?_ | refine blk_alloc ?_ _)); exact BK162.out), (by repeat (first | (with_reducible first | exact HB.out | apply below_alloc | apply pw_below_drewN | apply below_drew1 | refine below_set ?_ GE139.out | refine below_set ?_ GE140.out | refine below_set ?_ GE150.out | refine below_set ?_ GE151.out | refine below_set ?_ GE162.out) | exact HB.out))⟩)
                  · skip
                    refine goes_ Try.func12 (by kernel_rfl) rfl #[.agg #[.int .u64 t146, .int .u32 t147, .int .u8 t148, .int .u64 t149]] (by rfl) rfl rfl (by (try simp only [List.map_toArray, List.map_cons, List.map_nil]); first | done | rfl | (simp only [List.length_drop, List.length_take]; rfl)) ?_
                    with_reducible refine (caps_Encode.calls k t146 t147 t148 t149 t166 _ A21.out).mono ?_
                    rintro e w57 ⟨v167, rfl, ho0, hb⟩
                    refine ⟨_, rfl, ?_⟩
                    have n0_ := Aside0.mk (Kd.R_elder' (by (with_reducible repeat (first | apply Kd.R_alloc | apply Kd.R_drewN | apply Kd.R_drew)); exact HO154.out) (Kd.R_base ho0) hb)
                    have n1_ := Aside0.mk (Kd.R_elder' (by (with_reducible repeat (first | apply Kd.R_alloc | apply Kd.R_drewN | apply Kd.R_drew)); exact HO165.out) (Kd.R_base ho0) hb)
                    have n2_ := Aside0.mk (Kd.R_lower (Kd.R_new' (Kd.R_new' ho0 (Kd.R_lt (by (with_reducible repeat (first | apply Kd.R_alloc | apply Kd.R_drewN | apply Kd.R_drew)); exact HO154.out))) (Kd.R_lt (by (with_reducible repeat (first | apply Kd.R_alloc | apply Kd.R_drewN | apply Kd.R_drew)); exact HO165.out))) (below_size (by repeat (first | (with_reducible first | exact HB.out | apply below_alloc | apply pw_below_drewN | apply below_drew1 | refine below_set ?_ GE139.out | refine below_set ?_ GE140.out | refine below_set ?_ GE150.out | refine below_set ?_ GE151.out | refine below_set ?_ GE162.out) | exact HB.out))))
                    have n3_ := Aside0.mk (blk_below (g := gb139) (o := .cells #[.int .u64 a0_0, .int .u32 a0_1, .int .u8 a0_2, .int .u64 a0_3] 25 (0, 0)) (by (with_reducible repeat (first | refine blk_drewN ?_ _ | refine blk_drew ?_ | refine blk_alloc ?_ _)); exact BK139.out) hb)
                    have n4_ := Aside0.mk (blk_below (g := gb140) (o := .cells #[.int .u64 a1_0, .int .u32 a1_1, .int .u8 a1_2, .int .u64 a1_3] 25 (0, 0)) (by (with_reducible repeat (first | refine blk_drewN ?_ _ | refine blk_drew ?_ | refine blk_alloc ?_ _)); exact BK140.out) hb)
                    have n5_ := Aside0.mk (blk_below (g := gb150) (o := .cells #[.int .u64 t142, .int .u32 t143, .int .u8 t144, .int .u64 t145] 25 (0, 0)) (by (with_reducible repeat (first | refine blk_drewN ?_ _ | refine blk_drew ?_ | refine blk_alloc ?_ _)); exact BK150.out) hb)
                    have n6_ := Aside0.mk (blk_below (g := gb151) (o := .cells #[.int .u64 t146, .int .u32 t147, .int .u8 t148, .int .u64 t149] 25 (0, 0)) (by (with_reducible repeat (first | refine blk_drewN ?_ _ | refine blk_drew ?_ | refine blk_alloc ?_ _)); exact BK151.out) hb)
                    have n7_ := Aside0.mk (blk_below (g := gb162) (o := .cells #[.int .u64 t157, .int .u32 t158, .int .u8 t159, .int .u64 t160] 25 (0, 0)) (by (with_reducible repeat (first | refine blk_drewN ?_ _ | refine blk_drew ?_ | refine blk_alloc ?_ _)); exact BK162.out) hb)
                    have n8_ := Aside0.mk (below_step (by repeat (first | (with_reducible first | exact HB.out | apply below_alloc | apply pw_below_drewN | apply below_drew1 | refine below_set ?_ GE139.out | refine below_set ?_ GE140.out | refine below_set ?_ GE150.out | refine below_set ?_ GE151.out | refine below_set ?_ GE162.out) | exact HB.out)) hb)
                    clear HO154
                    clear HO165
                    clear BK139
                    clear BK140
                    clear BK150
                    clear BK151
                    clear BK162
                    clear HB
                    have HO154 := n0_
                    have HO165 := n1_
                    have HO168 := n2_
                    have BK139 := n3_
                    have BK140 := n4_
                    have BK150 := n5_
                    have BK151 := n6_
                    have BK162 := n7_
                    have HB := n8_
                    clear n0_ n1_ n2_ n3_ n4_ n5_ n6_ n7_ n8_
                    (try clear hb)
                    (try clear hb2)
                    (try clear hk)
                    (try clear hi)
                    (try clear ho0)
                    refine hK.out _ _ ⟨(blk_cell BK162.out 0).trans rfl, (blk_cell BK162.out 1).trans rfl, (blk_cell BK162.out 2).trans rfl, (blk_cell BK162.out 3).trans rfl, (blk_cell BK150.out 0).trans rfl, (blk_cell BK150.out 1).trans rfl, (blk_cell BK150.out 2).trans rfl, (blk_cell BK150.out 3).trans rfl, (blk_cell BK151.out 0).trans rfl, (blk_cell BK151.out 1).trans rfl, (blk_cell BK151.out 2).trans rfl, (blk_cell BK151.out 3).trans rfl⟩ (fun hHeld => ?_)
                    clear hK K
                    refine norm_ (a' := ?_) ?_ ?_
                    rotate_left
                    · show Act.put _ (some 50) _ = _
                      simp only [Act.put, List.setIfInBounds_toArray, List.set_cons_zero, List.set_cons_succ, i64_w, i32_w]
                      rfl
                    refine two_ (i := 9) (j := 12) (Ni := some 48) (Nj := some 51) #[true, true, true, true, true, true, true, true, true, true, true, true, false, false, true, true, true, false, false, false] #[true, true, true, true, true, true, true, true, true, false, true, true, true, false, true, true, true, false, false, false] rfl rfl rfl rfl (two_of HT_.out (by kernel_rfl)) (by decide) (by decide) (fun K hK => ?_) (fun K hK => ?_)
                    · skip
                      have hcv58 := own_string (P := Try.prog) Try.underlying29 Try.underlying5 Try.underlying9 (Kd.own_of_R HO165.out)
                      refine value_ (w1 := ?_) (v := ?_) (by rfl) rfl ?_ ?_
                      rotate_left 2
                      · go_simp
                        constructor
                        · rfl
                        · rfl
                      clear hcv58
                      refine hK.out _ _ ⟨(blk_cell BK162.out 0).trans rfl, (blk_cell BK162.out 1).trans rfl, (blk_cell BK162.out 2).trans rfl, (blk_cell BK162.out 3).trans rfl, (blk_cell BK150.out 0).trans rfl, (blk_cell BK150.out 1).trans rfl, (blk_cell BK150.out 2).trans rfl, (blk_cell BK150.out 3).trans rfl, (blk_cell BK151.out 0).trans rfl, (blk_cell BK151.out 1).trans rfl, (blk_cell BK151.out 2).trans rfl, (blk_cell BK151.out 3).trans rfl⟩ (fun hHeld => ?_)
                      clear hK K
                      refine norm_ (a' := ?_) ?_ ?_
                      rotate_left
                      · show Act.put _ (some 48) _ = _
                        simp only [Act.put, List.setIfInBounds_toArray, List.set_cons_zero, List.set_cons_succ, i64_w, i32_w]
                        rfl
                      refine one_ (i := 12) (N := some 51) #[true, true, true, true, true, true, true, true, true, true, true, true, true, false, true, true, true, false, false, false] rfl rfl (one_of HT_.out (by kernel_rfl)) (by decide) (fun K hK => ?_)
                      have hcv59 := own_string (P := Try.prog) Try.underlying29 Try.underlying5 Try.underlying9 (Kd.own_of_R HO168.out)
                      refine value_ (w1 := ?_) (v := ?_) (by rfl) rfl ?_ ?_
                      rotate_left 2
                      · go_simp
                        constructor
                        · rfl
                        · rfl
                      clear hcv59
                      refine hK.out _ _ ⟨(blk_cell BK162.out 0).trans rfl, (blk_cell BK162.out 1).trans rfl, (blk_cell BK162.out 2).trans rfl, (blk_cell BK162.out 3).trans rfl, (blk_cell BK150.out 0).trans rfl, (blk_cell BK150.out 1).trans rfl, (blk_cell BK150.out 2).trans rfl, (blk_cell BK150.out 3).trans rfl, (blk_cell BK151.out 0).trans rfl, (blk_cell BK151.out 1).trans rfl, (blk_cell BK151.out 2).trans rfl, (blk_cell BK151.out 3).trans rfl⟩ (fun hHeld => ?_)
                      clear hK K
                      refine norm_ (a' := ?_) ?_ ?_
                      rotate_left
                      · show Act.put _ (some 51) _ = _
                        simp only [Act.put, List.setIfInBounds_toArray, List.set_cons_zero, List.set_cons_succ, i64_w, i32_w]
                        rfl
                      exact norm_ (by simp only [putAll, Act.put, List.setIfInBounds_toArray, List.set_cons_zero, List.set_cons_succ]) (hCont (v167) _ ⟨hHeld, (by (with_reducible repeat (first | apply Kd.R_alloc | apply Kd.R_drewN | apply Kd.R_drew)); exact Kd.R_mono HO154.out (fun _ hk => ⟨hk.1.2, hk.2⟩)), (by (with_reducible repeat (first | apply Kd.R_alloc | apply Kd.R_drewN | apply Kd.R_drew)); exact Kd.R_mono HO165.out (fun _ hk => ⟨hk.1.2, hk.2⟩)), (by (with_reducible repeat (first | apply Kd.R_alloc | apply Kd.R_drewN | apply Kd.R_drew)); exact Kd.R_mono HO168.out (fun _ hk => ⟨hk.1.2, hk.2⟩)), (by (with_reducible repeat (first | refine blk_drewN ?_ _ | refine blk_drew ?_ | refine blk_alloc ?_ _)); exact BK139.out), (by (with_reducible repeat (first | refine blk_drewN ?_ _ | refine blk_drew ?_ | refine blk_alloc ?_ _)); exact BK140.out), (by (with_reducible repeat (first | refine blk_drewN ?_ _ | refine blk_drew ?_ | refine blk_alloc ?_ _)); exact BK150.out), (by (with_reducible repeat (first | refine blk_drewN ?_ _ | refine blk_drew ?_ | refine blk_alloc ?_ _)); exact BK151.out), (by (with_reducible repeat (first | refine blk_drewN ?_ _ | refine blk_drew ?_ | refine blk_alloc ?_ _)); exact BK162.out), (by repeat (first | (with_reducible first | exact HB.out | apply below_alloc | apply pw_below_drewN | apply below_drew1 | refine below_set ?_ GE139.out | refine below_set ?_ GE140.out | refine below_set ?_ GE150.out | refine below_set ?_ GE151.out | refine below_set ?_ GE162.out) | exact HB.out))⟩)
                    · skip
                      have hcv58 := own_string (P := Try.prog) Try.underlying29 Try.underlying5 Try.underlying9 (Kd.own_of_R HO168.out)
                      refine value_ (w1 := ?_) (v := ?_) (by rfl) rfl ?_ ?_
                      rotate_left 2
                      · go_simp
                        constructor
                        · rfl
                        · rfl
                      clear hcv58
                      refine hK.out _ _ ⟨(blk_cell BK162.out 0).trans rfl, (blk_cell BK162.out 1).trans rfl, (blk_cell BK162.out 2).trans rfl, (blk_cell BK162.out 3).trans rfl, (blk_cell BK150.out 0).trans rfl, (blk_cell BK150.out 1).trans rfl, (blk_cell BK150.out 2).trans rfl, (blk_cell BK150.out 3).trans rfl, (blk_cell BK151.out 0).trans rfl, (blk_cell BK151.out 1).trans rfl, (blk_cell BK151.out 2).trans rfl, (blk_cell BK151.out 3).trans rfl⟩ (fun hHeld => ?_)
                      clear hK K
                      refine norm_ (a' := ?_) ?_ ?_
                      rotate_left
                      · show Act.put _ (some 51) _ = _
                        simp only [Act.put, List.setIfInBounds_toArray, List.set_cons_zero, List.set_cons_succ, i64_w, i32_w]
                        rfl
                      refine one_ (i := 9) (N := some 48) #[true, true, true, true, true, true, true, true, true, true, true, true, true, false, true, true, true, false, false, false] rfl rfl (one_of HT_.out (by kernel_rfl)) (by decide) (fun K hK => ?_)
                      have hcv59 := own_string (P := Try.prog) Try.underlying29 Try.underlying5 Try.underlying9 (Kd.own_of_R HO165.out)
                      refine value_ (w1 := ?_) (v := ?_) (by rfl) rfl ?_ ?_
                      rotate_left 2
                      · go_simp
                        constructor
                        · rfl
                        · rfl
                      clear hcv59
                      refine hK.out _ _ ⟨(blk_cell BK162.out 0).trans rfl, (blk_cell BK162.out 1).trans rfl, (blk_cell BK162.out 2).trans rfl, (blk_cell BK162.out 3).trans rfl, (blk_cell BK150.out 0).trans rfl, (blk_cell BK150.out 1).trans rfl, (blk_cell BK150.out 2).trans rfl, (blk_cell BK150.out 3).trans rfl, (blk_cell BK151.out 0).trans rfl, (blk_cell BK151.out 1).trans rfl, (blk_cell BK151.out 2).trans rfl, (blk_cell BK151.out 3).trans rfl⟩ (fun hHeld => ?_)
                      clear hK K
                      refine norm_ (a' := ?_) ?_ ?_
                      rotate_left
                      · show Act.put _ (some 48) _ = _
                        simp only [Act.put, List.setIfInBounds_toArray, List.set_cons_zero, List.set_cons_succ, i64_w, i32_w]
                        rfl
                      exact norm_ (by simp only [putAll, Act.put, List.setIfInBounds_toArray, List.set_cons_zero, List.set_cons_succ]) (hCont (v167) _ ⟨hHeld, (by (with_reducible repeat (first | apply Kd.R_alloc | apply Kd.R_drewN | apply Kd.R_drew)); exact Kd.R_mono HO154.out (fun _ hk => ⟨hk.1.2, hk.2⟩)), (by (with_reducible repeat (first | apply Kd.R_alloc | apply Kd.R_drewN | apply Kd.R_drew)); exact Kd.R_mono HO165.out (fun _ hk => ⟨hk.1.2, hk.2⟩)), (by (with_reducible repeat (first | apply Kd.R_alloc | apply Kd.R_drewN | apply Kd.R_drew)); exact Kd.R_mono HO168.out (fun _ hk => ⟨hk.1.2, hk.2⟩)), (by (with_reducible repeat (first | refine blk_drewN ?_ _ | refine blk_drew ?_ | refine blk_alloc ?_ _)); exact BK139.out), (by (with_reducible repeat (first | refine blk_drewN ?_ _ | refine blk_drew ?_ | refine blk_alloc ?_ _)); exact BK140.out), (by (with_reducible repeat (first | refine blk_drewN ?_ _ | refine blk_drew ?_ | refine blk_alloc ?_ _)); exact BK150.out), (by (with_reducible repeat (first | refine blk_drewN ?_ _ | refine blk_drew ?_ | refine blk_alloc ?_ _)); exact BK151.out), (by (with_reducible repeat (first | refine blk_drewN ?_ _ | refine blk_drew ?_ | refine blk_alloc ?_ _)); exact BK162.out), (by repeat (first | (with_reducible first | exact HB.out | apply below_alloc | apply pw_below_drewN | apply below_drew1 | refine below_set ?_ GE139.out | refine below_set ?_ GE140.out | refine below_set ?_ GE150.out | refine below_set ?_ GE151.out | refine below_set ?_ GE162.out) | exact HB.out))⟩)
                rintro v167 w60 ⟨hS_, h0_, h1_, h2_, h3_, h4_, h5_, h6_, h7_, h8_⟩
                have n0_ : Aside0 (Kd.R (Kd.int .u8) 5 w60 w.heap.size (fun k_ => some k_ ≠ (v164 : Value).ownBlock ∧ some k_ ≠ (v167 : Value).ownBlock) (.slice (some ⟨go16, 0, none⟩) t152.length co44) y156) := ⟨h0_⟩
                have n1_ : Aside0 (Kd.R (Kd.int .u8) 5 w60 w.heap.size (fun k_ => some k_ ≠ (.slice (some ⟨go16, 0, none⟩) t152.length co44 : Value).ownBlock ∧ some k_ ≠ (v167 : Value).ownBlock) v164 t163) := ⟨h1_⟩
                have n2_ : Aside0 (Kd.R (Kd.int .u8) 5 w60 w.heap.size (fun k_ => some k_ ≠ (.slice (some ⟨go16, 0, none⟩) t152.length co44 : Value).ownBlock ∧ some k_ ≠ (v164 : Value).ownBlock) v167 t166) := ⟨h2_⟩
                have n3_ : Aside0 (w60.heap[gb139]? = some (.cells #[.int .u64 a0_0, .int .u32 a0_1, .int .u8 a0_2, .int .u64 a0_3] 25 (0, 0))) := ⟨h3_⟩
                have n4_ : Aside0 (w60.heap[gb140]? = some (.cells #[.int .u64 a1_0, .int .u32 a1_1, .int .u8 a1_2, .int .u64 a1_3] 25 (0, 0))) := ⟨h4_⟩
                have n5_ : Aside0 (w60.heap[gb150]? = some (.cells #[.int .u64 t142, .int .u32 t143, .int .u8 t144, .int .u64 t145] 25 (0, 0))) := ⟨h5_⟩
                have n6_ : Aside0 (w60.heap[gb151]? = some (.cells #[.int .u64 t146, .int .u32 t147, .int .u8 t148, .int .u64 t149] 25 (0, 0))) := ⟨h6_⟩
                have n7_ : Aside0 (w60.heap[gb162]? = some (.cells #[.int .u64 t157, .int .u32 t158, .int .u8 t159, .int .u64 t160] 25 (0, 0))) := ⟨h7_⟩
                have n8_ : Aside0 (Below w.heap.size w w60) := ⟨h8_⟩
                clear HO154
                clear BK139
                clear BK140
                clear BK150
                clear BK151
                clear BK162
                clear HB
                clear h0_ h1_ h2_ h3_ h4_ h5_ h6_ h7_ h8_
                have HO154 := n0_
                have HO165 := n1_
                have HO168 := n2_
                have BK139 := n3_
                have BK140 := n4_
                have BK150 := n5_
                have BK151 := n6_
                have BK162 := n7_
                have HB := n8_
                clear n0_ n1_ n2_ n3_ n4_ n5_ n6_ n7_ n8_
                have hHeld : w60.cell? ⟨gb162, 0, none⟩ = some (.int .u64 t157) ∧ w60.cell? ⟨gb162, 1, none⟩ = some (.int .u32 t158) ∧ w60.cell? ⟨gb162, 2, none⟩ = some (.int .u8 t159) ∧ w60.cell? ⟨gb162, 3, none⟩ = some (.int .u64 t160) ∧ w60.cell? ⟨gb150, 0, none⟩ = some (.int .u64 t142) ∧ w60.cell? ⟨gb150, 1, none⟩ = some (.int .u32 t143) ∧ w60.cell? ⟨gb150, 2, none⟩ = some (.int .u8 t144) ∧ w60.cell? ⟨gb150, 3, none⟩ = some (.int .u64 t145) ∧ w60.cell? ⟨gb151, 0, none⟩ = some (.int .u64 t146) ∧ w60.cell? ⟨gb151, 1, none⟩ = some (.int .u32 t147) ∧ w60.cell? ⟨gb151, 2, none⟩ = some (.int .u8 t148) ∧ w60.cell? ⟨gb151, 3, none⟩ = some (.int .u64 t149) := hS_
                refine norm_ (a' := ?_) ?_ ?_
                rotate_left
                · simp only [putAll, Act.put, List.setIfInBounds_toArray, List.set_cons_zero, List.set_cons_succ]
                  rfl
                refine pure_ (i := 13) (N := some 52) (v := ?_) (a' := ?_) #[true, true, true, true, true, true, true, true, true, true, true, true, true, true, true, true, true, false, false, false] rfl rfl (any_of HT_.out (by kernel_rfl)) (fun _ _ _ h => h) (Or.inl ⟨by rfl, ?_⟩) ?_ ?_
                rotate_left
                · intro w'
                  go_simp
                  with_reducible rfl
                rotate_left
                · simp only [Act.put, List.setIfInBounds_toArray, List.set_cons_zero, List.set_cons_succ, i64_w, i32_w]
                  rfl
                refine pure_ (i := 17) (N := some 56) (v := ?_) (a' := ?_) #[true, true, true, true, true, true, true, true, true, true, true, true, true, true, true, true, true, true, false, false] rfl rfl (any_of HT_.out (by kernel_rfl)) (fun _ _ _ h => h) (Or.inl ⟨by rfl, ?_⟩) ?_ ?_
                rotate_left
                · intro w'
                  go_simp
                  with_reducible rfl
                rotate_left
                · simp only [Act.put, List.setIfInBounds_toArray, List.set_cons_zero, List.set_cons_succ, i64_w, i32_w]
                  rfl
                refine pure_ (i := 18) (N := some 57) (v := ?_) (a' := ?_) #[true, true, true, true, true, true, true, true, true, true, true, true, true, true, true, true, true, true, true, false] rfl rfl (any_of HT_.out (by kernel_rfl)) (fun _ _ _ h => h) (Or.inl ⟨by rfl, ?_⟩) ?_ ?_
                rotate_left
                · intro w'
                  go_simp
                  with_reducible rfl
                rotate_left
                · simp only [Act.put, List.setIfInBounds_toArray, List.set_cons_zero, List.set_cons_succ, i64_w, i32_w]
                  rfl
                refine pure_ (i := 19) (N := some 6) (v := ?_) (a' := ?_) #[true, true, true, true, true, true, true, true, true, true, true, true, true, true, true, true, true, true, true, true] rfl rfl (any_of HT_.out (by kernel_rfl)) (fun _ _ _ h => h) (Or.inl ⟨by rfl, ?_⟩) ?_ ?_
                rotate_left
                · intro w'
                  go_simp
                  with_reducible rfl
                rotate_left
                · simp only [Act.put, List.setIfInBounds_toArray, List.set_cons_zero, List.set_cons_succ, i64_w, i32_w]
                  rfl
                refine done_ (done_of HT_.out (by kernel_rfl)) ?_
                try go_wp2
                go_ret
                exact ⟨by first | rfl | (simp [errW_none, errW_some] <;> rfl) | (simp only [← hji10, ← hji13, ← hji15]; first | rfl | (simp [errW_none, errW_some] <;> rfl)) | (simp [*, errW_none, errW_some] <;> rfl), by repeat (first | (with_reducible first | exact HB.out | apply below_alloc | apply pw_below_drewN | apply below_drew1 | refine below_set ?_ GE139.out | refine below_set ?_ GE140.out | refine below_set ?_ GE150.out | refine below_set ?_ GE151.out | refine below_set ?_ GE162.out) | exact HB.out)⟩
              · rw [if_neg c19] at H
                have c19b0 : (!(t157 == t142) || (!(t158 == t143) || (!(t159 == t144) || (!(t160 == t145))))) = false := by simpa using c19
                clear c19
                obtain rfl := Option.some.inj H
                exact absurd hr (by decide)
            · replace c18 := Bool.eq_false_iff.mpr c18
              subst c18
              have H1 : (some false) = some r := by rw [if_neg (show ¬ (false = true) by decide)] at H; exact H
              clear H
              have H := H1
              clear H1
              obtain rfl := Option.some.inj H
              exact absurd hr (by decide)
          · rw [if_neg c14] at H
            exact absurd H (by simp)
        · rw [if_neg c12] at H
          exact absurd H (by simp)
      · rw [if_neg c11] at H
        exact absurd H (by simp)
    · rw [if_neg c9] at H
      have c9b0 : ((t152.length : Int) == 16) = false := beq_eq_false_iff_ne.mpr c9
      have c9b1 : ((t152.length : Int) != 16) = true := bne_iff_ne.mpr c9
      obtain rfl := Option.some.inj H
      exact absurd hr (by decide)
  · replace c5 := Bool.eq_false_iff.mpr c5
    subst c5
    have H1 : (some false) = some r := by rw [if_neg (show ¬ (false = true) by decide)] at H; exact H
    clear H
    have H := H1
    clear H1
    obtain rfl := Option.some.inj H
    exact absurd hr (by decide)

end Go.Proofs.Ytjahdmjmdiepbaa.PA
