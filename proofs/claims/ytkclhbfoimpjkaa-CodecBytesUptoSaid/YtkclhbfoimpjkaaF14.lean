-- By a program of this session (after the form of the print; not a text of the print's own)
import Derived.Test.YtkclhbfoimpjkaaF0
import Derived.Test.YtkclhbfoimpjkaaF12
namespace Go.Proofs.Ytkclhbfoimpjkaa.PA
open Go.RowKit Go.Proofs.YtkclhbfoimpjkaaW.PrintWords Go.Proofs.YtkclhbfoimpjkaaW.PrintLast Go.Proofs.YtkclhbfoimpjkaaW.PrintMore
attribute [local go_sem] max2_int min2_int max_two min_two max_three min_three max_four min_four   -- for this text's walks alone
set_option linter.unusedVariables false
set_option linter.unusedSimpArgs false
/-! ### codec_GetBytes: function 14 -/
def codec_GetBytes.f (k : Nat) (l0 : List Int) (a1 : Int) : Option (List Int × Int × Bool) := (codec_Get.f k l0 a1 2).bind fun bt115 => (if bt115.2 = true then (if (wrap64 (bt115.1)) > (wrap64 ((wrap64 ((l0.length : Int) - a1)) - 2)) then (some (([] : List Int), 0, false)) else (if 0 ≤ (wrap64 (a1 + 2)) then (if (wrap64 (a1 + 2)) ≤ (wrap64 ((wrap64 (a1 + 2)) + (wrap64 (bt115.1)))) then (if (wrap64 ((wrap64 (a1 + 2)) + (wrap64 (bt115.1)))) ≤ (l0.length : Int) then (if ([] : List Int).length + ((l0.take ((wrap64 ((wrap64 (a1 + 2)) + (wrap64 (bt115.1)))) : Int).toNat).drop ((wrap64 (a1 + 2)) : Int).toNat).length < 140737488355328 then (some ((([] : List Int) ++ ((l0.take ((wrap64 ((wrap64 (a1 + 2)) + (wrap64 (bt115.1)))) : Int).toNat).drop ((wrap64 (a1 + 2)) : Int).toNat)), wrap64 ((wrap64 (a1 + 2)) + (wrap64 (bt115.1))), true)) else (none)) else (none)) else (none)) else (none))) else (some (([] : List Int), 0, false)))
theorem codec_GetBytes.mono : ∀ a0 a1 k, LeO (codec_GetBytes.f k a0 a1) (codec_GetBytes.f (k + 1) a0 a1) := by
  intro a0 a1 k
  unfold codec_GetBytes.f
  repeat' first
      | (with_reducible exact codec_Get.mono _ _ _ _)
      | (with_reducible exact LeO.refl _)
      | (with_reducible exact LeO.none _)
      | (with_reducible refine LeO.ite ?_ ?_)
      | (with_reducible refine LeO.bind ?_ (fun _ => ?_))
      | exact codec_Get.mono _ _ _ _
      | exact LeO.none _
      | refine LeO.ite ?_ ?_
      | refine LeO.bind ?_ (fun _ => ?_)
set_option maxHeartbeats 8000000 in
set_option maxRecDepth 100000 in
theorem codec_GetBytes.calls (k : Nat) (A0 : Option Addr) (c0 : Nat) (l0 : List Int) (a1 : Int) (r1 : List Int) (r2 : Int) (r3 : Bool) (w : World) (hr0 : Kd.C (Kd.int .u8) w A0 l0.length l0) (hc0 : l0.length ≤ c0) (h : codec_GetBytes.f k l0 a1 = some (r1, r2, r3)) :
    Calls Try.prog 14 #[.slice A0 l0.length c0, .int .i64 a1] w fun e w' => ∃ v0_ : Value, e = .returned (.tuple #[v0_, .int .i64 r2, .bool r3]) ∧ Kd.R (Kd.int .u8) 5 w' w.heap.size (fun _ => True) v0_ r1 ∧ Below w.heap.size w w' := by
  have HR0 := Aside0.mk hr0
  have HC0 := Aside0.mk hc0
  clear hr0 hc0
  have HB := Aside0.mk (Below.refl w.heap.size w)
  have H : ((codec_Get.f k l0 a1 2).bind fun bt115 => (if bt115.2 = true then (if (wrap64 (bt115.1)) > (wrap64 ((wrap64 ((l0.length : Int) - a1)) - 2)) then (some (([] : List Int), 0, false)) else (if 0 ≤ (wrap64 (a1 + 2)) then (if (wrap64 (a1 + 2)) ≤ (wrap64 ((wrap64 (a1 + 2)) + (wrap64 (bt115.1)))) then (if (wrap64 ((wrap64 (a1 + 2)) + (wrap64 (bt115.1)))) ≤ (l0.length : Int) then (if ([] : List Int).length + ((l0.take ((wrap64 ((wrap64 (a1 + 2)) + (wrap64 (bt115.1)))) : Int).toNat).drop ((wrap64 (a1 + 2)) : Int).toNat).length < 140737488355328 then (some ((([] : List Int) ++ ((l0.take ((wrap64 ((wrap64 (a1 + 2)) + (wrap64 (bt115.1)))) : Int).toNat).drop ((wrap64 (a1 + 2)) : Int).toNat)), wrap64 ((wrap64 (a1 + 2)) + (wrap64 (bt115.1))), true)) else (none)) else (none)) else (none)) else (none))) else (some (([] : List Int), 0, false)))) = some (r1, r2, r3) := h
  clear h
  replace H := Option.bind_eq_some_iff.mp H
  obtain ⟨⟨t115, t116⟩, A30, H⟩ := H
  replace H : (if t116 = true then (if (wrap64 (t115)) > (wrap64 ((wrap64 ((l0.length : Int) - a1)) - 2)) then (some (([] : List Int), 0, false)) else (if 0 ≤ (wrap64 (a1 + 2)) then (if (wrap64 (a1 + 2)) ≤ (wrap64 ((wrap64 (a1 + 2)) + (wrap64 (t115)))) then (if (wrap64 ((wrap64 (a1 + 2)) + (wrap64 (t115)))) ≤ (l0.length : Int) then (if ([] : List Int).length + ((l0.take ((wrap64 ((wrap64 (a1 + 2)) + (wrap64 (t115)))) : Int).toNat).drop ((wrap64 (a1 + 2)) : Int).toNat).length < 140737488355328 then (some ((([] : List Int) ++ ((l0.take ((wrap64 ((wrap64 (a1 + 2)) + (wrap64 (t115)))) : Int).toNat).drop ((wrap64 (a1 + 2)) : Int).toNat)), wrap64 ((wrap64 (a1 + 2)) + (wrap64 (t115))), true)) else (none)) else (none)) else (none)) else (none))) else (some (([] : List Int), 0, false))) = some (r1, r2, r3) := H
  have A3 := Aside0.mk A30
  clear A30
  by_cases c4 : t116 = true
  · subst c4
    have H1 : (if (wrap64 (t115)) > (wrap64 ((wrap64 ((l0.length : Int) - a1)) - 2)) then (some (([] : List Int), 0, false)) else (if 0 ≤ (wrap64 (a1 + 2)) then (if (wrap64 (a1 + 2)) ≤ (wrap64 ((wrap64 (a1 + 2)) + (wrap64 (t115)))) then (if (wrap64 ((wrap64 (a1 + 2)) + (wrap64 (t115)))) ≤ (l0.length : Int) then (if ([] : List Int).length + ((l0.take ((wrap64 ((wrap64 (a1 + 2)) + (wrap64 (t115)))) : Int).toNat).drop ((wrap64 (a1 + 2)) : Int).toNat).length < 140737488355328 then (some ((([] : List Int) ++ ((l0.take ((wrap64 ((wrap64 (a1 + 2)) + (wrap64 (t115)))) : Int).toNat).drop ((wrap64 (a1 + 2)) : Int).toNat)), wrap64 ((wrap64 (a1 + 2)) + (wrap64 (t115))), true)) else (none)) else (none)) else (none)) else (none))) = some (r1, r2, r3) := by rw [if_pos rfl] at H; exact H
    clear H
    have H := H1
    clear H1
    by_cases c5 : (wrap64 (t115)) > (wrap64 ((wrap64 ((l0.length : Int) - a1)) - 2))
    · rw [if_pos c5] at H
      have c5b0 : decide ((wrap64 ((wrap64 ((l0.length : Int) - a1)) - 2)) < (wrap64 (t115))) = true := decide_eq_true c5
      clear c5
      simp only [Option.some.injEq, Prod.mk.injEq] at H
      obtain ⟨rfl, rfl, rfl⟩ := H
      go_enter Try.func14, Try.ntmps14
      go_wp2_with (first | ((with_reducible refine gate_callee (f := 12) rfl ?_); refine goesL_ (some 13) rfl rfl Try.func12 (by kernel_rfl) rfl #[.slice A0 l0.length c0, .int .i64 a1, .int .i64 2] rfl (by (try simp only [List.map_toArray, List.map_cons, List.map_nil]); first | done | rfl | (simp only [List.length_drop, List.length_take]; rfl)) ?_; (with_reducible refine (codec_Get.calls k _ _ l0 a1 2 t115 true _ ?side1 ?side2 A3.out).mono ?_); (case side1 => repeat (first | exact HR0.out | (with_reducible refine Kd.C_alloc ?_ _) | (with_reducible refine Kd.C_drewN ?_ _) | (with_reducible refine Kd.C_drew ?_))); (case side2 => exact HC0.out); rintro e w' ⟨rfl, ⟨nd, rfl⟩⟩; refine ⟨_, rfl, ?_⟩))
      go_ret3
      exact ⟨_, by first | rfl | (simp [errW_none, errW_some] <;> rfl) | (simp [*, errW_none, errW_some] <;> rfl), by first | exact Kd.R_nil _ _ _ _ _ | exact Kd.N_nil _ _ _ _ _ | exact Kd.V_nil _ _ _ _ _ | exact Kd.Q_nil _ _ _ _ _ | exact Kd.S_nil _ _ _ _ _, by repeat (first | (with_reducible first | exact HB.out | apply below_alloc | apply pw_below_drewN | apply below_drew1) | exact HB.out)⟩
    · rw [if_neg c5] at H
      have c5b0 : decide ((wrap64 ((wrap64 ((l0.length : Int) - a1)) - 2)) < (wrap64 (t115))) = false := decide_eq_false c5
      clear c5
      obtain ⟨ji6, hji6⟩ : ∃ j_ : Int, (wrap64 (a1 + 2)) = j_ := ⟨_, rfl⟩
      replace H : (if 0 ≤ (ji6) then (if (ji6) ≤ (wrap64 ((ji6) + (wrap64 (t115)))) then (if (wrap64 ((ji6) + (wrap64 (t115)))) ≤ (l0.length : Int) then (if ([] : List Int).length + ((l0.take ((wrap64 ((ji6) + (wrap64 (t115)))) : Int).toNat).drop ((ji6) : Int).toNat).length < 140737488355328 then (some ((([] : List Int) ++ ((l0.take ((wrap64 ((ji6) + (wrap64 (t115)))) : Int).toNat).drop ((ji6) : Int).toNat)), wrap64 ((ji6) + (wrap64 (t115))), true)) else (none)) else (none)) else (none)) else (none)) = some (r1, r2, r3) := by first | (rw [hji6] at H; exact H) | (simp only [hji6] at H ⊢; exact H)
      (try rw [hji6] at A3)
      have hji6w : (IntKind.i64.wrap (a1 + 2)) = ji6 := (i64_w _).trans hji6
      by_cases c7 : 0 ≤ (ji6)
      · rw [if_pos c7] at H
        have c7b0 := eq_true c7
        have c7b1 : decide (0 ≤ (ji6)) = true := decide_eq_true c7
        clear c7
        by_cases c8 : (ji6) ≤ (wrap64 ((ji6) + (wrap64 (t115))))
        · rw [if_pos c8] at H
          have c8b0 := eq_true c8
          have c8b1 : decide ((ji6) ≤ (wrap64 ((ji6) + (wrap64 (t115))))) = true := decide_eq_true c8
          by_cases c9 : (wrap64 ((ji6) + (wrap64 (t115)))) ≤ (l0.length : Int)
          · rw [if_pos c9] at H
            have c9b0 := eq_true c9
            have c9b1 : decide ((wrap64 ((ji6) + (wrap64 (t115)))) ≤ (l0.length : Int)) = true := decide_eq_true c9
            by_cases c10 : ([] : List Int).length + ((l0.take ((wrap64 ((ji6) + (wrap64 (t115)))) : Int).toNat).drop ((ji6) : Int).toNat).length < 140737488355328
            · rw [if_pos c10] at H
              have LMc10 := Aside0.mk c10
              clear c10
              obtain ⟨y118, hy118⟩ : ∃ y_ : List Int, y_ = (([] : List Int) ++ ((l0.take ((wrap64 ((ji6) + (wrap64 (t115)))) : Int).toNat).drop ((ji6) : Int).toNat)) := ⟨_, rfl⟩
              replace H : (some (y118, wrap64 ((ji6) + (wrap64 (t115))), true)) = some (r1, r2, r3) := by first | (rw [hy118]; with_reducible exact H) | (have H2_ := (Option.bind_some _ _).symm.trans H; rw [hy118]; with_reducible exact H2_) | (have H2_ := (Option.bind_some _ _).symm.trans H; with_reducible exact H2_) | with_reducible exact H | (rw [hy118]; exact H) | exact H
              have Ny118 := Aside0.mk hy118
              clear hy118
              simp only [Option.some.injEq, Prod.mk.injEq] at H
              obtain ⟨rfl, rfl, rfl⟩ := H
              go_enter Try.func14, Try.ntmps14
              go_wp2_with (first | ((with_reducible refine gate_callee (f := 12) rfl ?_); refine goesL_ (some 13) rfl rfl Try.func12 (by kernel_rfl) rfl #[.slice A0 l0.length c0, .int .i64 a1, .int .i64 2] rfl (by (try simp only [List.map_toArray, List.map_cons, List.map_nil]); first | done | rfl | (simp only [List.length_drop, List.length_take]; rfl)) ?_; (with_reducible refine (codec_Get.calls k _ _ l0 a1 2 t115 true _ ?side1 ?side2 A3.out).mono ?_); (case side1 => repeat (first | exact HR0.out | (with_reducible refine Kd.C_alloc ?_ _) | (with_reducible refine Kd.C_drewN ?_ _) | (with_reducible refine Kd.C_drew ?_))); (case side2 => exact HC0.out); rintro e w' ⟨rfl, ⟨nd, rfl⟩⟩; refine ⟨_, rfl, ?_⟩; obtain ⟨i011, hi011, _, hsz11, _⟩ := info_parts info5; obtain ⟨A11, hcut11, hA11, hC11⟩ := print_mid_of (P := Try.prog) (Value.int .u8) 0 22 5 .i64 .i64 Try.underlying22 hi011 hsz11 A0 c0 l0 (ji6) (wrap64 ((ji6) + (wrap64 (t115)))) (of_decide_eq_true (by first | (with_reducible assumption) | assumption)) (by first | omega | exact of_decide_eq_true (by first | (with_reducible assumption) | assumption)) (of_decide_eq_true (by first | (with_reducible assumption) | assumption)) HC0.out; have HR117 := Aside0.mk (Kd.C_of_reads (h1 := fun _ => rfl) (hA11 _ (Kd.reads_of_C HR0.out))); have HC117 := Aside0.mk hC11; clear hA11 hC11 hi011 hsz11) | ((with_reducible refine gate_builtin (b := .append) (xs := #[.const (.slice none 0 0), .tmp 37]) rfl ?_); (try (refine gate_guard (by rfl) ?_; dsimp only)); at_builtin; refine Kd.R_append_rows (Kd.int .u8) (w0 := w) w.heap.size rfl (.const (.slice none 0 0)) (.tmp 37) 22 5 (.int .u8 0) 1 rfl Try.underlying22 info5 rfl (by decide) (by omega) (.slice none 0 0) ([] : List Int) ((l0.take ((wrap64 ((ji6) + (wrap64 (t115)))) : Int).toNat).drop ((ji6) : Int).toNat) _ _ _ (fun _ => True) (fun _ => False) rfl rfl ?aO ?aR (fun _ _ h => h) (fun _ h => h.elim) ?aF ?aB ?aS ?aL ?_; (case aR => first | (rw [← show ((l0.take ((wrap64 ((ji6) + (wrap64 (t115)))) : Int).toNat).drop ((ji6) : Int).toNat).length = ((wrap64 ((ji6) + (wrap64 (t115)))).toNat - (ji6).toNat) from (by rw [List.length_drop, List.length_take]; have h_ : ((wrap64 ((ji6) + (wrap64 (t115)))) : Int) ≤ (l0.length : Int) := of_decide_eq_true (by first | (with_reducible assumption) | assumption); omega)]; repeat (first | exact HR117.out | (with_reducible refine Kd.C_alloc ?_ _) | (with_reducible refine Kd.C_drewN ?_ _) | (with_reducible refine Kd.C_drew ?_))) | (repeat (first | exact HR117.out | (with_reducible refine Kd.C_alloc ?_ _) | (with_reducible refine Kd.C_drewN ?_ _) | (with_reducible refine Kd.C_drew ?_)))); (case aB => exact (by repeat (first | (with_reducible first | exact HB.out | apply below_alloc | apply pw_below_drewN | apply below_drew1) | exact HB.out))); (case aF => exact (fun _ _ => trivial)); (case aO => exact ((Kd.R_nil _ _ _ _ (fun _ => True)))); (case aS => exact (below_size (by repeat (first | (with_reducible first | exact HB.out | apply below_alloc | apply pw_below_drewN | apply below_drew1) | exact HB.out)))); (case aL => have := LMc10.out; have hlx_ := (show ((l0.take ((wrap64 ((ji6) + (wrap64 (t115)))) : Int).toNat).drop ((ji6) : Int).toNat).length = ((wrap64 ((ji6) + (wrap64 (t115)))).toNat - (ji6).toNat) from (by rw [List.length_drop, List.length_take]; have h_ : ((wrap64 ((ji6) + (wrap64 (t115)))) : Int) ≤ (l0.length : Int) := of_decide_eq_true (by first | (with_reducible assumption) | assumption); omega)); omega); intro v119 w12 ho hb hg hat; rw [← Ny118.out] at ho; have n0_ := Aside0.mk (hb); have n1_ := Aside0.mk (ho); clear HB; have HB := n0_; have HO120 := n1_; clear n0_ n1_; clear ho hb hg hat))
              go_ret3
              exact ⟨_, by first | rfl | (simp [errW_none, errW_some] <;> rfl) | (simp only [← hji6]; first | rfl | (simp [errW_none, errW_some] <;> rfl)) | (simp [*, errW_none, errW_some] <;> rfl), by (with_reducible repeat (first | apply Kd.R_alloc | apply Kd.R_drewN | apply Kd.R_drew)); exact HO120.out, by repeat (first | (with_reducible first | exact HB.out | apply below_alloc | apply pw_below_drewN | apply below_drew1) | exact HB.out)⟩
            · rw [if_neg c10] at H
              exact absurd H (by simp)
          · rw [if_neg c9] at H
            exact absurd H (by simp)
        · rw [if_neg c8] at H
          exact absurd H (by simp)
      · rw [if_neg c7] at H
        exact absurd H (by simp)
  · replace c4 := Bool.eq_false_iff.mpr c4
    subst c4
    have H1 : (some (([] : List Int), 0, false)) = some (r1, r2, r3) := by rw [if_neg (show ¬ (false = true) by decide)] at H; exact H
    clear H
    have H := H1
    clear H1
    simp only [Option.some.injEq, Prod.mk.injEq] at H
    obtain ⟨rfl, rfl, rfl⟩ := H
    go_enter Try.func14, Try.ntmps14
    go_wp2_with (first | ((with_reducible refine gate_callee (f := 12) rfl ?_); refine goesL_ (some 13) rfl rfl Try.func12 (by kernel_rfl) rfl #[.slice A0 l0.length c0, .int .i64 a1, .int .i64 2] rfl (by (try simp only [List.map_toArray, List.map_cons, List.map_nil]); first | done | rfl | (simp only [List.length_drop, List.length_take]; rfl)) ?_; (with_reducible refine (codec_Get.calls k _ _ l0 a1 2 t115 false _ ?side1 ?side2 A3.out).mono ?_); (case side1 => repeat (first | exact HR0.out | (with_reducible refine Kd.C_alloc ?_ _) | (with_reducible refine Kd.C_drewN ?_ _) | (with_reducible refine Kd.C_drew ?_))); (case side2 => exact HC0.out); rintro e w' ⟨rfl, ⟨nd, rfl⟩⟩; refine ⟨_, rfl, ?_⟩))
    go_ret3
    exact ⟨_, by first | rfl | (simp [errW_none, errW_some] <;> rfl) | (simp [*, errW_none, errW_some] <;> rfl), by first | exact Kd.R_nil _ _ _ _ _ | exact Kd.N_nil _ _ _ _ _ | exact Kd.V_nil _ _ _ _ _ | exact Kd.Q_nil _ _ _ _ _ | exact Kd.S_nil _ _ _ _ _, by repeat (first | (with_reducible first | exact HB.out | apply below_alloc | apply pw_below_drewN | apply below_drew1) | exact HB.out)⟩

end Go.Proofs.Ytkclhbfoimpjkaa.PA
