-- By a program of this session (after the form of the print; not a text of the print's own)
import Derived.Test.YtkclhbfoimpjkaaF0
import Derived.Test.YtkclhbfoimpjkaaF10
import Derived.Test.YtkclhbfoimpjkaaF9
import Derived.Test.YtkclhbfoimpjkaaF11
namespace Go.Proofs.Ytkclhbfoimpjkaa.PA
open Go.RowKit Go.Proofs.YtkclhbfoimpjkaaW.PrintWords Go.Proofs.YtkclhbfoimpjkaaW.PrintLast Go.Proofs.YtkclhbfoimpjkaaW.PrintMore
attribute [local go_sem] max2_int min2_int max_two min_two max_three min_three max_four min_four   -- for this text's walks alone
set_option linter.unusedVariables false
set_option linter.unusedSimpArgs false
/-! ### sigillumlaw02_CodecPut: function 3 -/
mutual
def sigillumlaw02_CodecPut.j0 : Nat → List Int → Int → Int → List Int → Bool → Option (Bool)
  | 0, _, _, _, _, _ => none
  | k + 1, x0, x1, x2, x7, x20 => if x20 = true then (some ((strOfNums x7).toList == (strOfNums x0).toList)) else (if (x7.length : Int) = (wrap64 ((x0.length : Int) + x2)) then (if 0 ≤ (x0.length : Int) then (if (x0.length : Int) ≤ (x7.length : Int) then (sigillumlaw02_CodecPut.j1 k x0 x1 x2 x7 ((strOfNums (x7.take ((x0.length : Int) : Int).toNat)).toList != (strOfNums x0).toList)) else (none)) else (none)) else (sigillumlaw02_CodecPut.j1 k x0 x1 x2 x7 true))
def sigillumlaw02_CodecPut.j1 : Nat → List Int → Int → Int → List Int → Bool → Option (Bool)
  | 0, _, _, _, _, _ => none
  | k + 1, x0, x1, x2, x7, x42 => if x42 = true then (some false) else (if x2 < 8 then (if 0 ≤ (wrap64 (8 * x2)) then (if (shl .u64 1 (wrap64 (8 * x2))) = 0 then (none) else (if 0 ≤ (x0.length : Int) then (if (x0.length : Int) ≤ (x7.length : Int) then ((sigillumlaw02_number.f k (x7.drop ((x0.length : Int) : Int).toNat)).bind fun t166 => (some (t166 == (Int.tmod x1 (shl .u64 1 (wrap64 (8 * x2))))))) else (none)) else (none))) else (none)) else (if 0 ≤ (x0.length : Int) then (if (x0.length : Int) ≤ (x7.length : Int) then ((sigillumlaw02_number.f k (x7.drop ((x0.length : Int) : Int).toNat)).bind fun t171 => (some (t171 == x1))) else (none)) else (none)))
end
def sigillumlaw02_CodecPut.f (k : Nat) (l0 : List Int) (a1 : Int) (a2 : Int) : Option (Bool) := (sigillumlaw02_awake.f k).bind fun t154 => (if t154 = true then ((codec_Put.f k l0 a1 a2).bind fun t155 => (if a2 < 1 then (sigillumlaw02_CodecPut.j0 k l0 a1 a2 t155 true) else (sigillumlaw02_CodecPut.j0 k l0 a1 a2 t155 (decide (a2 > 8))))) else (some false))
theorem sigillumlaw02_CodecPut.mono_l : ∀ k, (∀ y0 y1 y2 y3 y4, LeO (sigillumlaw02_CodecPut.j0 k y0 y1 y2 y3 y4) (sigillumlaw02_CodecPut.j0 (k + 1) y0 y1 y2 y3 y4)) ∧ (∀ y0 y1 y2 y3 y4, LeO (sigillumlaw02_CodecPut.j1 k y0 y1 y2 y3 y4) (sigillumlaw02_CodecPut.j1 (k + 1) y0 y1 y2 y3 y4))
  | 0 => ⟨fun _ _ _ _ _ r h => by simp [sigillumlaw02_CodecPut.j0] at h, fun _ _ _ _ _ r h => by simp [sigillumlaw02_CodecPut.j1] at h⟩
  | k + 1 => by
    obtain ⟨ih0, ih1⟩ := sigillumlaw02_CodecPut.mono_l k
    refine ⟨?_, ?_⟩
    · intro y0 y1 y2 y3 y4
      unfold sigillumlaw02_CodecPut.j0
      repeat' first
      | (with_reducible exact ih0 _ _ _ _ _)
      | (with_reducible exact ih1 _ _ _ _ _)
      | (with_reducible exact codec_Put.mono _ _ _ _)
      | (with_reducible exact sigillumlaw02_awake.mono _)
      | (with_reducible exact sigillumlaw02_number.mono _ _)
      | (with_reducible exact LeO.refl _)
      | (with_reducible exact LeO.none _)
      | (with_reducible refine LeO.ite ?_ ?_)
      | (with_reducible refine LeO.bind ?_ (fun _ => ?_))
      | exact ih0 _ _ _ _ _
      | exact ih1 _ _ _ _ _
      | exact codec_Put.mono _ _ _ _
      | exact sigillumlaw02_awake.mono _
      | exact sigillumlaw02_number.mono _ _
      | exact LeO.none _
      | refine LeO.ite ?_ ?_
      | refine LeO.bind ?_ (fun _ => ?_)
    · intro y0 y1 y2 y3 y4
      unfold sigillumlaw02_CodecPut.j1
      repeat' first
      | (with_reducible exact ih0 _ _ _ _ _)
      | (with_reducible exact ih1 _ _ _ _ _)
      | (with_reducible exact codec_Put.mono _ _ _ _)
      | (with_reducible exact sigillumlaw02_awake.mono _)
      | (with_reducible exact sigillumlaw02_number.mono _ _)
      | (with_reducible exact LeO.refl _)
      | (with_reducible exact LeO.none _)
      | (with_reducible refine LeO.ite ?_ ?_)
      | (with_reducible refine LeO.bind ?_ (fun _ => ?_))
      | exact ih0 _ _ _ _ _
      | exact ih1 _ _ _ _ _
      | exact codec_Put.mono _ _ _ _
      | exact sigillumlaw02_awake.mono _
      | exact sigillumlaw02_number.mono _ _
      | exact LeO.none _
      | refine LeO.ite ?_ ?_
      | refine LeO.bind ?_ (fun _ => ?_)
theorem sigillumlaw02_CodecPut.mono : ∀ a0 a1 a2 k, LeO (sigillumlaw02_CodecPut.f k a0 a1 a2) (sigillumlaw02_CodecPut.f (k + 1) a0 a1 a2) := by
  intro a0 a1 a2 k
  obtain ⟨ih0, ih1⟩ := sigillumlaw02_CodecPut.mono_l k
  unfold sigillumlaw02_CodecPut.f
  repeat' first
      | (with_reducible exact ih0 _ _ _ _ _)
      | (with_reducible exact ih1 _ _ _ _ _)
      | (with_reducible exact codec_Put.mono _ _ _ _)
      | (with_reducible exact sigillumlaw02_awake.mono _)
      | (with_reducible exact sigillumlaw02_number.mono _ _)
      | (with_reducible exact LeO.refl _)
      | (with_reducible exact LeO.none _)
      | (with_reducible refine LeO.ite ?_ ?_)
      | (with_reducible refine LeO.bind ?_ (fun _ => ?_))
      | exact ih0 _ _ _ _ _
      | exact ih1 _ _ _ _ _
      | exact codec_Put.mono _ _ _ _
      | exact sigillumlaw02_awake.mono _
      | exact sigillumlaw02_number.mono _ _
      | exact LeO.none _
      | refine LeO.ite ?_ ?_
      | refine LeO.bind ?_ (fun _ => ?_)
set_option maxHeartbeats 8000000 in
set_option maxRecDepth 100000 in
theorem sigillumlaw02_CodecPut.calls (k : Nat) (A0 : Option Addr) (c0 : Nat) (l0 : List Int) (a1 : Int) (a2 : Int) (r : Bool) (w : World) (hr0 : Kd.C (Kd.int .u8) w A0 l0.length l0) (hc0 : l0.length ≤ c0) (h : sigillumlaw02_CodecPut.f k l0 a1 a2 = some r) :
    Calls Try.prog 3 #[.slice A0 l0.length c0, .int .u64 a1, .int .i64 a2] w fun e w' => e = .returned (.bool r) ∧ Below w.heap.size w w' := by
  have HR0 := Aside0.mk hr0
  have HC0 := Aside0.mk hc0
  clear hr0 hc0
  have HB := Aside0.mk (Below.refl w.heap.size w)
  have H : ((sigillumlaw02_awake.f k).bind fun t154 => (if t154 = true then ((codec_Put.f k l0 a1 a2).bind fun t155 => (if a2 < 1 then (sigillumlaw02_CodecPut.j0 k l0 a1 a2 t155 true) else (sigillumlaw02_CodecPut.j0 k l0 a1 a2 t155 (decide (a2 > 8))))) else (some false))) = some r := h
  clear h
  replace H := Option.bind_eq_some_iff.mp H
  obtain ⟨t154, A40, H⟩ := H
  replace H : (if t154 = true then ((codec_Put.f k l0 a1 a2).bind fun t155 => (if a2 < 1 then (sigillumlaw02_CodecPut.j0 k l0 a1 a2 t155 true) else (sigillumlaw02_CodecPut.j0 k l0 a1 a2 t155 (decide (a2 > 8))))) else (some false)) = some r := H
  have A4 := Aside0.mk A40
  clear A40
  by_cases c5 : t154 = true
  · subst c5
    have H1 : ((codec_Put.f k l0 a1 a2).bind fun t155 => (if a2 < 1 then (sigillumlaw02_CodecPut.j0 k l0 a1 a2 t155 true) else (sigillumlaw02_CodecPut.j0 k l0 a1 a2 t155 (decide (a2 > 8))))) = some r := by rw [if_pos rfl] at H; exact H
    clear H
    have H := H1
    clear H1
    replace H := Option.bind_eq_some_iff.mp H
    obtain ⟨t155, A60, H⟩ := H
    replace H : (if a2 < 1 then (sigillumlaw02_CodecPut.j0 k l0 a1 a2 t155 true) else (sigillumlaw02_CodecPut.j0 k l0 a1 a2 t155 (decide (a2 > 8)))) = some r := H
    have A6 := Aside0.mk A60
    clear A60
    have HC7 := Aside0.mk H
    clear H
    go_enter Try.func3, Try.ntmps3
    go_upto_region 4 with (first | (go_at_call 9; (with_reducible refine (sigillumlaw02_awake.calls k  true _ A4.out).mono ?_); rintro e w8 ⟨rfl, hb⟩; have n0_ := Aside0.mk (below_step (by repeat (first | (with_reducible first | exact HB.out | apply below_alloc | apply pw_below_drewN | apply below_drew1) | exact HB.out)) hb); clear HB; have HB := n0_; clear n0_; (try clear hb); (try clear hb2); (try clear hk); (try clear hi)) | (go_at_call 10; (with_reducible refine (codec_Put.calls k _ _ l0 a1 a2 t155 _ ?side1 ?side2 A6.out).mono ?_); (case side1 => repeat (first | exact (Kd.C_below HR0.out HB.out) | (with_reducible refine Kd.C_alloc ?_ _) | (with_reducible refine Kd.C_drewN ?_ _) | (with_reducible refine Kd.C_drew ?_))); (case side2 => exact HC0.out); rintro e w9 ⟨v156, rfl, ho0, hb⟩; have n0_ := Aside0.mk (Kd.R_lower ho0 (below_size (by repeat (first | (with_reducible first | exact HB.out | apply below_alloc | apply pw_below_drewN | apply below_drew1) | exact HB.out)))); have n1_ := Aside0.mk (below_step (by repeat (first | (with_reducible first | exact HB.out | apply below_alloc | apply pw_below_drewN | apply below_drew1) | exact HB.out)) hb); clear HB; have HO157 := n0_; have HB := n1_; clear n0_ n1_; (try clear hb); (try clear hb2); (try clear hk); (try clear hi); (try clear ho0)))
    repeat (go_quiet (first | (go_at_call 9; (with_reducible refine (sigillumlaw02_awake.calls k  true _ A4.out).mono ?_); rintro e w8 ⟨rfl, hb⟩; have n0_ := Aside0.mk (below_step (by repeat (first | (with_reducible first | exact HB.out | apply below_alloc | apply pw_below_drewN | apply below_drew1) | exact HB.out)) hb); clear HB; have HB := n0_; clear n0_; (try clear hb); (try clear hb2); (try clear hk); (try clear hi)) | (go_at_call 10; (with_reducible refine (codec_Put.calls k _ _ l0 a1 a2 t155 _ ?side1 ?side2 A6.out).mono ?_); (case side1 => repeat (first | exact (Kd.C_below HR0.out HB.out) | (with_reducible refine Kd.C_alloc ?_ _) | (with_reducible refine Kd.C_drewN ?_ _) | (with_reducible refine Kd.C_drew ?_))); (case side2 => exact HC0.out); rintro e w9 ⟨v156, rfl, ho0, hb⟩; have n0_ := Aside0.mk (Kd.R_lower ho0 (below_size (by repeat (first | (with_reducible first | exact HB.out | apply below_alloc | apply pw_below_drewN | apply below_drew1) | exact HB.out)))); have n1_ := Aside0.mk (below_step (by repeat (first | (with_reducible first | exact HB.out | apply below_alloc | apply pw_below_drewN | apply below_drew1) | exact HB.out)) hb); clear HB; have HO157 := n0_; have HB := n1_; clear n0_ n1_; (try clear hb); (try clear hb2); (try clear hk); (try clear hi); (try clear ho0))); go_upto_region 4 with (first | (go_at_call 9; (with_reducible refine (sigillumlaw02_awake.calls k  true _ A4.out).mono ?_); rintro e w8 ⟨rfl, hb⟩; have n0_ := Aside0.mk (below_step (by repeat (first | (with_reducible first | exact HB.out | apply below_alloc | apply pw_below_drewN | apply below_drew1) | exact HB.out)) hb); clear HB; have HB := n0_; clear n0_; (try clear hb); (try clear hb2); (try clear hk); (try clear hi)) | (go_at_call 10; (with_reducible refine (codec_Put.calls k _ _ l0 a1 a2 t155 _ ?side1 ?side2 A6.out).mono ?_); (case side1 => repeat (first | exact (Kd.C_below HR0.out HB.out) | (with_reducible refine Kd.C_alloc ?_ _) | (with_reducible refine Kd.C_drewN ?_ _) | (with_reducible refine Kd.C_drew ?_))); (case side2 => exact HC0.out); rintro e w9 ⟨v156, rfl, ho0, hb⟩; have n0_ := Aside0.mk (Kd.R_lower ho0 (below_size (by repeat (first | (with_reducible first | exact HB.out | apply below_alloc | apply pw_below_drewN | apply below_drew1) | exact HB.out)))); have n1_ := Aside0.mk (below_step (by repeat (first | (with_reducible first | exact HB.out | apply below_alloc | apply pw_below_drewN | apply below_drew1) | exact HB.out)) hb); clear HB; have HO157 := n0_; have HB := n1_; clear n0_ n1_; (try clear hb); (try clear hb2); (try clear hk); (try clear hi); (try clear ho0))))
    (try simp only [Act.put, List.setIfInBounds_toArray, List.set_cons_zero, List.set_cons_succ])
    go_cut [20] (fun v20 wc => ∃ (kq : Nat) (x20_6 : Bool), v20 = .bool x20_6 ∧ Aside0 (sigillumlaw02_CodecPut.j0 kq l0 a1 a2 t155 x20_6 = some r) ∧ Aside0 (kq ≤ k) ∧ Aside0 (Kd.R (Kd.int .u8) 5 wc w.heap.size (fun _ => True) v156 t155) ∧ Aside0 (Below w.heap.size w wc))
    case first =>
      have H := HC7.out
      clear HC7
      by_cases c10 : a2 < 1
      · rw [if_pos c10] at H
        have c10b0 : decide (a2 < 1) = true := decide_eq_true c10
        clear c10
        (first | rw [c10b0] | (simp only [i64_w, i32_w]; rw [c10b0]) | skip)
        have H' := Aside0.mk H
        clear H
        go_wp2
        repeat (go_quiet (fail); try go_wp2)
        go_meet
        case rel => exact ⟨_, (true), (by first | rfl | (simp; done) | (simp [*]; done)), H', ⟨by first | omega | exact Nat.le_refl _⟩, ⟨by (with_reducible repeat (first | apply Kd.R_alloc | apply Kd.R_drewN | apply Kd.R_drew)); exact HO157.out⟩, ⟨by repeat (first | (with_reducible first | exact HB.out | apply below_alloc | apply pw_below_drewN | apply below_drew1) | exact HB.out)⟩⟩
      · rw [if_neg c10] at H
        have c10b0 : decide (a2 < 1) = false := decide_eq_false c10
        clear c10
        (first | rw [c10b0] | (simp only [i64_w, i32_w]; rw [c10b0]) | skip)
        have H' := Aside0.mk H
        clear H
        go_wp2
        repeat (go_quiet (fail); try go_wp2)
        go_meet
        case rel => exact ⟨_, (decide (a2 > 8)), (by first | rfl | (simp; done) | (simp [*]; done)), H', ⟨by first | omega | exact Nat.le_refl _⟩, ⟨by (with_reducible repeat (first | apply Kd.R_alloc | apply Kd.R_drewN | apply Kd.R_drew)); exact HO157.out⟩, ⟨by repeat (first | (with_reducible first | exact HB.out | apply below_alloc | apply pw_below_drewN | apply below_drew1) | exact HB.out)⟩⟩
    case rest =>
      clear HC7
      try clear c1
      try clear p2
      try clear c3
      try clear c5
      try clear c10
      try clear c10b0
      obtain ⟨kq, x20_6, rfl, HA, HJ6, HO_7, HB⟩ := hcut
      cases kq with
      | zero => exact absurd HA.out (by simp [sigillumlaw02_CodecPut.j0])
      | succ kj6 =>
        have H := HA.out
        clear HA
        simp only [sigillumlaw02_CodecPut.j0] at H
        by_cases c11 : x20_6 = true
        · subst c11
          have H1 : (some ((strOfNums t155).toList == (strOfNums l0).toList)) = some r := by rw [if_pos rfl] at H; exact H
          clear H
          have H := H1
          clear H1
          obtain rfl := Option.some.inj H
          have hcv12 := own_string (P := Try.prog) Try.underlying22 Try.underlying5 Try.underlying9 (Kd.own_of_R HO_7.out)
          have hcv12q := fun (nq : Nat) => own_string (P := Try.prog) Try.underlying22 Try.underlying5 Try.underlying9 (Kd.own_of_R (Kd.R_drewN HO_7.out nq))
          have hcv13 := Kd.C_string (P := Try.prog) (A := A0) (c := c0) Try.underlying22 Try.underlying5 Try.underlying9 (Kd.C_below HR0.out HB.out)
          have hcv13q := fun (nq : Nat) => Kd.C_string (P := Try.prog) (A := A0) (c := c0) Try.underlying22 Try.underlying5 Try.underlying9 (Kd.C_drewN (Kd.C_below HR0.out HB.out) nq)
          go_wp2
          repeat (go_quiet (fail); try go_wp2)
          go_ret
          exact ⟨by first | rfl | (simp [errW_none, errW_some] <;> rfl) | (simp [*, errW_none, errW_some] <;> rfl), by repeat (first | (with_reducible first | exact HB.out | apply below_alloc | apply pw_below_drewN | apply below_drew1) | exact HB.out)⟩
        · replace c11 := Bool.eq_false_iff.mpr c11
          subst c11
          have H1 : (if (t155.length : Int) = (wrap64 ((l0.length : Int) + a2)) then (if 0 ≤ (l0.length : Int) then (if (l0.length : Int) ≤ (t155.length : Int) then (sigillumlaw02_CodecPut.j1 kj6 l0 a1 a2 t155 ((strOfNums (t155.take ((l0.length : Int) : Int).toNat)).toList != (strOfNums l0).toList)) else (none)) else (none)) else (sigillumlaw02_CodecPut.j1 kj6 l0 a1 a2 t155 true)) = some r := by rw [if_neg (show ¬ (false = true) by decide)] at H; exact H
          clear H
          have H := H1
          clear H1
          have HC14 := Aside0.mk H
          clear H
          go_upto_region 6 with (fail)
          repeat (go_quiet (fail); go_upto_region 6 with (fail))
          go_cut [42] (fun v42 wc => ∃ (kq : Nat) (x42_13 : Bool), v42 = .bool x42_13 ∧ Aside0 (sigillumlaw02_CodecPut.j1 kq l0 a1 a2 t155 x42_13 = some r) ∧ Aside0 (kq ≤ kj6) ∧ Aside0 (Kd.R (Kd.int .u8) 5 wc w.heap.size (fun _ => True) v156 t155) ∧ Aside0 (Below w.heap.size w wc))
          case first =>
            have H := HC14.out
            clear HC14
            by_cases c15 : (t155.length : Int) = (wrap64 ((l0.length : Int) + a2))
            · rw [if_pos c15] at H
              have c15b0 : ((t155.length : Int) == (wrap64 ((l0.length : Int) + a2))) = true := beq_iff_eq.mpr c15
              have c15b0q : ((t155.length : Int) == (IntKind.i64.wrap ((l0.length : Int) + a2))) = true := (by simp only [i64_w]; exact c15b0)
              have c15b1 : ((t155.length : Int) != (wrap64 ((l0.length : Int) + a2))) = false := bne_eq_false_iff_eq.mpr c15
              have c15b1q : ((t155.length : Int) != (IntKind.i64.wrap ((l0.length : Int) + a2))) = false := (by simp only [i64_w]; exact c15b1)
              clear c15
              (first | rw [c15b0] | (simp only [i64_w, i32_w]; rw [c15b0]) | skip)
              by_cases c16 : 0 ≤ (l0.length : Int)
              · rw [if_pos c16] at H
                have c16b0 := eq_true c16
                have c16b1 : decide (0 ≤ (l0.length : Int)) = true := decide_eq_true c16
                clear c16
                by_cases c17 : (l0.length : Int) ≤ (t155.length : Int)
                · rw [if_pos c17] at H
                  have c17b0 := eq_true c17
                  have c17b1 : decide ((l0.length : Int) ≤ (t155.length : Int)) = true := decide_eq_true c17
                  clear c17
                  obtain ⟨y158, hy158⟩ : ∃ y_ : List Int, y_ = (t155.take ((l0.length : Int) : Int).toNat) := ⟨_, rfl⟩
                  replace H : (sigillumlaw02_CodecPut.j1 kj6 l0 a1 a2 t155 ((strOfNums y158).toList != (strOfNums l0).toList)) = some r := by first | (rw [hy158]; with_reducible exact H) | (have H2_ := (Option.bind_some _ _).symm.trans H; rw [hy158]; with_reducible exact H2_) | (have H2_ := (Option.bind_some _ _).symm.trans H; with_reducible exact H2_) | with_reducible exact H | (rw [hy158]; exact H) | exact H
                  have Ny158 := Aside0.mk hy158
                  clear hy158
                  have H' := Aside0.mk H
                  clear H
                  obtain ⟨Ao18, co18, eo18⟩ := Kd.R_slice HO_7.out
                  subst eo18
                  have q19 : ((l0.length : Int) : Int) ≤ ((t155.length : Int) : Int) := of_decide_eq_true (by first | (with_reducible assumption) | assumption)
                  obtain ⟨i019, hi019, _, hsz19, _⟩ := info_parts info5
                  have hroom19 : t155.length ≤ co18 := (Kd.R_reads' HO_7.out).2.1
                  have hC19 : Kd.C (Kd.int .u8) _ Ao18 t155.length t155 := (Kd.R_reads' HO_7.out).2.2
                  have hcut19 := cut_to (P := Try.prog) 22 5 .i64 Try.underlying22 hi019 Ao18 t155.length co18 (l0.length : Int) (of_decide_eq_true (by first | (with_reducible assumption) | assumption)) q19 hroom19
                  have hr19 := Kd.C_take (m := ((l0.length : Int) : Int).toNat) hC19 (by omega)
                  have hy19 : y158.length = ((l0.length : Int) : Int).toNat := (by rw [Ny158.out, List.length_take]; omega)
                  rw [← Ny158.out] at hr19
                  rw [← hy19] at hcut19
                  have HR161 := Aside0.mk hr19
                  have HC161 := Aside0.mk (show y158.length ≤ co18 from by omega)
                  clear hr19 hC19 hroom19 hi019 hsz19
                  have KY19 := Aside0.mk hy19
                  clear hy19
                  have KL19 := Aside0.mk (show ((l0.length : Int) : Int).toNat ≤ t155.length from by omega)
                  replace q19 := eq_true q19
                  have hcv20 := Kd.C_string (P := Try.prog) (A := Ao18) (c := co18) Try.underlying22 Try.underlying5 Try.underlying9 (by repeat (first | (with_reducible exact HR161.out) | (with_reducible refine Kd.C_alloc ?_ _) | (with_reducible refine Kd.C_drewN ?_ _) | (with_reducible refine Kd.C_drew ?_) | exact HR161.out))
                  have hcv20q := fun (nq : Nat) => Kd.C_string (P := Try.prog) (A := Ao18) (c := co18) Try.underlying22 Try.underlying5 Try.underlying9 (Kd.C_drewN HR161.out nq)
                  have hcv21 := Kd.C_string (P := Try.prog) (A := A0) (c := c0) Try.underlying22 Try.underlying5 Try.underlying9 (Kd.C_below HR0.out HB.out)
                  have hcv21q := fun (nq : Nat) => Kd.C_string (P := Try.prog) (A := A0) (c := c0) Try.underlying22 Try.underlying5 Try.underlying9 (Kd.C_drewN (Kd.C_below HR0.out HB.out) nq)
                  go_wp2
                  repeat (go_quiet (fail); try go_wp2)
                  go_meet
                  case rel => exact ⟨_, (((strOfNums y158).toList != (strOfNums l0).toList)), (by first | rfl | (simp; done) | (simp [*]; done)), H', ⟨by have := HJ6.out; first | omega | exact Nat.le_refl _⟩, ⟨by (with_reducible repeat (first | apply Kd.R_alloc | apply Kd.R_drewN | apply Kd.R_drew)); exact HO_7.out⟩, ⟨by repeat (first | (with_reducible first | exact HB.out | apply below_alloc | apply pw_below_drewN | apply below_drew1) | exact HB.out)⟩⟩
                · rw [if_neg c17] at H
                  exact absurd H (by simp)
              · rw [if_neg c16] at H
                exact absurd H (by simp)
            · rw [if_neg c15] at H
              have c15b0 : ((t155.length : Int) == (wrap64 ((l0.length : Int) + a2))) = false := beq_eq_false_iff_ne.mpr c15
              have c15b0q : ((t155.length : Int) == (IntKind.i64.wrap ((l0.length : Int) + a2))) = false := (by simp only [i64_w]; exact c15b0)
              have c15b1 : ((t155.length : Int) != (wrap64 ((l0.length : Int) + a2))) = true := bne_iff_ne.mpr c15
              have c15b1q : ((t155.length : Int) != (IntKind.i64.wrap ((l0.length : Int) + a2))) = true := (by simp only [i64_w]; exact c15b1)
              (first | rw [c15b0] | (simp only [i64_w, i32_w]; rw [c15b0]) | skip)
              have H' := Aside0.mk H
              clear H
              obtain ⟨Ao22, co22, eo22⟩ := Kd.R_slice HO_7.out
              subst eo22
              go_wp2
              repeat (go_quiet (fail); try go_wp2)
              go_meet
              case rel => exact ⟨_, (true), (by first | rfl | (simp; done) | (simp [*]; done)), H', ⟨by have := HJ6.out; first | omega | exact Nat.le_refl _⟩, ⟨by (with_reducible repeat (first | apply Kd.R_alloc | apply Kd.R_drewN | apply Kd.R_drew)); exact HO_7.out⟩, ⟨by repeat (first | (with_reducible first | exact HB.out | apply below_alloc | apply pw_below_drewN | apply below_drew1) | exact HB.out)⟩⟩
          case rest =>
            clear HC14
            try clear c1
            try clear q1
            try clear hcv1
            try clear p2
            try clear hcv2
            try clear c3
            try clear c5
            try clear p6
            try clear c10
            try clear c10b0
            try clear c11
            try clear hcv12
            try clear hcv13
            try clear c15
            try clear c15b0
            try clear c15b1
            try clear c16
            try clear c16b0
            try clear c16b1
            try clear c17
            try clear c17b0
            try clear c17b1
            try clear q19
            try clear hcv20
            try clear hcv21
            try clear p2
            try clear q19
            obtain ⟨kq, x42_13, rfl, HA, HJ13, HO_7, HB⟩ := hcut
            cases kq with
            | zero => exact absurd HA.out (by simp [sigillumlaw02_CodecPut.j1])
            | succ kj13 =>
              have H := HA.out
              clear HA
              simp only [sigillumlaw02_CodecPut.j1] at H
              by_cases c23 : x42_13 = true
              · subst c23
                have H1 : (some false) = some r := by rw [if_pos rfl] at H; exact H
                clear H
                have H := H1
                clear H1
                obtain rfl := Option.some.inj H
                go_wp2
                repeat (go_quiet (fail); try go_wp2)
                go_ret
                exact ⟨by first | rfl | (simp [errW_none, errW_some] <;> rfl) | (simp [*, errW_none, errW_some] <;> rfl), by repeat (first | (with_reducible first | exact HB.out | apply below_alloc | apply pw_below_drewN | apply below_drew1) | exact HB.out)⟩
              · replace c23 := Bool.eq_false_iff.mpr c23
                subst c23
                have H1 : (if a2 < 8 then (if 0 ≤ (wrap64 (8 * a2)) then (if (shl .u64 1 (wrap64 (8 * a2))) = 0 then (none) else (if 0 ≤ (l0.length : Int) then (if (l0.length : Int) ≤ (t155.length : Int) then ((sigillumlaw02_number.f kj13 (t155.drop ((l0.length : Int) : Int).toNat)).bind fun t166 => (some (t166 == (Int.tmod a1 (shl .u64 1 (wrap64 (8 * a2))))))) else (none)) else (none))) else (none)) else (if 0 ≤ (l0.length : Int) then (if (l0.length : Int) ≤ (t155.length : Int) then ((sigillumlaw02_number.f kj13 (t155.drop ((l0.length : Int) : Int).toNat)).bind fun t171 => (some (t171 == a1))) else (none)) else (none))) = some r := by rw [if_neg (show ¬ (false = true) by decide)] at H; exact H
                clear H
                have H := H1
                clear H1
                by_cases c24 : a2 < 8
                · rw [if_pos c24] at H
                  have c24b0 : decide (a2 < 8) = true := decide_eq_true c24
                  clear c24
                  obtain ⟨ji25, hji25⟩ : ∃ j_ : Int, (wrap64 (8 * a2)) = j_ := ⟨_, rfl⟩
                  replace H : (if 0 ≤ (ji25) then (if (shl .u64 1 (ji25)) = 0 then (none) else (if 0 ≤ (l0.length : Int) then (if (l0.length : Int) ≤ (t155.length : Int) then ((sigillumlaw02_number.f kj13 (t155.drop ((l0.length : Int) : Int).toNat)).bind fun t166 => (some (t166 == (Int.tmod a1 (shl .u64 1 (ji25)))))) else (none)) else (none))) else (none)) = some r := by first | (rw [hji25] at H; exact H) | (simp only [hji25] at H ⊢; exact H)
                  have hji25w : (IntKind.i64.wrap (8 * a2)) = ji25 := (i64_w _).trans hji25
                  by_cases c26 : 0 ≤ (ji25)
                  · rw [if_pos c26] at H
                    have c26b0 := eq_true c26
                    have c26b1 : decide (0 ≤ (ji25)) = true := decide_eq_true c26
                    clear c26
                    obtain ⟨ji27, hji27⟩ : ∃ j_ : Int, (shl .u64 1 (ji25)) = j_ := ⟨_, rfl⟩
                    replace H : (if (ji27) = 0 then (none) else (if 0 ≤ (l0.length : Int) then (if (l0.length : Int) ≤ (t155.length : Int) then ((sigillumlaw02_number.f kj13 (t155.drop ((l0.length : Int) : Int).toNat)).bind fun t166 => (some (t166 == (Int.tmod a1 (ji27))))) else (none)) else (none))) = some r := by first | (rw [hji27] at H; exact H) | (simp only [hji27] at H ⊢; exact H)
                    have hji27_ : (IntKind.u64.wrap (1 * 2 ^ min (ji25).toNat 64)) = ji27 := hji27
                    have hji27z : (ji25) ≤ 64 → (IntKind.u64.wrap (1 * 2 ^ (ji25).toNat)) = ji27 := shl_small hji27
                    have hji27u : (IntKind.u64.wrap (2 ^ min (ji25).toNat 64)) = ji27 := by have h_ := hji27_; rw [Int.one_mul] at h_; exact h_
                    have hji27v : (ji25) ≤ 64 → (IntKind.u64.wrap (2 ^ (ji25).toNat)) = ji27 := fun hle_ => by have h_ := hji27z hle_; rw [Int.one_mul] at h_; exact h_
                    by_cases c28 : (ji27) = 0
                    · rw [if_pos c28] at H
                      exact absurd H (by simp)
                    · rw [if_neg c28] at H
                      have c28b0 : ((ji27) == 0) = false := beq_eq_false_iff_ne.mpr c28
                      have c28b1 : ((ji27) != 0) = true := bne_iff_ne.mpr c28
                      by_cases c29 : 0 ≤ (l0.length : Int)
                      · rw [if_pos c29] at H
                        have c29b0 := eq_true c29
                        have c29b1 : decide (0 ≤ (l0.length : Int)) = true := decide_eq_true c29
                        clear c29
                        by_cases c30 : (l0.length : Int) ≤ (t155.length : Int)
                        · rw [if_pos c30] at H
                          have c30b0 := eq_true c30
                          have c30b1 : decide ((l0.length : Int) ≤ (t155.length : Int)) = true := decide_eq_true c30
                          clear c30
                          obtain ⟨y162, hy162⟩ : ∃ y_ : List Int, y_ = (t155.drop ((l0.length : Int) : Int).toNat) := ⟨_, rfl⟩
                          replace H : ((sigillumlaw02_number.f kj13 y162).bind fun t166 => (some (t166 == (Int.tmod a1 (ji27))))) = some r := by first | (rw [hy162]; with_reducible exact H) | (have H2_ := (Option.bind_some _ _).symm.trans H; rw [hy162]; with_reducible exact H2_) | (have H2_ := (Option.bind_some _ _).symm.trans H; with_reducible exact H2_) | with_reducible exact H | (rw [hy162]; exact H) | exact H
                          have Ny162 := Aside0.mk hy162
                          clear hy162
                          replace H := Option.bind_eq_some_iff.mp H
                          obtain ⟨t166, A310, H⟩ := H
                          replace H : (some (t166 == (Int.tmod a1 (ji27)))) = some r := H
                          have A31 := Aside0.mk A310
                          clear A310
                          obtain rfl := Option.some.inj H
                          obtain ⟨Ao33, co33, eo33⟩ := Kd.R_slice HO_7.out
                          subst eo33
                          have q32 : ((l0.length : Int) : Int) ≤ ((t155.length : Int) : Int) := of_decide_eq_true (by first | (with_reducible assumption) | assumption)
                          obtain ⟨i032, hi032, _, hsz32, _⟩ := info_parts info5
                          have hroom32 : t155.length ≤ co33 := (Kd.R_reads' HO_7.out).2.1
                          have hC32 : Kd.C (Kd.int .u8) _ Ao33 t155.length t155 := (Kd.R_reads' HO_7.out).2.2
                          have q032 : (0 : Int) ≤ ((l0.length : Int) : Int) := of_decide_eq_true (by first | (with_reducible assumption) | assumption)
                          have hcut32 := cut_from (P := Try.prog) 22 5 .i64 Try.underlying22 hi032 1 hsz32 Ao33 t155.length co33 (l0.length : Int) q032 q32
                          have hr32 := Kd.C_drop (m := ((l0.length : Int) : Int).toNat) (c := co33) hC32 (by omega) hroom32
                          obtain ⟨A32, hA32⟩ : ∃ A1, A1 = (if co33 = ((l0.length : Int) : Int).toNat then Ao33 else (Ao33 : Option Addr).map (·.add (((l0.length : Int) : Int).toNat * 1))) := ⟨_, rfl⟩
                          obtain ⟨c32, hc32⟩ : ∃ c1, c1 = co33 - ((l0.length : Int) : Int).toNat := ⟨_, rfl⟩
                          have hy32 : y162.length = t155.length - ((l0.length : Int) : Int).toNat := (by rw [Ny162.out, List.length_drop] <;> omega)
                          rw [show (t155).drop ((l0.length : Int) : Int).toNat = y162 from Ny162.out.symm] at hr32
                          replace hr32 : Kd.C (Kd.int .u8) _ A32 y162.length y162 := (by rw [hA32]; exact hr32)
                          rw [← hy32, ← hA32, ← hc32] at hcut32
                          have HR165 := Aside0.mk hr32
                          have HC165 := Aside0.mk (show y162.length ≤ c32 from by rw [hy32, hc32]; exact Nat.sub_le_sub_right hroom32 _)
                          clear hr32 hC32 hroom32 hi032 hsz32 hc32
                          have KY32 := Aside0.mk hy32
                          have KA32 := Aside0.mk hA32
                          clear hy32 hA32
                          have KL32 := Aside0.mk (show ((l0.length : Int) : Int).toNat ≤ t155.length from by omega)
                          replace q32 := eq_true q32
                          go_wp2_with (first | (go_at_call 11; (with_reducible refine (sigillumlaw02_number.calls kj13 _ _ y162 t166 _ ?side1 ?side2 A31.out).mono ?_); (case side1 => repeat (first | exact (by repeat (first | (with_reducible exact HR165.out) | (with_reducible refine Kd.C_alloc ?_ _) | (with_reducible refine Kd.C_drewN ?_ _) | (with_reducible refine Kd.C_drew ?_) | exact HR165.out)) | (with_reducible refine Kd.C_alloc ?_ _) | (with_reducible refine Kd.C_drewN ?_ _) | (with_reducible refine Kd.C_drew ?_))); (case side2 => exact HC165.out); rintro e w' ⟨rfl, ⟨nd, rfl⟩⟩; (try first | exact ⟨rfl, _, World.drewN_drewN _ _ _⟩ | exact ⟨rfl, _, Eq.trans (World.drewN_drewN _ _ _) (congrArg (World.drewN _) (Nat.add_assoc _ _ _))⟩)))
                          repeat (go_quiet (first | (go_at_call 11; (with_reducible refine (sigillumlaw02_number.calls kj13 _ _ y162 t166 _ ?side1 ?side2 A31.out).mono ?_); (case side1 => repeat (first | exact (by repeat (first | (with_reducible exact HR165.out) | (with_reducible refine Kd.C_alloc ?_ _) | (with_reducible refine Kd.C_drewN ?_ _) | (with_reducible refine Kd.C_drew ?_) | exact HR165.out)) | (with_reducible refine Kd.C_alloc ?_ _) | (with_reducible refine Kd.C_drewN ?_ _) | (with_reducible refine Kd.C_drew ?_))); (case side2 => exact HC165.out); rintro e w' ⟨rfl, ⟨nd, rfl⟩⟩; (try first | exact ⟨rfl, _, World.drewN_drewN _ _ _⟩ | exact ⟨rfl, _, Eq.trans (World.drewN_drewN _ _ _) (congrArg (World.drewN _) (Nat.add_assoc _ _ _))⟩))); try go_wp2_with (first | (go_at_call 11; (with_reducible refine (sigillumlaw02_number.calls kj13 _ _ y162 t166 _ ?side1 ?side2 A31.out).mono ?_); (case side1 => repeat (first | exact (by repeat (first | (with_reducible exact HR165.out) | (with_reducible refine Kd.C_alloc ?_ _) | (with_reducible refine Kd.C_drewN ?_ _) | (with_reducible refine Kd.C_drew ?_) | exact HR165.out)) | (with_reducible refine Kd.C_alloc ?_ _) | (with_reducible refine Kd.C_drewN ?_ _) | (with_reducible refine Kd.C_drew ?_))); (case side2 => exact HC165.out); rintro e w' ⟨rfl, ⟨nd, rfl⟩⟩; (try first | exact ⟨rfl, _, World.drewN_drewN _ _ _⟩ | exact ⟨rfl, _, Eq.trans (World.drewN_drewN _ _ _) (congrArg (World.drewN _) (Nat.add_assoc _ _ _))⟩))))
                          go_ret
                          exact ⟨by first | rfl | (simp [errW_none, errW_some] <;> rfl) | (simp only [← hji25, ← hji27]; first | rfl | (simp [errW_none, errW_some] <;> rfl)) | (simp [*, errW_none, errW_some] <;> rfl), by repeat (first | (with_reducible first | exact HB.out | apply below_alloc | apply pw_below_drewN | apply below_drew1) | exact HB.out)⟩
                        · rw [if_neg c30] at H
                          exact absurd H (by simp)
                      · rw [if_neg c29] at H
                        exact absurd H (by simp)
                  · rw [if_neg c26] at H
                    exact absurd H (by simp)
                · rw [if_neg c24] at H
                  have c24b0 : decide (a2 < 8) = false := decide_eq_false c24
                  clear c24
                  by_cases c34 : 0 ≤ (l0.length : Int)
                  · rw [if_pos c34] at H
                    have c34b0 := eq_true c34
                    have c34b1 : decide (0 ≤ (l0.length : Int)) = true := decide_eq_true c34
                    clear c34
                    by_cases c35 : (l0.length : Int) ≤ (t155.length : Int)
                    · rw [if_pos c35] at H
                      have c35b0 := eq_true c35
                      have c35b1 : decide ((l0.length : Int) ≤ (t155.length : Int)) = true := decide_eq_true c35
                      clear c35
                      obtain ⟨y167, hy167⟩ : ∃ y_ : List Int, y_ = (t155.drop ((l0.length : Int) : Int).toNat) := ⟨_, rfl⟩
                      replace H : ((sigillumlaw02_number.f kj13 y167).bind fun t171 => (some (t171 == a1))) = some r := by first | (rw [hy167]; with_reducible exact H) | (have H2_ := (Option.bind_some _ _).symm.trans H; rw [hy167]; with_reducible exact H2_) | (have H2_ := (Option.bind_some _ _).symm.trans H; with_reducible exact H2_) | with_reducible exact H | (rw [hy167]; exact H) | exact H
                      have Ny167 := Aside0.mk hy167
                      clear hy167
                      replace H := Option.bind_eq_some_iff.mp H
                      obtain ⟨t171, A360, H⟩ := H
                      replace H : (some (t171 == a1)) = some r := H
                      have A36 := Aside0.mk A360
                      clear A360
                      obtain rfl := Option.some.inj H
                      obtain ⟨Ao38, co38, eo38⟩ := Kd.R_slice HO_7.out
                      subst eo38
                      have q37 : ((l0.length : Int) : Int) ≤ ((t155.length : Int) : Int) := of_decide_eq_true (by first | (with_reducible assumption) | assumption)
                      obtain ⟨i037, hi037, _, hsz37, _⟩ := info_parts info5
                      have hroom37 : t155.length ≤ co38 := (Kd.R_reads' HO_7.out).2.1
                      have hC37 : Kd.C (Kd.int .u8) _ Ao38 t155.length t155 := (Kd.R_reads' HO_7.out).2.2
                      have q037 : (0 : Int) ≤ ((l0.length : Int) : Int) := of_decide_eq_true (by first | (with_reducible assumption) | assumption)
                      have hcut37 := cut_from (P := Try.prog) 22 5 .i64 Try.underlying22 hi037 1 hsz37 Ao38 t155.length co38 (l0.length : Int) q037 q37
                      have hr37 := Kd.C_drop (m := ((l0.length : Int) : Int).toNat) (c := co38) hC37 (by omega) hroom37
                      obtain ⟨A37, hA37⟩ : ∃ A1, A1 = (if co38 = ((l0.length : Int) : Int).toNat then Ao38 else (Ao38 : Option Addr).map (·.add (((l0.length : Int) : Int).toNat * 1))) := ⟨_, rfl⟩
                      obtain ⟨c37, hc37⟩ : ∃ c1, c1 = co38 - ((l0.length : Int) : Int).toNat := ⟨_, rfl⟩
                      have hy37 : y167.length = t155.length - ((l0.length : Int) : Int).toNat := (by rw [Ny167.out, List.length_drop] <;> omega)
                      rw [show (t155).drop ((l0.length : Int) : Int).toNat = y167 from Ny167.out.symm] at hr37
                      replace hr37 : Kd.C (Kd.int .u8) _ A37 y167.length y167 := (by rw [hA37]; exact hr37)
                      rw [← hy37, ← hA37, ← hc37] at hcut37
                      have HR170 := Aside0.mk hr37
                      have HC170 := Aside0.mk (show y167.length ≤ c37 from by rw [hy37, hc37]; exact Nat.sub_le_sub_right hroom37 _)
                      clear hr37 hC37 hroom37 hi037 hsz37 hc37
                      have KY37 := Aside0.mk hy37
                      have KA37 := Aside0.mk hA37
                      clear hy37 hA37
                      have KL37 := Aside0.mk (show ((l0.length : Int) : Int).toNat ≤ t155.length from by omega)
                      replace q37 := eq_true q37
                      go_wp2_with (first | (go_at_call 11; (with_reducible refine (sigillumlaw02_number.calls kj13 _ _ y167 t171 _ ?side1 ?side2 A36.out).mono ?_); (case side1 => repeat (first | exact (by repeat (first | (with_reducible exact HR170.out) | (with_reducible refine Kd.C_alloc ?_ _) | (with_reducible refine Kd.C_drewN ?_ _) | (with_reducible refine Kd.C_drew ?_) | exact HR170.out)) | (with_reducible refine Kd.C_alloc ?_ _) | (with_reducible refine Kd.C_drewN ?_ _) | (with_reducible refine Kd.C_drew ?_))); (case side2 => exact HC170.out); rintro e w' ⟨rfl, ⟨nd, rfl⟩⟩; (try first | exact ⟨rfl, _, World.drewN_drewN _ _ _⟩ | exact ⟨rfl, _, Eq.trans (World.drewN_drewN _ _ _) (congrArg (World.drewN _) (Nat.add_assoc _ _ _))⟩)))
                      repeat (go_quiet (first | (go_at_call 11; (with_reducible refine (sigillumlaw02_number.calls kj13 _ _ y167 t171 _ ?side1 ?side2 A36.out).mono ?_); (case side1 => repeat (first | exact (by repeat (first | (with_reducible exact HR170.out) | (with_reducible refine Kd.C_alloc ?_ _) | (with_reducible refine Kd.C_drewN ?_ _) | (with_reducible refine Kd.C_drew ?_) | exact HR170.out)) | (with_reducible refine Kd.C_alloc ?_ _) | (with_reducible refine Kd.C_drewN ?_ _) | (with_reducible refine Kd.C_drew ?_))); (case side2 => exact HC170.out); rintro e w' ⟨rfl, ⟨nd, rfl⟩⟩; (try first | exact ⟨rfl, _, World.drewN_drewN _ _ _⟩ | exact ⟨rfl, _, Eq.trans (World.drewN_drewN _ _ _) (congrArg (World.drewN _) (Nat.add_assoc _ _ _))⟩))); try go_wp2_with (first | (go_at_call 11; (with_reducible refine (sigillumlaw02_number.calls kj13 _ _ y167 t171 _ ?side1 ?side2 A36.out).mono ?_); (case side1 => repeat (first | exact (by repeat (first | (with_reducible exact HR170.out) | (with_reducible refine Kd.C_alloc ?_ _) | (with_reducible refine Kd.C_drewN ?_ _) | (with_reducible refine Kd.C_drew ?_) | exact HR170.out)) | (with_reducible refine Kd.C_alloc ?_ _) | (with_reducible refine Kd.C_drewN ?_ _) | (with_reducible refine Kd.C_drew ?_))); (case side2 => exact HC170.out); rintro e w' ⟨rfl, ⟨nd, rfl⟩⟩; (try first | exact ⟨rfl, _, World.drewN_drewN _ _ _⟩ | exact ⟨rfl, _, Eq.trans (World.drewN_drewN _ _ _) (congrArg (World.drewN _) (Nat.add_assoc _ _ _))⟩))))
                      go_ret
                      exact ⟨by first | rfl | (simp [errW_none, errW_some] <;> rfl) | (simp [*, errW_none, errW_some] <;> rfl), by repeat (first | (with_reducible first | exact HB.out | apply below_alloc | apply pw_below_drewN | apply below_drew1) | exact HB.out)⟩
                    · rw [if_neg c35] at H
                      exact absurd H (by simp)
                  · rw [if_neg c34] at H
                    exact absurd H (by simp)
  · replace c5 := Bool.eq_false_iff.mpr c5
    subst c5
    have H1 : (some false) = some r := by rw [if_neg (show ¬ (false = true) by decide)] at H; exact H
    clear H
    have H := H1
    clear H1
    obtain rfl := Option.some.inj H
    go_enter Try.func3, Try.ntmps3
    go_wp2_with (first | (go_at_call 9; (with_reducible refine (sigillumlaw02_awake.calls k  false _ A4.out).mono ?_); rintro e w39 ⟨rfl, hb⟩; have n0_ := Aside0.mk (below_step (by repeat (first | (with_reducible first | exact HB.out | apply below_alloc | apply pw_below_drewN | apply below_drew1) | exact HB.out)) hb); clear HB; have HB := n0_; clear n0_; (try clear hb); (try clear hb2); (try clear hk); (try clear hi)))
    repeat (go_quiet (first | (go_at_call 9; (with_reducible refine (sigillumlaw02_awake.calls k  false _ A4.out).mono ?_); rintro e w39 ⟨rfl, hb⟩; have n0_ := Aside0.mk (below_step (by repeat (first | (with_reducible first | exact HB.out | apply below_alloc | apply pw_below_drewN | apply below_drew1) | exact HB.out)) hb); clear HB; have HB := n0_; clear n0_; (try clear hb); (try clear hb2); (try clear hk); (try clear hi))); try go_wp2_with (first | (go_at_call 9; (with_reducible refine (sigillumlaw02_awake.calls k  false _ A4.out).mono ?_); rintro e w39 ⟨rfl, hb⟩; have n0_ := Aside0.mk (below_step (by repeat (first | (with_reducible first | exact HB.out | apply below_alloc | apply pw_below_drewN | apply below_drew1) | exact HB.out)) hb); clear HB; have HB := n0_; clear n0_; (try clear hb); (try clear hb2); (try clear hk); (try clear hi))))
    go_ret
    exact ⟨by first | rfl | (simp [errW_none, errW_some] <;> rfl) | (simp [*, errW_none, errW_some] <;> rfl), by repeat (first | (with_reducible first | exact HB.out | apply below_alloc | apply pw_below_drewN | apply below_drew1) | exact HB.out)⟩

/-- THE ONE PURE STATEMENT of sigillumlaw02_CodecPut: yours. -/
def sigillumlaw02_CodecPut.Pure : Prop := ∀ (l0 : List Int) (a1 : Int) (a2 : Int), l0.length ≤ maxLen → l0.length * 1 ≤ 140737488351232 → (∀ x ∈ l0, (Lit.int .u8 x).wf = true) → (Lit.int .u64 a1).wf = true → (Lit.int .i64 a2).wf = true → ∃ k, sigillumlaw02_CodecPut.f k l0 a1 a2 = some true
theorem sigillumlaw02_CodecPut.walk (P : sigillumlaw02_CodecPut.Pure) (a0 : Option Addr) (len0 cap0 : Nat) (z0 : List Int) (a1 : Int) (a2 : Int) (w : World) (w0 : (a0 = none ∧ len0 = 0 ∧ cap0 = 0 ∧ z0 = []) ∨ ∃ x, a0 = some x ∧ len0 ≤ cap0 ∧ cap0 ≤ maxLen ∧ z0.length = cap0 ∧ (∀ i, i < z0.length → w.cell? (x.add i) = some (.int .u8 (z0.getD i 0))) ∧ ∀ n ∈ z0, (Lit.int .u8 n).wf = true) (y0 : len0 * 1 ≤ 140737488351232) (w1 : (Lit.int .u64 a1).wf = true) (w2 : (Lit.int .i64 a2).wf = true) :
    Calls Try.prog 3 #[.slice a0 len0 cap0, .int .u64 a1, .int .i64 a2] w fun e w' => e = .returned (.bool true) ∧ Below w.heap.size w w' := by
  obtain ⟨l0, rfl, hr0, hm0, hw0, hc0⟩ := ReadsInt.ofRowC w0
  obtain ⟨k, h⟩ := P l0 a1 a2 hm0 y0 hw0 w1 w2
  refine (sigillumlaw02_CodecPut.calls k _ _ l0 a1 a2 true w (Kd.C_of_reads (d := (0 : Int)) (h1 := fun _ => rfl) hr0) hc0 h).mono ?_
  rintro e w' ⟨rfl, hd⟩
  exact ⟨rfl, hd⟩

end Go.Proofs.Ytkclhbfoimpjkaa.PA
