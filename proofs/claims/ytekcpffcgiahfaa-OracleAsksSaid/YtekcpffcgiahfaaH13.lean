/- OracleAsks, walked: answers are drawn when they are asked for first, and stay; draws for something else stand between them; behind the last draw there is none. -/
import Derived.Test.YtekcpffcgiahfaaH12
namespace Go.Proofs.Ytekcpffcgiahfaa.PA
open Go.RowKit Go.Proofs.YtekcpffcgiahfaaW.PrintWords Go.Proofs.YtekcpffcgiahfaaW.PrintLast Go.Proofs.YtekcpffcgiahfaaW.PrintMore
set_option linter.unusedVariables false
set_option linter.unusedSimpArgs false
set_option maxHeartbeats 6400000 in
set_option maxRecDepth 100000 in
theorem asks_walk (xs : List Int) (A : Option Addr) (c : Nat) (qs : List S32) (A2 : Option Addr) (c2 : Nat) (W : World) (hC : Kd.C (Kd.int .u64) W A xs.length xs) (hsize : xs.length * 8 ≤ 140737488351232) (hC2 : Kd.C k32 W A2 qs.length qs) (hr : ∀ q ∈ qs, (0 ≤ q.f0 ∧ q.f0 < 256) ∧ 0 ≤ q.f1 ∧ q.f1 < 18446744073709551616) :
    Calls Try.prog 5 #[.slice A xs.length c, .slice A2 qs.length c2] W fun e w' => e = .returned (.bool true) ∧ Below W.heap.size W w' := by
  have HC := Aside0.mk hC
  have HC2 := Aside0.mk hC2
  have hqn := hC2.2.1
  have HRQ := Aside0.mk hr
  clear hC hC2 hr
  go_enter Try.func5, Try.ntmps5
  go_wp2_with (fail)
  refine (awake_calls W).mono ?_
  rintro e w1 ⟨rfl, HB1⟩
  go_wp2_with (fail)
  refine (of_calls w1 A c xs (Kd.C_below HC.out HB1) hsize).mono ?_
  rintro e w2 ⟨gs, rfl, hgs, hS, HB2⟩
  have hgs' := Nat.le_trans HB1.size hgs
  have HB := Aside0.mk (HB1.trans (HB2.mono HB1.size))
  have hgs2 := hS.lt
  have hSb := hS.bound
  clear HB1 HB2 hS
  go_wp2_with (fail)
  refine (of_calls w2 A c xs (Kd.C_below HC.out HB.out) hsize).mono ?_
  rintro e w3 ⟨gt, rfl, hgt, hT, HB2⟩
  have hgt' := Nat.le_trans HB.out.size hgt
  have hS3 := hSb.below HB2
  replace HB := Aside0.mk (HB.out.trans (HB2.mono HB.out.size))
  have hgt3 := hT.lt
  have hs3 := HB2.size
  generalize xs.map cutw = ys at hT hS3
  clear HB2 hSb
  go_wp2_with (fail)
  refine (oof_calls w3 gt _ ys _ hT).mono ?_
  rintro e w4 ⟨g, B, rfl, hg, hO, hBB, HB2⟩
  have hS4 := hS3.below HB2
  have hg' := Nat.le_trans HB.out.size hg
  have hs4 := HB2.size
  replace HB := Aside0.mk (HB.out.trans (HB2.mono HB.out.size))
  have hmin : W.heap.size ≤ min g gt := Nat.le_min.2 ⟨hg', hgt'⟩
  have HMIN := Aside0.mk hmin
  have HGT := Aside0.mk hgt'
  have HGS := Aside0.mk hgs'
  have HWB := Aside0.mk (show W.heap.size ≤ B from Nat.le_trans hg' (Nat.le_of_lt hO.2.2.1))
  obtain ⟨okS, hokS, hS4⟩ : ∃ okS : Nat → Prop, (∀ k, okS k → k < w2.heap.size ∧ k ≠ gs) ∧ IsTape w4 gs okS ys 0 := ⟨_, fun k hk => ⟨hk.2, hk.1.2⟩, hS4⟩
  obtain ⟨okT, hokT, hO⟩ : ∃ okT : Nat → Prop, (∀ k, okT k → w2.heap.size ≤ k) ∧ IsOracle w4 g gt B (.slice none 0 0) okT [] ys 0 := ⟨_, fun k hk => hk.1.1, hO⟩
  have HAW : Aside0 (Away g gt gs B okT okS) := ⟨by
    have := hO.2.2.2.1
    refine ⟨by omega, by omega, by omega, fun k hk => ?_, fun k hk => ?_⟩
    · have := hokS k hk
      omega
    · have := hokT k hk
      omega⟩
  have HO := Aside0.mk (show ∃ v es m, Twin w4 g gt gs B okT okS v (.slice none 0 0) es es ys m m ∧ Fine es from ⟨_, [], 0, ⟨hO, hS4, Kd.R_nil _ _ _ _ _, fun b hb => by simp [Value.ownBlock] at hb⟩, Fine.nil⟩)
  clear hT hO HB2 hS3 hS4 hokS hokT hg hgt hgs hgs2 hgt3 hs3 hs4 hBB hg' hgt' hgs' hmin
  go_wp2_with (fail)
  go_loopw [7, 36] (fun v7 iv wr => ∃ k : Nat, k ≤ qs.length ∧ iv = .int .i64 k ∧ Aside0 (∃ v es m, Twin wr g gt gs B okT okS v v7 es es ys m m ∧ Fine es) ∧ Aside0 (Below W.heap.size W wr)) (fun _ iv _ => qs.length - (intOf iv).toNat)
  case atStart => exact ⟨0, Nat.zero_le _, rfl, HO, HB⟩
  case round =>
    clear HO HB
    obtain ⟨k, hk, rfl, HO, HB⟩ := hrel
    by_cases hlt : k < qs.length
    · obtain ⟨ad, hA, hx0, hx1⟩ := at_T32 HC2.out (k : Int) (by omega) (by omega)
      replace hx0 := pw_cell_below HB.out hx0
      replace hx1 := pw_cell_below HB.out hx1
      cases hA
      rw [Int.toNat_natCast] at hx0 hx1
      have hq : rd_T32 qs (k : Int) ∈ qs := by
        have : rd_T32 qs (k : Int) = qs[k] := by simp [rd_T32, List.getD_eq_getElem?_getD, List.getElem?_eq_getElem hlt]
        rw [this]
        exact List.getElem_mem hlt
      have hrq := HRQ.out _ hq
      generalize rd_T32 qs (k : Int) = q0 at hx0 hx1 hrq
      obtain ⟨a, b⟩ := q0
      obtain ⟨ha, hb0, hb1⟩ := hrq
      simp only [] at hx0 hx1
      have ha : 0 ≤ a ∧ a < 256 := ha
      have hb0 : 0 ≤ b := hb0
      have hb1 : b < 18446744073709551616 := hb1
      obtain ⟨v, es, m, hTw, hF⟩ := HO.out
      have hlt' : (k : Int) < (qs.length : Int) := by omega
      have hbel := (Below.refl wr.heap.size wr).alloc (Nat.le_refl _) (.cells #[.int .u8 a, .int .u64 b] 32)
      have HTw := Aside0.mk (hTw.below hbel)
      have HF := Aside0.mk hF
      have HBq := Aside0.mk (HB.out.trans (hbel.mono HB.out.size))
      have hbq : (wr.alloc (.cells #[.int .u8 a, .int .u64 b] 32)).heap[wr.heap.size]? = some (.cells #[.int .u8 a, .int .u64 b] 32 (0, 0)) := by simpa using heap_alloc_new wr _
      have hq0 : (wr.alloc (.cells #[.int .u8 a, .int .u64 b] 32)).cell? ⟨wr.heap.size, 0, none⟩ = some (.int .u8 a) := (blk_cell hbq 0).trans rfl
      have hq1 : (wr.alloc (.cells #[.int .u8 a, .int .u64 b] 32)).cell? ⟨wr.heap.size, 1, none⟩ = some (.int .u64 b) := (blk_cell hbq 1).trans rfl
      have hqb : B ≤ wr.heap.size := hTw.1.2.2.2.2.2.2.1
      clear hTw hbel HB HO hF hbq hq
      by_cases h43 : a % 4 = 3
      · go_wp2_with (fail)
        generalize wr.alloc (.cells #[.int .u8 a, .int .u64 b] 32) = wq at HTw HBq hq0 hq1 ⊢
        generalize wr.heap.size = q at hq0 hq1 hqb ⊢
        clear hq0 hq1
        by_cases hm : m < ys.length
        · have hD := fun w => draw_some w gs okS ys m
          have hE := odraw_some wq g gt B v okT es ys m HTw.out.1 hm
          generalize hy : ys.getD m 0 = y at hD hE
          have HM := Aside0.mk hm
          clear hy hm
          have HD := Aside0.mk hD
          clear hD
          refine hE.mono ?_
          rintro e w5 ⟨rfl, hO5, hK5, hB5⟩
          have HTw5 := Aside0.mk (HTw.out.drawO HAW.out hK5 hO5)
          have HB5 := Aside0.mk (HBq.out.trans (hB5.mono HGT.out))
          clear hE hO5 hK5 hB5 HTw HBq
          go_wp2_with (fail)
          refine (HD.out w5 HTw5.out.2.1 HM.out).mono ?_
          rintro e w6 ⟨rfl, hS6, hK6, hB6⟩
          have HTw6 := Aside0.mk (HTw5.out.drawS HAW.out hK6 hS6)
          have HB6 := Aside0.mk (HB5.out.trans (hB6.mono HGS.out))
          clear hS6 hK6 hB6 HTw5 HB5 HD
          go_wp2_with (fail)
          go_quiet (exact Calls.quiet_of_same (is_nil _ 7))
          go_wp2
          go_roundw
          case rel => exact ⟨k + 1, hlt, by simp, ⟨_, _, _, HTw6.out.below (by repeat (first | exact Below.refl _ _ | apply pw_below_drewN)), HF.out⟩, ⟨pw_below_drewN HB6.out _⟩⟩
          case measure => simp [intOf]; omega
        · have hml : m = ys.length := by have := HTw.out.2.1.le; omega
          subst hml
          refine (odraw_none wq g gt B v okT es ys HTw.out.1).mono ?_
          rintro e w5 ⟨rfl, hO5, hK5, hB5⟩
          have HTw5 := Aside0.mk (HTw.out.drawO HAW.out hK5 hO5)
          have HB5 := Aside0.mk (HBq.out.trans (hB5.mono HGT.out))
          clear hO5 hK5 hB5 HTw HBq hm
          go_wp2_with (fail)
          refine (draw_none w5 gs okS ys HTw5.out.2.1).mono ?_
          rintro e w6 ⟨rfl, hS6, hK6, hB6⟩
          have HTw6 := Aside0.mk (HTw5.out.drawS HAW.out hK6 hS6)
          have HB6 := Aside0.mk (HB5.out.trans (hB6.mono HGS.out))
          clear hS6 hK6 hB6 HTw5 HB5
          go_wp2_with (fail)
          go_quiet (exact Calls.quiet_of_same (is_same _ 7))
          go_wp2
          go_roundw
          case rel => exact ⟨k + 1, hlt, by simp, ⟨_, _, _, HTw6.out.below (by repeat (first | exact Below.refl _ _ | apply pw_below_drewN)), HF.out⟩, ⟨pw_below_drewN HB6.out _⟩⟩
          case measure => simp [intOf]; omega
      · have h43' : ¬ a % 4 = 3 := h43
        have HMOD : Aside0 (wrap64 (a.tmod 2) = a % 2) := ⟨by rw [Int.tmod_eq_emod_of_nonneg ha.1]; unfold wrap64; omega⟩
        go_wp2_with (fail)
        have HM0 := Aside0.mk h43
        clear h43 h43'
        generalize wr.alloc (.cells #[.int .u8 a, .int .u64 b] 32) = wq at HTw HBq hq0 hq1 ⊢
        generalize wr.heap.size = q at hq0 hq1 hqb ⊢
        refine start_ (n := 9) (S := fun w' => w'.cell? ⟨q, 0, none⟩ = some (.int .u8 a) ∧ w'.cell? ⟨q, 1, none⟩ = some (.int .u64 b)) (ds := []) #[false, false, false, false, false, false, false, false, false] (by kernel_rfl) rfl rfl ⟨hq0, hq1⟩ (fun hHeld => ?_)
        refine pure_ (i := 0) (N := some 74) (v := ?_) (a' := ?_) #[true, false, false, false, false, false, false, false, false] rfl rfl (by kernel_rfl) (fun _ _ _ h => h) (Or.inl ⟨by rfl, ?_⟩) ?_ ?_
        rotate_left
        · intro w'
          go_simp
          with_reducible rfl
        rotate_left
        · simp only [Act.put, List.setIfInBounds_toArray, List.set_cons_zero, List.set_cons_succ, i64_w, i32_w]
          rfl
        refine take_ (i := 1) (N := some 75) (v := ?_) (a' := ?_) #[true, true, false, false, false, false, false, false, false] rfl rfl (by kernel_rfl) (fun _ _ _ h => h) (Or.inl ⟨by rfl, ?_⟩) hHeld ?_ ?_
        rotate_left
        · rintro w' ⟨s0, s1⟩
          go_simp
          with_reducible rfl
        rotate_left
        · simp only [Act.put, List.setIfInBounds_toArray, List.set_cons_zero, List.set_cons_succ, i64_w, i32_w]
          rfl
        refine pure_ (i := 2) (N := some 76) (v := ?_) (a' := ?_) #[true, true, true, false, false, false, false, false, false] rfl rfl (by kernel_rfl) (fun _ _ _ h => h) (Or.inl ⟨by rfl, ?_⟩) ?_ ?_
        rotate_left
        · intro w'
          go_simp
          with_reducible rfl
        rotate_left
        · simp only [Act.put, List.setIfInBounds_toArray, List.set_cons_zero, List.set_cons_succ, i64_w, i32_w]
          rfl
        refine pure_ (i := 3) (N := some 77) (v := ?_) (a' := ?_) #[true, true, true, true, false, false, false, false, false] rfl rfl (by kernel_rfl) (fun _ _ _ h => h) (Or.inl ⟨by rfl, ?_⟩) ?_ ?_
        rotate_left
        · intro w'
          go_simp
          with_reducible rfl
        rotate_left
        · simp only [Act.put, List.setIfInBounds_toArray, List.set_cons_zero, List.set_cons_succ, i64_w, i32_w]
          rfl
        refine take_ (i := 4) (N := some 78) (v := ?_) (a' := ?_) #[true, true, true, true, true, false, false, false, false] rfl rfl (by kernel_rfl) (fun _ _ _ h => h) (Or.inl ⟨by rfl, ?_⟩) hHeld ?_ ?_
        rotate_left
        · rintro w' ⟨s0, s1⟩
          go_simp
          with_reducible rfl
        rotate_left
        · simp only [Act.put, List.setIfInBounds_toArray, List.set_cons_zero, List.set_cons_succ, i64_w, i32_w]
          rfl
        refine one_ (i := 5) (N := some 79) #[true, true, true, true, true, true, false, false, false] rfl rfl (by kernel_rfl) (by decide) (fun K hK => ?_)
        refine goes_ Try.func11 (by kernel_rfl) rfl #[.agg #[.int .u8 a, .int .u64 b]] (by rfl) rfl rfl (by simp only [List.map_toArray, List.map_cons, List.map_nil]; rfl) ?_
        with_reducible refine (in_calls a b hb0 _).mono ?_
        rintro e w3 ⟨rfl, hb3⟩
        refine ⟨_, rfl, ?_⟩
        have HB3 := Aside0.mk hb3
        clear hb3
        refine hK.out _ _ ⟨(pw_cell_below HB3.out hq0), (pw_cell_below HB3.out hq1)⟩ (fun hHeld => ?_)
        clear hK K
        refine norm_ (a' := ?_) ?_ ?_
        rotate_left
        · show Act.put _ (some 79) _ = _
          simp only [Act.put, List.setIfInBounds_toArray, List.set_cons_zero, List.set_cons_succ, i64_w, i32_w]
          rfl
        refine pure_ (i := 6) (N := some 80) (v := ?_) (a' := ?_) #[true, true, true, true, true, true, true, false, false] rfl rfl (by kernel_rfl) (fun _ _ _ h => h) (Or.inl ⟨by rfl, ?_⟩) ?_ ?_
        rotate_left
        · intro w'
          go_simp
          with_reducible rfl
        rotate_left
        · simp only [Act.put, List.setIfInBounds_toArray, List.set_cons_zero, List.set_cons_succ, i64_w, i32_w]
          rfl
        refine pure_ (i := 7) (N := some 14) (v := ?_) (a' := ?_) #[true, true, true, true, true, true, true, true, false] rfl rfl (by kernel_rfl) (fun _ _ _ h => h) (Or.inl ⟨by rfl, ?_⟩) ?_ ?_
        rotate_left
        · intro w'
          go_simp
          with_reducible rfl
        rotate_left
        · simp only [Act.put, List.setIfInBounds_toArray, List.set_cons_zero, List.set_cons_succ, i64_w, i32_w]
          rfl
        refine pure_ (i := 8) (N := some 15) (v := ?_) (a' := ?_) #[true, true, true, true, true, true, true, true, true] rfl rfl (by kernel_rfl) (fun _ _ _ h => h) (Or.inl ⟨by rfl, ?_⟩) ?_ ?_
        rotate_left
        · intro w'
          go_simp
          with_reducible rfl
        rotate_left
        · simp only [Act.put, List.setIfInBounds_toArray, List.set_cons_zero, List.set_cons_succ, i64_w, i32_w]
          rfl
        refine done_ (by kernel_rfl) ?_


        have hBd : Below wq.heap.size wq wq.drew := by repeat (first | exact Below.refl _ _ | apply below_drew1)
        have hB3 := HB3.out
        obtain ⟨hq0', hq1'⟩ := hHeld
        have HTw3 := Aside0.mk ((HTw.out.below hBd).below hB3)
        have HB3' := Aside0.mk (HBq.out.trans ((hBd.mono HBq.out.size).trans (hB3.mono HBq.out.size)))
        clear hBd hB3 HB3 HTw HBq hq0 hq1
        rw [HMOD.out, show bits BinOp.and IntKind.u64 (asked b) 281474976710655 = cutw (asked b) from rfl]
        clear HMOD
        generalize hf : a % 2 = f
        generalize hy : cutw (asked b) = y
        have HFA := Aside0.mk hf
        have HYB := Aside0.mk hy
        clear hf hy
        obtain ⟨Ah, ch, hu7⟩ := Kd.R_slice HTw3.out.2.2.1
        subst hu7
        have hch := (Kd.R_reads' HTw3.out.2.2.1).2.1
        have HCH := Aside0.mk (Kd.R_reads' HTw3.out.2.2.1).2.2
        have hel := HF.out.le
        go_wp2_with (fail)
        go_loopw [16, 83] (fun v16 iv wx => ∃ i : Nat, i ≤ es.length ∧ iv = .int .i64 i ∧ (∃ z : Int, v16 = .int .i64 z ∧ Aside0 ((z = -1 ∧ ∀ j, j < i → ¬ ((es.getD j z46).f0 = f ∧ (es.getD j z46).f1 = y)) ∨ (∃ j : Nat, j < i ∧ z = j ∧ (es.getD j z46).f0 = f ∧ (es.getD j z46).f1 = y))) ∧ Aside0 (Below w3.heap.size w3 wx)) (fun _ iv _ => es.length - (intOf iv).toNat)
        case atStart => exact ⟨0, Nat.zero_le _, rfl, ⟨-1, rfl, ⟨.inl ⟨rfl, fun j hj => absurd hj (Nat.not_lt_zero j)⟩⟩⟩, ⟨Below.refl _ _⟩⟩
        case round =>
          obtain ⟨i, hi, rfl, ⟨z, rfl, HZ⟩, HW⟩ := hrel
          by_cases hie : i < es.length
          · obtain ⟨ae, hAe, hy0, hy1, hy2⟩ := at_T46 HCH.out (i : Int) (by omega) (by omega)
            cases hAe
            replace hy0 := pw_cell_below HW.out hy0
            replace hy1 := pw_cell_below HW.out hy1
            replace hy2 := pw_cell_below HW.out hy2
            rw [Int.toNat_natCast] at hy0 hy1 hy2
            rw [show rd_T46 es (i : Int) = es.getD i z46 by simp [rd_T46]] at hy0 hy1 hy2
            have hie' : (i : Int) < (es.length : Int) := by omega
            have HN : Aside0 (¬ ((es.getD i z46).f0 = f ∧ (es.getD i z46).f1 = y) → (z = -1 ∧ ∀ j, j < i + 1 → ¬ ((es.getD j z46).f0 = f ∧ (es.getD j z46).f1 = y)) ∨ (∃ j : Nat, j < i + 1 ∧ z = j ∧ (es.getD j z46).f0 = f ∧ (es.getD j z46).f1 = y)) := ⟨fun hn => by
              rcases HZ.out with ⟨e, h⟩ | ⟨j, h1, h2⟩
              · refine .inl ⟨e, fun j hj => ?_⟩
                by_cases c : j = i
                · subst c; exact hn
                · exact h j (by omega)
              · exact .inr ⟨j, by omega, h2⟩⟩
            have HY : Aside0 ((es.getD i z46).f0 = f → (es.getD i z46).f1 = y → ((i : Int) = -1 ∧ ∀ j, j < i + 1 → ¬ ((es.getD j z46).f0 = f ∧ (es.getD j z46).f1 = y)) ∨ (∃ j : Nat, j < i + 1 ∧ (i : Int) = j ∧ (es.getD j z46).f0 = f ∧ (es.getD j z46).f1 = y)) := ⟨fun h1 h2 => .inr ⟨i, by omega, rfl, h1, h2⟩⟩
            generalize es.getD i z46 = x at hy0 hy1 hy2 HN HY
            obtain ⟨x0, x1, x2⟩ := x
            simp only [] at hy0 hy1 hy2 HN HY
            have hbel := (Below.refl wr.heap.size wr).alloc (Nat.le_refl _) (.cells #[.int .i64 x0, .int .u64 x1, .int .u64 x2] 46)
            have HW2 := Aside0.mk (HW.out.trans (hbel.mono HW.out.size))
            clear hbel HW HZ
            by_cases c0 : x0 = f
            · by_cases c1 : x1 = y
              · have HV := Aside0.mk (HY.out c0 c1)
                clear HY HN
                have c0b : (x0 == f) = true := by simp [c0]
                have c1b : (x1 == y) = true := by simp [c1]
                clear c0 c1
                go_wp2_with (fail)
                go_roundw
                case rel => exact ⟨i + 1, hie, by simp, ⟨i, rfl, HV⟩, HW2⟩
                case measure => simp [intOf]; omega
              · have HV := Aside0.mk (HN.out (fun h => c1 h.2))
                clear HY HN
                have c0b : (x0 == f) = true := by simp [c0]
                have c1b : (x1 == y) = false := by simp [c1]
                clear c0 c1
                go_wp2_with (fail)
                go_roundw
                case rel => exact ⟨i + 1, hie, by simp, ⟨z, rfl, HV⟩, HW2⟩
                case measure => simp [intOf]; omega
            · have HV := Aside0.mk (HN.out (fun h => c0 h.1))
              clear HY HN
              have c0b : (x0 == f) = false := by simp [c0]
              clear c0
              go_wp2_with (fail)
              go_roundw
              case rel => exact ⟨i + 1, hie, by simp, ⟨z, rfl, HV⟩, HW2⟩
              case measure => simp [intOf]; omega
          · obtain rfl : i = es.length := by omega
            have HTw4 := Aside0.mk (HTw3.out.below HW.out)
            have HB4 := Aside0.mk (HB3'.out.trans (HW.out.mono HB3'.out.size))
            have hq0w := pw_cell_below HW.out hq0'
            have hq1w := pw_cell_below HW.out hq1'
            have HC4 := Aside0.mk (Kd.C_below HCH.out HW.out)
            have HK := Aside0.mk (fun w h => known_calls w g gt B v okT es ys m f (asked b) h)
            clear HTw3 HB3' hq0' hq1' HCH HW hie
            rcases HZ.out with ⟨rfl, hno⟩ | ⟨j0, hj0, rfl, hm0, hm1⟩
            · have hk0 := knownIn_no hno
              have hK := HK.out
              simp only [HYB.out, hk0] at hK
              have HKN := Aside0.mk hk0
              have HK2 := Aside0.mk hK
              clear HK hK hno hk0 HZ
              go_wp2_with (fail)
              refine (in_calls a b hb0 _).mono ?_
              rintro e w5 ⟨rfl, hb5⟩
              have HTw5 := Aside0.mk (HTw4.out.below hb5)
              have HB5 := Aside0.mk (HB4.out.trans (hb5.mono HB4.out.size))
              replace hq0w := pw_cell_below hb5 hq0w
              replace hq1w := pw_cell_below hb5 hq1w
              clear hb5 HTw4 HB4
              go_wp2_with (fail)
              refine (HK2.out w5 HTw5.out.1).mono ?_
              rintro e w6 ⟨rfl, hb6⟩
              have HTw6 := Aside0.mk (HTw5.out.below hb6)
              have HB6 := Aside0.mk (HB5.out.trans (hb6.mono HB5.out.size))
              replace hq0w := pw_cell_below hb6 hq0w
              replace hq1w := pw_cell_below hb6 hq1w
              clear hb6 HTw5 HB5 HK2
              go_wp2_with (fail)
              refine (in_calls a b hb0 _).mono ?_
              rintro e w7 ⟨rfl, hb7⟩
              have HTw7 := Aside0.mk (HTw6.out.below hb7)
              have HB7 := Aside0.mk (HB6.out.trans (hb7.mono HB6.out.size))
              clear hb7 HTw6 HB6
              by_cases hm : m < ys.length
              · have hA := ask_new w7 g gt B v okT es ys m f (asked b) HTw7.out.1 (by rw [HYB.out]; exact HKN.out) hm (by omega)
                have hFN := HF.out.new (a := a) (x := b) hb0 (by rw [HFA.out, HYB.out]; exact HKN.out) hm
                rw [HFA.out, HYB.out] at hFN
                have hD := fun w => draw_some w gs okS ys m
                rw [HYB.out] at hA
                generalize hyd : ys.getD m 0 = d at hA hD hFN
                have HD := Aside0.mk hD
                have HM := Aside0.mk hm
                have HFN := Aside0.mk hFN
                clear hyd hm hFN hD
                go_wp2_with (fail)
                refine hA.mono ?_
                rintro e w8 ⟨rfl, v8, hO8, hf8, hat8, hs8, hb8⟩
                have HTw8 := Aside0.mk (HTw7.out.asked HAW.out hf8 hat8 hO8)
                have HB8 := Aside0.mk (HB7.out.trans (hb8.mono HMIN.out))
                clear hA hO8 hf8 hat8 hs8 hb8 HTw7 HB7
                go_wp2_with (fail)
                refine (HD.out w8 HTw8.out.2.1 HM.out).mono ?_
                rintro e w9 ⟨rfl, hS9, hK9, hb9⟩
                have HTw9 := Aside0.mk (HTw8.out.drawS HAW.out hK9 hS9)
                have HB9 := Aside0.mk (HB8.out.trans (hb9.mono HGS.out))
                clear hS9 hK9 hb9 HTw8 HB8 HD
                go_wp2_with (fail)
                go_quiet (fail)
                have HTw10 := Aside0.mk (HTw9.out.below (w1 := w9.drewN nq) (by repeat (first | exact Below.refl _ _ | apply pw_below_drewN)))
                have HB10 := Aside0.mk (show Below W.heap.size W (w9.drewN nq) from pw_below_drewN HB9.out _)
                generalize w9.drewN nq = w10 at HTw10 HB10 ⊢
                clear HTw9 HB9 hq0w hq1w
                have hBs := HTw10.out.1.2.2.2.2.2.2.1
                have hap : (es.length + 1) * 24 ≤ 140737488355328 := by omega
                go_wp2_with (first | (at_builtin; refine Kd.R_append k46 (w0 := w10) B rfl (.tmp 170) (.tmp 175) 43 46 (.agg #[.int .i64 0, .int .u64 0, .int .u64 0]) 24 rfl Try.underlying43 info46 rfl (by decide) (by omega) (.slice Ah es.length ch) es ⟨f, y, d⟩ _ (fun _ => True) (fun _ => False) rfl rfl (k46_mkM _ _ _ ⟨f, y, d⟩) (fun _ hk => hk.elim) (fun _ _ => trivial) HTw10.out.2.2.1 (Below.refl _ _) hBs (by omega) ?_; intro v11 w11 ho hb11 hg11 hat; have HTw11 := Aside0.mk (HTw10.out.append HAW.out hg11 hat ho); have HB11 := Aside0.mk (HB10.out.trans (hb11.mono HWB.out)); clear ho hb11 hg11 hat) | fail)
                go_roundw
                case rel => exact ⟨k + 1, hlt, by simp, ⟨_, _, _, HTw11.out, HFN.out⟩, HB11⟩
                case measure => simp [intOf]; omega
              · have hml : m = ys.length := by have := HTw7.out.2.1.le; omega
                subst hml
                have hA := ask_none w7 g gt B v okT es ys f (asked b) HTw7.out.1 (by rw [HYB.out]; exact HKN.out)
                clear hm
                go_wp2_with (fail)
                refine hA.mono ?_
                rintro e w8 ⟨rfl, hO8, hK8, hb8⟩
                have HTw8 := Aside0.mk (HTw7.out.drawO HAW.out hK8 hO8)
                have HB8 := Aside0.mk (HB7.out.trans (hb8.mono HGT.out))
                clear hA hO8 hK8 hb8 HTw7 HB7
                go_wp2_with (fail)
                refine (draw_none w8 gs okS ys HTw8.out.2.1).mono ?_
                rintro e w9 ⟨rfl, hS9, hK9, hb9⟩
                have HTw9 := Aside0.mk (HTw8.out.drawS HAW.out hK9 hS9)
                have HB9 := Aside0.mk (HB8.out.trans (hb9.mono HGS.out))
                clear hS9 hK9 hb9 HTw8 HB8
                go_wp2_with (fail)
                go_quiet (fail)
                go_wp2
                go_roundw
                case rel => exact ⟨k + 1, hlt, by simp, ⟨_, _, _, HTw9.out.below (by repeat (first | exact Below.refl _ _ | apply pw_below_drewN)), HF.out⟩, ⟨pw_below_drewN HB9.out _⟩⟩
                case measure => simp [intOf]; omega
            · have hk0 := knownIn_at HF.out.1 hj0 hm0 hm1
              obtain ⟨ah, hAh, hz0, hz1, hz2⟩ := at_T46 HC4.out (j0 : Int) (by omega) (by omega)
              cases hAh
              rw [Int.toNat_natCast] at hz0 hz1 hz2
              rw [show rd_T46 es (j0 : Int) = es.getD j0 z46 by simp [rd_T46]] at hz0 hz1 hz2
              have hK := HK.out
              simp only [HYB.out, hk0] at hK
              have hA := fun w h => ask_known w g gt B v okT es ys m f (asked b) (es.getD j0 z46).f2 h (by rw [HYB.out]; exact hk0)
              generalize (es.getD j0 z46).f2 = d at hz2 hK hA
              have HA := Aside0.mk hA
              have HK2 := Aside0.mk hK
              have hj0' : (j0 : Int) < (es.length : Int) := by omega
              clear HK hK hk0 HZ hA hm0 hm1 hz0 hz1
              go_wp2_with (fail)
              refine (in_calls a b hb0 _).mono ?_
              rintro e w5 ⟨rfl, hb5⟩
              have HTw5 := Aside0.mk (HTw4.out.below hb5)
              have HB5 := Aside0.mk (HB4.out.trans (hb5.mono HB4.out.size))
              replace hq0w := pw_cell_below hb5 hq0w
              replace hq1w := pw_cell_below hb5 hq1w
              replace hz2 := pw_cell_below hb5 hz2
              clear hb5 HTw4 HB4
              go_wp2_with (fail)
              refine (HK2.out w5 HTw5.out.1).mono ?_
              rintro e w6 ⟨rfl, hb6⟩
              have HTw6 := Aside0.mk (HTw5.out.below hb6)
              have HB6 := Aside0.mk (HB5.out.trans (hb6.mono HB5.out.size))
              replace hq0w := pw_cell_below hb6 hq0w
              replace hq1w := pw_cell_below hb6 hq1w
              replace hz2 := pw_cell_below hb6 hz2
              clear hb6 HTw5 HB5 HK2
              go_wp2_with (fail)
              refine (in_calls a b hb0 _).mono ?_
              rintro e w7 ⟨rfl, hb7⟩
              have HTw7 := Aside0.mk (HTw6.out.below hb7)
              have HB7 := Aside0.mk (HB6.out.trans (hb7.mono HB6.out.size))
              replace hz2 := pw_cell_below hb7 hz2
              clear hb7 HTw6 HB6 hq0w hq1w
              go_wp2_with (fail)
              refine (HA.out w7 HTw7.out.1).mono ?_
              rintro e w8 ⟨rfl, hb8⟩
              have HTw8 := Aside0.mk (HTw7.out.below hb8)
              have HB8 := Aside0.mk (HB7.out.trans (hb8.mono HB7.out.size))
              replace hz2 := pw_cell_below hb8 hz2
              clear hb8 HTw7 HB7 HA
              go_wp2_with (fail)
              go_roundw
              case rel => exact ⟨k + 1, hlt, by simp, ⟨_, _, _, HTw8.out, HF.out⟩, HB8⟩
              case measure => simp [intOf]; omega
    · obtain rfl : k = qs.length := by omega
      obtain ⟨v, es, m, hTw, hF⟩ := HO.out
      obtain ⟨Ah, ch, hu7⟩ := Kd.R_slice hTw.2.2.1
      subst hu7
      have hel := hF.le
      have hCH := (Kd.R_reads' hTw.2.2.1).2.2
      have HTw := Aside0.mk hTw
      clear HO hTw hF
      go_wp2_with (fail)
      refine (entries_calls _ g gt B v okT es ys m HTw.out.1 (by omega)).mono ?_
      rintro e w4 ⟨u, rfl, hR, hb4⟩
      obtain ⟨Au, cu, rfl⟩ := Kd.R_slice hR
      have hCU := (Kd.R_reads' hR).2.2
      have HTw4 := Aside0.mk (HTw.out.below hb4)
      have HB4 := Aside0.mk (HB.out.trans (hb4.mono HB.out.size))
      have HCH4 := Aside0.mk (Kd.C_below hCH hb4)
      have HCU4 := Aside0.mk hCU
      clear hb4 HTw HB hCH hCU hR
      go_wp2_with (fail)
      refine (oleft_calls _ g gt B v okT es ys m HTw4.out.1).mono ?_
      rintro e w5 ⟨rfl, hb5⟩
      have HTw5 := Aside0.mk (HTw4.out.below hb5)
      have HB5 := Aside0.mk (HB4.out.trans (hb5.mono HB4.out.size))
      have HCH5 := Aside0.mk (Kd.C_below HCH4.out hb5)
      have HCU5 := Aside0.mk (Kd.C_below HCU4.out hb5)
      clear hb5 HTw4 HB4 HCH4 HCU4
      go_wp2_with (fail)
      refine (left_calls _ gs okS ys m HTw5.out.2.1).mono ?_
      rintro e w6 ⟨rfl, hb6⟩
      have HB6 := Aside0.mk (HB5.out.trans (hb6.mono HB5.out.size))
      have HCH6 := Aside0.mk (Kd.C_below HCH5.out hb6)
      have HCU6 := Aside0.mk (Kd.C_below HCU5.out hb6)
      clear hb6 HTw5 HB5 HCH5 HCU5
      go_wp2_with (fail)
      go_loopw [194] (fun iv wr => ∃ i : Nat, i ≤ es.length ∧ iv = .int .i64 i ∧ Aside0 (Below w6.heap.size w6 wr)) (fun iv _ => es.length - (intOf iv).toNat)
      case atStart => exact ⟨0, Nat.zero_le _, rfl, ⟨Below.refl _ _⟩⟩
      case round =>
        obtain ⟨i, hi, rfl, HW⟩ := hrel
        by_cases hie : i < es.length
        · obtain ⟨a1, hA1, hy0, hy1, hy2⟩ := at_T46 HCH6.out (i : Int) (by omega) (by omega)
          obtain ⟨a2, hA2, hu0, hu1, hu2⟩ := at_T46 HCU6.out (i : Int) (by omega) (by omega)
          cases hA1
          cases hA2
          replace hy0 := pw_cell_below HW.out hy0
          replace hy1 := pw_cell_below HW.out hy1
          replace hy2 := pw_cell_below HW.out hy2
          replace hu0 := pw_cell_below HW.out hu0
          replace hu1 := pw_cell_below HW.out hu1
          replace hu2 := pw_cell_below HW.out hu2
          rw [Int.toNat_natCast] at hy0 hy1 hy2 hu0 hu1 hu2
          generalize rd_T46 es (i : Int) = x at hy0 hy1 hy2 hu0 hu1 hu2
          obtain ⟨x0, x1, x2⟩ := x
          simp only [] at hy0 hy1 hy2 hu0 hu1 hu2
          have hie' : (i : Int) < (es.length : Int) := by omega
          have hE := fun w => neq46_same w x0 x1 x2
          go_wp2_with (fail)
          go_quiet (fail)
          go_wp2
          go_roundw
          case rel => exact ⟨i + 1, hie, by simp, ⟨pw_below_drewN HW.out _⟩⟩
          case measure => simp [intOf]; omega
        · obtain rfl : i = es.length := by omega
          go_wp2_with (fail)
          go_ret
          exact ⟨rfl, HB6.out.trans (HW.out.mono HB6.out.size)⟩
end Go.Proofs.Ytekcpffcgiahfaa.PA
