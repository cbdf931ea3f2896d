/- TapeOwn, walked: a tape does not hang on what becomes of the entries that it was made of. -/
import Derived.Test.YtlpjkbfnbefjdaaH5
import Derived.Laws.BitsAllLaws
namespace Go.Proofs.Ytlpjkbfnbefjdaa.PA
open Go.RowKit Go.Proofs.YtlpjkbfnbefjdaaW.PrintWords Go.Proofs.YtlpjkbfnbefjdaaW.PrintLast Go.Proofs.YtlpjkbfnbefjdaaW.PrintMore
set_option linter.unusedVariables false
set_option linter.unusedSimpArgs false
theorem cutw_eq (x : Int) (h0 : 0 ≤ x) (h1 : x < 18446744073709551616) : cutw x = x % 281474976710656 :=
  bits_mask .u64 64 (by decide) (fun n h0 h1 => by rw [IntKind.wrap_u64]; exact Int.emod_eq_of_lt h0 (by simpa using h1)) 48 (by decide) x h0 (by simpa using h1)
theorem cutw_range (xs : List Int) (hr : ∀ n ∈ xs, 0 ≤ n ∧ n < 18446744073709551616) (i : Nat) : 0 ≤ (xs.map cutw).getD i 0 ∧ (xs.map cutw).getD i 0 ≤ 281474976710655 := by
  rw [List.getD_eq_getElem?_getD]
  by_cases hi : i < xs.length
  · simp only [List.getElem?_map, List.getElem?_eq_getElem hi, Option.map_some, Option.getD_some]
    have := hr _ (List.getElem_mem hi)
    rw [cutw_eq _ this.1 this.2]
    omega
  · rw [List.getElem?_eq_none (by simp; omega)]
    simp
set_option maxHeartbeats 1600000 in
set_option maxRecDepth 100000 in
theorem own_walk (xs : List Int) (A : Option Addr) (c : Nat) (W : World) (hC : Kd.C (Kd.int .u64) W A xs.length xs) (hsize : xs.length * 8 ≤ 140737488351232) (hr : ∀ n ∈ xs, 0 ≤ n ∧ n < 18446744073709551616) :
    Calls Try.prog 4 #[.slice A xs.length c] W fun e w' => e = .returned (.bool true) ∧ Below W.heap.size W w' := by
  have HC := Aside0.mk hC
  have HRG := Aside0.mk hr
  clear hC hr
  go_enter Try.func4, Try.ntmps4
  go_wp2_with (fail)
  refine (awake_calls W).mono ?_
  rintro e w1 ⟨rfl, HB1⟩
  have hs1 := HB1.size
  have HB1 := Aside0.mk HB1
  have hapl : (([] : List Int).length + xs.length) * 8 ≤ 140737488355328 := by simp; omega
  go_wp2_with (first | (at_builtin; refine Kd.R_append_rows (Kd.int .u64) (w0 := w1) w1.heap.size rfl (.const (.slice none 0 0)) (.tmp 13) 22 26 (.int .u64 0) 8 rfl Try.underlying22 info26 rfl (by decide) (by omega) (.slice none 0 0) ([] : List Int) xs A xs.length c (fun _ => True) (fun _ => False) rfl rfl (Kd.R_nil _ _ _ _ _) (Kd.C_below HC.out HB1.out) (fun _ _ h => h) (fun _ h => h.elim) (fun _ _ => trivial) (Below.refl _ _) (Nat.le_refl _) hapl ?_; intro v2 w2 ho hb hg hat; have HR2 := Aside0.mk ho; have HB2 := Aside0.mk hb; clear ho hb hg hat) | fail)
  obtain ⟨Ao, co, rfl⟩ := Kd.R_slice HR2.out
  have hs2 := HB2.out.size
  have hR2 := HR2.out
  rw [List.nil_append] at hR2 ⊢
  have HR2 := Aside0.mk (Kd.R_mono (Kd.R_bound hR2) (ok' := fun k => k < w2.heap.size) (fun k hk => hk.2.2.1))
  clear hR2
  refine (of_calls w2 Ao co xs (Kd.R_reads' HR2.out).2.2 hsize).mono ?_
  rintro e w3 ⟨gs, rfl, hgs, hS, hB3⟩
  have HR3 := Aside0.mk (Kd.R_below HR2.out hB3)
  have HB3 := Aside0.mk (HB1.out.trans ((HB2.out.trans (hB3.mono hs2)).mono hs1))
  have hs3 := hB3.size
  have hgs3 := hS.lt
  have hSb := hS.bound
  have hlen : (xs.map cutw).length = xs.length := by simp
  have HYR := Aside0.mk (cutw_range xs HRG.out)
  have HL := Aside0.mk hlen
  clear HR2 hS hlen HB2 HB1
  go_wp2_with (fail)
  refine (of_calls w3 A c xs (Kd.C_below HC.out HB3.out) hsize).mono ?_
  rintro e w4 ⟨gt, rfl, hgt, hT, hB4⟩
  have HR4 := Aside0.mk (Kd.R_below HR3.out hB4)
  have hS4 := hSb.below hB4
  have HB4 := Aside0.mk (HB3.out.trans (hB4.mono HB3.out.size))
  have hs4 := hB4.size
  have hgt4 := hT.lt
  generalize xs.map cutw = ys at hS4 hT HYR HL
  obtain ⟨okS, hokS, hS4⟩ : ∃ okS : Nat → Prop, (∀ k, okS k → w2.heap.size ≤ k ∧ k < w3.heap.size) ∧ IsTape w4 gs okS ys 0 := ⟨_, fun k hk => ⟨hk.1.1, hk.2⟩, hS4⟩
  obtain ⟨okT, hokT, hT⟩ : ∃ okT : Nat → Prop, (∀ k, okT k → w3.heap.size ≤ k) ∧ IsTape w4 gt okT ys 0 := ⟨_, fun k hk => hk.1, hT⟩
  have HFS := Aside0.mk hokS
  have HFT := Aside0.mk hokT
  clear hokS hokT
  have HS4 := Aside0.mk hS4
  have HT4 := Aside0.mk hT
  have HWS := Aside0.mk (show W.heap.size ≤ w1.heap.size from hs1)
  clear HB3 hB3 hB4 hSb hS4 hT HR3
  go_wp2_with (fail)
  go_loopw [21] (fun iv wr => ∃ k : Nat, k ≤ xs.length ∧ iv = .int .i64 k ∧ Aside0 (∃ zs, zs.length = xs.length ∧ Kd.R (Kd.int .u64) 26 wr w1.heap.size (fun k => k < w2.heap.size) (.slice Ao xs.length co) zs) ∧ Aside0 (IsTape wr gs okS ys 0) ∧ Aside0 (IsTape wr gt okT ys 0) ∧ Aside0 (Below W.heap.size W wr)) (fun iv _ => xs.length - (intOf iv).toNat)
  case atStart => exact ⟨0, Nat.zero_le _, rfl, ⟨xs, rfl, HR4.out⟩, HS4, HT4, HB4⟩
  case round =>
    clear HS4 HT4 HB4 HR4
    obtain ⟨k, hk, rfl, HR, HS, HT, HB⟩ := hrel
    by_cases hlt : k < xs.length
    · obtain ⟨zs, hzl, hR⟩ := HR.out
      rw [← hzl] at hR
      obtain ⟨bo, cap, hv, hb1, hb2, _⟩ := Kd.R_form hR (by omega)
      injection hv with hv1 hv2 hv3
      subst hv1 hv3
      obtain ⟨hx, hfz⟩ := Kd.R_cell (0 : Int) hR (k : Int) (by omega) (by omega)
      rw [Int.toNat_natCast] at hx hfz
      have hbo : bo < w2.heap.size := hR.1 bo rfl
      generalize rdOf (0 : Int) zs (k : Int) = x at hx
      have hput := (Kd.R_put hR (k : Int) (IntKind.u64.wrap (x + 1))).1
      rw [Int.toNat_natCast] at hput
      have HPUT := Aside0.mk hput
      have ha : (⟨bo, 0, none⟩ : Addr).add k = ⟨bo, k, none⟩ := by
        simp only [Addr.add]
        split <;> simp_all
      have hl2 : (zs.set k (IntKind.u64.wrap (x + 1))).length = xs.length := by rw [List.length_set]; exact hzl
      have HL2 := Aside0.mk hl2
      have HS2 : Aside0 (IsTape (wr.setCell ⟨bo, k, none⟩ (.int .u64 (IntKind.u64.wrap (x + 1)))) gs okS ys 0) := ⟨HS.out.step (fun j hj hjl => Below.heap_setCell wr ⟨bo, k, none⟩ _ j (by rcases hj with rfl | h'; (show _ ≠ bo; omega); (have := HFS.out j h'; show _ ≠ bo; omega)))⟩
      have HT2 : Aside0 (IsTape (wr.setCell ⟨bo, k, none⟩ (.int .u64 (IntKind.u64.wrap (x + 1)))) gt okT ys 0) := ⟨HT.out.step (fun j hj hjl => Below.heap_setCell wr ⟨bo, k, none⟩ _ j (by rcases hj with rfl | h'; (show _ ≠ bo; omega); (have := HFT.out j h'; show _ ≠ bo; omega)))⟩
      have HB2 := Aside0.mk (HB.out.setCell (p := ⟨bo, k, none⟩) (Nat.le_trans HWS.out hb1) (.int .u64 (IntKind.u64.wrap (x + 1))))
      have HZL := Aside0.mk hzl
      clear hR hput HR hl2 HS HT HB hzl
      go_wp2_with (fail)
      go_roundw
      case rel => exact ⟨k + 1, hlt, by simp, ⟨_, HL2.out, by rw [← HZL.out]; exact HPUT.out⟩, HS2, HT2, HB2⟩
      case measure => simp [intOf]; omega
    · obtain rfl : k = xs.length := by omega
      go_wp2_with (fail)
      go_loopw [33] (fun iv wr => ∃ j : Nat, j ≤ xs.length ∧ iv = .int .i64 j ∧ Aside0 (IsTape wr gs okS ys j) ∧ Aside0 (IsTape wr gt okT ys j) ∧ Aside0 (Below W.heap.size W wr)) (fun iv _ => xs.length - (intOf iv).toNat)
      case atStart => exact ⟨0, Nat.zero_le _, rfl, HS, HT, HB⟩
      case round =>
        clear HS HT HB HR
        obtain ⟨j, hj, rfl, HS, HT, HB⟩ := hrel
        by_cases hjl : j < xs.length
        · have hjy : j < ys.length := by have := HL.out; omega
          have hr := HYR.out j
          have hD1 := fun w => draw_some w gs okS ys j
          have hD2 := fun w => draw_some w gt okT ys j
          generalize hy : ys.getD j 0 = y at hr hD1 hD2
          have hr2 : ¬ (281474976710655 < y) := by omega
          have hr3 : decide (281474976710655 < y) = false := decide_eq_false hr2
          clear hy
          have HD2 := Aside0.mk hD2
          have HJ := Aside0.mk hjy
          have hD1' := hD1 _ HS.out hjy
          clear hD1 hD2 hjy
          go_wp2_with (fail)
          refine hD1'.mono ?_
          rintro e w5 ⟨rfl, hS5, hK5, hB5⟩
          have HT5 := Aside0.mk (HT.out.keep hK5 (by omega) (fun k hk _ => by have := HFT.out k hk; omega))
          have HB5 := Aside0.mk (HB.out.trans (hB5.mono (by omega)))
          have HS5 := Aside0.mk hS5
          clear hD1' hS5 hK5 hB5 HS HT HB
          go_wp2_with (fail)
          refine (HD2.out _ HT5.out HJ.out).mono ?_
          rintro e w6 ⟨rfl, hT6, hK6, hB6⟩
          have HS6 := Aside0.mk (HS5.out.keep hK6 (by omega) (fun k hk _ => by have := HFS.out k hk; omega))
          have HB6 := Aside0.mk (HB5.out.trans (hB6.mono (by omega)))
          have HT6 := Aside0.mk hT6
          clear hT6 hK6 hB6 HS5 HT5 HB5 HD2
          go_wp2_with (fail)
          go_roundw
          case rel => exact ⟨j + 1, hjl, by simp, HS6, HT6, HB6⟩
          case measure => simp [intOf]; omega
        · obtain rfl : j = xs.length := by omega
          have hL := HL.out
          rw [← hL] at HS HT
          go_wp2_with (fail)
          refine (left_calls _ gs okS ys _ HS.out).mono ?_
          rw [show (ys.length : Int) - (ys.length : Int) = 0 by omega]
          rintro e w5 ⟨rfl, hB5⟩
          have HT5 := Aside0.mk (HT.out.below hB5)
          have HB5 := Aside0.mk (HB.out.trans (hB5.mono HB.out.size))
          clear hB5 HT HB
          go_wp2_with (fail)
          refine (left_calls _ gt okT ys _ HT5.out).mono ?_
          rw [show (ys.length : Int) - (ys.length : Int) = 0 by omega]
          rintro e w6 ⟨rfl, hB6⟩
          have HB6 := Aside0.mk (HB5.out.trans (hB6.mono HB5.out.size))
          clear hB6 HB5
          go_wp2_with (fail)
          go_ret
          exact ⟨rfl, HB6.out⟩
end Go.Proofs.Ytlpjkbfnbefjdaa.PA
