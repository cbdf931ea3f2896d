/- TapeDraws, walked: draws are the entries, cut to words; behind the last one there is none. -/
import Derived.Test.YtlpjkbfnbefjdaaH5
namespace Go.Proofs.Ytlpjkbfnbefjdaa.PA
open Go.RowKit Go.Proofs.YtlpjkbfnbefjdaaW.PrintWords Go.Proofs.YtlpjkbfnbefjdaaW.PrintLast Go.Proofs.YtlpjkbfnbefjdaaW.PrintMore
set_option linter.unusedVariables false
set_option linter.unusedSimpArgs false
attribute [local go_sem] max2_int min2_int max_two min_two max_three min_three max_four min_four
set_option maxHeartbeats 1600000 in
set_option maxRecDepth 100000 in
theorem draws_walk (xs : List Int) (n : Int) (A : Option Addr) (c : Nat) (W : World) (hC : Kd.C (Kd.int .u64) W A xs.length xs) (hsize : xs.length * 8 ≤ 140737488351232) (h0 : 0 ≤ n ∧ n < 256) :
    Calls Try.prog 5 #[.slice A xs.length c, .int .u8 n] W fun e w' => e = .returned (.bool true) ∧ Below W.heap.size W w' := by
  obtain ⟨m, hm, hmm⟩ : ∃ m : Nat, m ≤ 40 ∧ n % 40 = m := ⟨(n % 40).toNat, by omega, by omega⟩
  have wm : wrap64 (m : Int) = m := by unfold wrap64; omega
  have HC := Aside0.mk hC
  clear hC
  go_enter Try.func5, Try.ntmps5
  go_wp2_with (fail)
  refine (awake_calls W).mono ?_
  rintro e w1 ⟨rfl, HB1⟩
  go_wp2_with (fail)
  refine (of_calls w1 A c xs (Kd.C_below HC.out HB1) hsize).mono ?_
  rintro e w2 ⟨g, rfl, hg, hT, HB2⟩
  have HG := Aside0.mk (Nat.le_trans HB1.size hg)
  have HB := Aside0.mk (HB1.trans (HB2.mono HB1.size))
  have hlen : (xs.map cutw).length = xs.length := by simp
  have hys : ∀ i, i < xs.length → (xs.map cutw).getD i 0 = cutw (xs.getD i 0) := fun i hi => by simp [List.getD_eq_getElem?_getD, hi]
  generalize xs.map cutw = ys at hT hlen hys
  have HT := Aside0.mk (show ∃ ok, IsTape w2 g ok ys (min 0 xs.length) from ⟨_, by simpa using hT⟩)
  have HL := Aside0.mk hlen
  have HY := Aside0.mk hys
  clear HB1 HB2 hT hg hys hlen
  go_wp2_with (fail)
  go_loopw [6] (fun iv wr => ∃ k : Nat, k ≤ m ∧ iv = .int .i64 k ∧ Aside0 (∃ ok, IsTape wr g ok ys (min k xs.length)) ∧ Aside0 (Below W.heap.size W wr)) (fun iv _ => m - (intOf iv).toNat)
  case atStart => exact ⟨0, Nat.zero_le _, rfl, HT, HB⟩
  case round =>
    clear HT HB
    obtain ⟨k, hk, rfl, HT, HB⟩ := hrel
    obtain ⟨ok, hT⟩ := HT.out
    have hle := hT.size
    by_cases hlt : k < m
    · have hl := HL.out
      by_cases hkl : k < xs.length
      · rw [show min k xs.length = k by omega] at hT
        obtain ⟨ad, hA, hx⟩ := Kd.at_int HC.out (k : Int) (by omega) (by omega)
        cases hA
        rw [Int.toNat_natCast, show rd xs (k : Int) = xs.getD k 0 by simp [rd]] at hx
        have hyk := HY.out k hkl
        go_wp2_with (fail)
        refine (draw_some _ g ok ys k hT (by omega)).mono ?_
        rw [hyk]
        rintro e w3 ⟨rfl, hT3, hK3, hB3⟩
        have HB3 := Aside0.mk (HB.out.trans (hB3.mono HG.out))
        clear hyk
        replace hx := pw_cell_below HB3.out hx
        generalize xs.getD k 0 = x at hx ⊢
        have hcut : Go.bits .and .u64 x 281474976710655 = cutw x := rfl
        have w1 : wrap64 ((k : Int) + 1) = ((k + 1 : Nat) : Int) := by unfold wrap64; omega
        have w2 : wrap64 ((xs.length : Int) - k) = (xs.length : Int) - k := by unfold wrap64; omega
        have w3 : wrap64 ((xs.length : Int) - k - 1) = (ys.length : Int) - ((k + 1 : Nat) : Int) := by unfold wrap64; omega
        clear HB hB3 hT HT hK3
        go_wp2_with (fail)
        refine (taken_calls _ g ok ys _ hT3).mono ?_
        rintro e w4 ⟨rfl, rfl⟩
        go_wp2_with (fail)
        refine (left_calls _ g ok ys _ hT3).mono ?_
        rintro e w5 ⟨rfl, HB5⟩
        have hT5 := hT3.below HB5
        have HB5' := Aside0.mk (HB3.out.trans (HB5.mono HB3.out.size))
        clear HB5 HB3 hT3
        go_wp2_with (fail)
        go_roundw
        case rel => exact ⟨k + 1, hlt, by simp, ⟨_, by
          rw [show min (k + 1) xs.length = k + 1 by omega]
          exact hT5⟩, HB5'⟩
        case measure => simp [intOf]; omega
      · rw [show min k xs.length = ys.length by omega] at hT
        go_wp2_with (fail)
        refine (draw_none _ g ok ys hT).mono ?_
        rintro e w3 ⟨rfl, hT3, hK3, hB3⟩
        have HB3 := Aside0.mk (HB.out.trans (hB3.mono HG.out))
        clear HB hB3 hT HT hK3
        go_wp2_with (fail)
        refine (is_same _ 7).mono ?_
        rintro e w4 ⟨rfl, rfl⟩
        go_wp2_with (fail)
        refine (taken_calls _ g ok ys _ hT3).mono ?_
        rintro e w5 ⟨rfl, rfl⟩
        go_wp2_with (fail)
        refine (left_calls _ g ok ys _ hT3).mono ?_
        rw [show (ys.length : Int) - (ys.length : Int) = 0 by omega]
        rintro e w6 ⟨rfl, HB5⟩
        have hT5 := hT3.below HB5
        have HB5' := Aside0.mk (HB3.out.trans (HB5.mono HB3.out.size))
        clear HB5 HB3 hT3
        go_wp2_with (fail)
        go_roundw
        case rel => exact ⟨k + 1, hlt, by simp, ⟨_, by
          rw [show min (k + 1) xs.length = ys.length by omega]
          exact hT5⟩, HB5'⟩
        case measure => simp [intOf]; omega
    · obtain rfl : k = m := by omega
      go_wp2_with (fail)
      go_ret
      exact ⟨rfl, HB.out⟩
end Go.Proofs.Ytlpjkbfnbefjdaa.PA
