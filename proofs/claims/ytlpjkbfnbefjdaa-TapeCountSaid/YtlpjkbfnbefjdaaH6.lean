/- TapeCount, walked: what is taken and what is left are all entries together. -/
import Derived.Test.YtlpjkbfnbefjdaaH5
namespace Go.Proofs.Ytlpjkbfnbefjdaa.PA
open Go.RowKit Go.Proofs.YtlpjkbfnbefjdaaW.PrintWords Go.Proofs.YtlpjkbfnbefjdaaW.PrintLast Go.Proofs.YtlpjkbfnbefjdaaW.PrintMore
set_option linter.unusedVariables false
set_option linter.unusedSimpArgs false
attribute [local go_sem] max2_int min2_int max_two min_two max_three min_three max_four min_four
set_option maxHeartbeats 1600000 in
set_option maxRecDepth 100000 in
theorem count_walk (xs : List Int) (n : Int) (A : Option Addr) (c : Nat) (W : World) (hC : Kd.C (Kd.int .u64) W A xs.length xs) (hsize : xs.length * 8 ≤ 140737488351232) (h0 : 0 ≤ n ∧ n < 256) :
    Calls Try.prog 6 #[.slice A xs.length c, .int .u8 n] W fun e w' => e = .returned (.bool true) ∧ Below W.heap.size W w' := by
  obtain ⟨m, rfl⟩ : ∃ m : Nat, n = m := ⟨n.toNat, by omega⟩
  have hm : m < 256 := by omega
  clear h0
  have HC := Aside0.mk hC
  clear hC
  have wm : wrap64 (m : Int) = m := by unfold wrap64; omega
  go_enter Try.func6, Try.ntmps6
  go_wp2_with (fail)
  refine (awake_calls W).mono ?_
  rintro e w1 ⟨rfl, HB1⟩
  go_wp2_with (fail)
  refine (of_calls w1 A c xs (Kd.C_below HC.out HB1) hsize).mono ?_
  rintro e w2 ⟨g, rfl, hg, hT, HB2⟩
  have HG := Aside0.mk (Nat.le_trans HB1.size hg)
  have HB := Aside0.mk (HB1.trans (HB2.mono HB1.size))
  have hlen : (xs.map cutw).length = xs.length := by simp
  generalize hys : xs.map cutw = ys at hT hlen
  have HT := Aside0.mk (show ∃ ok, IsTape w2 g ok ys (min 0 xs.length) from ⟨_, by simpa using hT⟩)
  have HL := Aside0.mk hlen
  clear HB1 HB2 hT hg hys hlen
  go_wp2_with (fail)
  go_loopw [6] (fun iv wr => ∃ k : Nat, k ≤ m ∧ iv = .int .i64 k ∧ Aside0 (∃ ok, IsTape wr g ok ys (min k xs.length)) ∧ Aside0 (Below W.heap.size W wr)) (fun iv _ => m - (intOf iv).toNat)
  case atStart => exact ⟨0, Nat.zero_le _, rfl, HT, HB⟩
  case round =>
    clear HT HB
    obtain ⟨k, hk, rfl, HT, HB⟩ := hrel
    obtain ⟨ok, hT⟩ := HT.out
    have hle := hT.size
    by_cases hlt : k < m
    · go_wp2_with (fail)
      refine (taken_calls _ g ok ys _ hT).mono ?_
      rintro e w3 ⟨rfl, rfl⟩
      go_wp2_with (fail)
      refine (left_calls _ g ok ys _ hT).mono ?_
      rw [HL.out]
      rintro e w4 ⟨rfl, HB4⟩
      have hT4 := hT.below HB4
      have HB4' := Aside0.mk (HB.out.trans (HB4.mono HB.out.size))
      rw [HL.out] at hle
      clear HB4 HB HT hT
      obtain ⟨t, hmin, hmin'⟩ : ∃ t : Nat, min k xs.length = t ∧ (if xs.length < k then (xs.length : Int) else (k : Int)) = (t : Int) := ⟨_, rfl, by split <;> omega⟩
      rw [hmin] at hT4 ⊢
      have HMIN := Aside0.mk hmin
      clear hmin
      have hsum : wrap64 ((t : Int) + ((xs.length : Int) - t)) = xs.length := by unfold wrap64; omega
      go_wp2_with (fail)
      refine (taken_calls _ g ok ys _ hT4).mono ?_
      rintro e w5 ⟨rfl, rfl⟩
      go_wp2_with (fail)
      by_cases hd : t < ys.length
      · refine (draw_some _ g ok ys t hT4 hd).mono ?_
        rintro e w6 ⟨rfl, hT6, _, hB6⟩
        have HB6 := Aside0.mk (HB4'.out.trans (hB6.mono HG.out))
        have hd2 := Aside0.mk hd
        clear HB4' hB6 hT4 hd
        go_wp2_with (fail)
        go_roundw
        case rel => exact ⟨k + 1, hlt, by simp, ⟨_, by
          have h1 := HMIN.out
          have h2 := hd2.out
          have h3 := HL.out
          rw [show min (k + 1) xs.length = t + 1 by omega]
          exact hT6⟩, HB6⟩
        case measure => simp [intOf]; omega
      · have ht : t = ys.length := by have := hT4.le; omega
        subst ht
        refine (draw_none _ g ok ys hT4).mono ?_
        rintro e w6 ⟨rfl, hT6, _, hB6⟩
        have HB6 := Aside0.mk (HB4'.out.trans (hB6.mono HG.out))
        clear HB4' hB6 hT4 hd
        go_wp2_with (fail)
        go_roundw
        case rel => exact ⟨k + 1, hlt, by simp, ⟨_, by
          have h1 := HMIN.out
          have h3 := HL.out
          rw [show min (k + 1) xs.length = ys.length by omega]
          exact hT6⟩, HB6⟩
        case measure => simp [intOf]; omega
    · obtain rfl : k = m := by omega
      go_wp2_with (fail)
      go_ret
      exact ⟨rfl, HB.out⟩
end Go.Proofs.Ytlpjkbfnbefjdaa.PA
