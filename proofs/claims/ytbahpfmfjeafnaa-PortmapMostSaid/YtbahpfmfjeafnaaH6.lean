/- PortmapMost, walked: the last sixteen that were learnt are found. -/
import Derived.Test.YtbahpfmfjeafnaaH8
import Derived.Test.YtbahpfmfjeafnaaH56
namespace Go.Proofs.Ytbahpfmfjeafnaa.PA
open Go.RowKit Go.Proofs.YtbahpfmfjeafnaaW.PrintWords Go.Proofs.YtbahpfmfjeafnaaW.PrintLast Go.Proofs.YtbahpfmfjeafnaaW.PrintMore
set_option linter.unusedVariables false
set_option linter.unusedSimpArgs false
attribute [local go_sem] max2_int min2_int max_two min_two max_three min_three max_four min_four
def five (i : Nat) : Int := (i : Int) + 5
set_option maxHeartbeats 1600000 in
set_option maxRecDepth 100000 in
theorem most_walk (n : Int) (W : World) (h0 : 0 ≤ n ∧ n < 256) :
    Calls Try.prog 6 #[.int .u8 n] W fun e w' => e = .returned (.bool true) ∧ Below W.heap.size W w' := by
  obtain ⟨m, rfl⟩ : ∃ m : Nat, n = m := ⟨n.toNat, by omega⟩
  have hm : m < 256 := by omega
  clear h0
  have wm : wrap64 (m : Int) = m := by unfold wrap64; omega
  go_enter Try.func6, Try.ntmps6
  go_wp2_with (fail)
  refine (awake_calls W).mono ?_
  rintro e w1 ⟨rfl, HB1⟩
  go_wp2_with (fail)
  refine (of_calls 1000 w1).mono ?_
  rintro e w2 ⟨g, rfl, hg, hM, HB2⟩
  have HG := Aside0.mk (Nat.le_trans HB1.size hg)
  have HB := Aside0.mk (HB1.trans (HB2.mono HB1.size))
  have e1000 : mx 1 1000 = 1000 := by decide
  rw [e1000] at hM
  have HM := Aside0.mk (show ∃ ok, IsMap w2 g ok (places five (0 - 16) (min 0 16)) 1000 from ⟨_, hM⟩)
  clear HB1 HB2 hM hg
  go_wp2_with (fail)
  go_loopw [5] (fun iv wr => ∃ k : Nat, k ≤ m ∧ iv = .int .i64 k ∧ Aside0 (∃ ok, IsMap wr g ok (places five (k - 16) (min k 16)) 1000) ∧ Aside0 (Below W.heap.size W wr)) (fun iv _ => m - (intOf iv).toNat)
  case atStart => exact ⟨0, Nat.zero_le _, rfl, HM, HB⟩
  case round =>
    clear HM HB
    obtain ⟨k, hk, rfl, HM, HB⟩ := hrel
    obtain ⟨ok, hM⟩ := HM.out
    have wk : IntKind.u64.wrap (k : Int) = k := by rw [IntKind.wrap_u64]; omega
    by_cases hlt : k < m
    · go_wp2_with (fail)
      refine (learn_calls wr g ok _ 1000 k (five k) k hM (by rw [places_len]; omega)).mono ?_
      rintro e w3 ⟨rfl, hM3, HK3, HB3⟩
      rw [places_learn] at hM3
      have HB3' := Aside0.mk (HB.out.trans (HB3.mono HG.out))
      clear HB3 HB HK3 hM HM
      go_wp2_with (fail)
      go_roundw
      case rel => exact ⟨k + 1, hlt, by simp, ⟨_, hM3⟩, HB3'⟩
      case measure => simp [intOf]; omega
    · obtain rfl : k = m := by omega
      have w16 : wrap64 ((k : Int) - 16) = (k : Int) - 16 := by unfold wrap64; omega
      go_wp2_with (fail)
      go_loopw [6] (fun iv wr => ∃ j : Nat, j ≤ k ∧ iv = .int .i64 j ∧ Aside0 (∃ ok, IsMap wr g ok (places five (k - 16) (min k 16)) 1000) ∧ Aside0 (Below W.heap.size W wr)) (fun iv _ => k - (intOf iv).toNat)
      case atStart => exact ⟨0, Nat.zero_le _, rfl, HM, HB⟩
      case round =>
        clear HM HB hM ok
        obtain ⟨j, hj, rfl, HM, HB⟩ := hrel
        obtain ⟨ok, hM⟩ := HM.out
        have wj : IntKind.u64.wrap (j : Int) = j := by rw [IntKind.wrap_u64]; omega
        by_cases hlt2 : j < k
        · go_wp2_with (fail)
          refine (find_calls _ g ok _ 1000 j k hM (by rw [places_len]; omega)).mono ?_
          rw [findIn_all five j k 1000 (by omega) (by omega) (min k 16) (k - 16) (by omega)]
          rintro e w4 ⟨rfl, HB4⟩
          have hM4 := hM.below HB4
          have HB4' := Aside0.mk (HB.out.trans (HB4.mono HB.out.size))
          clear HB4 HB HM hM
          by_cases hin : k - 16 ≤ j
          · rw [if_pos ⟨hin, by omega⟩]
            have hge : (k : Int) - 16 ≤ j := by omega
            have hf : five j = (j : Int) + 5 := rfl
            go_wp2_with (fail)
            go_roundw
            case rel => exact ⟨j + 1, hlt2, by simp, ⟨_, hM4⟩, HB4'⟩
            case measure => simp [intOf]; omega
          · rw [if_neg (by omega)]
            have hge : ¬ ((k : Int) - 16 ≤ j) := by omega
            go_wp2_with (fail)
            go_roundw
            case rel => exact ⟨j + 1, hlt2, by simp, ⟨_, hM4⟩, HB4'⟩
            case measure => simp [intOf]; omega
        · obtain rfl : j = k := by omega
          have hml : ((min j 16 : Nat) : Int) = (if (j : Int) < 16 then (j : Int) else 16) := by split <;> omega
          go_wp2_with (fail)
          refine (len_calls _ g _ _ _ hM).mono ?_
          rw [places_len]
          rintro e w5 ⟨rfl, rfl⟩
          go_wp2_with (fail)
          all_goals first
            | (go_ret; exact ⟨rfl, HB.out⟩)
            | (obtain rfl : j = 16 := by omega
               go_ret
               exact ⟨rfl, HB.out⟩)
end Go.Proofs.Ytbahpfmfjeafnaa.PA
