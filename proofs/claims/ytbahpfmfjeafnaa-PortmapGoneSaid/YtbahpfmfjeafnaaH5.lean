/- PortmapGone, walked: where a node is gone, no port is found at it. -/
import Derived.Test.YtbahpfmfjeafnaaH8
import Derived.Test.YtbahpfmfjeafnaaH56
namespace Go.Proofs.Ytbahpfmfjeafnaa.PA
open Go.RowKit Go.Proofs.YtbahpfmfjeafnaaW.PrintWords Go.Proofs.YtbahpfmfjeafnaaW.PrintLast Go.Proofs.YtbahpfmfjeafnaaW.PrintMore
set_option linter.unusedVariables false
set_option linter.unusedSimpArgs false
theorem nums_at {k : IntKind} {w : World} {A : Option Addr} {n : Nat} {xs : List Int} (h : Kd.C (Kd.int k) w A n xs) (j : Nat) (hj : j < n) : ∃ ad, A = some ad ∧ w.cell? (ad.add j) = some (.int k (xs.getD j 0)) := by
  obtain ⟨ad, c, e, _, hK, hc⟩ := Kd.C_get h 0 (j : Int) (by omega) (by omega)
  refine ⟨ad, e, ?_⟩
  have hc' := hc 0 (.int k (xs.getD j 0))
  simp only [Int.toNat_natCast, Nat.add_zero] at hK hc'
  have : (Kd.int k).sz = 1 := rfl
  rw [this, Nat.mul_one] at hc'
  exact hc' (by rw [show c = [.int k (xs.getD j 0)] from hK]; rfl)
theorem places_learn0 (node : Nat → Int) (k : Nat) (h : k < 16) : learnt (k : Int) (node k) (k : Int) (places node 0 k) = places node 0 (k + 1) := by
  have := places_learn node k
  rwa [show k - 16 = 0 by omega, show min k 16 = k by omega, show k + 1 - 16 = 0 by omega, show min (k + 1) 16 = k + 1 by omega] at this
attribute [local go_sem] max2_int min2_int max_two min_two max_three min_three max_four min_four
def nod (ns : List Int) (i : Nat) : Int := ns.getD i 0 % 4
set_option maxHeartbeats 1600000 in
set_option maxRecDepth 100000 in
theorem gone_walk (ns : List Int) (gone : Int) (A : Option Addr) (c : Nat) (W : World) (hC : Kd.C (Kd.int .u8) W A ns.length ns) (hw : ∀ n ∈ ns, 0 ≤ n ∧ n < 256) (h0 : 0 ≤ gone ∧ gone < 256) :
    Calls Try.prog 5 #[.slice A ns.length c, .int .u8 gone] W fun e w' => e = .returned (.bool true) ∧ Below W.heap.size W w' := by
  have hn := hC.2.1
  have HC := Aside0.mk hC
  have hv : ∀ i, 0 ≤ ns.getD i 0 ∧ ns.getD i 0 < 256 := by
    intro i
    rw [List.getD_eq_getElem?_getD]
    by_cases hi : i < ns.length
    · rw [List.getElem?_eq_getElem hi]
      exact hw _ (List.getElem_mem hi)
    · rw [List.getElem?_eq_none (by omega)]
      simp
  have HV := Aside0.mk hv
  clear hC hw hv
  obtain ⟨m, hm, hmm⟩ : ∃ m : Nat, m ≤ 16 ∧ (if (16 : Int) < (ns.length : Int) then (16 : Int) else (ns.length : Int)) = m ∧ m ≤ ns.length := by
    by_cases h : (16 : Int) < (ns.length : Int)
    · exact ⟨16, Nat.le_refl _, by rw [if_pos h]; rfl, by omega⟩
    · exact ⟨ns.length, by omega, by rw [if_neg h], Nat.le_refl _⟩
  obtain ⟨hmv, hml⟩ := hmm
  go_enter Try.func5, Try.ntmps5
  go_wp2_with (fail)
  refine (awake_calls W).mono ?_
  rintro e w1 ⟨rfl, HB1⟩
  go_wp2_with (fail)
  refine (of_calls 50 w1).mono ?_
  rintro e w2 ⟨g, rfl, hg, hM, HB2⟩
  have HG := Aside0.mk (Nat.le_trans HB1.size hg)
  have HB := Aside0.mk (HB1.trans (HB2.mono HB1.size))
  have e50 : mx 1 50 = 50 := by decide
  rw [e50] at hM
  have HM := Aside0.mk (show ∃ ok, IsMap w2 g ok (places (nod ns) 0 0) 50 from ⟨_, hM⟩)
  clear HB1 HB2 hM hg
  go_wp2_with (fail)
  go_loopw [7] (fun iv wr => ∃ k : Nat, k ≤ m ∧ iv = .int .i64 k ∧ Aside0 (∃ ok, IsMap wr g ok (places (nod ns) 0 k) 50) ∧ Aside0 (Below W.heap.size W wr)) (fun iv _ => m - (intOf iv).toNat)
  case atStart => exact ⟨0, Nat.zero_le _, rfl, HM, HB⟩
  case round =>
    clear HM HB
    obtain ⟨k, hk, rfl, HM, HB⟩ := hrel
    obtain ⟨ok, hM⟩ := HM.out
    have wk : IntKind.u64.wrap (k : Int) = k := by rw [IntKind.wrap_u64]; omega
    by_cases hlt : k < m
    · obtain ⟨ad, hA, hx⟩ := nums_at HC.out k (by omega)
      replace hx := pw_cell_below HB.out hx
      have hvk := HV.out k
      have HE : Aside0 (ns.getD k 0 % 4 = nod ns k) := ⟨rfl⟩
      generalize ns.getD k 0 = x at hx hvk HE
      cases hA
      go_wp2_with (fail)
      rw [HE.out]
      refine (learn_calls wr g ok _ 50 k (nod ns k) k hM (by rw [places_len]; omega)).mono ?_
      rintro e w3 ⟨rfl, hM3, HK3, HB3⟩
      rw [places_learn0 _ _ (by omega)] at hM3
      have HB3' := Aside0.mk (HB.out.trans (HB3.mono HG.out))
      clear HB3 HB HK3 hM HM
      go_wp2_with (fail)
      go_roundw
      case rel => exact ⟨k + 1, hlt, by simp, ⟨_, hM3⟩, HB3'⟩
      case measure => simp [intOf]; omega
    · obtain rfl : k = m := by omega
      go_wp2_with (fail)
      refine (gone_calls wr g ok _ 50 (gone % 4) hM (by rw [places_len]; omega)).mono ?_
      rintro e w3 ⟨rfl, hM3, HK3, HB3⟩
      have HB3' := Aside0.mk (HB.out.trans (HB3.mono HG.out))
      have HM3 := Aside0.mk (show ∃ ok, IsMap w3 g ok ((places (nod ns) 0 k).filter (fun x => x.f1 != gone % 4)) 50 from ⟨_, hM3⟩)
      have hlen : ((places (nod ns) 0 k).filter (fun x => x.f1 != gone % 4)).length ≤ 1000 := by
        have := List.length_filter_le (fun x : S53 => x.f1 != gone % 4) (places (nod ns) 0 k)
        rw [places_len] at this
        omega
      have hlen := Aside0.mk hlen
      clear HB3 HB HK3 hM HM hM3
      go_wp2_with (fail)
      go_loopw [8] (fun iv wr => ∃ j : Nat, j ≤ k ∧ iv = .int .i64 j ∧ Aside0 (∃ ok, IsMap wr g ok ((places (nod ns) 0 k).filter (fun x => x.f1 != gone % 4)) 50) ∧ Aside0 (Below W.heap.size W wr)) (fun iv _ => k - (intOf iv).toNat)
      case atStart => exact ⟨0, Nat.zero_le _, rfl, HM3, HB3'⟩
      case round =>
        clear HM3 HB3' ok
        obtain ⟨j, hj, rfl, HM, HB⟩ := hrel
        obtain ⟨ok, hM⟩ := HM.out
        have wj : IntKind.u64.wrap (j : Int) = j := by rw [IntKind.wrap_u64]; omega
        by_cases hlt2 : j < k
        · obtain ⟨ad, hA, hx⟩ := nums_at HC.out j (by omega)
          replace hx := pw_cell_below HB.out hx
          have hvk := HV.out j
          have HE : Aside0 (nod ns j = ns.getD j 0 % 4) := ⟨rfl⟩
          cases hA
          go_wp2_with (fail)
          refine (find_calls _ g ok _ 50 j k hM hlen.out).mono ?_
          rw [findIn_places (nod ns) _ j k 50 (by omega) (by omega) k 0 (by omega), HE.out]
          rintro e w4 ⟨rfl, HB4⟩
          have hM4 := hM.below HB4
          replace hx := pw_cell_below HB4 (by exact hx)
          have HB4' := Aside0.mk (HB.out.trans (HB4.mono HB.out.size))
          clear HB4 HB HM hM
          generalize ns.getD j 0 = x at hx hvk
          by_cases hin : x % 4 = gone % 4
          · rw [if_neg (by simp [hin])]
            go_wp2_with (fail)
            go_roundw
            case rel => exact ⟨j + 1, hlt2, by simp, ⟨_, hM4⟩, HB4'⟩
            case measure => simp [intOf]; omega
          · rw [if_pos ⟨Nat.zero_le _, by omega, by simp [hin]⟩]
            have hb : (x % 4 != gone % 4) = true := by simp [hin]
            go_wp2_with (fail)
            go_roundw
            case rel => exact ⟨j + 1, hlt2, by simp, ⟨_, hM4⟩, HB4'⟩
            case measure => simp [intOf]; omega
        · obtain rfl : j = k := by omega
          go_wp2_with (fail)
          go_ret
          exact ⟨rfl, HB.out⟩
end Go.Proofs.Ytbahpfmfjeafnaa.PA
