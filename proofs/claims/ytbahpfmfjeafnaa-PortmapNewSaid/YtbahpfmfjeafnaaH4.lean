/- PortmapNew, walked: what was learnt last is what is believed, whatever the nodes. -/
import Derived.Test.YtbahpfmfjeafnaaH8
namespace Go.Proofs.Ytbahpfmfjeafnaa.PA
open Go.RowKit Go.Proofs.YtbahpfmfjeafnaaW.PrintWords Go.Proofs.YtbahpfmfjeafnaaW.PrintLast Go.Proofs.YtbahpfmfjeafnaaW.PrintMore
set_option linter.unusedVariables false
set_option linter.unusedSimpArgs false
theorem ints_at {w : World} {A : Option Addr} {n : Nat} {xs : List Int} (h : Kd.C (Kd.int .i64) w A n xs) (k : Nat) (hk : k < n) : ∃ ad x, A = some ad ∧ w.cell? (ad.add k) = some (.int .i64 x) := by
  obtain ⟨ad, c, e, _, hK, hc⟩ := Kd.C_get h 0 (k : Int) (by omega) (by omega)
  refine ⟨ad, xs.getD k 0, e, ?_⟩
  have hc' := hc 0 (.int .i64 (xs.getD k 0))
  simp only [Int.toNat_natCast, Nat.add_zero] at hK hc'
  have : (Kd.int .i64).sz = 1 := rfl
  rw [this, Nat.mul_one] at hc'
  exact hc' (by rw [show c = [.int .i64 (xs.getD k 0)] from hK]; rfl)
attribute [local go_sem] max2_int min2_int max_two min_two max_three min_three max_four min_four
set_option maxHeartbeats 1600000 in
set_option maxRecDepth 100000 in
theorem new_walk (port : Int) (ns : List Int) (A : Option Addr) (c : Nat) (W : World) (hC : Kd.C (Kd.int .i64) W A ns.length ns) :
    Calls Try.prog 4 #[.int .u64 port, .slice A ns.length c] W fun e w' => e = .returned (.bool true) ∧ Below W.heap.size W w' := by
  have hn := hC.2.1
  have HC := Aside0.mk hC
  clear hC
  go_enter Try.func4, Try.ntmps4
  go_wp2_with (fail)
  refine (awake_calls W).mono ?_
  rintro e w1 ⟨rfl, HB1⟩
  go_wp2_with (fail)
  refine (of_calls 100 w1).mono ?_
  rintro e w2 ⟨g, rfl, hg, hM, HB2⟩
  have HG := Aside0.mk (Nat.le_trans HB1.size hg)
  have HB := Aside0.mk (HB1.trans (HB2.mono HB1.size))
  have e100 : mx 1 100 = 100 := by decide
  rw [e100] at hM
  have HM := Aside0.mk (show ∃ ok xs, IsMap w2 g ok xs 100 ∧ xs.length ≤ 1 ∧ xs.filter (fun x => x.f0 != port) = [] from ⟨_, [], hM, by simp, rfl⟩)
  clear HB1 HB2 hM hg
  go_wp2_with (fail)
  go_loopw [15] (fun iv wr => ∃ k : Nat, k ≤ ns.length ∧ iv = .int .i64 k ∧ Aside0 (∃ ok xs, IsMap wr g ok xs 100 ∧ xs.length ≤ 1 ∧ xs.filter (fun x => x.f0 != port) = []) ∧ Aside0 (Below W.heap.size W wr)) (fun iv _ => ns.length - (intOf iv).toNat)
  case atStart => exact ⟨0, Nat.zero_le _, rfl, HM, HB⟩
  case round =>
    clear HM HB
    obtain ⟨k, hk, rfl, HM, HB⟩ := hrel
    obtain ⟨ok, xs, hM, hx1, hxf⟩ := HM.out
    by_cases hlt : k < ns.length
    · obtain ⟨ad, x, hA, hx⟩ := ints_at HC.out k hlt
      replace hx := pw_cell_below HB.out hx
      cases hA
      go_wp2_with (fail)
      refine (learn_calls wr g ok xs 100 port x ((k : Int) % 50) hM (by omega)).mono ?_
      rintro e w3 ⟨rfl, hM3, HK3, HB3⟩
      have e1 : learnt port x ((k : Int) % 50) xs = [⟨port, x, (k : Int) % 50⟩] := by
        unfold learnt
        rw [hxf]
        rfl
      rw [e1] at hM3
      have HB3' := Aside0.mk (HB.out.trans (HB3.mono HG.out))
      clear HB3 HB HK3 hM HM
      go_wp2_with (fail)
      refine (find_calls w3 g _ [⟨port, x, (k : Int) % 50⟩] 100 port ((k : Int) % 50) hM3 (by simp)).mono ?_
      have f1 : findIn port ((k : Int) % 50) 100 [⟨port, x, (k : Int) % 50⟩] = (x, true) := by
        unfold findIn hits
        rw [if_pos]
        simp only [beq_self_eq_true, Bool.true_and, Bool.and_eq_true, decide_eq_true_eq]
        unfold wrap64
        omega
      rw [f1]
      rintro e w4 ⟨rfl, HB4⟩
      have hM4 := hM3.below HB4
      have HB4' := Aside0.mk (HB3'.out.trans (HB4.mono HB3'.out.size))
      clear HB4 HB3' hM3 f1 e1
      go_wp2_with (fail)
      refine (len_calls w4 g _ _ _ hM4).mono ?_
      rintro e w5 ⟨rfl, rfl⟩
      go_wp2_with (fail)
      go_roundw
      case rel => exact ⟨k + 1, hlt, by simp, ⟨_, _, hM4, by simp, by simp⟩, HB4'⟩
      case measure => simp [intOf]; omega
    · obtain rfl : k = ns.length := by omega
      go_wp2_with (fail)
      refine (forget_calls wr g ok xs 100 port hM (by omega)).mono ?_
      rintro e w3 ⟨rfl, hM3, HK3, HB3⟩
      rw [hxf] at hM3
      have HB3' := Aside0.mk (HB.out.trans (HB3.mono HG.out))
      clear HB3 HB HK3 hM HM
      go_wp2_with (fail)
      refine (len_calls w3 g _ _ _ hM3).mono ?_
      rintro e w4 ⟨rfl, rfl⟩
      go_wp2_with (fail)
      go_ret
      exact ⟨rfl, HB3'.out⟩
end Go.Proofs.Ytbahpfmfjeafnaa.PA
