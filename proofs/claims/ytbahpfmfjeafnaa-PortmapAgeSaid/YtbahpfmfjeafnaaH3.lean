/- PortmapAge, walked. -/
import Derived.Test.YtbahpfmfjeafnaaH8
namespace Go.Proofs.Ytbahpfmfjeafnaa.PA
open Go.RowKit Go.Proofs.YtbahpfmfjeafnaaW.PrintWords Go.Proofs.YtbahpfmfjeafnaaW.PrintLast Go.Proofs.YtbahpfmfjeafnaaW.PrintMore
set_option linter.unusedVariables false
set_option linter.unusedSimpArgs false
attribute [local go_sem] max2_int min2_int max_two min_two max_three min_three max_four min_four
set_option maxHeartbeats 1600000 in
set_option maxRecDepth 100000 in
theorem age_walk (age port node now later : Int) (W : World) (h0 : 0 ≤ age ∧ age < 256) (h1 : 0 ≤ port ∧ port < 18446744073709551616) (h2 : -9223372036854775808 ≤ node ∧ node < 9223372036854775808) (h3 : -2147483648 ≤ now ∧ now < 2147483648) (h4 : -32768 ≤ later ∧ later < 32768) :
    Calls Try.prog 3 #[.int .u8 age, .int .u64 port, .int .i64 node, .int .i32 now, .int .i16 later] W fun e w' => e = .returned (.bool true) ∧ Below W.heap.size W w' := by
  have H0 := Aside0.mk h0
  have H1 := Aside0.mk h1
  have H3 := Aside0.mk h3
  have H4 := Aside0.mk h4
  have wa : wrap64 age = age := by unfold wrap64; omega
  have wn : wrap64 now = now := by unfold wrap64; omega
  have wl : wrap64 later = later := by unfold wrap64; omega
  have ws : wrap64 (now + later) = now + later := by unfold wrap64; omega
  have F1 : Aside0 (findIn port (now + later) (mx 1 age) [⟨port, node, now⟩] = if 0 ≤ later ∧ later < mx 1 age then (node, true) else (0, false)) := ⟨by
    have e : wrap64 (now + later - now) = later := by unfold wrap64; omega
    unfold findIn findIn hits
    simp only [e, beq_self_eq_true, Bool.true_and, Bool.and_eq_true, decide_eq_true_eq]
    by_cases hh : 0 ≤ later ∧ later < mx 1 age
    · rw [if_pos hh, if_pos (by omega)]
    · rw [if_neg hh, if_neg (by omega)]⟩
  have F2 : Aside0 (findIn (IntKind.u64.wrap (port + 1)) now (mx 1 age) [⟨port, node, now⟩] = (0, false)) := ⟨by
    have e : (port == IntKind.u64.wrap (port + 1)) = false := by
      rw [beq_eq_false_iff_ne, IntKind.wrap_u64]
      omega
    unfold findIn findIn hits
    rw [e]
    rfl⟩
  clear h0 h1 h2 h3 h4
  generalize hmx : mx 1 age = M at F1 F2
  have hmx' : (if 1 < age then age else 1) = M := hmx
  have hmx2 := Aside0.mk hmx
  clear hmx
  go_enter Try.func3, Try.ntmps3
  go_wp2_with (fail)
  refine (awake_calls W).mono ?_
  rintro e w1 ⟨rfl, HB1⟩
  go_wp2_with (fail)
  refine (of_calls age w1).mono ?_
  rintro e w2 ⟨g, rfl, hg, hM, HB2⟩
  go_wp2_with (fail)
  refine (learn_calls w2 g _ [] _ port node now hM (by simp)).mono ?_
  rintro e w3 ⟨rfl, hM3, HK3, HB3⟩
  have e1 : learnt port node now [] = [⟨port, node, now⟩] := rfl
  rw [e1, hmx2.out] at hM3
  go_wp2_with (fail)
  refine (find_calls w3 g _ [⟨port, node, now⟩] _ port _ hM3 (by simp)).mono ?_
  rw [ws, F1.out]
  rintro e w4 ⟨rfl, HB4⟩
  have hM4 := hM3.below HB4
  by_cases c1 : 0 ≤ later
  · by_cases c2 : later < M
    · rw [if_pos ⟨c1, c2⟩]
      go_wp2_with (fail)
      refine (find_calls w4 g _ [⟨port, node, now⟩] _ (IntKind.u64.wrap (port + 1)) _ hM4 (by simp)).mono ?_
      rw [F2.out]
      rintro e w5 ⟨rfl, HB5⟩
      have hM5 := hM4.below HB5
      have HBB := Aside0.mk ((((HB1.trans (HB2.mono HB1.size)).trans (HB3.mono (by have := HB1.size; omega))).trans (HB4.mono (by have := HB1.size; have := HB2.size; have := HB3.size; omega))).trans (HB5.mono (by have := HB1.size; have := HB2.size; have := HB3.size; have := HB4.size; omega)))
      clear HB1 HB2 HB3 HB4 HB5 hM hM3 hM4
      go_wp2_with (fail)
      refine (len_calls w5 g _ [⟨port, node, now⟩] _ hM5).mono ?_
      rintro e w6 ⟨rfl, rfl⟩
      go_wp2_with (fail)
      go_ret
      exact ⟨rfl, HBB.out⟩
    · rw [if_neg (fun h => c2 h.2)]
      go_wp2_with (fail)
      refine (find_calls w4 g _ [⟨port, node, now⟩] _ (IntKind.u64.wrap (port + 1)) _ hM4 (by simp)).mono ?_
      rw [F2.out]
      rintro e w5 ⟨rfl, HB5⟩
      have hM5 := hM4.below HB5
      have HBB := Aside0.mk ((((HB1.trans (HB2.mono HB1.size)).trans (HB3.mono (by have := HB1.size; omega))).trans (HB4.mono (by have := HB1.size; have := HB2.size; have := HB3.size; omega))).trans (HB5.mono (by have := HB1.size; have := HB2.size; have := HB3.size; have := HB4.size; omega)))
      clear HB1 HB2 HB3 HB4 HB5 hM hM3 hM4
      go_wp2_with (fail)
      refine (len_calls w5 g _ [⟨port, node, now⟩] _ hM5).mono ?_
      rintro e w6 ⟨rfl, rfl⟩
      go_wp2_with (fail)
      go_ret
      exact ⟨rfl, HBB.out⟩
  · rw [if_neg (fun h => c1 h.1)]
    go_wp2_with (fail)
    refine (find_calls w4 g _ [⟨port, node, now⟩] _ (IntKind.u64.wrap (port + 1)) _ hM4 (by simp)).mono ?_
    rw [F2.out]
    rintro e w5 ⟨rfl, HB5⟩
    have hM5 := hM4.below HB5
    have HBB := Aside0.mk ((((HB1.trans (HB2.mono HB1.size)).trans (HB3.mono (by have := HB1.size; omega))).trans (HB4.mono (by have := HB1.size; have := HB2.size; have := HB3.size; omega))).trans (HB5.mono (by have := HB1.size; have := HB2.size; have := HB3.size; have := HB4.size; omega)))
    clear HB1 HB2 HB3 HB4 HB5 hM hM3 hM4
    go_wp2_with (fail)
    refine (len_calls w5 g _ [⟨port, node, now⟩] _ hM5).mono ?_
    rintro e w6 ⟨rfl, rfl⟩
    go_wp2_with (fail)
    go_ret
    exact ⟨rfl, HBB.out⟩
end Go.Proofs.Ytbahpfmfjeafnaa.PA
