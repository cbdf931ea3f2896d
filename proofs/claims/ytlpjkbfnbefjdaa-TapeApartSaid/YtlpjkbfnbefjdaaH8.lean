/- TapeApart, walked: whether all that are taken are unlike is what holding each against each says. -/
import Derived.Test.YtlpjkbfnbefjdaaH5
namespace Go.Proofs.Ytlpjkbfnbefjdaa.PA
open Go.RowKit Go.Proofs.YtlpjkbfnbefjdaaW.PrintWords Go.Proofs.YtlpjkbfnbefjdaaW.PrintLast Go.Proofs.YtlpjkbfnbefjdaaW.PrintMore
set_option linter.unusedVariables false
set_option linter.unusedSimpArgs false
theorem apartB_succ {ys : List Int} {k : Nat} (hk : k < ys.length) : apartB ys (k + 1) = (apartB ys k && decide (∀ j, j < k → ys.getD j 0 ≠ ys.getD k 0)) := by
  unfold apartB
  rw [Bool.eq_iff_iff]
  simp only [decide_eq_true_eq, Bool.and_eq_true]
  exact nodup_take_succ hk
/-- unlike so far, and unlike the first i -/
def soFar (ys : List Int) (k i : Nat) : Bool := apartB ys k && decide (∀ j, j < i → ys.getD j 0 ≠ ys.getD k 0)
theorem soFar_zero (ys : List Int) (k : Nat) : soFar ys k 0 = apartB ys k := by simp [soFar]
theorem soFar_end {ys : List Int} {k : Nat} (hk : k < ys.length) : soFar ys k k = apartB ys (k + 1) := (apartB_succ hk).symm
theorem soFar_succ (ys : List Int) (k i : Nat) : soFar ys k (i + 1) = (soFar ys k i && (ys.getD i 0 != ys.getD k 0)) := by
  unfold soFar
  rw [Bool.eq_iff_iff]
  simp only [Bool.and_eq_true, decide_eq_true_eq, bne_iff_ne]
  constructor
  · rintro ⟨h1, h2⟩
    exact ⟨⟨h1, fun j hj => h2 j (by omega)⟩, h2 i (by omega)⟩
  · rintro ⟨⟨h1, h2⟩, h3⟩
    refine ⟨h1, fun j hj => ?_⟩
    by_cases e : j = i
    · subst e; exact h3
    · exact h2 j (by omega)
set_option maxHeartbeats 1600000 in
set_option maxRecDepth 100000 in
theorem apart_walk (xs : List Int) (n : Int) (A : Option Addr) (c : Nat) (W : World) (hC : Kd.C (Kd.int .u64) W A xs.length xs) (hsize : xs.length * 8 ≤ 140737488351232) (h0 : 0 ≤ n ∧ n < 256) :
    Calls Try.prog 3 #[.slice A xs.length c, .int .u8 n] W fun e w' => e = .returned (.bool true) ∧ Below W.heap.size W w' := by
  obtain ⟨m, hm, hmm⟩ : ∃ m : Nat, m ≤ 40 ∧ n % 40 = m := ⟨(n % 40).toNat, by omega, by omega⟩
  have wm : wrap64 (m : Int) = m := by unfold wrap64; omega
  have HC := Aside0.mk hC
  clear hC
  go_enter Try.func3, Try.ntmps3
  go_wp2_with (fail)
  refine (awake_calls W).mono ?_
  rintro e w1 ⟨rfl, HB1⟩
  go_wp2_with (fail)
  refine (of_calls w1 A c xs (Kd.C_below HC.out HB1) hsize).mono ?_
  rintro e w2 ⟨g, rfl, hg, hT, HB2⟩
  have HG := Aside0.mk (Nat.le_trans HB1.size hg)
  have HB := Aside0.mk (HB1.trans (HB2.mono HB1.size))
  have hlen : (xs.map cutw).length = xs.length := by simp
  generalize xs.map cutw = ys at hT hlen
  have hgl := hT.lt
  have HT := Aside0.mk hT.bound
  have HL := Aside0.mk hlen
  clear HB1 HB2 hT hg hlen
  generalize hok : (fun k => (w1.heap.size ≤ k ∧ k ≠ g) ∧ k < w2.heap.size) = okT at HT
  have HOK : Aside0 (∀ k, okT k → k < w2.heap.size) := ⟨fun k hk => by subst hok; exact hk.2⟩
  clear hok
  go_wp2_with (fail)
  refine (apart_calls _ g okT ys 0 HT.out).mono ?_
  rw [show apartB ys 0 = true by simp [apartB]]
  rintro e w3 ⟨rfl, rfl⟩
  go_wp2_with (fail)
  go_loopw [6, 7, 8] (fun v6 v7 iv wr => ∃ k : Nat, k ≤ m ∧ k ≤ xs.length ∧ iv = .int .i64 k ∧ v7 = .bool (apartB ys k) ∧ Aside0 (Kd.R (Kd.int .u64) 26 wr w3.heap.size (fun k => k ≠ g) v6 (ys.take k)) ∧ Aside0 (IsTape wr g okT ys k) ∧ Aside0 (Below W.heap.size W wr) ∧ Aside0 (w3.heap.size ≤ wr.heap.size)) (fun _ _ iv _ => m - (intOf iv).toNat)
  case atStart => exact ⟨0, Nat.zero_le _, Nat.zero_le _, rfl, by simp [apartB], ⟨Kd.R_nil _ _ _ _ _⟩, HT, HB, ⟨Nat.le_refl _⟩⟩
  case round =>
    clear HT HB
    obtain ⟨k, hk, hkx, rfl, rfl, HR, HT, HB, HS⟩ := hrel
    by_cases hlt : k < m
    · by_cases hkl : k < xs.length
      · have hkm : (k : Int) < (m : Int) := by omega
        have hkl' : (k : Int) < (xs.length : Int) := by omega
        have hky : k < ys.length := by have := HL.out; omega
        go_wp2_with (fail)
        obtain ⟨y, hy⟩ : ∃ y, ys.getD k 0 = y := ⟨_, rfl⟩
        have hD := draw_some _ g okT ys k HT.out hky
        rw [hy] at hD
        have HY := Aside0.mk hy
        clear hy
        refine hD.mono ?_
        clear hD
        rintro e w4 ⟨rfl, hT4, hK4, hB4⟩
        have HB4 := Aside0.mk (HB.out.trans (hB4.mono HG.out))
        have HR4 := Aside0.mk (Kd.R_keep HR.out hK4 (fun k hk => hk))
        have HS4 := Aside0.mk (Nat.le_trans HS.out hK4.1)
        have HT4 := Aside0.mk hT4
        clear HB hB4 HT hT4 hK4 HR HS
        obtain ⟨Aq, cq, rfl⟩ := Kd.R_slice HR4.out
        have hlt4 : (ys.take k).length = k := by rw [List.length_take]; omega
        rw [hlt4] at HR4 ⊢
        have hSE := soFar_end hky
        have hSZ := soFar_zero ys k
        rw [← hSZ]
        have HSE := Aside0.mk hSE
        clear hSE hSZ
        go_wp2_with (fail)
        go_loopw [7, 11] (fun v7 iv wr => ∃ i : Nat, i ≤ k ∧ iv = .int .i64 i ∧ v7 = .bool (soFar ys k i) ∧ w4 = wr) (fun _ iv _ => k - (intOf iv).toNat)
        case atStart => exact ⟨0, Nat.zero_le _, rfl, rfl, rfl⟩
        case round =>
          obtain ⟨i, hi, rfl, rfl, rfl⟩ := hrel
          by_cases hik : i < k
          · obtain ⟨ad, hA, hx⟩ := Kd.at_int (Kd.R_reads' HR4.out).2.2 (i : Int) (by omega) (by rw [List.length_take]; omega)
            cases hA
            rw [Int.toNat_natCast, show rd (ys.take k) (i : Int) = ys.getD i 0 by simp [rd, List.getD_eq_getElem?_getD, hik]] at hx
            have hsc := soFar_succ ys k i
            rw [HY.out] at hsc
            have HSC := Aside0.mk hsc
            clear hsc
            have hik' : (i : Int) < (k : Int) := by omega
            generalize hb : soFar ys k i = b at HSC
            clear hb
            generalize ys.getD i 0 = z at hx HSC
            cases b
            · go_wp2_with (fail)
              go_roundw
              case rel => exact ⟨i + 1, hik, by simp, by rw [HSC.out]; rfl, by first | rfl | trivial⟩
              case measure => simp [intOf]; omega
            · by_cases hzy : z = y
              · subst hzy
                go_wp2_with (fail)
                go_roundw
                case rel => exact ⟨i + 1, hik, by simp, by rw [HSC.out]; simp, by first | rfl | trivial⟩
                case measure => simp [intOf]; omega
              · have hb : (z != y) = true := by simp [hzy]
                go_wp2_with (fail)
                go_roundw
                case rel => exact ⟨i + 1, hik, by simp, by rw [HSC.out, hb]; rfl, by first | rfl | trivial⟩
                case measure => simp [intOf]; omega
          · obtain rfl : i = k := by omega
            rw [HSE.out]
            have hsz4 := HS4.out
            have hg4 : g < w4.heap.size := HT4.out.lt
            have HAP : Aside0 (ys.take (i + 1) = ys.take i ++ [y]) := ⟨by
              rw [List.take_succ_eq_append_getElem hky, ← HY.out]
              simp [List.getD_eq_getElem?_getD, hky]⟩
            have hl40 : ((ys.take i).length + 1) * 8 ≤ 140737488355328 := by omega
            have HLT := Aside0.mk hlt4
            clear hlt4
            generalize hbA : apartB ys (i + 1) = bA
            have HBA := Aside0.mk hbA
            clear hbA
            go_wp2_with (first | (at_builtin; refine Kd.R_append (Kd.int .u64) (w0 := w4) w3.heap.size rfl (.tmp 52) (.tmp 54) 22 26 (.int .u64 0) 8 rfl Try.underlying22 info26 rfl (by decide) (by omega) (.slice Aq i cq) (ys.take i) y [.int .u64 y] (fun k => k ≠ g) (fun _ => False) rfl rfl rfl (fun _ hk => hk.elim) (fun k hk => by omega) HR4.out (Below.refl _ _) hsz4 (by omega) ?_; intro v5 w5 ho hb hg5 hat; have HR5 := Aside0.mk ho; have HW5 := Aside0.mk hb; clear ho hb hg5 hat) | fail)
            have hT5 : IsTape w5 g okT ys (i + 1) := HT4.out.step (fun k hk hlt' => HW5.out.block k (by rcases hk with rfl | h'; exact hgl; exact HOK.out k h'))
            have HS5 := Aside0.mk (Nat.le_trans hsz4 HW5.out.size)
            have HB5 := Aside0.mk (HB4.out.trans (HW5.out.mono (Nat.le_trans (Nat.le_of_lt (Nat.lt_of_le_of_lt HG.out hgl)) (Nat.le_refl _))))
            refine (apart_calls _ g okT ys (i + 1) hT5).mono ?_
            rw [HBA.out]
            rintro e w6 ⟨rfl, rfl⟩
            have HT5 := Aside0.mk hT5
            clear hT5
            rw [← HAP.out] at HR5
            go_wp2_with (fail)
            go_roundw
            case rel => exact ⟨i + 1, hlt, hkl, by simp, by rw [HBA.out], HR5, HT5, HB5, HS5⟩
            case measure => simp [intOf]; omega
      · obtain rfl : k = xs.length := by omega
        have hkm : (xs.length : Int) < (m : Int) := by omega
        go_wp2_with (fail)
        go_ret
        exact ⟨rfl, HB.out⟩
    · obtain rfl : k = m := by omega
      go_wp2_with (fail)
      go_ret
      exact ⟨rfl, HB.out⟩
end Go.Proofs.Ytlpjkbfnbefjdaa.PA
