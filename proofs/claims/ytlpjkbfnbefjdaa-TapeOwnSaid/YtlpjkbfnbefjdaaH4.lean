/- Apart: are all that were taken unlike one another. -/
import Derived.Test.YtlpjkbfnbefjdaaH1
namespace Go.Proofs.Ytlpjkbfnbefjdaa.PA
open Go.RowKit Go.Proofs.YtlpjkbfnbefjdaaW.PrintWords Go.Proofs.YtlpjkbfnbefjdaaW.PrintLast Go.Proofs.YtlpjkbfnbefjdaaW.PrintMore
set_option linter.unusedVariables false
set_option linter.unusedSimpArgs false
/-- are the first n unlike one another -/
def apartB (xs : List Int) (n : Nat) : Bool := decide (xs.take n).Nodup
theorem nodup_take_succ {xs : List Int} {k : Nat} (hk : k < xs.length) : (xs.take (k + 1)).Nodup ↔ (xs.take k).Nodup ∧ ∀ i, i < k → xs.getD i 0 ≠ xs.getD k 0 := by
  rw [List.take_succ_eq_append_getElem hk, List.nodup_append]
  have hg : xs.getD k 0 = xs[k] := by simp [List.getD_eq_getElem?_getD, hk]
  constructor
  · rintro ⟨h1, _, h2⟩
    refine ⟨h1, fun i hi => ?_⟩
    rw [hg, show xs.getD i 0 = xs[i] by simp [List.getD_eq_getElem?_getD, show i < xs.length by omega]]
    exact h2 _ (by rw [List.mem_take_iff_getElem]; exact ⟨i, by omega, rfl⟩) _ (by simp)
  · rintro ⟨h1, h2⟩
    refine ⟨h1, by simp, fun a ha b hb => ?_⟩
    rw [List.mem_take_iff_getElem] at ha
    obtain ⟨i, hi, rfl⟩ := ha
    simp only [List.mem_singleton] at hb
    subst hb
    have := h2 i (by omega)
    rwa [hg, show xs.getD i 0 = xs[i] by simp [List.getD_eq_getElem?_getD, show i < xs.length by omega]] at this
theorem nodup_take_le {xs : List Int} {k n : Nat} (h : (xs.take n).Nodup) (hk : k ≤ n) : (xs.take k).Nodup := by
  have e : xs.take k = (xs.take n).take k := by rw [List.take_take, Nat.min_eq_left hk]
  rw [e]
  exact List.Sublist.nodup (List.take_sublist _ _) h
set_option maxHeartbeats 1600000 in
set_option maxRecDepth 100000 in
theorem apart_calls (w : World) (g : Nat) (ok : Nat → Prop) (xs : List Int) (n : Nat) (h : IsTape w g ok xs n) :
    Calls Try.prog 9 #[.pointer (some ⟨g, 0, none⟩)] w fun e w' => e = .returned (.bool (apartB xs n)) ∧ w' = w := by
  have hs := h.size
  have hn := h.le
  obtain ⟨A, c, hb, hl, hF, hne, _⟩ := h
  have hc0 := cellS37_0 hb
  have hc1 := cellS37_1 hb
  have HC := Aside0.mk (Kd.F_now hF)
  clear hb hF hne
  go_enter Try.func9, Try.ntmps9
  go_wp2
  go_step3
  go_wp2
  go_step3
  go_wp2
  go_loopg [3, 10] n (fun gk s3 s10 wx => ∃ k : Nat, k ≤ n ∧ gk = n - k ∧ s10 = .int .i64 k ∧ (k < n ∨ n = 0) ∧ Aside0 (xs.take k).Nodup ∧ w = wx)
  case atStart => exact ⟨0, by omega, by omega, rfl, by omega, ⟨by simp⟩, rfl⟩
  case round =>
    obtain ⟨k, hk, rfl, rfl, hkn, HN, rfl⟩ := hrel
    by_cases hlt : k < n
    · obtain ⟨ad, hA, hx⟩ := Kd.at_int HC.out (k : Int) (by omega) (by omega)
      cases hA
      rw [Int.toNat_natCast, show rd xs (k : Int) = xs.getD k 0 by simp [rd]] at hx
      have HX : Aside0 (∀ i, i < n → w.cell? (ad.add i) = some (.int .u64 (xs.getD i 0))) := ⟨fun i hi => by
        obtain ⟨ad', hA', hx'⟩ := Kd.at_int HC.out (i : Int) (by omega) (by omega)
        cases hA'
        rw [Int.toNat_natCast, show rd xs (i : Int) = xs.getD i 0 by simp [rd]] at hx'
        exact hx'⟩
      have HK := Aside0.mk (show xs.getD k 0 = xs.getD k 0 from rfl)
      generalize hy : xs.getD k 0 = y at hx
      have HY := Aside0.mk hy
      clear hy HK
      go_wp2
      go_loopg [5, 20] k (fun g2 s5 s20 wy => ∃ i : Nat, i ≤ k ∧ g2 = k - i ∧ s20 = .int .i64 i ∧ Aside0 (∀ j, j < i → xs.getD j 0 ≠ y) ∧ w = wy)
      case atStart => exact ⟨0, by omega, by omega, rfl, ⟨fun j hj => absurd hj (Nat.not_lt_zero j)⟩, rfl⟩
      case round =>
        obtain ⟨i, hi, rfl, rfl, HI, rfl⟩ := hrel
        by_cases hik : i < k
        · have hxi := HX.out i (by omega)
          by_cases hc : xs.getD i 0 = y
          · rw [hc] at hxi
            have HV : Aside0 (apartB xs n = false) := ⟨by
              rw [apartB, decide_eq_false_iff_not]
              intro hnd
              have := (nodup_take_succ (xs := xs) (k := k) (by omega)).1 (nodup_take_le hnd (by omega))
              exact this.2 i hik (by rw [hc, HY.out])⟩
            have hz : ((n : Int) == 0) = false := by rw [beq_eq_false_iff_ne]; omega
            clear hc
            go_wp2
            rw [Exit.noGoto_ret]
            go_ret
            exact ⟨by rw [HV.out] <;> rfl, rfl⟩
          · have HI2 : Aside0 (∀ j, j < i + 1 → xs.getD j 0 ≠ y) := ⟨fun j hj => by
              by_cases e : j = i
              · subst e; exact hc
              · exact HI.out j (by omega)⟩
            generalize xs.getD i 0 = z at hxi hc
            go_wp2
            go_roundg (k - (i + 1))
            case measure => omega
            case rel => exact ⟨i + 1, by omega, rfl, by simp, HI2, rfl⟩
        · obtain rfl : i = k := by omega
          have HN2 : Aside0 (xs.take (i + 1)).Nodup := ⟨(nodup_take_succ (by omega)).2 ⟨HN.out, fun j hj => by rw [HY.out]; exact HI.out j hj⟩⟩
          have wk : wrap64 ((n : Int) - 1) = (n : Int) - 1 := by unfold wrap64; omega
          by_cases hlast : i + 1 = n
          · have HV : Aside0 (apartB xs n = true) := ⟨by rw [apartB, decide_eq_true_iff, ← hlast]; exact HN2.out⟩
            have he : (i : Int) = (n : Int) - 1 := by omega
            go_wp2
            rw [Exit.noGoto_ret]
            go_ret
            exact ⟨by rw [HV.out] <;> rfl, rfl⟩
          · have he : ¬ (i : Int) = (n : Int) - 1 := by omega
            go_wp2
            go_roundg (n - (i + 1))
            case measure => omega
            case rel => exact ⟨i + 1, by omega, rfl, by simp, by omega, HN2, rfl⟩
    · obtain rfl : n = 0 := by omega
      have hz : k = 0 := by omega
      subst hz
      go_wp2
      go_ret
      exact ⟨by simp [apartB], rfl⟩
end Go.Proofs.Ytlpjkbfnbefjdaa.PA
