/- The plain law of CodecSkip: the place behind fields is the sum of their sizes, if all are there: for every slice, place and list of sizes. -/
import Derived.Test.YtkclhbfoimpjkaaF6
import Derived.Test.YtkclhbfoimpjkaaM2
namespace Go.Proofs.Ytkclhbfoimpjkaa.Pure
open Go Go.RowKit Go.Proofs.Ytkclhbfoimpjkaa.PA Go.Proofs.Ytkclhbfoimpjkaa.M Go.Proofs.YtkclhbfoimpjkaaW.PrintWords Go.Proofs.YtkclhbfoimpjkaaW.PrintLast Go.Proofs.YtkclhbfoimpjkaaW.PrintMore
def L64 (l : List Int) : Prop := ∀ x ∈ l, -9223372036854775808 ≤ x ∧ x ≤ 9223372036854775807
/-- the law's loop, once a field has been found not to be there -/
theorem skip_bad (l l2 : List Int) (p i : Int) (k : Nat) : sigillumlaw02_CodecSkip.l0 (k + 2) l l2 0 false p false i = some true := by
  simp only [sigillumlaw02_CodecSkip.l0]
  by_cases h : i < l2.length
  · rw [if_pos h]
    simp [sigillumlaw02_CodecSkip.j2]
  · rw [if_neg h]
    simp [sigillumlaw02_CodecSkip.j2]
theorem skip_loop (l l2 : List Int) (hl : (l.length : Int) ≤ 4611686018427387904) (h2 : (l2.length : Int) ≤ 4611686018427387904) (hw : L64 l2) : ∀ (d i : Nat) (p : Int), i ≤ l2.length → l2.length - i = d → 0 ≤ p → p ≤ l.length →
    ∃ q ok, (∀ k, d < k → codec_Skip.l0 k l p l2 (l2.length : Int) (i : Int) = some (q, ok)) ∧ ∀ k, 2 * d + 4 ≤ k → sigillumlaw02_CodecSkip.l0 k l l2 q ok p true (i : Int) = some true := by
  intro d
  induction d with
  | zero =>
    intro i p hi hd h0 hp
    refine ⟨p, true, fun k hk => ?_, fun k hk => ?_⟩
    · obtain ⟨k, rfl⟩ : ∃ m, k = m + 1 := ⟨k - 1, by omega⟩
      simp only [codec_Skip.l0]
      rw [if_neg (by omega)]
    · obtain ⟨k, rfl⟩ : ∃ m, k = m + 2 := ⟨k - 2, by omega⟩
      simp only [sigillumlaw02_CodecSkip.l0]
      rw [if_neg (by omega)]
      simp [sigillumlaw02_CodecSkip.j2]
  | succ d ih =>
    intro i p hi hd h0 hp
    have hlt : i < l2.length := by omega
    have hr := hw l2[i] (List.getElem_mem hlt)
    by_cases hbad : l2[i] < 0 ∨ (l.length : Int) - p < l2[i]
    · refine ⟨0, false, fun k hk => ?_, fun k hk => ?_⟩
      · obtain ⟨k, rfl⟩ : ∃ m, k = m + 1 := ⟨k - 1, by omega⟩
        simp only [codec_Skip.l0]
        rw [if_pos (by omega), if_pos (by omega), if_pos (by omega), rd_nat l2 i hlt]
        by_cases hn : l2[i] < 0
        · rw [if_pos hn]
        · rw [if_neg hn, wrap64_in' _ (by omega), if_pos (by omega)]
      · obtain ⟨k, rfl⟩ : ∃ m, k = m + 4 := ⟨k - 4, by omega⟩
        simp only [sigillumlaw02_CodecSkip.l0]
        rw [if_pos (by omega)]
        simp only [sigillumlaw02_CodecSkip.j2]
        rw [if_pos trivial, if_pos (by omega), if_pos (by omega), rd_nat l2 i hlt]
        by_cases hn : l2[i] ≥ 0
        · rw [if_pos hn, wrap64_in' ((l.length : Int) - p) (by omega), if_neg (by omega), decide_eq_false (by omega)]
          exact skip_bad l l2 p _ k
        · rw [if_neg hn]
          exact skip_bad l l2 p _ k
    · obtain ⟨q, ok, g1, g2⟩ := ih (i + 1) (p + l2[i]) (by omega) (by omega) (by omega) (by omega)
      refine ⟨q, ok, fun k hk => ?_, fun k hk => ?_⟩
      · obtain ⟨k, rfl⟩ : ∃ m, k = m + 1 := ⟨k - 1, by omega⟩
        simp only [codec_Skip.l0]
        rw [if_pos (by omega), if_pos (by omega), if_pos (by omega), rd_nat l2 i hlt, if_neg (by omega), wrap64_in' ((l.length : Int) - p) (by omega), if_neg (by omega), wrap64_in' (p + l2[i]) (by omega), wrap64_in' ((i : Int) + 1) (by omega)]
        exact g1 k (by omega)
      · obtain ⟨k, rfl⟩ : ∃ m, k = m + 2 := ⟨k - 2, by omega⟩
        simp only [sigillumlaw02_CodecSkip.l0]
        rw [if_pos (by omega)]
        simp only [sigillumlaw02_CodecSkip.j2]
        rw [if_pos trivial, if_pos (by omega), if_pos (by omega), rd_nat l2 i hlt, if_pos (by omega), wrap64_in' ((l.length : Int) - p) (by omega), if_pos (by omega), decide_eq_true (by omega), wrap64_in' (p + l2[i]) (by omega), wrap64_in' ((i : Int) + 1) (by omega)]
        exact g2 k (by omega)
theorem CodecSkip : sigillumlaw02_CodecSkip.Pure := by
  intro l p l2 hl hlen hb hp hl2 hlen2 hb2
  have hp' := i64_of_wf hp
  have hw : L64 l2 := fun x hx => i64_of_wf (hb2 x hx)
  refine ⟨2 * l2.length + 20, ?_⟩
  unfold sigillumlaw02_CodecSkip.f
  rw [awake_k _ (by omega)]
  simp only [Option.bind_some, if_true]
  obtain ⟨k, hk⟩ : ∃ m, 2 * l2.length + 20 = m + 1 := ⟨2 * l2.length + 19, by omega⟩
  rw [hk]
  by_cases hin : 0 ≤ p ∧ p ≤ l.length
  · obtain ⟨q, ok, g1, g2⟩ := skip_loop l l2 (by omega) (by omega) hw l2.length 0 p (by omega) (by omega) hin.1 hin.2
    have g1' : ∀ k, l2.length < k → codec_Skip.l0 k l p l2 (l2.length : Int) 0 = some (q, ok) := g1
    have g2' : ∀ k, 2 * l2.length + 4 ≤ k → sigillumlaw02_CodecSkip.l0 k l l2 q ok p true 0 = some true := g2
    unfold codec_Skip.f
    rw [if_neg (by omega)]
    simp only [codec_Skip.j0]
    rw [if_neg (by simp; omega), g1' k (by omega)]
    simp only [Option.bind_some]
    rw [if_pos (by omega), decide_eq_true hin.2]
    simp only [sigillumlaw02_CodecSkip.j0]
    exact g2' k (by omega)
  · have hs : codec_Skip.f (k + 1) l p l2 = some (0, false) := by
      unfold codec_Skip.f
      by_cases h0 : p < 0
      · rw [if_pos h0]
        simp [codec_Skip.j0]
      · rw [if_neg h0]
        simp only [codec_Skip.j0]
        rw [if_pos (by simp; omega)]
    rw [hs]
    simp only [Option.bind_some]
    obtain ⟨k, rfl⟩ : ∃ m, k = m + 2 := ⟨k - 2, by omega⟩
    by_cases h0 : p ≥ 0
    · rw [if_pos h0, decide_eq_false (by omega)]
      simp only [sigillumlaw02_CodecSkip.j0]
      exact skip_bad l l2 p 0 k
    · rw [if_neg h0]
      simp only [sigillumlaw02_CodecSkip.j0]
      exact skip_bad l l2 p 0 k
end Go.Proofs.Ytkclhbfoimpjkaa.Pure
