/- The plain law of CodecGet: the number at a place is what its bytes say; none where they are not all there: for every slice, place and count. -/
import Derived.Test.YtkclhbfoimpjkaaF4
import Derived.Test.YtkclhbfoimpjkaaM2
namespace Go.Proofs.Ytkclhbfoimpjkaa.Pure
open Go Go.RowKit Go.Proofs.Ytkclhbfoimpjkaa.PA Go.Proofs.Ytkclhbfoimpjkaa.M Go.Proofs.YtkclhbfoimpjkaaW.PrintWords Go.Proofs.YtkclhbfoimpjkaaW.PrintLast Go.Proofs.YtkclhbfoimpjkaaW.PrintMore
theorem CodecGet : sigillumlaw02_CodecGet.Pure := by
  intro l p n hl hlen hb hp hn
  have hb8 := bytes_of_wf hb
  have hp' := i64_of_wf hp
  have hn' := i64_of_wf hn
  refine ⟨20, ?_⟩
  unfold sigillumlaw02_CodecGet.f
  rw [awake_k 20 (by omega)]
  simp only [Option.bind_some, if_true]
  by_cases hin : 1 ≤ n ∧ n ≤ 8 ∧ 0 ≤ p ∧ p + n ≤ l.length
  · obtain ⟨h1, h8, h0, hle⟩ := hin
    rw [get_f 20 l p n hb8 (by omega) h1 h8 h0 hle (by omega)]
    simp only [Option.bind_some]
    have e : (l.take ((p + n) : Int).toNat).drop p.toNat = (l.drop p.toNat).take n.toNat := by
      rw [List.drop_take]
      congr 1
      omega
    rw [if_neg (by omega), if_neg (by omega), if_neg (by omega), if_neg (by omega), wrap64_in' _ (by omega), if_neg (by omega), wrap64_in' _ (by omega), if_pos trivial, if_pos (by omega), if_pos (by omega), if_pos (by omega), e,
      number_f 20 _ (bytes_take (bytes_drop hb8 _) _) (by simp; omega) (by omega)]
    simp
  · have hno : codec_Get.f 20 l p n = some (0, false) := get_no 20 l p n (by omega) (by omega) (by omega)
    rw [hno]
    simp only [Option.bind_some]
    by_cases c1 : n < 1
    · rw [if_pos c1]; simp
    · rw [if_neg c1]
      by_cases c2 : n > 8
      · rw [if_pos c2]; simp
      · rw [if_neg c2]
        by_cases c3 : p < 0
        · rw [if_pos c3]; simp
        · rw [if_neg c3]
          by_cases c4 : p > l.length
          · rw [if_pos c4]; simp
          · rw [if_neg c4, wrap64_in' _ (by omega), if_pos (by omega)]; simp
end Go.Proofs.Ytkclhbfoimpjkaa.Pure
