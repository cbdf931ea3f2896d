/- The plain law of CodecPut: what Put lays is what the law asks of it, for every slice, number and count. -/
import Derived.Test.YtkclhbfoimpjkaaF3
import Derived.Test.YtkclhbfoimpjkaaM2
namespace Go.Proofs.Ytkclhbfoimpjkaa.Pure
open Go Go.RowKit Go.Proofs.Ytkclhbfoimpjkaa.PA Go.Proofs.Ytkclhbfoimpjkaa.M Go.Proofs.YtkclhbfoimpjkaaW.PrintWords Go.Proofs.YtkclhbfoimpjkaaW.PrintLast Go.Proofs.YtkclhbfoimpjkaaW.PrintMore
theorem CodecPut : sigillumlaw02_CodecPut.Pure := by
  intro l v n hl hlen hb hv hn
  have hb8 := bytes_of_wf hb
  have hv' := u64_of_wf hv
  have hn' := i64_of_wf hn
  refine ⟨20, ?_⟩
  unfold sigillumlaw02_CodecPut.f
  rw [awake_k 20 (by omega)]
  simp only [Option.bind_some, if_true]
  rw [put_f 20 l v n (by omega) (by omega)]
  simp only [Option.bind_some]
  by_cases h1 : n < 1
  · rw [if_pos h1]
    simp only [sigillumlaw02_CodecPut.j0, if_true, tail]
    rw [if_neg (by omega)]
    simp
  · rw [if_neg h1]
    by_cases h8 : n > 8
    · simp only [sigillumlaw02_CodecPut.j0, tail]
      rw [if_pos (by simpa using h8), if_neg (by omega)]
      simp
    · obtain ⟨m, rfl⟩ := Int.eq_ofNat_of_zero_le (show 0 ≤ n by omega)
      simp only [sigillumlaw02_CodecPut.j0]
      rw [if_neg (by simpa using h8)]
      have ht : tail (m : Int) v = be m v := by
        unfold tail
        rw [if_pos (by omega)]
        rfl
      rw [ht]
      have hlen2 : ((l ++ be m v).length : Int) = (l.length : Int) + m := by simp [be_length]
      rw [hlen2, wrap64_in' _ (by omega), if_pos rfl, if_pos (by omega), if_pos (by omega)]
      have htake : (l ++ be m v).take ((l.length : Int) : Int).toNat = l := by simp
      have hdrop : (l ++ be m v).drop ((l.length : Int) : Int).toNat = be m v := by simp
      simp only [sigillumlaw02_CodecPut.j1]
      rw [htake, hdrop, number_f 18 (be m v) (be_bytes v m) (by rw [be_length]; omega) (by omega), num_be m v hv'.1]
      rw [if_neg (by simp)]
      by_cases h7 : (m : Int) < 8
      · have hp : (0 : Int) < 256 ^ m := Int.pow_pos (by decide)
        rw [if_pos h7, wrap64_in' _ (by omega), if_pos (by omega), shl_one m (by omega), if_neg (by omega), if_pos (by omega), hlen2, if_pos (by omega)]
        simp only [Option.bind_some]
        rw [Int.tmod_eq_emod_of_nonneg hv'.1]
        simp
      · have hm : m = 8 := by omega
        subst hm
        rw [if_neg h7, if_pos (by omega), hlen2, if_pos (by omega)]
        simp only [Option.bind_some]
        rw [Int.emod_eq_of_lt hv'.1 (by omega)]
        simp
end Go.Proofs.Ytkclhbfoimpjkaa.Pure
