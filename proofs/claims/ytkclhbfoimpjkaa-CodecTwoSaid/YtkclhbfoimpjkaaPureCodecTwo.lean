/- The plain law of CodecTwo: two numbers that go into as many bytes have the same bytes just if they are the same. -/
import Derived.Test.YtkclhbfoimpjkaaF8
import Derived.Test.YtkclhbfoimpjkaaM2
namespace Go.Proofs.Ytkclhbfoimpjkaa.Pure
open Go Go.RowKit Go.Proofs.Ytkclhbfoimpjkaa.PA Go.Proofs.Ytkclhbfoimpjkaa.M Go.Proofs.YtkclhbfoimpjkaaW.PrintWords Go.Proofs.YtkclhbfoimpjkaaW.PrintLast Go.Proofs.YtkclhbfoimpjkaaW.PrintMore
theorem two_j0 (v w : Int) (m : Nat) (h1 : 1 ≤ m) (h8 : m ≤ 8) (hv : 0 ≤ v) (hv' : v < 256 ^ m) (hw : 0 ≤ w) (hw' : w < 256 ^ m) : sigillumlaw02_CodecTwo.j0 20 v w (m : Int) = some true := by
  simp only [sigillumlaw02_CodecTwo.j0]
  have ht : ∀ x : Int, ([] : List Int) ++ tail (m : Int) x = be m x := fun x => by
    unfold tail
    rw [if_pos (by omega)]
    rfl
  rw [put_f 19 [] v m (by omega) (by decide), put_f 19 [] w m (by omega) (by decide), ht, ht]
  simp only [Option.bind_some]
  rw [get_f 19 (be m v) 0 m (be_bytes v m) (by omega) (by omega) (by omega) (by omega) (by rw [be_length]; omega) (by rw [be_length]; omega)]
  have e : ((be m v).drop (0 : Int).toNat).take (m : Int).toNat = be m v := by
    rw [List.take_of_length_le (by simp [be_length])]
    rfl
  rw [e, num_be m v hv, Int.emod_eq_of_lt hv hv']
  simp only [Option.bind_some, if_true]
  congr 1
  by_cases hvw : v = w
  · subst hvw
    simp
  · have hne : (strOfNums (be m v)).toList ≠ (strOfNums (be m w)).toList := fun h => hvw (by
      have h2 := strOf_inj _ _ (be_bytes v m) (be_bytes w m) h
      have h3 := congrArg num h2
      rw [num_be m v hv, num_be m w hw, Int.emod_eq_of_lt hv hv', Int.emod_eq_of_lt hw hw'] at h3
      exact h3)
    rw [beq_eq_false_iff_ne.mpr hne, beq_eq_false_iff_ne.mpr hvw]
    rfl
theorem CodecTwo : sigillumlaw02_CodecTwo.Pure := by
  intro v w n hv hw hn
  have hv' := u64_of_wf hv
  have hw' := u64_of_wf hw
  have hn' := u8_of_wf hn
  refine ⟨20, ?_⟩
  unfold sigillumlaw02_CodecTwo.f
  rw [awake_k 20 (by omega)]
  simp only [Option.bind_some, if_true]
  obtain ⟨m, hm⟩ := Int.eq_ofNat_of_zero_le (show 0 ≤ 1 + n % 8 by omega)
  have hk : wrap64 (1 + wrap64 (n.tmod 8)) = (m : Int) := by
    rw [Int.tmod_eq_emod_of_nonneg hn'.1, wrap64_in' (n % 8) (by omega), wrap64_in' _ (by omega), hm]
  rw [hk]
  by_cases h8 : (m : Int) < 8
  · have hp : (0 : Int) < 256 ^ m := Int.pow_pos (by decide)
    rw [if_pos h8, wrap64_in' _ (by omega), if_pos (by omega), shl_one m (by omega), if_neg (by omega)]
    rw [Int.tmod_eq_emod_of_nonneg hv'.1, Int.tmod_eq_emod_of_nonneg hw'.1]
    exact two_j0 _ _ m (by omega) (by omega) (Int.emod_nonneg _ (by omega)) (Int.emod_lt_of_pos _ hp) (Int.emod_nonneg _ (by omega)) (Int.emod_lt_of_pos _ hp)
  · have hm8 : m = 8 := by omega
    subst hm8
    rw [if_neg h8]
    exact two_j0 _ _ 8 (by omega) (by omega) hv'.1 (by omega) hw'.1 (by omega)
end Go.Proofs.Ytkclhbfoimpjkaa.Pure
