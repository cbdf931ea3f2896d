/- The plain law of BitsOne: mixed with the same word, a word and one that differs in what is cut off are the same; all answers are words. -/
import Derived.Test.YtmhahelgfkodkaaM1
import Derived.Test.YtmhahelgfkodkaaF7
namespace Go.Proofs.Ytmhahelgfkodkaa.Pure
open Go Go.RowKit Go.Proofs.Ytmhahelgfkodkaa.PA Go.Proofs.Ytmhahelgfkodkaa.M Go.Proofs.YtmhahelgfkodkaaW.PrintWords Go.Proofs.YtmhahelgfkodkaaW.PrintLast Go.Proofs.YtmhahelgfkodkaaW.PrintMore
theorem mixv_cut (a b a' b' : Nat) (ha : a % 2 ^ 48 = a' % 2 ^ 48) (hb : b % 2 ^ 48 = b' % 2 ^ 48) : mixv a b = mixv a' b' := by
  unfold mixv
  rw [ha, hb]
theorem mixv_lt (a b : Nat) : mixv a b < 2 ^ 48 := mixStep_lt _ _
theorem BitsOne : sigillumlaw01_BitsOne.Pure := by
  intro a b c ha hb hc
  have ha' := u64_of_wf ha
  have hb' := u64_of_wf hb
  have hc' := u16_of_wf hc
  obtain ⟨a, rfl⟩ := Int.eq_ofNat_of_zero_le ha'.1
  obtain ⟨b, rfl⟩ := Int.eq_ofNat_of_zero_le hb'.1
  have ha2 : a < 18446744073709551616 := by omega
  have hb2 : b < 18446744073709551616 := by omega
  refine ⟨10, ?_⟩
  have p48 : (2 : Nat) ^ 48 = 281474976710656 := by decide
  obtain ⟨f, hf⟩ : ∃ f : Nat, IntKind.u64.wrap ((a : Int) + IntKind.u64.wrap (IntKind.u64.wrap c * 281474976710656)) = (f : Int) := Int.eq_ofNat_of_zero_le (by rw [IntKind.wrap_u64]; omega)
  have hf2 : f < 18446744073709551616 ∧ f % 281474976710656 = a % 281474976710656 := by
    rw [IntKind.wrap_u64, IntKind.wrap_u64, IntKind.wrap_u64] at hf
    omega
  have hcut : f % 2 ^ 48 = a % 2 ^ 48 := by
    rw [p48]
    exact hf2.2
  unfold sigillumlaw01_BitsOne.f
  rw [awake_k 10 (by omega), Option.bind_some, if_pos rfl, hf, mix_f 10 (by omega) f b hf2.1 hb2, Option.bind_some, mix_f 10 (by omega) a b ha2 hb2, Option.bind_some, mixv_cut f b a b hcut rfl, if_pos rfl,
    mix_f 10 (by omega) b f hb2 hf2.1, Option.bind_some, mix_f 10 (by omega) b a hb2 ha2, Option.bind_some, mixv_cut b f b a rfl hcut, if_pos rfl, Option.bind_some]
  have hlt := mixv_lt a b
  rw [p48] at hlt
  rw [if_pos (by omega)]
  have hh : bits_Hex.f (f : Int) = bits_Hex.f (a : Int) := by
    unfold bits_Hex.f
    rw [mask48 _ (by omega) (by omega), mask48 _ (by omega) (by omega)]
    have : (f : Int) % 281474976710656 = (a : Int) % 281474976710656 := by omega
    rw [this]
  rw [hh]
  unfold bits_Hex.f
  simp
end Go.Proofs.Ytmhahelgfkodkaa.Pure
