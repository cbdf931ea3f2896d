/- The plain law of BitsTurn: words that are cut, added, multiplied and turned are what the document says. -/
import Derived.Test.YtmhahelgfkodkaaM1
import Derived.Test.YtmhahelgfkodkaaF3
namespace Go.Proofs.Ytmhahelgfkodkaa.Pure
open Go Go.RowKit Go.Proofs.Ytmhahelgfkodkaa.PA Go.Proofs.Ytmhahelgfkodkaa.M Go.Proofs.YtmhahelgfkodkaaW.PrintWords Go.Proofs.YtmhahelgfkodkaaW.PrintLast Go.Proofs.YtmhahelgfkodkaaW.PrintMore
theorem law_places (n : Int) (h : -9223372036854775808 ≤ n ∧ n ≤ 9223372036854775807) : (Int.tmod n 48 < 0 ∧ wrap64 (Int.tmod n 48 + 48) = n % 48) ∨ (¬ Int.tmod n 48 < 0 ∧ Int.tmod n 48 = n % 48) := by
  by_cases h0 : 0 ≤ n
  · right
    rw [Int.tmod_eq_emod_of_nonneg h0]
    omega
  · have e : Int.tmod n 48 = -(Int.tmod (-n) 48) := by rw [Int.neg_tmod]; simp
    rw [e, Int.tmod_eq_emod_of_nonneg (show 0 ≤ -n by omega)]
    by_cases h1 : (-n) % 48 = 0
    · right
      omega
    · left
      rw [wrap64_in' _ (by omega)]
      omega
theorem turn_j0 (a b : Nat) (ha : a < 18446744073709551616) (n : Int) (h : -9223372036854775808 ≤ n ∧ n ≤ 9223372036854775807) : sigillumlaw01_BitsTurn.j0 61 (a : Int) (b : Int) n (n % 48) = some true := by
  simp only [sigillumlaw01_BitsTurn.j0]
  obtain ⟨k, hk⟩ := Int.eq_ofNat_of_zero_le (show 0 ≤ n % 48 by omega)
  have hp : IntKind.u64.wrap ((a : Int) + b) = (((a + b) % 18446744073709551616 : Nat) : Int) := by rw [IntKind.wrap_u64]; omega
  have hq : IntKind.u64.wrap ((a : Int) * b) = (((a * b) % 18446744073709551616 : Nat) : Int) := by
    rw [IntKind.wrap_u64, Int.natCast_emod, Int.natCast_mul]
    rfl
  have hs : Go.bits .and .u64 (((a + b) % 18446744073709551616 : Nat) : Int) 281474976710655 = (((a + b) % 2 ^ 48 : Nat) : Int) := by
    rw [mask48 _ (by omega) (by omega)]
    have : (2 : Nat) ^ 48 = 281474976710656 := by decide
    rw [this]
    omega
  have ht : Go.bits .and .u64 (((a * b) % 18446744073709551616 : Nat) : Int) 281474976710655 = (((a * b) % 2 ^ 48 : Nat) : Int) := by
    generalize a * b = m
    rw [mask48 _ (by omega) (by omega)]
    have : (2 : Nat) ^ 48 = 281474976710656 := by decide
    rw [this]
    omega
  have hm : Go.bits .and .u64 (a : Int) 281474976710655 = ((a % 2 ^ 48 : Nat) : Int) := by
    rw [mask48 _ (by omega) (by omega)]
    rfl
  rw [cut_f a ha, hm, hp, hq, hs, ht, add_f, mul_f, turn_f a ha n h, hk, lawturn_f 60 k a ha (by omega) (by omega)]
  simp only [Option.bind_some, if_true, Int.toNat_natCast]
  simp
theorem BitsTurn : sigillumlaw01_BitsTurn.Pure := by
  intro a b n ha hb hn
  have ha' := u64_of_wf ha
  have hb' := u64_of_wf hb
  have hn' := i64_of_wf hn
  obtain ⟨a, rfl⟩ := Int.eq_ofNat_of_zero_le ha'.1
  obtain ⟨b, rfl⟩ := Int.eq_ofNat_of_zero_le hb'.1
  refine ⟨61, ?_⟩
  unfold sigillumlaw01_BitsTurn.f
  rw [awake_k 61 (by omega), Option.bind_some, if_pos rfl]
  rcases law_places n hn' with ⟨h1, h2⟩ | ⟨h1, h2⟩
  · rw [if_pos h1, h2]
    exact turn_j0 a b (by omega) n hn'
  · rw [if_neg h1, h2]
    exact turn_j0 a b (by omega) n hn'
end Go.Proofs.Ytmhahelgfkodkaa.Pure
