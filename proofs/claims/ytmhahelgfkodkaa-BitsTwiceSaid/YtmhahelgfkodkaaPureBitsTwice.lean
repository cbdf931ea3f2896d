/- The plain law of BitsTwice: turned twice a word is turned by both at once; sums and products do not hang on which stands first. -/
import Derived.Test.YtmhahelgfkodkaaM1
import Derived.Test.YtmhahelgfkodkaaF8
namespace Go.Proofs.Ytmhahelgfkodkaa.Pure
open Go Go.RowKit Go.Proofs.Ytmhahelgfkodkaa.PA Go.Proofs.Ytmhahelgfkodkaa.M Go.Proofs.YtmhahelgfkodkaaW.PrintWords Go.Proofs.YtmhahelgfkodkaaW.PrintLast Go.Proofs.YtmhahelgfkodkaaW.PrintMore
theorem BitsTwice : sigillumlaw01_BitsTwice.Pure := by
  intro a b m n ha hb hm hn
  have ha' := u64_of_wf ha
  have hb' := u64_of_wf hb
  have hm' := i16_of_wf hm
  have hn' := i16_of_wf hn
  obtain ⟨a, rfl⟩ := Int.eq_ofNat_of_zero_le ha'.1
  obtain ⟨b, rfl⟩ := Int.eq_ofNat_of_zero_le hb'.1
  have ha2 : a < 18446744073709551616 := by omega
  refine ⟨10, ?_⟩
  obtain ⟨i, hi⟩ := Int.eq_ofNat_of_zero_le (show 0 ≤ m % 48 by omega)
  obtain ⟨j, hj⟩ := Int.eq_ofNat_of_zero_le (show 0 ≤ n % 48 by omega)
  have hi48 : i < 48 := by omega
  have hj48 : j < 48 := by omega
  have h48 : a % 2 ^ 48 < 2 ^ 48 := Nat.mod_lt _ (by decide)
  have hr := rot_lt i _ hi48 h48
  have e1 : bits_Turn.f (a : Int) m = some ((rot i (a % 2 ^ 48) : Nat) : Int) := by
    rw [turn_f a ha2 m (by omega), hi, Int.toNat_natCast]
  have e2 : bits_Turn.f ((rot i (a % 2 ^ 48) : Nat) : Int) n = some ((rot ((j + i) % 48) (a % 2 ^ 48) : Nat) : Int) := by
    rw [turn_f _ (Nat.lt_trans hr (by decide)) n (by omega), hj, Int.toNat_natCast, Nat.mod_eq_of_lt hr, rot_rot j i _ hj48 hi48 h48]
  have e3 : bits_Turn.f (a : Int) (m + n) = some ((rot ((j + i) % 48) (a % 2 ^ 48) : Nat) : Int) := by
    rw [turn_f a ha2 (m + n) (by omega)]
    have : ((m + n) % 48).toNat = (j + i) % 48 := by omega
    rw [this]
  unfold sigillumlaw01_BitsTwice.f
  rw [awake_k 10 (by omega), Option.bind_some, if_pos rfl, wrap64_in' m (by omega), wrap64_in' n (by omega), wrap64_in' (m + n) (by omega), e1, Option.bind_some, e2, Option.bind_some, e3, Option.bind_some, if_pos rfl,
    add_f, add_f, Option.bind_some, Option.bind_some, Nat.add_comm b a, if_pos rfl, mul_f, mul_f, Option.bind_some, Option.bind_some, Nat.mul_comm b a, if_pos rfl, Option.bind_some]
  have t1 : bits_Mul.f (((a + b) % 2 ^ 48 : Nat) : Int) 3 = some ((((a + b) % 2 ^ 48 * 3) % 2 ^ 48 : Nat) : Int) := mul_f _ 3
  have t2 : bits_Mul.f (a : Int) 3 = some (((a * 3) % 2 ^ 48 : Nat) : Int) := mul_f _ 3
  have t3 : bits_Mul.f (b : Int) 3 = some (((b * 3) % 2 ^ 48 : Nat) : Int) := mul_f _ 3
  rw [t1, t2, t3, Option.bind_some, Option.bind_some, Option.bind_some, add_f, Option.bind_some]
  have p48 : (2 : Nat) ^ 48 = 281474976710656 := by decide
  rw [p48]
  congr 1
  rw [beq_iff_eq]
  omega
end Go.Proofs.Ytmhahelgfkodkaa.Pure
