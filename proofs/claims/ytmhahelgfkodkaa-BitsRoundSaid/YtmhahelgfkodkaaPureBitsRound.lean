/- The plain law of BitsRound: turned there and back a word is what it was; sums and turns of what is cut are those of what is not. -/
import Derived.Test.YtmhahelgfkodkaaM1
import Derived.Test.YtmhahelgfkodkaaF6
namespace Go.Proofs.Ytmhahelgfkodkaa.Pure
open Go Go.RowKit Go.Proofs.Ytmhahelgfkodkaa.PA Go.Proofs.Ytmhahelgfkodkaa.M Go.Proofs.YtmhahelgfkodkaaW.PrintWords Go.Proofs.YtmhahelgfkodkaaW.PrintLast Go.Proofs.YtmhahelgfkodkaaW.PrintMore
theorem BitsRound : sigillumlaw01_BitsRound.Pure := by
  intro a b n ha hb hn
  have ha' := u64_of_wf ha
  have hb' := u64_of_wf hb
  have hn' := i32_of_wf hn
  obtain ⟨a, rfl⟩ := Int.eq_ofNat_of_zero_le ha'.1
  obtain ⟨b, rfl⟩ := Int.eq_ofNat_of_zero_le hb'.1
  have ha2 : a < 18446744073709551616 := by omega
  have hb2 : b < 18446744073709551616 := by omega
  refine ⟨10, ?_⟩
  obtain ⟨i, hi⟩ := Int.eq_ofNat_of_zero_le (show 0 ≤ n % 48 by omega)
  have hi48 : i < 48 := by omega
  have hA : a % 2 ^ 48 < 2 ^ 48 := Nat.mod_lt _ (by decide)
  have hB : b % 2 ^ 48 < 2 ^ 48 := Nat.mod_lt _ (by decide)
  have hr := rot_lt i _ hi48 hA
  have e1 : bits_Turn.f (a : Int) n = some ((rot i (a % 2 ^ 48) : Nat) : Int) := by
    rw [turn_f a ha2 n (by omega), hi, Int.toNat_natCast]
  have e2 : bits_Turn.f ((rot i (a % 2 ^ 48) : Nat) : Int) (-n) = some ((a % 2 ^ 48 : Nat) : Int) := by
    rw [turn_f _ (Nat.lt_trans hr (by decide)) (-n) (by omega), Nat.mod_eq_of_lt hr]
    obtain ⟨j, hj⟩ := Int.eq_ofNat_of_zero_le (show 0 ≤ (-n) % 48 by omega)
    rw [hj, Int.toNat_natCast, rot_rot j i _ (by omega) hi48 hA]
    have : (j + i) % 48 = 0 := by omega
    rw [this, rot_zero _ hA]
  have e3 : bits_Turn.f (a : Int) (n + 48) = some ((rot i (a % 2 ^ 48) : Nat) : Int) := by
    rw [turn_f a ha2 (n + 48) (by omega)]
    have : ((n + 48) % 48).toNat = i := by omega
    rw [this]
  have e4 : bits_Turn.f (b : Int) n = some ((rot i (b % 2 ^ 48) : Nat) : Int) := by
    rw [turn_f b hb2 n (by omega), hi, Int.toNat_natCast]
  have e5 : bits_Turn.f ((a % 2 ^ 48 ^^^ b % 2 ^ 48 : Nat) : Int) n = some ((rot i (a % 2 ^ 48) ^^^ rot i (b % 2 ^ 48) : Nat) : Int) := by
    have hx := Nat.xor_lt_two_pow hA hB
    rw [turn_f _ (Nat.lt_trans hx (by decide)) n (by omega), hi, Int.toNat_natCast, Nat.mod_eq_of_lt hx, rot_xor i _ _ hi48 hA hB]
  have m1 : (a % 2 ^ 48 + b) % 2 ^ 48 = (a + b) % 2 ^ 48 := Nat.mod_add_mod _ _ _
  have m2 : a * (b % 2 ^ 48) % 2 ^ 48 = a * b % 2 ^ 48 := Nat.mul_mod_mod _ _ _
  unfold sigillumlaw01_BitsRound.f
  rw [awake_k 10 (by omega), Option.bind_some, if_pos rfl, wrap64_in' n (by omega), wrap64_in' (-n) (by omega), wrap64_in' (n + 48) (by omega), e1, Option.bind_some, e2, Option.bind_some, cut_f a ha2, Option.bind_some, if_pos rfl,
    Option.bind_some, e3, Option.bind_some, if_pos rfl, Option.bind_some, add_f, Option.bind_some, add_f, Option.bind_some, m1, if_pos rfl, cut_f b hb2, Option.bind_some, mul_f, Option.bind_some, mul_f, Option.bind_some, m2, if_pos rfl,
    Option.bind_some, Option.bind_some, xor_nat _ _ hA hB, e5, Option.bind_some, Option.bind_some, e4, Option.bind_some, xor_nat _ _ hr (rot_lt i _ hi48 hB)]
  simp
end Go.Proofs.Ytmhahelgfkodkaa.Pure
