/- The plain law of BitsMix: what is mixed of two words is what the document says, step by step. -/
import Derived.Test.YtmhahelgfkodkaaM1
import Derived.Test.YtmhahelgfkodkaaF4
namespace Go.Proofs.Ytmhahelgfkodkaa.Pure
open Go Go.RowKit Go.Proofs.Ytmhahelgfkodkaa.PA Go.Proofs.Ytmhahelgfkodkaa.M Go.Proofs.YtmhahelgfkodkaaW.PrintWords Go.Proofs.YtmhahelgfkodkaaW.PrintLast Go.Proofs.YtmhahelgfkodkaaW.PrintMore
theorem lawmix_step (x k : Nat) (t : Nat) (h : t = rot (7 * k) x) :
    Go.bits .xor .u64 (Go.bits .and .u64 (IntKind.u64.wrap (IntKind.u64.wrap ((x : Int) * 173961102589771) + (t : Int))) 281474976710655) (IntKind.u64.wrap (Int.tdiv (Go.bits .and .u64 (IntKind.u64.wrap (IntKind.u64.wrap ((x : Int) * 173961102589771) + (t : Int))) 281474976710655) 8388608)) = ((mixStep x k : Nat) : Int) := by
  have h48 : (2 : Nat) ^ 48 = 281474976710656 := by decide
  have e : Go.bits .and .u64 (IntKind.u64.wrap (IntKind.u64.wrap ((x : Int) * 173961102589771) + (t : Int))) 281474976710655 = ((((x * 173961102589771) % 2 ^ 48 + t) % 2 ^ 48 : Nat) : Int) := by
    rw [h48]
    rw [IntKind.wrap_u64, IntKind.wrap_u64, mask48 _ (by omega) (by omega)]
    omega
  rw [e]
  unfold mixStep
  rw [← h]
  have hs : ((x * 173961102589771) % 2 ^ 48 + t) % 2 ^ 48 < 2 ^ 48 := Nat.mod_lt _ (by decide)
  generalize ((x * 173961102589771) % 2 ^ 48 + t) % 2 ^ 48 = s at hs ⊢
  have h2 : IntKind.u64.wrap (Int.tdiv (s : Int) 8388608) = (s : Int) / 8388608 := by
    rw [h48] at hs
    rw [Int.tdiv_eq_ediv_of_nonneg (by omega), u64_in _ (by omega) (by omega)]
  rw [h2, xor_self23 s hs]
theorem lawmix_round (a b : Int) (x k i : Nat) (hx : x < 2 ^ 48) (hk : 1 ≤ k ∧ k ≤ 3) (hi : 50 ≤ i) : sigillumlaw01_BitsMix.l0 (i + 1) a b (x : Int) (k : Int) = sigillumlaw01_BitsMix.l0 i a b ((mixStep x k : Nat) : Int) ((k + 1 : Nat) : Int) := by
  obtain ⟨e7, _, e1⟩ := seven k hk
  have ht := lawturn_f i (7 * k) x (Nat.lt_trans hx (by decide)) (by omega) hi
  rw [Nat.mod_eq_of_lt hx] at ht
  simp only [sigillumlaw01_BitsMix.l0]
  rw [if_pos (show (k : Int) ≤ 3 by omega), e7, ht, Option.bind_some, lawmix_step x k (rot (7 * k) x) rfl, e1]
theorem lawmix_three (a b : Int) (k x : Nat) (hk : 50 ≤ k) (hx : x < 2 ^ 48) : sigillumlaw01_BitsMix.l0 (k + 1 + 1 + 1 + 1) a b (x : Int) ((1 : Nat) : Int) = sigillumlaw01_BitsMix.l0 (k + 1) a b ((mixStep (mixStep (mixStep x 1) 2) 3 : Nat) : Int) ((4 : Nat) : Int) :=
  (lawmix_round a b x 1 _ hx (by decide) (by omega)).trans ((lawmix_round a b _ 2 _ (mixStep_lt _ _) (by decide) (by omega)).trans (lawmix_round a b _ 3 _ (mixStep_lt _ _) (by decide) (by omega)))
theorem lawmix_end (a b : Nat) (ha : a < 18446744073709551616) (hb : b < 18446744073709551616) (k : Nat) (hk : 4 ≤ k) : sigillumlaw01_BitsMix.l0 (k + 1) (a : Int) (b : Int) ((mixv a b : Nat) : Int) ((4 : Nat) : Int) = some true := by
  simp only [sigillumlaw01_BitsMix.l0]
  rw [if_neg (by omega), mix_f k hk a b ha hb, Option.bind_some]
  simp
theorem BitsMix : sigillumlaw01_BitsMix.Pure := by
  intro a b ha hb
  have ha' := u64_of_wf ha
  have hb' := u64_of_wf hb
  obtain ⟨a, rfl⟩ := Int.eq_ofNat_of_zero_le ha'.1
  obtain ⟨b, rfl⟩ := Int.eq_ofNat_of_zero_le hb'.1
  have ha2 : a < 18446744073709551616 := by omega
  have hb2 : b < 18446744073709551616 := by omega
  have h1 : a % 2 ^ 48 < 2 ^ 48 := Nat.mod_lt _ (by decide)
  have h2 := rot_lt 17 (b % 2 ^ 48) (by decide) (Nat.mod_lt _ (by decide))
  refine ⟨50 + 1 + 1 + 1 + 1, ?_⟩
  have hm : Go.bits .and .u64 (a : Int) 281474976710655 = ((a % 2 ^ 48 : Nat) : Int) := by
    rw [mask48 _ (by omega) (by omega)]
    rfl
  unfold sigillumlaw01_BitsMix.f
  have e17 : sigillumlaw01_turn.f (50 + 1 + 1 + 1 + 1) (b : Int) 17 = some ((rot 17 (b % 2 ^ 48) : Nat) : Int) := lawturn_f _ 17 b hb2 (by decide) (by decide)
  rw [awake_k _ (by decide), Option.bind_some, if_pos rfl, e17, Option.bind_some, hm, xor_nat _ _ h1 h2]
  have hend := lawmix_end a b ha2 hb2 50 (by decide)
  unfold mixv at hend
  have hx : a % 2 ^ 48 ^^^ rot 17 (b % 2 ^ 48) < 2 ^ 48 := Nat.xor_lt_two_pow h1 h2
  generalize a % 2 ^ 48 ^^^ rot 17 (b % 2 ^ 48) = x at hend hx ⊢
  exact (lawmix_three a b 50 x (by decide) hx).trans hend
end Go.Proofs.Ytmhahelgfkodkaa.Pure
