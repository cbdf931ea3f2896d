/- What the functions on words compute, told over numbers: a word turned is its bits turned; cut, sum and product; mixing. Plain facts about the printed functions; no memory in them. -/
import Derived.Test.YtmhahelgfkodkaaF9
import Derived.Test.YtmhahelgfkodkaaF14
import Derived.Laws.BitsAllLaws
namespace Go.Proofs.Ytmhahelgfkodkaa.M
open Go Go.RowKit Go.Proofs.Ytmhahelgfkodkaa.PA Go.Proofs.YtmhahelgfkodkaaW.PrintWords Go.Proofs.YtmhahelgfkodkaaW.PrintLast Go.Proofs.YtmhahelgfkodkaaW.PrintMore
theorem wrap64_in' (n : Int) (h : -9223372036854775808 ≤ n ∧ n ≤ 9223372036854775807) : wrap64 n = n := by unfold wrap64; omega
theorem u64_in (n : Int) (h0 : 0 ≤ n) (h1 : n < 18446744073709551616) : IntKind.u64.wrap n = n := by rw [IntKind.wrap_u64]; omega
theorem mask48 (x : Int) (h0 : 0 ≤ x) (h1 : x < 18446744073709551616) : Go.bits .and .u64 x 281474976710655 = x % 281474976710656 :=
  bits_mask .u64 64 (by decide) (fun n h0 h1 => u64_in n h0 (by simpa using h1)) 48 (by decide) x h0 (by simpa using h1)
theorem u64_of_wf {a : Int} (h : (Lit.int .u64 a).wf = true) : 0 ≤ a ∧ a < 18446744073709551616 := by
  simp [Lit.wf, IntKind.min, IntKind.max, IntKind.signed, IntKind.bits] at h
  omega
theorem i64_of_wf {a : Int} (h : (Lit.int .i64 a).wf = true) : -9223372036854775808 ≤ a ∧ a ≤ 9223372036854775807 := by
  simp [Lit.wf, IntKind.min, IntKind.max, IntKind.signed, IntKind.bits] at h
  omega
theorem i32_of_wf {a : Int} (h : (Lit.int .i32 a).wf = true) : -2147483648 ≤ a ∧ a ≤ 2147483647 := by
  simp [Lit.wf, IntKind.min, IntKind.max, IntKind.signed, IntKind.bits] at h
  omega
theorem i16_of_wf {a : Int} (h : (Lit.int .i16 a).wf = true) : -32768 ≤ a ∧ a ≤ 32767 := by
  simp [Lit.wf, IntKind.min, IntKind.max, IntKind.signed, IntKind.bits] at h
  omega
theorem u16_of_wf {a : Int} (h : (Lit.int .u16 a).wf = true) : 0 ≤ a ∧ a < 65536 := by
  simp [Lit.wf, IntKind.min, IntKind.max, IntKind.signed, IntKind.bits] at h
  omega
/-- a word turned to the left -/
def rot (k a : Nat) : Nat := (a <<< k) % 2 ^ 48 ||| (a >>> (48 - k))
theorem rot_bit (k a i : Nat) (hk : k < 48) (ha : a < 2 ^ 48) (hi : i < 48) : (rot k a).testBit i = a.testBit ((i + (48 - k)) % 48) := by
  unfold rot
  rw [Nat.testBit_or, Nat.testBit_mod_two_pow, Nat.testBit_shiftLeft, Nat.testBit_shiftRight]
  by_cases h : k ≤ i
  · have e1 : (i + (48 - k)) % 48 = i - k := by omega
    have e2 : a.testBit (48 - k + i) = false := Nat.testBit_lt_two_pow (Nat.lt_of_lt_of_le ha (Nat.pow_le_pow_right (by decide) (by omega)))
    rw [e1, e2]
    simp [h, hi]
  · have e1 : (i + (48 - k)) % 48 = 48 - k + i := by omega
    rw [e1]
    simp [h]
theorem shr_lt (k a : Nat) (_hk : k < 48) (ha : a < 2 ^ 48) : a >>> (48 - k) < 2 ^ 48 := by
  rw [Nat.shiftRight_eq_div_pow]
  exact Nat.lt_of_le_of_lt (Nat.div_le_self _ _) ha
theorem rot_lt (k a : Nat) (hk : k < 48) (ha : a < 2 ^ 48) : rot k a < 2 ^ 48 := Nat.or_lt_two_pow (Nat.mod_lt _ (by decide)) (shr_lt k a hk ha)
theorem bits_eq {a b : Nat} (ha : a < 2 ^ 48) (hb : b < 2 ^ 48) (h : ∀ i, i < 48 → a.testBit i = b.testBit i) : a = b := by
  refine Nat.eq_of_testBit_eq (fun i => ?_)
  by_cases hi : i < 48
  · exact h i hi
  · have p : (2 : Nat) ^ 48 ≤ 2 ^ i := Nat.pow_le_pow_right (by decide) (by omega)
    rw [Nat.testBit_lt_two_pow (Nat.lt_of_lt_of_le ha p), Nat.testBit_lt_two_pow (Nat.lt_of_lt_of_le hb p)]
theorem rot_rot (i j a : Nat) (hi : i < 48) (hj : j < 48) (ha : a < 2 ^ 48) : rot i (rot j a) = rot ((i + j) % 48) a := by
  have hij : (i + j) % 48 < 48 := Nat.mod_lt _ (by decide)
  refine bits_eq (rot_lt i _ hi (rot_lt j a hj ha)) (rot_lt _ a hij ha) (fun b hb => ?_)
  rw [rot_bit i _ b hi (rot_lt j a hj ha) hb, rot_bit j a _ hj ha (Nat.mod_lt _ (by decide)), rot_bit _ a b hij ha hb]
  congr 1
  omega
theorem rot_zero (a : Nat) (ha : a < 2 ^ 48) : rot 0 a = a := by
  refine bits_eq (rot_lt 0 a (by decide) ha) ha (fun i hi => ?_)
  rw [rot_bit 0 a i (by decide) ha hi]
  congr 1
  omega
theorem rot_xor (k a b : Nat) (hk : k < 48) (ha : a < 2 ^ 48) (hb : b < 2 ^ 48) : rot k (a ^^^ b) = rot k a ^^^ rot k b := by
  refine bits_eq (rot_lt k _ hk (Nat.xor_lt_two_pow ha hb)) (Nat.xor_lt_two_pow (rot_lt k a hk ha) (rot_lt k b hk hb)) (fun i hi => ?_)
  rw [rot_bit k _ i hk (Nat.xor_lt_two_pow ha hb) hi, Nat.testBit_xor, Nat.testBit_xor, rot_bit k a i hk ha hi, rot_bit k b i hk hb hi]
theorem cut_f (a : Nat) (ha : a < 18446744073709551616) : bits_Cut.f (a : Int) = some ((a % 2 ^ 48 : Nat) : Int) := by
  unfold bits_Cut.f
  rw [mask48 a (by omega) (by omega)]
  rfl
/-- how many places Go turns -/
theorem places (n : Int) (h : -9223372036854775808 ≤ n ∧ n ≤ 9223372036854775807) : Int.tmod (wrap64 (Int.tmod n 48 + 48)) 48 = n % 48 := by
  have key : -48 < Int.tmod n 48 ∧ Int.tmod n 48 < 48 ∧ (Int.tmod n 48 + 48) % 48 = n % 48 := by
    by_cases h0 : 0 ≤ n
    · rw [Int.tmod_eq_emod_of_nonneg h0]
      omega
    · have e : Int.tmod n 48 = -(Int.tmod (-n) 48) := by rw [Int.neg_tmod]; simp
      rw [e, Int.tmod_eq_emod_of_nonneg (show 0 ≤ -n by omega)]
      omega
  rw [wrap64_in' _ (by omega), Int.tmod_eq_emod_of_nonneg (by omega)]
  exact key.2.2
theorem shl_nat (a k : Nat) (hk : k ≤ 64) : shl .u64 (a : Int) (k : Int) = ((a <<< k % 18446744073709551616 : Nat) : Int) := by
  unfold shl
  rw [Int.toNat_natCast, Nat.min_eq_left (show k ≤ IntKind.u64.bits from hk), IntKind.wrap_u64, Nat.shiftLeft_eq, Int.natCast_emod, Int.natCast_mul, Int.natCast_pow]
  rfl
theorem shr_nat (a k : Nat) (hk : k ≤ 64) : shr .u64 (a : Int) (k : Int) = ((a >>> k : Nat) : Int) := by
  unfold shr
  rw [Int.toNat_natCast, Nat.min_eq_left (show k ≤ IntKind.u64.bits from hk), Nat.shiftRight_eq_div_pow, Int.natCast_ediv, Int.natCast_pow]
  rfl
theorem turn_f (a : Nat) (ha : a < 18446744073709551616) (n : Int) (h : -9223372036854775808 ≤ n ∧ n ≤ 9223372036854775807) : bits_Turn.f (a : Int) n = some ((rot (n % 48).toNat (a % 2 ^ 48) : Nat) : Int) := by
  unfold bits_Turn.f
  rw [cut_f a ha]
  simp only [Option.bind_some]
  obtain ⟨k, hk⟩ := Int.eq_ofNat_of_zero_le (show 0 ≤ n % 48 by omega)
  have hk48 : k < 48 := by omega
  have ha48 : a % 2 ^ 48 < 2 ^ 48 := Nat.mod_lt _ (by decide)
  rw [places n h, hk, if_pos (by omega), Int.toNat_natCast, shl_nat _ k (by omega), cut_f _ (Nat.mod_lt _ (by decide))]
  simp only [Option.bind_some]
  have e1 : wrap64 (48 - (k : Int)) = ((48 - k : Nat) : Int) := by rw [wrap64_in' _ (by omega)]; omega
  rw [e1, if_pos (by omega), shr_nat _ (48 - k) (by omega)]
  have h1 : (a % 2 ^ 48) <<< k % 18446744073709551616 % 2 ^ 48 = (a % 2 ^ 48) <<< k % 2 ^ 48 := Nat.mod_mod_of_dvd _ (by decide)
  have h2 : (a % 2 ^ 48) <<< k % 2 ^ 48 < 2 ^ 48 := Nat.mod_lt _ (by decide)
  have h3 := shr_lt k (a % 2 ^ 48) hk48 ha48
  rw [h1, u64_or_nat _ _ (Nat.lt_trans h2 (by decide)) (Nat.lt_trans h3 (by decide))]
  rfl
theorem add_f (a b : Nat) : bits_Add.f (a : Int) (b : Int) = some (((a + b) % 2 ^ 48 : Nat) : Int) := by
  unfold bits_Add.f
  have e : IntKind.u64.wrap ((a : Int) + b) = (((a + b) % 18446744073709551616 : Nat) : Int) := by rw [IntKind.wrap_u64]; omega
  rw [e, cut_f _ (Nat.mod_lt _ (by decide)), Nat.mod_mod_of_dvd _ (by decide)]
  rfl
theorem mul_f (a b : Nat) : bits_Mul.f (a : Int) (b : Int) = some (((a * b) % 2 ^ 48 : Nat) : Int) := by
  unfold bits_Mul.f
  have e : IntKind.u64.wrap ((a : Int) * b) = (((a * b) % 18446744073709551616 : Nat) : Int) := by
    rw [IntKind.wrap_u64, Int.natCast_emod, Int.natCast_mul]
    rfl
  rw [e, cut_f _ (Nat.mod_lt _ (by decide)), Nat.mod_mod_of_dvd _ (by decide)]
  rfl
/-- one round of mixing, and all -/
def mixStep (x k : Nat) : Nat := (((x * 173961102589771) % 2 ^ 48 + rot (7 * k) x) % 2 ^ 48) ^^^ ((((x * 173961102589771) % 2 ^ 48 + rot (7 * k) x) % 2 ^ 48) / 8388608)
def mixv (a b : Nat) : Nat := mixStep (mixStep (mixStep (a % 2 ^ 48 ^^^ rot 17 (b % 2 ^ 48)) 1) 2) 3
theorem mixStep_lt (x k : Nat) : mixStep x k < 2 ^ 48 := Nat.xor_lt_two_pow (Nat.mod_lt _ (by decide)) (Nat.lt_of_le_of_lt (Nat.div_le_self _ _) (Nat.mod_lt _ (by decide)))
theorem xor_nat (a b : Nat) (ha : a < 2 ^ 48) (hb : b < 2 ^ 48) : Go.bits .xor .u64 (a : Int) (b : Int) = ((a ^^^ b : Nat) : Int) := u64_xor_nat a b (Nat.lt_trans ha (by decide)) (Nat.lt_trans hb (by decide))
theorem xor_self23 (s : Nat) (hs : s < 2 ^ 48) : Go.bits .xor .u64 (s : Int) ((s : Int) / 8388608) = ((s ^^^ s / 8388608 : Nat) : Int) := by
  have hd : (s : Int) / 8388608 = ((s / 8388608 : Nat) : Int) := by omega
  rw [hd, xor_nat _ _ hs (Nat.lt_of_le_of_lt (Nat.div_le_self _ _) hs)]
theorem mul_big (x : Nat) : bits_Mul.f (x : Int) 173961102589771 = some (((x * 173961102589771) % 2 ^ 48 : Nat) : Int) := mul_f x 173961102589771
theorem seven (k : Nat) (hk : 1 ≤ k ∧ k ≤ 3) : wrap64 (7 * (k : Int)) = ((7 * k : Nat) : Int) ∧ (((7 * k : Nat) : Int) % 48).toNat = 7 * k ∧ wrap64 ((k : Int) + 1) = ((k + 1 : Nat) : Int) := by
  rw [wrap64_in' _ (by omega), wrap64_in' _ (by omega)]
  omega
theorem mix_round (x k i : Nat) (hx : x < 2 ^ 48) (hk : 1 ≤ k ∧ k ≤ 3) : bits_Mix.l0 (i + 1) (x : Int) (k : Int) = bits_Mix.l0 i ((mixStep x k : Nat) : Int) ((k + 1 : Nat) : Int) := by
  obtain ⟨e7, e48, e1⟩ := seven k hk
  have ht := turn_f x (Nat.lt_trans hx (by decide)) ((7 * k : Nat) : Int) (by omega)
  rw [e48, Nat.mod_eq_of_lt hx] at ht
  simp only [bits_Mix.l0]
  rw [if_pos (show (k : Int) ≤ 3 by omega), mul_big, e7, ht, e1]
  simp only [Option.bind_some]
  rw [add_f]
  simp only [Option.bind_some]
  rw [xor_self23 _ (Nat.mod_lt _ (by decide))]
  unfold mixStep
  exact Eq.refl _
theorem mix_end (k x : Nat) : bits_Mix.l0 (k + 1) (x : Int) ((4 : Nat) : Int) = some (x : Int) := by
  simp only [bits_Mix.l0]
  rw [if_neg (by omega)]
theorem mix_three (k x : Nat) (hx : x < 2 ^ 48) : bits_Mix.l0 (k + 1 + 1 + 1 + 1) (x : Int) ((1 : Nat) : Int) = some ((mixStep (mixStep (mixStep x 1) 2) 3 : Nat) : Int) :=
  (mix_round x 1 _ hx (by decide)).trans ((mix_round _ 2 _ (mixStep_lt _ _) (by decide)).trans ((mix_round _ 3 _ (mixStep_lt _ _) (by decide)).trans (mix_end k _)))
theorem turn17 (b : Nat) (hb : b < 18446744073709551616) : bits_Turn.f (b : Int) 17 = some ((rot 17 (b % 2 ^ 48) : Nat) : Int) := turn_f b hb 17 (by decide)
theorem mix_f (k : Nat) (hk : 4 ≤ k) (a b : Nat) (ha : a < 18446744073709551616) (hb : b < 18446744073709551616) : bits_Mix.f k (a : Int) (b : Int) = some ((mixv a b : Nat) : Int) := by
  obtain ⟨k, rfl⟩ : ∃ m, k = m + 1 + 1 + 1 + 1 := ⟨k - 4, by omega⟩
  have h1 : a % 2 ^ 48 < 2 ^ 48 := Nat.mod_lt _ (by decide)
  have h2 := rot_lt 17 (b % 2 ^ 48) (by decide) (Nat.mod_lt _ (by decide))
  unfold bits_Mix.f mixv
  rw [cut_f a ha, turn17 b hb]
  generalize a % 2 ^ 48 = x at *
  generalize rot 17 (b % 2 ^ 48) = y at *
  rw [Option.bind_some, Option.bind_some, xor_nat _ _ h1 h2]
  exact mix_three k (x ^^^ y) (Nat.xor_lt_two_pow h1 h2)
/-- the law's own turning, one place after another -/
theorem one_place (a : Nat) (ha : a < 2 ^ 48) : IntKind.u64.wrap (Go.bits .and .u64 (IntKind.u64.wrap ((a : Int) * 2)) 281474976710655 + IntKind.u64.wrap (Int.tdiv (a : Int) 140737488355328)) = ((rot 1 a : Nat) : Int) := by
  have h48 : (2 : Nat) ^ 48 = 281474976710656 := by decide
  rw [h48] at ha
  rw [u64_in ((a : Int) * 2) (by omega) (by omega), mask48 _ (by omega) (by omega), Int.tdiv_eq_ediv_of_nonneg (by omega), u64_in ((a : Int) / 140737488355328) (by omega) (by omega), u64_in _ (by omega) (by omega)]
  have e : rot 1 a = a * 2 % 281474976710656 + a / 140737488355328 := by
    unfold rot
    have e1 : a <<< 1 % 2 ^ 48 = (a % 140737488355328) <<< 1 := by
      rw [Nat.shiftLeft_eq, Nat.shiftLeft_eq, h48]
      omega
    have e2 : a >>> (48 - 1) = a / 140737488355328 := by
      rw [Nat.shiftRight_eq_div_pow]
    rw [e1, e2, ← Nat.shiftLeft_add_eq_or_of_lt (show a / 140737488355328 < 2 ^ 1 by omega), Nat.shiftLeft_eq]
    omega
  rw [e]
  omega
def iter : Nat → Nat → Nat
  | 0, a => a
  | n + 1, a => iter n (rot 1 a)
theorem iter_lt : ∀ (n a : Nat), a < 2 ^ 48 → iter n a < 2 ^ 48
  | 0, _, h => h
  | n + 1, a, h => iter_lt n _ (rot_lt 1 a (by decide) h)
theorem iter_bit : ∀ (n a i : Nat), a < 2 ^ 48 → i < 48 → (iter n a).testBit i = a.testBit ((i + 47 * n) % 48)
  | 0, a, i, _, hi => by
    rw [iter]
    congr 1
    omega
  | n + 1, a, i, ha, hi => by
    rw [iter, iter_bit n _ i (rot_lt 1 a (by decide) ha) hi, rot_bit 1 a _ (by decide) ha (Nat.mod_lt _ (by decide))]
    congr 1
    omega
theorem iter_rot (n a : Nat) (hn : n < 48) (ha : a < 2 ^ 48) : iter n a = rot n a := by
  refine bits_eq (iter_lt n a ha) (rot_lt n a hn ha) (fun i hi => ?_)
  rw [iter_bit n a i ha hi, rot_bit n a i hn ha hi]
  congr 1
  omega
theorem lawturn_l0 : ∀ (d k i n a : Nat), a < 2 ^ 48 → i + d = n → n ≤ 1000 → d < k → sigillumlaw01_turn.l0 k (a : Int) (n : Int) (i : Int) = some ((iter d a : Nat) : Int)
  | 0, k, i, n, a, _, hi, _, hk => by
    obtain ⟨k, rfl⟩ : ∃ m, k = m + 1 := ⟨k - 1, by omega⟩
    simp only [sigillumlaw01_turn.l0]
    rw [if_neg (by omega)]
    rfl
  | d + 1, k, i, n, a, ha, hi, hn, hk => by
    obtain ⟨k, rfl⟩ : ∃ m, k = m + 1 := ⟨k - 1, by omega⟩
    simp only [sigillumlaw01_turn.l0]
    have e : wrap64 ((i : Int) + 1) = ((i + 1 : Nat) : Int) := by rw [wrap64_in' _ (by omega)]; omega
    rw [if_pos (by omega), one_place a ha, e]
    exact lawturn_l0 d k (i + 1) n (rot 1 a) (rot_lt 1 a (by decide) ha) (by omega) hn (by omega)
theorem lawturn_f (k n a : Nat) (ha : a < 18446744073709551616) (hn : n < 48) (hk : 50 ≤ k) : sigillumlaw01_turn.f k (a : Int) (n : Int) = some ((rot n (a % 2 ^ 48) : Nat) : Int) := by
  unfold sigillumlaw01_turn.f
  have h := lawturn_l0 n k 0 n (a % 2 ^ 48) (Nat.mod_lt _ (by decide)) (by omega) (by omega) (by omega)
  rw [iter_rot n _ hn (Nat.mod_lt _ (by decide))] at h
  rw [mask48 a (by omega) (by omega)]
  exact h
theorem awake_at : sigillumlaw01_awake.f 6 = some true := by decide +kernel
theorem awake_k (k : Nat) (hk : 6 ≤ k) : sigillumlaw01_awake.f k = some true := at_rounds (g := fun k => sigillumlaw01_awake.f k) sigillumlaw01_awake.mono hk awake_at
end Go.Proofs.Ytmhahelgfkodkaa.M
