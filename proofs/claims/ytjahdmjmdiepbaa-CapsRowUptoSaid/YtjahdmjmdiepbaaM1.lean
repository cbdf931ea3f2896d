/- What the codec's functions compute, told over lists of numbers: Put lays the last n bytes, Get reads them back. Plain facts about the printed functions; no memory in them. -/
import Derived.Test.YtjahdmjmdiepbaaF20
import Derived.Test.YtjahdmjmdiepbaaF22
import Derived.Laws.Bits64
namespace Go.Proofs.Ytjahdmjmdiepbaa.M
open Go Go.RowKit Go.Proofs.Ytjahdmjmdiepbaa.PA Go.Proofs.YtjahdmjmdiepbaaW.PrintWords Go.Proofs.YtjahdmjmdiepbaaW.PrintLast Go.Proofs.YtjahdmjmdiepbaaW.PrintMore

def Bytes8 (xs : List Int) : Prop := ∀ x ∈ xs, 0 ≤ x ∧ x < 256
def be : Nat → Int → List Int
  | 0, _ => []
  | n + 1, v => (v / 256 ^ n % 256) :: be n v
theorem be_length (v : Int) : ∀ n, (be n v).length = n
  | 0 => rfl
  | n + 1 => by simp [be, be_length v n]
theorem be_bytes (v : Int) : ∀ n, Bytes8 (be n v)
  | 0 => fun x hx => by simp [be] at hx
  | n + 1 => fun x hx => by
    simp only [be, List.mem_cons] at hx
    rcases hx with rfl | hx
    · omega
    · exact be_bytes v n x hx
def num (xs : List Int) : Int := xs.foldl (fun a b => a * 256 + b) 0
theorem num_snoc (xs : List Int) (b : Int) : num (xs ++ [b]) = num xs * 256 + b := by simp [num]
theorem mod_step (v : Int) (_hv : 0 ≤ v) (n : Nat) : v % 256 ^ (n + 1) = (v / 256 ^ n % 256) * 256 ^ n + v % 256 ^ n := by
  have hp : (0 : Int) < 256 ^ n := Int.pow_pos (by decide)
  rw [Int.pow_succ]
  generalize (256 : Int) ^ n = p at hp
  have h1 := Int.mul_ediv_add_emod v p
  have h2 := Int.mul_ediv_add_emod (v / p) 256
  have h3 := Int.emod_nonneg v (Int.ne_of_gt hp)
  have h4 := Int.emod_lt_of_pos v hp
  have h5 := Int.emod_nonneg (v / p) (show (256 : Int) ≠ 0 by decide)
  have h6 := Int.emod_lt_of_pos (v / p) (show (0 : Int) < 256 by decide)
  have h7 : 0 ≤ (v / p % 256) * p := Int.mul_nonneg h5 (Int.le_of_lt hp)
  have h8 : (v / p % 256) * p ≤ 255 * p := Int.mul_le_mul_of_nonneg_right (by omega) (Int.le_of_lt hp)
  have e : (v / p % 256) * p + v % p + (p * 256) * (v / p / 256) = v := by
    conv => rhs; rw [← h1, ← h2]
    rw [Int.mul_add, Int.mul_comm (v / p % 256) p, Int.mul_assoc]
    omega
  exact ((Int.ediv_emod_unique (show 0 < p * 256 by omega)).2 ⟨e, by omega, by omega⟩).2
theorem foldl_be (v : Int) (hv : 0 ≤ v) : ∀ (n : Nat) (a : Int), (be n v).foldl (fun a b => a * 256 + b) a = a * 256 ^ n + v % 256 ^ n
  | 0, a => by simp [be, Int.emod_one]
  | n + 1, a => by
    simp only [be, List.foldl_cons]
    rw [foldl_be v hv n, mod_step v hv n, Int.pow_succ, Int.add_mul, Int.mul_assoc, Int.mul_comm 256 (256 ^ n), Int.add_assoc]
theorem num_be (n : Nat) (v : Int) (hv : 0 ≤ v) : num (be n v) = v % 256 ^ n := by
  unfold num
  rw [foldl_be v hv n 0, Int.zero_mul, Int.zero_add]
theorem foldl_bound : ∀ (xs : List Int), Bytes8 xs → ∀ a : Int, 0 ≤ a → a * 256 ^ xs.length ≤ xs.foldl (fun a b => a * 256 + b) a ∧ xs.foldl (fun a b => a * 256 + b) a < (a + 1) * 256 ^ xs.length
  | [], _, a, _ => by simp; omega
  | x :: xs, h, a, ha => by
    have hx := h x (by simp)
    have hp : (0 : Int) < 256 ^ xs.length := Int.pow_pos (by decide)
    obtain ⟨h1, h2⟩ := foldl_bound xs (fun y hy => h y (by simp [hy])) (a * 256 + x) (by omega)
    simp only [List.foldl_cons, List.length_cons, Int.pow_succ]
    constructor
    · refine Int.le_trans ?_ h1
      rw [Int.mul_comm (256 ^ xs.length) 256, ← Int.mul_assoc]
      exact Int.mul_le_mul_of_nonneg_right (by omega) (by omega)
    · refine Int.lt_of_lt_of_le h2 ?_
      rw [Int.mul_comm (256 ^ xs.length) 256, ← Int.mul_assoc]
      exact Int.mul_le_mul_of_nonneg_right (by omega) (by omega)
theorem num_bound (xs : List Int) (h : Bytes8 xs) : 0 ≤ num xs ∧ num xs < 256 ^ xs.length := by
  have := foldl_bound xs h 0 (by omega)
  simp at this
  exact this
theorem foldl_inj : ∀ (xs ys : List Int), Bytes8 xs → Bytes8 ys → xs.length = ys.length → ∀ a b : Int, xs.foldl (fun a b => a * 256 + b) a = ys.foldl (fun a b => a * 256 + b) b → a = b ∧ xs = ys
  | [], [], _, _, _, a, b, h => ⟨h, rfl⟩
  | x :: xs, y :: ys, hx, hy, hl, a, b, h => by
    obtain ⟨h0, h2⟩ := foldl_inj xs ys (fun z hz => hx z (by simp [hz])) (fun z hz => hy z (by simp [hz])) (by simpa using hl) _ _ h
    have h1 : a * 256 + x = b * 256 + y := h0
    have b1 := hx x (by simp)
    have b2 := hy y (by simp)
    have h3 : x = y := by omega
    exact ⟨by omega, by rw [h2, h3]⟩
theorem num_inj (xs ys : List Int) (hx : Bytes8 xs) (hy : Bytes8 ys) (hl : xs.length = ys.length) (h : num xs = num ys) : xs = ys := (foldl_inj xs ys hx hy hl 0 0 h).2
theorem be_num (xs : List Int) (hx : Bytes8 xs) : be xs.length (num xs) = xs := by
  have hb := num_bound xs hx
  refine num_inj _ _ (be_bytes _ _) hx (be_length _ _) ?_
  rw [num_be _ _ hb.1, Int.emod_eq_of_lt hb.1 hb.2]
/-- Strings of bytes are alike just if the bytes are. -/
theorem strOf_inj : ∀ (xs ys : List Int), Bytes8 xs → Bytes8 ys → (strOfNums xs).toList = (strOfNums ys).toList → xs = ys := by
  have key : ∀ (xs ys : List Int), Bytes8 xs → Bytes8 ys → xs.map (fun n => UInt8.ofNat n.toNat) = ys.map (fun n => UInt8.ofNat n.toNat) → xs = ys := by
    intro xs
    induction xs with
    | nil => intro ys _ _ h; cases ys with
      | nil => rfl
      | cons y ys => simp at h
    | cons x xs ih =>
      intro ys hx hy h
      cases ys with
      | nil => simp at h
      | cons y ys =>
        simp only [List.map_cons, List.cons.injEq] at h
        have b1 := hx x (by simp)
        have b2 := hy y (by simp)
        have h1 := congrArg UInt8.toNat h.1
        simp only [UInt8.toNat_ofNat'] at h1
        rw [ih ys (fun z hz => hx z (by simp [hz])) (fun z hz => hy z (by simp [hz])) h.2]
        have : x = y := by omega
        rw [this]
  intro xs ys hx hy h
  refine key xs ys hx hy ?_
  have e : ∀ zs : List Int, (strOfNums zs).toList = zs.map (fun n => UInt8.ofNat n.toNat) := fun zs => by
    rw [← strOfNums_data]
    exact Go.ByteArray.toList_eq _
  rw [e, e] at h
  exact h
theorem wrap64_in' (n : Int) (h : -9223372036854775808 ≤ n ∧ n ≤ 9223372036854775807) : wrap64 n = n := by unfold wrap64; omega
theorem u64_in (n : Int) (h0 : 0 ≤ n) (h1 : n < 18446744073709551616) : IntKind.u64.wrap n = n := by rw [IntKind.wrap_u64]; omega
theorem shr_put (v : Int) (n : Nat) (hn : n ≤ 7) : shr .u64 v (8 * (n : Int)) = v / 256 ^ n := by
  unfold shr
  have h1 : ((8 * (n : Int)).toNat) = 8 * n := by omega
  rw [h1, Nat.min_eq_left (show 8 * n ≤ IntKind.u64.bits from by simp [IntKind.bits]; omega), Int.pow_mul]
  rfl
theorem put_l0 : ∀ (n k : Nat) (x7 : List Int) (v : Int), n ≤ 8 → n < k → x7.length + n < 140737488355328 → codec_Put.l0 k v x7 ((n : Int) - 1) = some (x7 ++ be n v) := by
  intro n
  induction n with
  | zero =>
    intro k x7 v _ hk _
    obtain ⟨k, rfl⟩ : ∃ m, k = m + 1 := ⟨k - 1, by omega⟩
    simp only [codec_Put.l0]
    rw [if_neg (by omega)]
    simp [be]
  | succ n ih =>
    intro k x7 v hn hk hl
    obtain ⟨k, rfl⟩ : ∃ m, k = m + 1 := ⟨k - 1, by omega⟩
    have e1 : ((n + 1 : Nat) : Int) - 1 = (n : Int) := by omega
    rw [e1]
    simp only [codec_Put.l0]
    have e2 : wrap64 (8 * (n : Int)) = 8 * (n : Int) := wrap64_in' _ (by omega)
    rw [if_pos (by omega), e2, if_pos (by omega), if_pos (by omega), shr_put v n (by omega), wrap64_in' _ (by omega)]
    rw [ih k (x7 ++ [v / 256 ^ n % 256]) v (by omega) (by omega) (by simp; omega)]
    simp [be]
def tail (n v : Int) : List Int := if 1 ≤ n ∧ n ≤ 8 then be n.toNat v else []
theorem put_f (k : Nat) (l : List Int) (v n : Int) (hk : 12 ≤ k) (hl : l.length + 8 < 140737488355328) : codec_Put.f k l v n = some (l ++ tail n v) := by
  obtain ⟨k, rfl⟩ : ∃ m, k = m + 1 := ⟨k - 1, by omega⟩
  unfold codec_Put.f
  rw [if_pos (show ([] : List Int).length + l.length < 140737488355328 by rw [List.length_nil]; omega)]
  simp only [Option.bind_some, List.nil_append]
  by_cases h1 : n < 1
  · rw [if_pos h1]
    simp only [codec_Put.j0]
    rw [if_pos trivial]
    unfold tail
    rw [if_neg (by omega)]
    simp
  · rw [if_neg h1]
    simp only [codec_Put.j0]
    by_cases h2 : n > 8
    · rw [if_pos (by simpa using h2)]
      unfold tail
      rw [if_neg (by omega)]
      simp
    · rw [if_neg (by simpa using h2)]
      obtain ⟨m, rfl⟩ := Int.eq_ofNat_of_zero_le (show 0 ≤ n by omega)
      rw [wrap64_in' _ (by omega), put_l0 m k l v (by omega) (by omega) (by omega)]
      unfold tail
      rw [if_pos (by omega)]
      rfl
theorem rd_nat (xs : List Int) (i : Nat) (h : i < xs.length) : rd xs (i : Int) = xs[i] := by
  unfold rd
  rw [Int.toNat_natCast, List.getD_eq_getElem?_getD, List.getElem?_eq_getElem h]
  rfl
theorem take_snoc (xs : List Int) (i : Nat) (h : i < xs.length) : xs.take (i + 1) = xs.take i ++ [xs[i]] := by
  rw [List.take_succ_eq_append_getElem h]
theorem bytes_take {xs : List Int} (h : Bytes8 xs) (i : Nat) : Bytes8 (xs.take i) := fun x hx => h x (List.mem_of_mem_take hx)
theorem bytes_drop {xs : List Int} (h : Bytes8 xs) (i : Nat) : Bytes8 (xs.drop i) := fun x hx => h x (List.mem_of_mem_drop hx)
theorem pow_le8 (i : Nat) (h : i ≤ 7) : (256 : Int) ^ i ≤ 256 ^ 7 := by
  have key : ∀ j : Fin 8, (256 : Int) ^ j.val ≤ 256 ^ 7 := by decide
  exact key ⟨i, by omega⟩
theorem acc_bound (xs : List Int) (h : Bytes8 xs) (i : Nat) (hi : i ≤ 7) : 0 ≤ num (xs.take i) ∧ num (xs.take i) < 72057594037927936 := by
  obtain ⟨h1, h2⟩ := num_bound (xs.take i) (bytes_take h i)
  refine ⟨h1, Int.lt_of_lt_of_le h2 ?_⟩
  exact pow_le8 _ (by simp; omega)
theorem or_byte (a b : Int) (ha : 0 ≤ a) (ha' : a < 72057594037927936) (hb : 0 ≤ b) (hb' : b < 256) : Go.bits .or .u64 (IntKind.u64.wrap (a * 256)) (IntKind.u64.wrap b) = a * 256 + b := by
  rw [u64_in _ (by omega) (by omega), u64_in _ (by omega) (by omega)]
  exact bits_join .u64 64 (by decide) (fun n h0 h1 => u64_in n h0 (by simpa using h1)) 8 (a * 256) b (by omega) (by omega) (by omega) (by omega) (by omega) (by omega)
theorem get_l0 (xs : List Int) (hb : Bytes8 xs) (hx : xs.length ≤ 8) : ∀ (d k i : Nat), i ≤ xs.length → xs.length - i = d → d < k → codec_Get.l0 k (num (xs.take i)) xs (xs.length : Int) (i : Int) = some (num xs, true) := by
  intro d
  induction d with
  | zero =>
    intro k i hi hd hk
    obtain ⟨k, rfl⟩ : ∃ m, k = m + 1 := ⟨k - 1, by omega⟩
    simp only [codec_Get.l0]
    rw [if_neg (by omega), List.take_of_length_le (by omega)]
  | succ d ih =>
    intro k i hi hd hk
    obtain ⟨k, rfl⟩ : ∃ m, k = m + 1 := ⟨k - 1, by omega⟩
    have hlt : i < xs.length := by omega
    have hr := hb xs[i] (List.getElem_mem hlt)
    have ha := acc_bound xs hb i (by omega)
    simp only [codec_Get.l0]
    rw [if_pos (by omega), if_pos (by omega), if_pos (by omega), rd_nat xs i hlt, or_byte _ _ ha.1 ha.2 hr.1 hr.2, ← num_snoc, ← take_snoc xs i hlt, wrap64_in' _ (by omega)]
    exact ih k (i + 1) (by omega) (by omega) (by omega)
/-- Get, where the bytes are there. -/
theorem get_f (k : Nat) (l : List Int) (at_ n : Int) (hb : Bytes8 l) (hk : 12 ≤ k) (h1 : 1 ≤ n) (h8 : n ≤ 8) (h0 : 0 ≤ at_) (hl : at_ + n ≤ l.length) (hm : (l.length : Int) ≤ 4611686018427387904) :
    codec_Get.f k l at_ n = some (num ((l.drop at_.toNat).take n.toNat), true) := by
  obtain ⟨k, rfl⟩ : ∃ m, k = m + 1 := ⟨k - 1, by omega⟩
  unfold codec_Get.f
  rw [if_neg (by omega), if_neg (by omega), if_neg (by omega), wrap64_in' _ (by omega)]
  simp only [codec_Get.j0]
  rw [if_neg (by simp; omega), wrap64_in' _ (by omega), if_pos h0, if_pos (by omega), if_pos (by omega)]
  have e : (l.take ((at_ + n) : Int).toNat).drop at_.toNat = (l.drop at_.toNat).take n.toNat := by
    rw [List.drop_take]
    congr 1
    omega
  rw [e]
  have hlen : ((l.drop at_.toNat).take n.toNat).length ≤ 8 := by simp; omega
  have := get_l0 ((l.drop at_.toNat).take n.toNat) (bytes_take (bytes_drop hb _) _) hlen _ k 0 (by omega) rfl (by omega)
  simpa [num] using this
/-- Get, where they are not all there. -/
theorem get_no (k : Nat) (l : List Int) (at_ n : Int) (hk : 12 ≤ k) (h : n < 1 ∨ 8 < n ∨ at_ < 0 ∨ (1 ≤ n ∧ n ≤ 8 ∧ (l.length : Int) - n < at_)) (hm : (l.length : Int) ≤ 4611686018427387904) : codec_Get.f k l at_ n = some (0, false) := by
  obtain ⟨k, rfl⟩ : ∃ m, k = m + 1 := ⟨k - 1, by omega⟩
  unfold codec_Get.f
  simp only [codec_Get.j0]
  by_cases c1 : n < 1
  · rw [if_pos c1]; simp
  · rw [if_neg c1]
    by_cases c2 : n > 8
    · rw [if_pos c2]; simp
    · rw [if_neg c2]
      by_cases c3 : at_ < 0
      · rw [if_pos c3]; simp
      · rw [if_neg c3, wrap64_in' _ (by omega), if_pos (by simp; omega)]
theorem bytes_of_wf {l : List Int} (h : ∀ x ∈ l, (Lit.int .u8 x).wf = true) : Bytes8 l := fun x hx => by
  have := h x hx
  simp [Lit.wf, IntKind.min, IntKind.max, IntKind.signed, IntKind.bits] at this
  omega
theorem u64_of_wf {a : Int} (h : (Lit.int .u64 a).wf = true) : 0 ≤ a ∧ a < 18446744073709551616 := by
  simp [Lit.wf, IntKind.min, IntKind.max, IntKind.signed, IntKind.bits] at h
  omega
theorem i64_of_wf {a : Int} (h : (Lit.int .i64 a).wf = true) : -9223372036854775808 ≤ a ∧ a ≤ 9223372036854775807 := by
  simp [Lit.wf, IntKind.min, IntKind.max, IntKind.signed, IntKind.bits] at h
  omega
theorem u8_of_wf {a : Int} (h : (Lit.int .u8 a).wf = true) : 0 ≤ a ∧ a < 256 := by
  simp [Lit.wf, IntKind.min, IntKind.max, IntKind.signed, IntKind.bits] at h
  omega
end Go.Proofs.Ytjahdmjmdiepbaa.M
