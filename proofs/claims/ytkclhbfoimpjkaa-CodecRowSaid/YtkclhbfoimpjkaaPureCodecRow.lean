/- The plain law of CodecRow: numbers that are laid one behind the other are read one behind the other: for every list of numbers and every size. -/
import Derived.Test.YtkclhbfoimpjkaaF7
import Derived.Test.YtkclhbfoimpjkaaM2
namespace Go.Proofs.Ytkclhbfoimpjkaa.Pure
open Go Go.RowKit Go.Proofs.Ytkclhbfoimpjkaa.PA Go.Proofs.Ytkclhbfoimpjkaa.M Go.Proofs.YtkclhbfoimpjkaaW.PrintWords Go.Proofs.YtkclhbfoimpjkaaW.PrintLast Go.Proofs.YtkclhbfoimpjkaaW.PrintMore
/-- the numbers' bytes, m of each, one behind the other -/
def rowOf (m : Nat) (vs : List Int) : List Int := vs.flatMap (be m)
theorem rowOf_length (m : Nat) : ∀ vs : List Int, (rowOf m vs).length = m * vs.length
  | [] => by simp [rowOf]
  | v :: vs => by
    have := rowOf_length m vs
    simp only [rowOf, List.flatMap_cons, List.length_append, be_length, List.length_cons] at this ⊢
    rw [this, Nat.mul_succ]
    omega
theorem rowOf_snoc (m : Nat) (vs : List Int) (v : Int) : rowOf m (vs ++ [v]) = rowOf m vs ++ be m v := by simp [rowOf]
theorem rowOf_bytes (m : Nat) (vs : List Int) : Bytes8 (rowOf m vs) := fun x hx => by
  simp only [rowOf, List.mem_flatMap] at hx
  obtain ⟨v, _, h⟩ := hx
  exact be_bytes v m x h
/-- the bytes of the number at a place -/
theorem rowOf_at (m : Nat) : ∀ (vs : List Int) (i : Nat) (h : i < vs.length), ((rowOf m vs).drop (i * m)).take m = be m vs[i]
  | v :: vs, 0, _ => by simp [rowOf, be_length]
  | v :: vs, i + 1, h => by
    have := rowOf_at m vs i (by simpa using h)
    simp only [rowOf, List.flatMap_cons, List.getElem_cons_succ] at this ⊢
    rw [← this]
    have e : (i + 1) * m = (be m v).length + i * m := by rw [be_length, Nat.succ_mul]; omega
    rw [e, List.drop_length_add_append]
theorem tail_be (m : Nat) (h1 : 1 ≤ m) (h8 : m ≤ 8) (v : Int) : tail (m : Int) v = be m v := by
  unfold tail
  rw [if_pos (by omega)]
  rfl
/-- the fields' place: as many fields of m bytes as there are -/
theorem skip_row (l : List Int) (hl : (l.length : Int) ≤ 4611686018427387904) (m n : Nat) (hm : 1 ≤ m) (hn : m * n = l.length) : ∀ (d k i : Nat), i ≤ n → n - i = d → d < k → codec_Skip.l0 k l ((m * i : Nat) : Int) (List.replicate n (m : Int)) (n : Int) (i : Int) = some ((l.length : Int), true) := by
  have hnl : n ≤ l.length := by rw [← hn]; exact Nat.le_mul_of_pos_left n hm
  intro d
  induction d with
  | zero =>
    intro k i hi hd hk
    obtain ⟨k, rfl⟩ : ∃ q, k = q + 1 := ⟨k - 1, by omega⟩
    obtain rfl : i = n := by omega
    simp only [codec_Skip.l0]
    rw [if_neg (by omega), hn]
  | succ d ih =>
    intro k i hi hd hk
    obtain ⟨k, rfl⟩ : ∃ q, k = q + 1 := ⟨k - 1, by omega⟩
    have hlt : i < n := by omega
    have h1 : m * i + m ≤ l.length := by
      rw [← Nat.mul_succ, ← hn]
      exact Nat.mul_le_mul_left m hlt
    have hr : rd (List.replicate n (m : Int)) (i : Int) = (m : Int) := by
      rw [rd_nat _ i (by simpa using hlt)]
      simp
    simp only [codec_Skip.l0]
    rw [if_pos (by omega), if_pos (by omega), if_pos (by simp; omega), hr, if_neg (by omega), wrap64_in' ((l.length : Int) - (m * i : Nat)) (by omega), if_neg (by omega), wrap64_in' (((m * i : Nat) : Int) + m) (by omega), wrap64_in' ((i : Int) + 1) (by omega)]
    have e : ((m * i : Nat) : Int) + (m : Int) = ((m * (i + 1) : Nat) : Int) := by
      rw [Nat.mul_succ]
      omega
    rw [e]
    exact ih k (i + 1) (by omega) (by omega) (by omega)
theorem put_be (k : Nat) (hk : 12 ≤ k) (m : Nat) (h1 : 1 ≤ m) (h8 : m ≤ 8) (l : List Int) (hl : l.length + 8 < 140737488355328) (v : Int) : codec_Put.f k l v (m : Int) = some (l ++ be m v) := by
  rw [put_f k l v m hk hl, tail_be m h1 h8]
/-- the bytes of a number are those of what is left of it -/
theorem be_mod (m : Nat) (v : Int) (hv : 0 ≤ v) : be m (v % 256 ^ m) = be m v := by
  refine num_inj _ _ (be_bytes _ _) (be_bytes _ _) (by rw [be_length, be_length]) ?_
  rw [num_be m v hv, num_be m _ (Int.emod_nonneg _ (Int.ne_of_gt (Int.pow_pos (by decide)))), Int.emod_emod_of_dvd _ (Int.dvd_refl _)]
theorem row_l1 (vs : List Int) (hv : ∀ v ∈ vs, 0 ≤ v) (m : Nat) (h1 : 1 ≤ m) (h8 : m ≤ 8) (hb : m * vs.length + 8 < 140737488355328) : ∀ (d k i : Nat), i ≤ vs.length → vs.length - i = d → d + 12 < k →
    sigillumlaw02_CodecRow.l1 k vs (m : Int) (rowOf m vs) ((rowOf m vs).length : Int) true vs (vs.length : Int) (i : Int) = some true := by
  have hnl : vs.length ≤ m * vs.length := Nat.le_mul_of_pos_left _ h1
  have hlen := rowOf_length m vs
  intro d
  induction d with
  | zero =>
    intro k i hi hd hk
    obtain ⟨k, rfl⟩ : ∃ q, k = q + 1 := ⟨k - 1, by omega⟩
    simp only [sigillumlaw02_CodecRow.l1]
    rw [if_neg (by omega), if_pos trivial, if_pos trivial, hlen]
    have e : (m : Int) * (vs.length : Int) = ((m * vs.length : Nat) : Int) := by push_cast; rfl
    rw [e, wrap64_in' _ (by omega)]
    simp
  | succ d ih =>
    intro k i hi hd hk
    obtain ⟨k, rfl⟩ : ∃ q, k = q + 1 := ⟨k - 1, by omega⟩
    have hlt : i < vs.length := by omega
    have hvi := hv vs[i] (List.getElem_mem hlt)
    have hle : i * m + m ≤ m * vs.length := by
      rw [← Nat.succ_mul, Nat.mul_comm m]
      exact Nat.mul_le_mul_right m hlt
    have e1 : (i : Int) * (m : Int) = ((i * m : Nat) : Int) := by push_cast; rfl
    simp only [sigillumlaw02_CodecRow.l1]
    rw [if_pos (by omega), if_pos (by omega), if_pos (by omega), e1, wrap64_in' ((i * m : Nat) : Int) (by omega),
      get_f k (rowOf m vs) _ m (rowOf_bytes m vs) (by omega) (by omega) (by omega) (by omega) (by omega) (by omega)]
    rw [Int.toNat_natCast, Int.toNat_natCast, rowOf_at m vs i hlt, num_be m _ hvi]
    simp only [Option.bind_some, if_true]
    rw [put_be k (by omega) m h1 h8 [] (by decide), rd_nat vs i hlt, put_be k (by omega) m h1 h8 [] (by decide), be_mod m _ hvi]
    simp only [Option.bind_some]
    rw [if_pos trivial, wrap64_in' ((i : Int) + 1) (by omega)]
    exact ih k (i + 1) (by omega) (by omega) (by omega)
theorem row_l0 (vs : List Int) (hv : ∀ v ∈ vs, 0 ≤ v) (m : Nat) (h1 : 1 ≤ m) (h8 : m ≤ 8) (hb : m * vs.length + 8 < 140737488355328) (hb2 : vs.length < 17592186044416) : ∀ (d k i : Nat), i ≤ vs.length → vs.length - i = d → d + vs.length + 20 < k →
    sigillumlaw02_CodecRow.l0 k vs (m : Int) (rowOf m (vs.take i)) (List.replicate i (m : Int)) vs (vs.length : Int) (i : Int) = some true := by
  have hnl : vs.length ≤ m * vs.length := Nat.le_mul_of_pos_left _ h1
  have hlen := rowOf_length m vs
  intro d
  induction d with
  | zero =>
    intro k i hi hd hk
    obtain ⟨k, rfl⟩ : ∃ q, k = q + 2 := ⟨k - 2, by omega⟩
    obtain rfl : i = vs.length := by omega
    simp only [sigillumlaw02_CodecRow.l0]
    rw [if_neg (by omega), List.take_length]
    have hs : codec_Skip.f (k + 1) (rowOf m vs) 0 (List.replicate vs.length (m : Int)) = some (((rowOf m vs).length : Int), true) := by
      unfold codec_Skip.f
      rw [if_neg (by omega)]
      simp only [codec_Skip.j0]
      rw [if_neg (by simp)]
      have := skip_row (rowOf m vs) (by omega) m vs.length h1 hlen.symm vs.length k 0 (by omega) (by omega) (by omega)
      simpa using this
    rw [hs]
    simp only [Option.bind_some]
    have := row_l1 vs hv m h1 h8 hb vs.length (k + 1) 0 (by omega) (by omega) (by omega)
    simpa using this
  | succ d ih =>
    intro k i hi hd hk
    obtain ⟨k, rfl⟩ : ∃ q, k = q + 1 := ⟨k - 1, by omega⟩
    have hlt : i < vs.length := by omega
    have hle : m * (vs.take i).length ≤ m * vs.length := Nat.mul_le_mul_left m (by simp; omega)
    simp only [sigillumlaw02_CodecRow.l0]
    rw [if_pos (by omega), if_pos (by omega), if_pos (by omega), put_be k (by omega) m h1 h8 _ (by rw [rowOf_length]; omega), rd_nat vs i hlt, ← rowOf_snoc, ← take_snoc vs i hlt]
    simp only [Option.bind_some]
    rw [if_pos (by simp; omega), wrap64_in' ((i : Int) + 1) (by omega)]
    have e : List.replicate i (m : Int) ++ [(m : Int)] = List.replicate (i + 1) (m : Int) := by simp [List.replicate_succ']
    rw [e]
    exact ih k (i + 1) (by omega) (by omega) (by omega)
theorem CodecRow : sigillumlaw02_CodecRow.Pure := by
  intro vs n hl hlen hb hn
  have hn' := u8_of_wf hn
  have hv : ∀ v ∈ vs, 0 ≤ v := fun v hv => (u64_of_wf (hb v hv)).1
  refine ⟨2 * vs.length + 40, ?_⟩
  unfold sigillumlaw02_CodecRow.f
  rw [awake_k _ (by omega)]
  simp only [Option.bind_some, if_true]
  obtain ⟨m, hm⟩ := Int.eq_ofNat_of_zero_le (show 0 ≤ 1 + n % 8 by omega)
  have hk : wrap64 (1 + wrap64 (n.tmod 8)) = (m : Int) := by
    rw [Int.tmod_eq_emod_of_nonneg hn'.1, wrap64_in' (n % 8) (by omega), wrap64_in' _ (by omega), hm]
  rw [hk]
  have h8 : m ≤ 8 := by omega
  have hmul : m * vs.length ≤ 8 * vs.length := Nat.mul_le_mul_right _ h8
  have := row_l0 vs hv m (by omega) h8 (by omega) (by omega) vs.length (2 * vs.length + 40) 0 (by omega) (by omega) (by omega)
  simpa [rowOf] using this
end Go.Proofs.Ytkclhbfoimpjkaa.Pure
