/- The plain law of BitsHex: a word's digits are read as that word; what is read has these digits; for every word and every string. -/
import Derived.Test.YtmhahelgfkodkaaM1
import Derived.Test.YtmhahelgfkodkaaF5
namespace Go.Proofs.Ytmhahelgfkodkaa.Pure
open Go Go.RowKit Go.Proofs.Ytmhahelgfkodkaa.PA Go.Proofs.Ytmhahelgfkodkaa.M Go.Proofs.YtmhahelgfkodkaaW.PrintWords Go.Proofs.YtmhahelgfkodkaaW.PrintLast Go.Proofs.YtmhahelgfkodkaaW.PrintMore
/-- is it the letter of a digit -/
def isDig (c : Int) : Bool := decide (48 ≤ c ∧ c ≤ 57) || decide (97 ≤ c ∧ c ≤ 102)
theorem isDig_dig (d : Int) (h0 : 0 ≤ d) (h1 : d < 16) : isDig (dig d) = true := by
  unfold isDig dig
  by_cases h : d < 10
  · rw [if_pos h]
    simp
    omega
  · rw [if_neg h]
    simp
    omega
theorem hx_length : ∀ (n : Nat) (v : Int), (hx n v).length = n
  | 0, _ => rfl
  | n + 1, v => by simp [hx, hx_length n]
theorem hx_mem : ∀ (n : Nat) (v : Int), ∀ c ∈ hx n v, isDig c = true
  | 0, _, c, h => by simp [hx] at h
  | n + 1, v, c, h => by
    simp only [hx, List.mem_append, List.mem_singleton] at h
    rcases h with h | h
    · exact hx_mem n _ c h
    · rw [h]
      exact isDig_dig _ (by omega) (by omega)
theorem dig_inj (a b : Int) (ha : 0 ≤ a ∧ a < 16) (hb : 0 ≤ b ∧ b < 16) (h : dig a = dig b) : a = b := by
  unfold dig at h
  split at h <;> split at h <;> omega
theorem hx_inj : ∀ (n : Nat) (v w : Int), 0 ≤ v → 0 ≤ w → v < 16 ^ n → w < 16 ^ n → hx n v = hx n w → v = w
  | 0, v, w, h0, h1, h2, h3, _ => by
    simp at h2 h3
    omega
  | n + 1, v, w, h0, h1, h2, h3, h => by
    simp only [hx] at h
    obtain ⟨e1, e2⟩ := List.append_inj h (by rw [hx_length, hx_length])
    have hp : (16 : Int) ^ (n + 1) = 16 ^ n * 16 := Int.pow_succ _ _
    rw [hp] at h2 h3
    have i1 := hx_inj n (v / 16) (w / 16) (by omega) (by omega) (by omega) (by omega) e1
    have i2 := dig_inj (v % 16) (w % 16) (by omega) (by omega) (by simpa using e2)
    omega
theorem pow16 (i : Nat) (h : i ≤ 12) : (16 : Int) ^ i ≤ 281474976710656 := by
  have key : ∀ j : Fin 13, (16 : Int) ^ j.val ≤ 281474976710656 := by decide
  exact key ⟨i, by omega⟩
/-- one digit more -/
theorem hx_next (i : Nat) (acc d : Int) (h0 : 0 ≤ d) (h1 : d < 16) : hx (i + 1) (acc * 16 + d) = hx i acc ++ [dig d] := by
  simp only [hx]
  have e1 : (acc * 16 + d) / 16 = acc := by omega
  have e2 : (acc * 16 + d) % 16 = d := by omega
  rw [e1, e2]
theorem byte_at (s : ByteArray) (i : Nat) (h : i < (bytesOf s).length) : bt s (i : Int) = (bytesOf s)[i] := by
  rw [← rd_bytesOf]
  unfold rd
  rw [Int.toNat_natCast, List.getD_eq_getElem?_getD, List.getElem?_eq_getElem h]
  rfl
theorem take_next (xs : List Int) (i : Nat) (h : i < xs.length) : xs.take (i + 1) = xs.take i ++ [xs[i]] := by rw [List.take_succ_eq_append_getElem h]
/-- what Read does with a text of 12 letters -/
theorem read_l0 (s : ByteArray) (hs : s.size = 12) : ∀ (d k i : Nat) (acc : Int), i ≤ 12 → 12 - i = d → 2 * d < k → 0 ≤ acc → acc < 16 ^ i → hx i acc = (bytesOf s).take i →
    ∃ v ok, bits_Read.l0 k s acc (i : Int) = some (v, ok) ∧ (ok = true → 0 ≤ v ∧ v < 16 ^ 12 ∧ hx 12 v = bytesOf s) ∧ (ok = false → v = 0) ∧ ((∀ c ∈ bytesOf s, isDig c = true) → ok = true) := by
  have hbl := bytesOf_length s
  intro d
  induction d with
  | zero =>
    intro k i acc hi hd hk h0 h1 hx'
    obtain ⟨k, rfl⟩ : ∃ m, k = m + 1 := ⟨k - 1, by omega⟩
    obtain rfl : i = 12 := by omega
    refine ⟨acc, true, ?_, fun _ => ⟨h0, h1, ?_⟩, fun h => (by cases h), fun _ => rfl⟩
    · simp only [bits_Read.l0]
      rw [if_neg (by omega)]
    · rw [hx', List.take_of_length_le (by omega)]
  | succ d ih =>
    intro k i acc hi hd hk h0 h1 hx'
    obtain ⟨k, rfl⟩ : ∃ m, k = m + 2 := ⟨k - 2, by omega⟩
    have hlt : i < (bytesOf s).length := by omega
    have hp := pow16 i (by omega)
    have hpp : (16 : Int) ^ (i + 1) = 16 ^ i * 16 := Int.pow_succ _ _
    have hc := bt_range s (i : Int)
    have hb := byte_at s i hlt
    have hmem : (bytesOf s)[i] ∈ bytesOf s := List.getElem_mem hlt
    have hnext : wrap64 ((i : Int) + 1) = ((i + 1 : Nat) : Int) := by rw [wrap64_in' _ (by omega)]; omega
    have ht := take_next (bytesOf s) i hlt
    have a0 : (i : Int) < 12 := by clear hp hpp h0 h1 hx' hc hb hmem hnext ht ih; omega
    have a1 : 0 ≤ (i : Int) ∧ (i : Int) < (s.size : Int) := by clear hp hpp h0 h1 hx' hc hb hmem hnext ht ih; omega
    generalize (16 : Int) ^ i = P at hp hpp h1
    simp only [bits_Read.l0]
    rw [if_pos a1.2, if_pos a1.1]
    generalize bt s (i : Int) = c at hc hb
    simp only [bits_Read.j1]
    rw [hnext]
    by_cases c1 : c ≥ 48 ∧ c ≤ 57
    · rw [if_pos c1.1, if_pos (by simpa using c1.2)]
      have e : IntKind.u64.wrap (IntKind.u64.wrap (acc * 16) + (c - 48) % 256) = acc * 16 + (c - 48) := by
        rw [IntKind.wrap_u64, IntKind.wrap_u64]
        omega
      rw [e]
      have hdg : dig (c - 48) = c := by
        unfold dig
        rw [if_pos (by omega)]
        omega
      refine ih k (i + 1) _ (by omega) (by omega) (by omega) (by omega) (by omega) ?_
      rw [hx_next i acc (c - 48) (by omega) (by omega), hx', hdg, ht, hb]
    · have hno : ¬ (if c ≥ 48 then decide (c ≤ 57) else false) = true := by
        split
        · simp
          omega
        · simp
      have hj : ∀ (x : Option (Int × Bool)) (y : Option (Int × Bool)), (if c ≥ 48 then (if decide (c ≤ 57) = true then x else y) else (if false = true then x else y)) = y := fun x y => by
        by_cases h48 : c ≥ 48
        · rw [if_pos h48, if_neg (by simp; omega)]
        · rw [if_neg h48, if_neg (by simp)]
      rw [hj]
      by_cases c2 : c ≥ 97 ∧ c ≤ 102
      · rw [if_pos c2.1, if_pos c2.2]
        have e : IntKind.u64.wrap (IntKind.u64.wrap (IntKind.u64.wrap (acc * 16) + (c - 97) % 256) + 10) = acc * 16 + (c - 87) := by
          rw [IntKind.wrap_u64, IntKind.wrap_u64, IntKind.wrap_u64]
          omega
        rw [e]
        have hdg : dig (c - 87) = c := by
          unfold dig
          rw [if_neg (by omega)]
          omega
        refine ih k (i + 1) _ (by omega) (by omega) (by omega) (by omega) (by omega) ?_
        rw [hx_next i acc (c - 87) (by omega) (by omega), hx', hdg, ht, hb]
      · refine ⟨0, false, ?_, fun h => (by cases h), fun _ => rfl, fun h => ?_⟩
        · by_cases h97 : c ≥ 97
          · rw [if_pos h97, if_neg (by omega)]
          · rw [if_neg h97]
        · have := h _ hmem
          rw [← hb] at this
          unfold isDig at this
          simp at this
          omega
theorem read_f (k : Nat) (hk : 30 ≤ k) (s : ByteArray) : ∃ v ok, bits_Read.f k s = some (v, ok) ∧ (ok = true → 0 ≤ v ∧ v < 16 ^ 12 ∧ s.size = 12 ∧ hx 12 v = bytesOf s) ∧ (ok = false → v = 0) ∧ (s.size = 12 → (∀ c ∈ bytesOf s, isDig c = true) → ok = true) := by
  unfold bits_Read.f
  by_cases hs : s.size = 12
  · rw [if_pos (by omega)]
    obtain ⟨v, ok, h1, h2, h3, h4⟩ := read_l0 s hs 12 k 0 0 (by omega) (by omega) (by omega) (by omega) (by decide) (by simp [hx])
    refine ⟨v, ok, h1, fun h => ?_, h3, fun _ => h4⟩
    obtain ⟨a, b, c⟩ := h2 h
    exact ⟨a, b, hs, c⟩
  · rw [if_neg (by omega)]
    exact ⟨0, false, rfl, fun h => (by cases h), fun _ => rfl, fun h => absurd h hs⟩
theorem hx_byte (n : Nat) (v : Int) : ∀ c ∈ hx n v, 0 ≤ c ∧ c < 256 := fun c h => by
  have := hx_mem n v c h
  unfold isDig at this
  simp at this
  omega
theorem bytes_of_str (xs : List Int) (h : ∀ c ∈ xs, 0 ≤ c ∧ c < 256) : bytesOf (strOfNums xs) = xs := by
  unfold bytesOf
  rw [strOfNums_data, List.map_map]
  conv => rhs; rw [← List.map_id xs]
  refine List.map_congr_left (fun c hc => ?_)
  have := h c hc
  simp only [Function.comp, id, UInt8.toNat_ofNat']
  omega
theorem str_of_bytes (s : ByteArray) : strOfNums (bytesOf s) = s := by
  have : (strOfNums (bytesOf s)).data.toList = s.data.toList := by
    rw [strOfNums_data]
    unfold bytesOf
    rw [List.map_map]
    conv => rhs; rw [← List.map_id s.data.toList]
    refine List.map_congr_left (fun c _ => ?_)
    simp
  exact Go.WideShapes.bytes_inj this
/-- the law's own reading of the digits -/
theorem law_l0 (a : Int) (s1 s : ByteArray) (hs : s.size = 12) (hd : ∀ c ∈ bytesOf s, isDig c = true) (y : Int) (is : Bool) (hv : ∀ v : Int, 0 ≤ v → v < 16 ^ 12 → hx 12 v = bytesOf s → v = Go.bits .and .u64 a 281474976710655)
    (hy : is = true → (bits_Hex.f y) = some s1) (hn : is = false → y = 0) : ∀ (d k i : Nat) (acc : Int), i ≤ 12 → 12 - i = d → d < k → 0 ≤ acc → acc < 16 ^ i → hx i acc = (bytesOf s).take i →
    sigillumlaw01_BitsHex.l0 k a s1 s y is acc (i : Int) = some true := by
  have hbl := bytesOf_length s
  intro d
  induction d with
  | zero =>
    intro k i acc hi hd' hk h0 h1 hx'
    obtain ⟨k, rfl⟩ : ∃ m, k = m + 1 := ⟨k - 1, by omega⟩
    obtain rfl : i = 12 := by omega
    have hacc := hv acc h0 h1 (by rw [hx', List.take_of_length_le (by omega)])
    simp only [sigillumlaw01_BitsHex.l0]
    rw [if_neg (by omega), if_pos hacc]
    cases is with
    | true => rw [if_pos rfl, hy rfl, Option.bind_some, if_pos rfl]
    | false => rw [if_neg (by simp), hn rfl]; rfl
  | succ d ih =>
    intro k i acc hi hd' hk h0 h1 hx'
    obtain ⟨k, rfl⟩ : ∃ m, k = m + 1 := ⟨k - 1, by omega⟩
    have hlt : i < (bytesOf s).length := by omega
    have hp := pow16 i (by omega)
    have hpp : (16 : Int) ^ (i + 1) = 16 ^ i * 16 := Int.pow_succ _ _
    have hc := bt_range s (i : Int)
    have hb := byte_at s i hlt
    have hdi := hd _ (List.getElem_mem hlt)
    rw [← hb] at hdi
    have hnext : wrap64 ((i : Int) + 1) = ((i + 1 : Nat) : Int) := by rw [wrap64_in' _ (by omega)]; omega
    have ht := take_next (bytesOf s) i hlt
    have a0 : (i : Int) < 12 := by clear hp hpp h0 h1 hx' hc hb hdi hnext ht ih; omega
    have a1 : 0 ≤ (i : Int) ∧ (i : Int) < (s.size : Int) := by clear hp hpp h0 h1 hx' hc hb hdi hnext ht ih; omega
    generalize (16 : Int) ^ i = P at hp hpp h1
    simp only [sigillumlaw01_BitsHex.l0]
    rw [if_pos a0, if_pos a1.1, if_pos a1.2, hnext]
    generalize bt s (i : Int) = c at hc hb hdi
    unfold isDig at hdi
    simp only [Bool.or_eq_true, decide_eq_true_eq] at hdi
    have hcw : IntKind.u64.wrap c = c := u64_in c (by omega) (by omega)
    rw [hcw]
    by_cases c1 : c ≥ 97
    · rw [if_pos c1]
      have e : IntKind.u64.wrap (IntKind.u64.wrap (acc * 16) + IntKind.u64.wrap (IntKind.u64.wrap (c - 97) + 10)) = acc * 16 + (c - 87) := by
        rw [IntKind.wrap_u64, IntKind.wrap_u64, IntKind.wrap_u64, IntKind.wrap_u64]
        omega
      rw [e]
      have hdg : dig (c - 87) = c := by
        unfold dig
        rw [if_neg (by omega)]
        omega
      refine ih k (i + 1) _ (by omega) (by omega) (by omega) (by omega) (by omega) ?_
      rw [hx_next i acc (c - 87) (by omega) (by omega), hx', hdg, ht, hb]
    · rw [if_neg c1]
      have e : IntKind.u64.wrap (IntKind.u64.wrap (acc * 16) + IntKind.u64.wrap (c - 48)) = acc * 16 + (c - 48) := by
        rw [IntKind.wrap_u64, IntKind.wrap_u64, IntKind.wrap_u64]
        omega
      rw [e]
      have hdg : dig (c - 48) = c := by
        unfold dig
        rw [if_pos (by omega)]
        omega
      refine ih k (i + 1) _ (by omega) (by omega) (by omega) (by omega) (by omega) ?_
      rw [hx_next i acc (c - 48) (by omega) (by omega), hx', hdg, ht, hb]
theorem BitsHex : sigillumlaw01_BitsHex.Pure := by
  intro a s ha _
  have ha' := u64_of_wf ha
  have q12 : (16 : Int) ^ 12 = 281474976710656 := by decide
  have hm : Go.bits .and .u64 a 281474976710655 = a % 281474976710656 := mask48 a ha'.1 ha'.2
  refine ⟨40, ?_⟩
  unfold sigillumlaw01_BitsHex.f
  rw [awake_k 40 (by omega), Option.bind_some, if_pos rfl]
  have hhex : bits_Hex.f a = some (strOfNums (hx 12 (a % 281474976710656))) := by
    unfold bits_Hex.f
    rw [hm]
  have hsz : (strOfNums (hx 12 (a % 281474976710656))).size = 12 := by rw [strOfNums_size, hx_length]
  have hby := bytes_of_str (hx 12 (a % 281474976710656)) (hx_byte _ _)
  have hdg : ∀ c ∈ bytesOf (strOfNums (hx 12 (a % 281474976710656))), isDig c = true := by
    rw [hby]
    exact hx_mem _ _
  have hone : ∀ v : Int, 0 ≤ v → v < 16 ^ 12 → hx 12 v = bytesOf (strOfNums (hx 12 (a % 281474976710656))) → v = Go.bits .and .u64 a 281474976710655 := fun v h0 h1 h => by
    rw [hby] at h
    rw [hm]
    exact hx_inj 12 v _ h0 (by omega) h1 (by omega) h
  obtain ⟨v, ok, r1, r2, _, r4⟩ := read_f 40 (by omega) (strOfNums (hx 12 (a % 281474976710656)))
  obtain ⟨y, is, s1, s2, s3, _⟩ := read_f 40 (by omega) s
  have hok := r4 hsz hdg
  subst hok
  obtain ⟨v0, v1, _, v3⟩ := r2 rfl
  have hv := hone v v0 v1 v3
  rw [hhex, Option.bind_some, r1, Option.bind_some, s1, Option.bind_some, if_pos rfl, if_pos hv]
  have hne : (((strOfNums (hx 12 (a % 281474976710656))).size : Int) != 12) = false := by rw [hsz]; rfl
  rw [hne]
  simp only [sigillumlaw01_BitsHex.j0]
  rw [if_neg (by simp)]
  refine law_l0 a s _ hsz hdg y is hone (fun h => ?_) s3 12 39 0 0 (by omega) (by omega) (by omega) (by omega) (by decide) (by simp [hx])
  obtain ⟨y0, y1, _, y3⟩ := s2 h
  unfold bits_Hex.f
  rw [mask48 y y0 (by omega), Int.emod_eq_of_lt y0 (by omega), y3, str_of_bytes]
end Go.Proofs.Ytmhahelgfkodkaa.Pure
